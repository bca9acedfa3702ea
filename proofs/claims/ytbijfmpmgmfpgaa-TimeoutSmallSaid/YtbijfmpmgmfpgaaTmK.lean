/- ref27.Stop, NextWatch, SameGuard. -/
import Derived.Test.YtbijfmpmgmfpgaaTmJ
import Derived.Test.YtbijfmpmgmfpgaaLex
namespace Go.Proofs.Ytbijfmpmgmfpgaa
open Go.RowKit
set_option linter.unusedSimpArgs false

set_option maxRecDepth 100000 in
set_option maxHeartbeats 4000000 in
theorem refStop_any (L s id : Int) (v : Value) (ms : List Wt) (w : World) (h : Rd w v 2 ms.length (wcells ms)) (hn : ms.length ≤ 1000) :
    Calls Try.prog 49 #[.agg #[.int .i64 L, v, .int .i64 s], .int .i64 id] w fun e w' => ∃ (A : Option Addr) (c : Nat), e = .returned (.agg #[.int .i64 L, .slice A (flW id ms).length c, .int .i64 s]) ∧ Rd w' (.slice A (flW id ms).length c) 2 (flW id ms).length (wcells (flW id ms)) ∧ Bel w w' := by
  obtain ⟨i0, hi0, hz0, hz1, hz2⟩ := info_parts Try.infoWt
  have HFF : Hid (flW id ms = ms.filter (keep id)) := Lib.hid rfl
  obtain ⟨A, c, rfl, hc1, hc2⟩ := h.form
  have HAT := Lib.hid (fun k m (hk : ms[k]? = some m) => wts_at h hk)
  obtain ⟨n, Hn⟩ : ∃ n, Hid (n = ms.length) := ⟨_, rfl⟩
  rw [← Hn.out] at hn ⊢
  clear h hc1 hc2
  have hX := (AtF.new_at (w := w) rfl 68 [.int .i64 L, .slice A n c, .int .i64 s]).alloc (.cells [.int .i64 0, .slice none 0 0, .int .i64 0].toArray 68)
  have hR := AtF.new_at (w := w.alloc (.cells [.int .i64 L, .slice A n c, .int .i64 s].toArray 68)) (g := w.heap.size + 1) (by simp) 68 [.int .i64 0, .slice none 0 0, .int .i64 0]
  have hbw : Bel w ((w.alloc (.cells [.int .i64 L, .slice A n c, .int .i64 s].toArray 68)).alloc (.cells [.int .i64 0, .slice none 0 0, .int .i64 0].toArray 68)) := (by repeat (first | (with_reducible exact Bel.refl _) | (with_reducible assumption) | (with_reducible refine Bel.drewN ?_ _) | (with_reducible refine Bel.drew ?_) | (with_reducible refine Bel.alloc ?_ _) | (with_reducible refine Bel.setNew ?_ ?_ _) | (with_reducible refine Bel.trans ?_ (by assumption)) | (focus (simp; done)) | (focus (simp; omega))))
  simp only [List.toArray] at hX hR hbw
  have hsz : w.heap.size + 1 + 1 = ((w.alloc (.cells #[.int .i64 L, .slice A n c, .int .i64 s] 68)).alloc (.cells #[.int .i64 0, .slice none 0 0, .int .i64 0] 68)).heap.size := by simp
  go_enter Try.func49, Try.ntmps49
  go_wp2
  go_loopw [5, 6] (fun ov iv wr => ∃ (i : Nat) (F : List Wt), iv = .int .i64 i ∧ i ≤ n ∧ Hid (F = (ms.take i).filter (keep id)) ∧ F.length ≤ i ∧ wr.ownsRow (w.heap.size + 1 + 1) 96 2 ov F.length (wcells F) ∧ AtF wr w.heap.size [.int .i64 L, .slice A n c, .int .i64 s] ∧ AtF wr (w.heap.size + 1) [.int .i64 0, .slice none 0 0, .int .i64 0] ∧ Bel w wr) (fun _ iv _ => n - (intOf iv).toNat)
  case atStart => exact ⟨0, [], rfl, by omega, Lib.hid (by simp), by simp, ⟨by simp [wcells], Or.inl ⟨rfl, rfl⟩⟩, hX, hR, hbw⟩
  case round =>
    obtain ⟨i, F, rfl, p1, HF, p2, hown, hA, hRr, hbr⟩ := hrel
    clear hX hR hbw hsz
    obtain ⟨Ao, co, rfl⟩ := own_slice hown
    have a1 := hA.1.2 1 _ rfl
    have al := hA.1.1
    obtain ⟨k, Hk⟩ : ∃ k, Hid (k = F.length) := ⟨_, rfl⟩
    rw [← Hk.out] at hown p2 ⊢
    by_cases hlt : i < n
    · have i1 : (i : Int) < (n : Int) := by omega
      obtain ⟨m, hm⟩ : ∃ m, ms[i]? = some m := ⟨ms[i]'(by have := Hn.out; omega), List.getElem?_eq_getElem _⟩
      obtain ⟨b, o, rfl, hlb, hrow⟩ := HAT.out i m hm
      have hrow := hrow.bel hbr hlb
      have d0 := hrow.cell 0 rfl
      have d1 := hrow.cell 1 rfl
      rw [Nat.add_zero] at d0
      have HTK := Lib.hid (filter_take (p := keep id) hm)
      have hbs := hbr.size
      have hlw : b < wr.heap.size := by omega
      have hszr := hRr.1.1
      clear hm hrow
      cases hid : (m.id == id)
      · have hib : (m.id != id) = true := by simpa using hid
        have HF2 : Hid (F ++ [m] = (ms.take (i + 1)).filter (keep id)) := Lib.hid (by rw [HTK.out, ← HF.out]; simp [keep, hid])
        have hneA := own_ne hown (k := w.heap.size) (.inl (by omega))
        have hneR := own_ne hown (k := w.heap.size + 1) (.inl (by omega))
        go_wp2_with (at_builtin; go_must (refine wpList_append_own_at _ rfl _ _ 66 rfl (w.heap.size + 1 + 1) 96 i0 _ 2 16 Try.underlying66 hi0 hz0 hz1 hz2 rfl (by omega) (.slice Ao k co) _ _ rfl (hown.alloc _) ⟨wr.heap.size, 0, none⟩ 1 1 (Wt.cells m) rfl rfl (World.news_of_block (cs := #[.int .i64 m.id, .int .i64 m.at_]) (t := 96) (fr := (0, 0)) (heap_new_at rfl)) (fun u hu => by simp [Wt.cells] at hu; rcases hu with rfl | rfl <;> rfl) (by unfold maxLen; omega) (by omega) (by simp; omega) ?_); intro v' w7 hown' hg' _ hloc; obtain ⟨gn, cn, hvn, _, _⟩ := hown'.form (by omega); subst hvn)
        have hA7 := (hA.alloc _).grown hg' (Ne.symm hneA)
        have hR7 := (hRr.alloc _).grown hg' (Ne.symm hneR)
        have hb7 := bel_own (hbr.alloc _) (hown.alloc _) hg' (by omega)
        go_roundw
        case rel => exact ⟨i + 1, F ++ [m], by go_num, by omega, HF2, by rw [List.length_append, ← Hk.out]; simp; omega, by rw [List.length_append, ← Hk.out, wcells_app]; simpa [wcells] using hown', hA7, hR7, hb7⟩
        case measure => simp [intOf]; omega
      · have hib : (m.id != id) = false := by simpa using hid
        have HF2 : Hid (F = (ms.take (i + 1)).filter (keep id)) := Lib.hid (by rw [HTK.out, ← HF.out]; simp [keep, hid])
        go_wp2
        go_roundw
        case rel => exact ⟨i + 1, F, by go_num, by omega, HF2, by rw [← Hk.out]; omega, by rw [← Hk.out]; exact hown, hA, hRr, hbr⟩
        case measure => simp [intOf]; omega
    · obtain rfl : i = n := by omega
      have jk : decide ((i : Int) < (i : Int)) = false := by simp
      have HE : Hid (flW id ms = F) := Lib.hid (by rw [HFF.out, HF.out, List.take_of_length_le (by rw [← Hn.out]; exact Nat.le_refl _)])
      have hne := own_ne hown (k := w.heap.size) (.inl (by omega))
      have hneR := own_ne hown (k := w.heap.size + 1) (.inl (by omega))
      have a0 := hA.1.2 0 _ rfl
      have a2 := hA.1.2 2 _ rfl
      have af := hA.2
      have r0 := hRr.1.2 0 _ rfl
      have r1 := hRr.1.2 1 _ rfl
      have r2 := hRr.1.2 2 _ rfl
      have rf := hRr.2
      have rl := hRr.1.1
      have hR2 := (hRr.other (C := w.heap.size) (by omega) 1 (.slice Ao k co)).setRow [.int .i64 L, .slice Ao k co, .int .i64 s] rfl
      have hrd3 := ((Rd.own hown).far (p := ⟨w.heap.size, 1, none⟩) hne (.slice Ao k co)).setRow (B := w.heap.size + 1) (i := 0) [.int .i64 L, .slice Ao k co, .int .i64 s] hneR
      have hb4 := (hbr.setNew (p := ⟨w.heap.size, 1, none⟩) (Nat.le_refl _) (.slice Ao k co)).setRow (B := w.heap.size + 1) (i := 0) [.int .i64 L, .slice Ao k co, .int .i64 s] (by omega)
      have HX5 := Lib.hid (And.intro hrd3 hb4)
      clear hrd3 hb4
      go_wp2
      clear r0 r1 r2
      have r0 := hR2.1.2 0 _ rfl
      have r1 := hR2.1.2 1 _ rfl
      have r2 := hR2.1.2 2 _ rfl
      exact bodyPost_ret (v := .agg #[.int .i64 L, .slice Ao k co, .int .i64 s]) (by simp only [setRow] at r0 r1 r2; simp [results, Try.results49, go_sem, r0, r1, r2]) rfl ⟨Ao, co, by rw [HE.out, ← Hk.out], by rw [HE.out, ← Hk.out]; exact HX5.out.1, HX5.out.2⟩

set_option maxRecDepth 100000 in
set_option maxHeartbeats 4000000 in
theorem sameGuard_any (L s : Int) (ms : List Wt) (A A' : Option Addr) (c c' : Nat) (w : World)
    (h : Rd w (.slice A ms.length c) 2 ms.length (wcells ms)) (h' : Rd w (.slice A' ms.length c') 2 ms.length (wcells ms)) :
    Calls Try.prog 47 #[.agg #[.int .i64 L, .slice A ms.length c, .int .i64 s], .agg #[.int .i64 L, .slice A' ms.length c', .int .i64 s]] w fun e w' => e = .returned (.bool true) ∧ Bel w w' := by
  obtain ⟨_, _, hv, hc1, hc2⟩ := h.form
  cases hv
  obtain ⟨_, _, hv, hc1', hc2'⟩ := h'.form
  cases hv
  unfold maxLen at hc2 hc2'
  have HAT := Lib.hid (fun k m (hk : ms[k]? = some m) => wts_at h hk)
  have HAT' := Lib.hid (fun k m (hk : ms[k]? = some m) => wts_at h' hk)
  obtain ⟨n, Hn⟩ : ∃ n, Hid (n = ms.length) := ⟨_, rfl⟩
  rw [← Hn.out] at hc1 hc1' ⊢
  clear h h'
  have hA := (AtF.new w 68 [.int .i64 L, .slice A n c, .int .i64 s]).alloc (.cells #[.int .i64 L, .slice A' n c', .int .i64 s] 68)
  have hB := AtF.new_at (w := w.alloc (.cells #[.int .i64 L, .slice A n c, .int .i64 s] 68)) (g := w.heap.size + 1) (by simp) 68 [.int .i64 L, .slice A' n c', .int .i64 s]
  have hbX : Bel w ((w.alloc (.cells #[.int .i64 L, .slice A n c, .int .i64 s] 68)).alloc (.cells #[.int .i64 L, .slice A' n c', .int .i64 s] 68)) := (by repeat (first | (with_reducible exact Bel.refl _) | (with_reducible assumption) | (with_reducible refine Bel.drewN ?_ _) | (with_reducible refine Bel.drew ?_) | (with_reducible refine Bel.alloc ?_ _) | (with_reducible refine Bel.setNew ?_ ?_ _) | (with_reducible refine Bel.trans ?_ (by assumption)) | (focus (simp; done)) | (focus (simp; omega))))
  simp only [List.toArray] at hA hB
  go_enter Try.func47, Try.ntmps47
  go_wp2
  generalize (w.alloc (.cells #[.int .i64 L, .slice A n c, .int .i64 s] 68)).alloc (.cells #[.int .i64 L, .slice A' n c', .int .i64 s] 68) = X at *
  go_loopw [5] (fun iv wr => ∃ i : Nat, iv = .int .i64 i ∧ i ≤ n ∧ Bel X wr) (fun iv _ => n - (intOf iv).toNat)
  case atStart => exact ⟨0, rfl, by omega, Bel.refl _⟩
  case round =>
    obtain ⟨i, rfl, p1, hbr⟩ := hrel
    have hAr := hA.bel hbr
    have hBr := hB.bel hbr
    have p7 := hAr.1.2 1 _ rfl
    have q7 := hBr.1.2 1 _ rfl
    by_cases hlt : i < n
    · have i1 : (i : Int) < (n : Int) := by omega
      obtain ⟨m, hm⟩ : ∃ m, ms[i]? = some m := ⟨ms[i]'(by have := Hn.out; omega), List.getElem?_eq_getElem _⟩
      obtain ⟨b, o, rfl, hlb, hrow⟩ := HAT.out i m hm
      obtain ⟨b', o', rfl, hlb', hrow'⟩ := HAT'.out i m hm
      have hrow := hrow.bel (hbX.trans hbr) hlb
      have hrow' := hrow'.bel (hbX.trans hbr) hlb'
      have d0 := hrow.cell 0 rfl
      have d1 := hrow.cell 1 rfl
      have e0 := hrow'.cell 0 rfl
      have e1 := hrow'.cell 1 rfl
      rw [Nat.add_zero] at d0 e0
      clear hm hrow hrow'
      go_wp2_with fail
      have r0 := fun d os => cell_regrown d0 d os
      have r1 := fun d os => cell_regrown d1 d os
      have s0 := fun d os => cell_regrown e0 d os
      have s1 := fun d os => cell_regrown e1 d os
      have t0 := fun d os => cell_regrown p7 d os
      have t1 := fun d os => cell_regrown q7 d os
      refine wp_region_lex [] 11 (by kernel_rfl) (by kernel_rfl) ?_
      simp only [List.take_succ_cons, List.take_zero, List.drop_succ_cons, List.drop_zero]
      with_reducible refine lex_seg 11 _ _ _ _ (by kernel_rfl) ?_
      simp only [List.take_succ_cons, List.take_zero, List.drop_succ_cons, List.drop_zero]
      try simp only [Act.put, List.setIfInBounds_toArray, List.set_cons_succ, List.set_cons_zero]
      repeat (go_big_quiet_step (fail))
      with_reducible refine wpQuiet_nil ?_
      with_reducible refine lex_nil ?_
      clear r0 r1 s0 s1 t0 t1 d0 d1 e0 e1 p7 q7
      go_wp2
      go_roundw
      case rel => exact ⟨i + 1, by go_num, by omega, hbr.drew⟩
      case measure => simp [intOf]; omega
    · obtain rfl : i = n := by omega
      have i1 : decide ((i : Int) < (i : Int)) = false := by simp
      go_wp2
      go_ret
      exact ⟨rfl, hbX.trans hbr⟩

set_option maxRecDepth 100000 in
set_option maxHeartbeats 4000000 in
theorem nextWatch_any (L s : Int) (v : Value) (ms : List Wt) (w : World) (h : Rd w v 2 ms.length (wcells ms)) (hn : ms.length ≤ 16) (hS : Srt ms) (hI : InR ms) (hL : limB L = true) :
    Calls Try.prog 46 #[.agg #[.int .i64 L, v, .int .i64 s]] w fun e w' => e = .returned (.tuple #[.int .i64 (nextB L ms).1, .bool (nextB L ms).2]) ∧ Bel w w' := by
  obtain ⟨l1, l2⟩ := limB_iff.1 hL
  have HIR : Hid (∀ m ∈ ms, 0 ≤ m.at_ ∧ m.at_ ≤ 1099511627776) := Lib.hid (fun m hm => sncB_iff.1 (hI m hm))
  have HIB : Hid (∀ m ∈ ms, sncB m.at_ = true) := Lib.hid hI
  have HSB : Hid (∀ m l, ms = m :: l → ∀ x ∈ ms, m.at_ ≤ x.at_) := Lib.hid (fun m l e x hx => by
    subst e
    rcases List.mem_cons.1 hx with rfl | hx
    · exact Int.le_refl _
    · exact srt_head hS x hx)
  obtain ⟨A, c, rfl, hc1, hc2⟩ := h.form
  have HAT := Lib.hid (fun k m (hk : ms[k]? = some m) => wts_at h hk)
  obtain ⟨n, Hn⟩ : ∃ n, Hid (n = ms.length) := ⟨_, rfl⟩
  rw [← Hn.out] at hn ⊢
  clear h hc1 hc2 hS hI
  have hX := AtF.new w 68 [.int .i64 L, .slice A n c, .int .i64 s]
  simp only [List.toArray] at hX
  have hbX : Bel w (w.alloc (.cells #[.int .i64 L, .slice A n c, .int .i64 s] 68)) := (by repeat (first | (with_reducible exact Bel.refl _) | (with_reducible assumption) | (with_reducible refine Bel.drewN ?_ _) | (with_reducible refine Bel.drew ?_) | (with_reducible refine Bel.alloc ?_ _) | (with_reducible refine Bel.setNew ?_ ?_ _) | (with_reducible refine Bel.trans ?_ (by assumption)) | (focus (simp; done)) | (focus (simp; omega))))
  obtain ⟨nb, Hnb⟩ : ∃ nb, Hid (nb = nextB L ms) := ⟨_, rfl⟩
  rw [← Hnb.out]
  go_enter Try.func46, Try.ntmps46
  go_wp2
  go_loopw [4, 5, 6] (fun lv ov iv wr => ∃ i : Nat, iv = .int .i64 i ∧ i ≤ n ∧ lv = .int .i64 (nextB L (ms.take i)).1 ∧ ov = .bool (nextB L (ms.take i)).2 ∧ AtF wr w.heap.size [.int .i64 L, .slice A n c, .int .i64 s] ∧ Bel w wr) (fun _ _ iv _ => n - (intOf iv).toNat)
  case atStart => exact ⟨0, rfl, by omega, rfl, rfl, hX, hbX⟩
  case round =>
    obtain ⟨i, rfl, p1, rfl, rfl, hA, hbr⟩ := hrel
    have a0 := hA.1.2 0 _ rfl
    have a1 := hA.1.2 1 _ rfl
    have a2 := hA.1.2 2 _ rfl
    by_cases hlt : i < n
    · have i1 : (i : Int) < (n : Int) := by omega
      obtain ⟨m, hm⟩ : ∃ m, ms[i]? = some m := ⟨ms[i]'(by have := Hn.out; omega), List.getElem?_eq_getElem _⟩
      obtain ⟨b, o, rfl, hlb, hrow⟩ := HAT.out i m hm
      have hmm := List.mem_of_getElem? hm
      obtain ⟨g1, g2⟩ := HIR.out m hmm
      have hsb := HIB.out m hmm
      cases i with
      | zero =>
        obtain ⟨l, hl⟩ : ∃ l, ms = m :: l := by
          cases ms with
          | nil => simp at hm
          | cons a l => simp at hm; exact ⟨l, by rw [hm]⟩
        have HT : Hid (nextB L (ms.take (0 + 1)) = (m.at_ + L, true)) := Lib.hid (by rw [hl]; rfl)
        rw [show nextB L (ms.take 0) = (0, false) from rfl]
        clear hm hl
        have hrow := hrow.bel hbr hlb
        have d0 := hrow.cell 0 rfl
        have d1 := hrow.cell 1 rfl
        rw [Nat.add_zero] at d0
        clear hrow
        go_wp2_with fail
        refine (refLimit_any L s _ _).mono ?_; rw [hL]; rintro e w1 ⟨rfl, hb1⟩
        have hA2 := hA.bel hb1
        have hb2 := hbr.trans hb1
        have f0 := hA2.1.2 0 _ rfl
        have f1 := hA2.1.2 1 _ rfl
        have hlw : b < wr.heap.size := Nat.lt_of_lt_of_le hlb hbr.size
        have d1' := (hb1.cellAt _ _ hlw).trans d1
        clear a0 a1 a2 d0 d1
        go_wp2_with fail
        refine (early_any m.at_ _).mono ?_; rw [hsb]; rintro e w2 ⟨rfl, rfl⟩
        go_wp2
        go_roundw
        case rel => exact ⟨0 + 1, by go_num, by omega, by rw [HT.out], by rw [HT.out], hA2, hb2⟩
        case measure => simp [intOf]; omega
      | succ j =>
        obtain ⟨m0, l, hl⟩ : ∃ m0 l, ms = m0 :: l := by
          cases ms with
          | nil => simp at hm
          | cons a l => exact ⟨a, l, rfl⟩
        have hle := HSB.out m0 l hl m hmm
        have HT : Hid (∀ q, nextB L (ms.take (q + 1)) = (m0.at_ + L, true)) := Lib.hid (fun q => by rw [hl]; rfl)
        obtain ⟨g3, g4⟩ := HIR.out m0 (by rw [hl]; simp)
        rw [HT.out]
        clear hm hl
        have hnl : ¬ m.at_ + L < m0.at_ + L := by omega
        have hrow := hrow.bel hbr hlb
        have d0 := hrow.cell 0 rfl
        have d1 := hrow.cell 1 rfl
        rw [Nat.add_zero] at d0
        clear hrow
        go_wp2_with fail
        refine (refLimit_any L s _ _).mono ?_; rw [hL]; rintro e w1 ⟨rfl, hb1⟩
        have hA2 := hA.bel hb1
        have hb2 := hbr.trans hb1
        have f0 := hA2.1.2 0 _ rfl
        have f1 := hA2.1.2 1 _ rfl
        have hlw : b < wr.heap.size := Nat.lt_of_lt_of_le hlb hbr.size
        have d1' := (hb1.cellAt _ _ hlw).trans d1
        clear a0 a1 a2 d0 d1
        go_wp2_with fail
        refine (early_any m.at_ _).mono ?_; rw [hsb]; rintro e w2 ⟨rfl, rfl⟩
        go_wp2
        go_roundw
        case rel => exact ⟨j + 1 + 1, by go_num, by omega, by rw [HT.out], by rw [HT.out], hA2, hb2⟩
        case measure => simp [intOf]; omega
    · obtain rfl : i = n := by omega
      have jk : decide ((i : Int) < (i : Int)) = false := by simp
      have HT : Hid (nextB L (ms.take i) = nb) := Lib.hid (by rw [Hnb.out, List.take_of_length_le (by rw [← Hn.out]; exact Nat.le_refl _)])
      rw [HT.out]
      go_wp2
      go_ret2
      exact ⟨rfl, hbr⟩
end Go.Proofs.Ytbijfmpmgmfpgaa
