/- timeout.Due, Next over a list in order; SameInts; the law's awake. -/
import Derived.Test.YtbijfmpmgmfpgaaTmD
namespace Go.Proofs.Ytbijfmpmgmfpgaa
open Go.RowKit
set_option linter.unusedSimpArgs false

theorem Try.infoInt : (Try.prog.info? 3).map (fun i => (i.zero, i.size, i.bytes)) = some (some (.int .i64 0), 1, 8) := by kernel_rfl
def icells (l : List Int) : List Value := l.map (Value.int .i64)
theorem icells_len (l : List Int) : (icells l).length = l.length * 1 := by simp [icells]
def dueL (L now : Int) (ms : List Wt) : List Int := (ms.filter fun m => decide (m.at_ + L ≤ now)).map Wt.id
theorem limB_iff {L : Int} : limB L = true ↔ 1 ≤ L ∧ L ≤ 1000000 := by unfold limB; exact decide_eq_true_iff
theorem sncB_iff {n : Int} : sncB n = true ↔ 0 ≤ n ∧ n ≤ 1099511627776 := by unfold sncB; exact decide_eq_true_iff
theorem filter_take {α : Type} {p : α → Bool} {L : List α} {i : Nat} {x : α} (h : L[i]? = some x) : (L.take (i + 1)).filter p = (L.take i).filter p ++ (if p x then [x] else []) := by
  rw [List.take_add_one, h, List.filter_append]
  cases hp : p x <;> simp [hp]

set_option maxRecDepth 100000 in
set_option maxHeartbeats 4000000 in
theorem due_any (L s now : Int) (v : Value) (ms : List Wt) (w : World) (h : Rd w v 2 ms.length (wcells ms)) (hn : ms.length ≤ 16) (hS : Srt ms) (hI : InR ms) (hL : limB L = true) :
    Calls Try.prog 50 #[.agg #[.int .i64 L, v, .int .i64 s], .int .i64 now] w fun e w' => ∃ v', e = .returned v' ∧ w'.ownsRow w.heap.size 3 1 v' (dueL L now ms).length (icells (dueL L now ms)) ∧ Bel w w' := by
  obtain ⟨i0, hi0, hz0, hz1, hz2⟩ := info_parts Try.infoInt
  have HWT := Lib.hid (fun w' (hb : Bel w w') => watched_any L s v ms w' (h.bel hb) hn hS hI hL)
  have HIR : Hid (∀ m ∈ ms, 0 ≤ m.at_ ∧ m.at_ ≤ 1099511627776) := Lib.hid (fun m hm => sncB_iff.1 (hI m hm))
  obtain ⟨l1, l2⟩ := limB_iff.1 hL
  obtain ⟨A, c, rfl, hc1, hc2⟩ := h.form
  obtain ⟨n, Hn⟩ : ∃ n, Hid (n = ms.length) := ⟨_, rfl⟩
  rw [← Hn.out] at HWT hn ⊢
  clear h hS hI hL hc1 hc2
  have hX := AtF.new w 68 [.int .i64 L, .slice A n c, .int .i64 s]
  simp only [List.toArray] at hX
  have hsz : w.heap.size < (w.alloc (.cells #[.int .i64 L, .slice A n c, .int .i64 s] 68)).heap.size := by simp
  go_enter Try.func50, Try.ntmps50
  go_wp2_with fail
  refine (HWT.out _ (by repeat (first | (with_reducible exact Bel.refl _) | (with_reducible assumption) | (with_reducible refine Bel.drewN ?_ _) | (with_reducible refine Bel.drew ?_) | (with_reducible refine Bel.alloc ?_ _) | (with_reducible refine Bel.setNew ?_ ?_ _) | (with_reducible refine Bel.trans ?_ (by assumption)) | (focus (simp; done)) | (focus (simp; omega))))).mono ?_; rintro e w1 ⟨v', rfl, hown, hb1⟩
  have hX1 := hX.bel hb1
  have hbw : Bel w w1 := (by repeat (first | (with_reducible exact Bel.refl _) | (with_reducible assumption) | (with_reducible refine Bel.drewN ?_ _) | (with_reducible refine Bel.drew ?_) | (with_reducible refine Bel.alloc ?_ _) | (with_reducible refine Bel.setNew ?_ ?_ _) | (with_reducible refine Bel.trans ?_ (by assumption)) | (focus (simp; done)) | (focus (simp; omega))))
  obtain ⟨A', c', rfl⟩ := own_slice hown
  have HAT := Lib.hid (fun k m (hk : ms[k]? = some m) => wts_at (c := c') (A := A') (by rw [← Hn.out]; exact Rd.own hown) hk)
  clear hown hX hb1
  go_wp2
  go_loopw [5, 11] (fun ov iv wr => ∃ (i : Nat), iv = .int .i64 i ∧ i ≤ n ∧ wr.ownsRow w1.heap.size 3 1 ov (dueL L now (ms.take i)).length (icells (dueL L now (ms.take i))) ∧ Bel w1 wr) (fun _ iv _ => n - (intOf iv).toNat)
  case atStart => exact ⟨0, rfl, by omega, ⟨by simp [icells, dueL], Or.inl ⟨rfl, by simp [dueL]⟩⟩, Bel.refl _⟩
  case round =>
    obtain ⟨i, rfl, p1, hown, hbr⟩ := hrel
    obtain ⟨Ao, co, rfl⟩ := own_slice hown
    by_cases hlt : i < n
    · have i1 : (i : Int) < (n : Int) := by omega
      obtain ⟨m, hm⟩ : ∃ m, ms[i]? = some m := ⟨ms[i]'(by have := Hn.out; omega), List.getElem?_eq_getElem _⟩
      obtain ⟨b, o, rfl, hlb, hrow⟩ := HAT.out i m hm
      have hrow := hrow.bel hbr hlb
      have d0 := hrow.cell 0 rfl
      have d1 := hrow.cell 1 rfl
      rw [Nat.add_zero] at d0
      have x0 := (hX1.bel hbr).1.2 0 _ rfl
      have xl := (hX1.bel hbr).1.1
      obtain ⟨g1, g2⟩ := HIR.out m (List.mem_of_getElem? hm)
      have HTK := Lib.hid (show dueL L now (ms.take (i + 1)) = dueL L now (ms.take i) ++ (if decide (m.at_ + L ≤ now) then [m.id] else []) from by
        unfold dueL
        rw [filter_take hm, List.map_append]
        cases decide (m.at_ + L ≤ now) <;> rfl)
      have hdl : (dueL L now (ms.take i)).length ≤ 16 := by
        unfold dueL
        rw [List.length_map]
        have := List.length_filter_le (fun m : Wt => decide (m.at_ + L ≤ now)) (ms.take i)
        rw [List.length_take] at this
        omega
      generalize dueL L now (ms.take i) = dl at *
      obtain ⟨k, Hk⟩ : ∃ k, Hid (k = dl.length) := ⟨_, rfl⟩
      rw [← Hk.out] at hown hdl ⊢
      have hbs := hbr.size
      have hlw : b < wr.heap.size := by omega
      clear hm hrow
      by_cases hd : m.at_ + L ≤ now
      · have HT2 : Hid (dueL L now (ms.take (i + 1)) = dl ++ [m.id]) := Lib.hid (by rw [HTK.out, decide_eq_true hd]; rfl)
        go_wp2_with (at_builtin; go_must (refine wpList_append_own_at _ rfl _ _ 45 rfl w1.heap.size 3 i0 _ 1 8 Try.underlying45 hi0 hz0 hz1 hz2 rfl (by omega) (.slice Ao k co) _ _ rfl ((hown.alloc _).alloc _) ⟨wr.heap.size + 1, 0, none⟩ 1 1 [.int .i64 m.id] rfl rfl (World.news_of_block (cs := #[.int .i64 m.id]) (t := 3) (fr := (0, 0)) (heap_new_at (by simp))) (fun u hu => by simp at hu; subst hu; rfl) (by unfold maxLen; omega) (by omega) (by simp; omega) ?_); intro v' w3 hown' hg' _ hloc; obtain ⟨gn, cn, hvn, _, _⟩ := hown'.form (by omega); subst hvn)
        have hbw3 := bel_own ((hbr.alloc _).alloc _) ((hown.alloc _).alloc _) hg' (Nat.le_refl _)
        go_roundw
        case rel => exact ⟨i + 1, by go_num, by omega, by rw [HT2.out, List.length_append, ← Hk.out]; unfold icells; rw [List.map_append]; exact hown', hbw3⟩
        case measure => simp [intOf]; omega
      · have HT2 : Hid (dueL L now (ms.take (i + 1)) = dl) := Lib.hid (by rw [HTK.out, decide_eq_false hd]; simp)
        go_wp2
        go_roundw
        case rel => exact ⟨i + 1, by go_num, by omega, by rw [HT2.out, ← Hk.out]; exact hown.alloc _, hbr.alloc _⟩
        case measure => simp [intOf]; omega
    · obtain rfl : i = n := by omega
      have jk : decide ((i : Int) < (i : Int)) = false := by simp
      have e4 : Hid (ms.take i = ms) := Lib.hid (List.take_of_length_le (by rw [← Hn.out]; exact Nat.le_refl _))
      rw [e4.out] at hown ⊢
      have HO := Lib.hid (own_mono hown hbw.size)
      clear hown
      go_wp2
      go_ret
      exact ⟨_, rfl, HO.out, hbw.trans hbr⟩

def nextB (L : Int) : List Wt → Int × Bool
  | [] => (0, false)
  | m :: _ => (m.at_ + L, true)
set_option maxHeartbeats 4000000 in
theorem next_any (L s : Int) (v : Value) (ms : List Wt) (w : World) (h : Rd w v 2 ms.length (wcells ms)) (hn : ms.length ≤ 16) (hS : Srt ms) (hI : InR ms) (hL : limB L = true) :
    Calls Try.prog 45 #[.agg #[.int .i64 L, v, .int .i64 s]] w fun e w' => e = .returned (.tuple #[.int .i64 (nextB L ms).1, .bool (nextB L ms).2]) ∧ Bel w w' := by
  have HWT := Lib.hid (fun w' (hb : Bel w w') => watched_any L s v ms w' (h.bel hb) hn hS hI hL)
  obtain ⟨l1, l2⟩ := limB_iff.1 hL
  obtain ⟨A, c, rfl, hc1, hc2⟩ := h.form
  have hX := AtF.new w 68 [.int .i64 L, .slice A ms.length c, .int .i64 s]
  simp only [List.toArray] at hX
  cases ms with
  | nil =>
    clear h hS hI hc1 hc2 hL hX
    simp only [List.length_nil] at HWT ⊢
    go_enter Try.func45, Try.ntmps45
    go_wp2_with fail
    refine (HWT.out _ (by repeat (first | (with_reducible exact Bel.refl _) | (with_reducible assumption) | (with_reducible refine Bel.drewN ?_ _) | (with_reducible refine Bel.drew ?_) | (with_reducible refine Bel.alloc ?_ _) | (with_reducible refine Bel.setNew ?_ ?_ _) | (with_reducible refine Bel.trans ?_ (by assumption)) | (focus (simp; done)) | (focus (simp; omega))))).mono ?_; rintro e w1 ⟨v', rfl, hown, hb1⟩
    obtain ⟨A', c', rfl⟩ := own_slice hown
    go_wp2
    go_ret2
    exact ⟨rfl, (by repeat (first | (with_reducible exact Bel.refl _) | (with_reducible assumption) | (with_reducible refine Bel.drewN ?_ _) | (with_reducible refine Bel.drew ?_) | (with_reducible refine Bel.alloc ?_ _) | (with_reducible refine Bel.setNew ?_ ?_ _) | (with_reducible refine Bel.trans ?_ (by assumption)) | (focus (simp; done)) | (focus (simp; omega))))⟩
  | cons m l =>
    have HIR : Hid (0 ≤ m.at_ ∧ m.at_ ≤ 1099511627776) := Lib.hid (sncB_iff.1 (hI m (by simp)))
    obtain ⟨n, Hn⟩ : ∃ n, Hid (n = (m :: l).length) := ⟨_, rfl⟩
    have hn0 : 0 < n := by rw [Hn.out]; simp
    rw [← Hn.out] at HWT hn hX ⊢
    clear h hS hI hL hc1 hc2
    simp only [nextB]
    go_enter Try.func45, Try.ntmps45
    go_wp2_with fail
    refine (HWT.out _ (by repeat (first | (with_reducible exact Bel.refl _) | (with_reducible assumption) | (with_reducible refine Bel.drewN ?_ _) | (with_reducible refine Bel.drew ?_) | (with_reducible refine Bel.alloc ?_ _) | (with_reducible refine Bel.setNew ?_ ?_ _) | (with_reducible refine Bel.trans ?_ (by assumption)) | (focus (simp; done)) | (focus (simp; omega))))).mono ?_; rintro e w1 ⟨v', rfl, hown, hb1⟩
    have hX1 := hX.bel hb1
    have x0 := hX1.1.2 0 _ rfl
    have hbw : Bel w w1 := (by repeat (first | (with_reducible exact Bel.refl _) | (with_reducible assumption) | (with_reducible refine Bel.drewN ?_ _) | (with_reducible refine Bel.drew ?_) | (with_reducible refine Bel.alloc ?_ _) | (with_reducible refine Bel.setNew ?_ ?_ _) | (with_reducible refine Bel.trans ?_ (by assumption)) | (focus (simp; done)) | (focus (simp; omega))))
    obtain ⟨g', c', rfl, _, _⟩ := hown.form hn0
    have d1 : w1.cell? ⟨g', 1, none⟩ = some (.int .i64 m.at_) := by
      obtain ⟨b, o, hA, hlb, hrow⟩ := wts_at (w := w1) (A := some ⟨g', 0, none⟩) (c := c') (ms := m :: l) (k := 0) (by rw [← Hn.out]; exact Rd.own hown) rfl
      cases hA
      exact hrow.cell 1 rfl
    obtain ⟨g1, g2⟩ := HIR.out
    have r0 := fun d os => cell_regrown x0 d os
    have r1 := fun d os => cell_regrown d1 d os
    have hn1 : (n : Int) ≠ 0 := by omega
    have hn2 : ((n : Int) == 0) = false := by simpa using hn1
    have hn3 : (0 : Int) < (n : Int) := by omega
    clear hX hb1 hn1
    go_wp2_with fail
    refine wp_region_lex [] 7 (by kernel_rfl) (by kernel_rfl) ?_
    simp only [List.take_succ_cons, List.take_zero, List.drop_succ_cons, List.drop_zero]
    with_reducible refine lex_seg 7 _ _ _ _ (by kernel_rfl) ?_
    simp only [List.take_succ_cons, List.take_zero, List.drop_succ_cons, List.drop_zero]
    try simp only [Act.put, List.setIfInBounds_toArray, List.set_cons_succ, List.set_cons_zero]
    repeat (go_big_quiet_step (fail))
    with_reducible refine wpQuiet_nil ?_
    with_reducible refine lex_nil ?_
    clear r0 r1
    go_wp2
    go_ret2
    exact ⟨rfl, (by repeat (first | (with_reducible exact Bel.refl _) | (with_reducible assumption) | (with_reducible refine Bel.drewN ?_ _) | (with_reducible refine Bel.drew ?_) | (with_reducible refine Bel.alloc ?_ _) | (with_reducible refine Bel.setNew ?_ ?_ _) | (with_reducible refine Bel.trans ?_ (by assumption)) | (focus (simp; done)) | (focus (simp; omega))))⟩

set_option maxHeartbeats 4000000 in
theorem sameInts_eq (l : List Int) (va vb : Value) (w : World) (ha : Rd w va 1 l.length (icells l)) (hb : Rd w vb 1 l.length (icells l)) :
    Calls Try.prog 34 #[va, vb] w fun e w' => e = .returned (.bool true) ∧ Bel w w' := by
  obtain ⟨_, A, ca, rfl, hca, hma, hra⟩ := ha
  obtain ⟨_, B, cb, rfl, hcb, hmb, hrb⟩ := hb
  unfold maxLen at hma hmb
  have HA := Lib.hid hra
  have HB := Lib.hid hrb
  clear hra hrb
  obtain ⟨n, Hn⟩ : ∃ n, Hid (n = l.length) := ⟨_, rfl⟩
  rw [← Hn.out] at HA HB hca hcb ⊢
  go_enter Try.func34, Try.ntmps34
  go_wp2
  go_loopw [5] (fun iv wr => ∃ k : Nat, k ≤ n ∧ iv = .int .i64 k ∧ Bel w wr) (fun iv _ => n - (intOf iv).toNat)
  case atStart => exact ⟨0, by omega, rfl, Bel.refl _⟩
  case round =>
    obtain ⟨k, hk, rfl, hbr⟩ := hrel
    by_cases hlt : k < n
    · obtain ⟨ba, oa, rfl, hla, hcella⟩ := HA.out (by omega)
      obtain ⟨bb, ob, rfl, hlb, hcellb⟩ := HB.out (by omega)
      obtain ⟨s, hs⟩ : ∃ p, l[k]? = some p := ⟨_, List.getElem?_eq_getElem (by rw [← Hn.out]; omega)⟩
      have e0 : wr.cell? ⟨ba, oa + k, none⟩ = some (.int .i64 s) := by rw [hbr.cellAt ba _ hla]; exact hcella k _ (by simp [icells, hs])
      have f0 : wr.cell? ⟨bb, ob + k, none⟩ = some (.int .i64 s) := by rw [hbr.cellAt bb _ hlb]; exact hcellb k _ (by simp [icells, hs])
      have kn : (k : Int) < (n : Int) := by omega
      have r0 := fun d os => cell_regrown e0 d os
      have r1 := fun d os => cell_regrown f0 d os
      clear hs hcella hcellb
      go_wp2_with fail
      refine wp_region_lex [] 9 (by kernel_rfl) (by kernel_rfl) ?_
      simp only [List.take_succ_cons, List.take_zero, List.drop_succ_cons, List.drop_zero]
      with_reducible refine lex_seg 9 _ _ _ _ (by kernel_rfl) ?_
      simp only [List.take_succ_cons, List.take_zero, List.drop_succ_cons, List.drop_zero]
      try simp only [Act.put, List.setIfInBounds_toArray, List.set_cons_succ, List.set_cons_zero]
      repeat (go_big_quiet_step (fail))
      with_reducible refine wpQuiet_nil ?_
      with_reducible refine lex_nil ?_
      clear r0 r1
      go_wp2
      go_roundw
      case rel => exact ⟨k + 1, by omega, by go_num, (by repeat (first | (with_reducible exact Bel.refl _) | (with_reducible assumption) | (with_reducible refine Bel.drewN ?_ _) | (with_reducible refine Bel.drew ?_) | (with_reducible refine Bel.alloc ?_ _) | (with_reducible refine Bel.setNew ?_ ?_ _) | (with_reducible refine Bel.trans ?_ (by assumption)) | (focus (simp; done)) | (focus (simp; omega))))⟩
      case measure => simp [intOf]; omega
    · obtain rfl : k = n := by omega
      have jk : decide ((k : Int) < (k : Int)) = false := by simp
      go_wp2
      go_ret
      exact ⟨rfl, hbr⟩
end Go.Proofs.Ytbijfmpmgmfpgaa
