/- plug.Drain. -/
import Derived.Test.YtbijfmpmgmfpgaaPlG
namespace Go.Proofs.Ytbijfmpmgmfpgaa
open Go.RowKit Go.Maps
set_option linter.unusedSimpArgs false

def drainP (P : List Bu) : List Bu := (ordP P).map fun i : Nat => P.getD i zeroU

set_option maxRecDepth 100000 in
set_option maxHeartbeats 16000000 in
theorem drain_any (L : List BM) (v : Value) (w : World) (h : BL w v L) (hn : L.length ≤ 100) (hms : ∀ x ∈ L, x.ms.length ≤ 1000) :
    Calls Try.prog 32 #[.agg #[v]] w fun e w' => ∃ v' L', e = .returned (.tuple #[.agg #[.slice none 0 0], v']) ∧ BN w' w.heap.size v' L' ∧ L'.map BM.bu = drainP (L.map BM.bu) ∧ Bel w w' := by
  have HO := Lib.hid (fun w' (hb : Bel w w') => order_any L v w' (h.bel hb) hn)
  obtain ⟨A, c, rfl, _, _⟩ := h.form
  obtain ⟨P, HP⟩ : ∃ P, Hid (P = L.map BM.bu) := ⟨_, rfl⟩
  obtain ⟨n, Hn⟩ : ∃ n, Hid (n = L.length) := ⟨_, rfl⟩
  have HAT := Lib.hid (fun k m (hk : L[k]? = some m) => h.at hk)
  have HMS := Lib.hid hms
  rw [← HP.out] at HO ⊢
  rw [← Hn.out] at hn HAT HO ⊢
  have HNP : Hid (P.length = n) := by show _ = _; rw [HP.out, List.length_map]; exact Hn.out.symm
  have HOK := Lib.hid (ordR_ok P P.length (Nat.le_refl _))
  have HLO : Hid ((ordP P).length = n) := by show _ = _; rw [← HNP.out]; exact HOK.out.olen
  have HLT : Hid (∀ i ∈ ordP P, i < n) := by intro i hi; rw [← HNP.out]; exact HOK.out.lt i hi
  obtain ⟨i0, hi0, hz0, hz1, hz2⟩ := info_parts Try.infoBunchP
  have hA := (AtF.new_at (w := w) rfl 48 [.slice A n c]).alloc (.cells [.slice none 0 0].toArray 48)
  have hB := AtF.new_at (w := w.alloc (.cells [.slice A n c].toArray 48)) (g := w.heap.size + 1) (by simp) 48 [.slice none 0 0]
  have hbw : Bel w ((w.alloc (.cells [.slice A n c].toArray 48)).alloc (.cells [.slice none 0 0].toArray 48)) := (by repeat (first | (with_reducible exact Bel.refl _) | (with_reducible assumption) | (with_reducible refine Bel.drewN ?_ _) | (with_reducible refine Bel.drew ?_) | (with_reducible refine Bel.alloc ?_ _) | (with_reducible refine Bel.setNew ?_ ?_ _) | (with_reducible refine Bel.trans ?_ (by assumption)) | (focus (simp; done)) | (focus (simp; omega))))
  simp only [List.toArray] at hA hB hbw
  clear h hms
  go_enter Try.func32, Try.ntmps32
  go_wp2_with fail
  refine (HO.out _ hbw).mono ?_; rintro e w1 ⟨v', rfl, hown, hb1⟩
  have hA1 := hA.bel hb1
  have hB1 := hB.bel hb1
  have hbw1 := hbw.trans hb1
  obtain ⟨Ai, ci, rfl⟩ := own_slice hown
  have HI := Lib.hid hown
  have HA := Lib.hid hA1
  have HB := Lib.hid hB1
  clear hA hB hbw hb1 hA1 hB1 hown HO
  go_wp2
  go_loopw [11, 4] (fun iv ov wr => ∃ (k : Nat) (L' : List BM), iv = .int .i64 k ∧ k ≤ n ∧ Hid (L'.map BM.bu = ((ordP P).take k).map fun i : Nat => P.getD i zeroU) ∧ BN wr w1.heap.size ov L' ∧ Bel w1 wr) (fun iv _ _ => n - (intOf iv).toNat)
  case atStart => exact ⟨0, [], rfl, by omega, by simp [Hid], ⟨BO.nil _ _, fun j x hj => by simp at hj⟩, Bel.refl _⟩
  case round =>
    obtain ⟨k, L', rfl, p1, HL, hBN, hbr⟩ := hrel
    have HLK : Hid (L'.length = k) := by
      have := congrArg List.length HL.out
      rw [List.length_map, List.length_map, List.length_take, HLO.out] at this
      show _ = _; omega
    obtain ⟨Ao, co, hov⟩ := own_slice hBN.bo.own
    rw [HLK.out] at hov
    subst hov
    by_cases hlt : k < n
    · have hkn : (k : Int) < (n : Int) := by omega
      obtain ⟨q, hq⟩ : ∃ q, (ordP P)[k]? = some q := ⟨(ordP P)[k]'(by have := HLO.out; omega), List.getElem?_eq_getElem _⟩
      have hqn : q < n := HLT.out q (List.mem_of_getElem? hq)
      have hqi : (q : Int) < (n : Int) := by omega
      obtain ⟨gi, ci', hfi, _, _⟩ := HI.out.form (by omega)
      injection hfi with hf1 hf2 hf3
      subst hf1
      have e0 : wr.cell? ⟨gi, k, none⟩ = some (.int .i64 (q : Int)) := by
        have h0 := (own_keep HI.out hbr).cellAt (g := gi) k (by omega)
        rw [h0]
        simp [icells, oI, hq]
      obtain ⟨x, hx⟩ : ∃ y, L[q]? = some y := ⟨L[q]'(by have := Hn.out; omega), List.getElem?_eq_getElem _⟩
      obtain ⟨g, of, c2, hat⟩ := HAT.out q x hx
      have hf := hat.form
      injection hf with hf1 hf4 hf5
      subst hf1
      have hrow := hat.row.bel (hbw1.trans hbr) hat.lt
      have hmx := hat.mem.bel (hbw1.trans hbr)
      have hmn := HMS.out x (List.mem_of_getElem? hx)
      have HPX : Hid (P.getD q zeroU = x.bu) := by show _ = _; rw [HP.out, List.getD_eq_getElem?_getD, List.getElem?_map, hx]; rfl
      have HQ := Lib.hid hq
      obtain ⟨⟨i1, t1, k1, s1, n1, d1, f1, a1, l1, c3, m1⟩, ms1⟩ := x
      obtain ⟨hl, hr, hi, hd⟩ := hmx
      simp only at hl hr hi hd hmn hrow
      subst hl
      have hm0 : Mems wr (Bu.at ⟨i1, t1, k1, s1, n1, d1, f1, ms1, m1⟩ a1 c3) ms1 := ⟨rfl, hr, hi, hd⟩
      have HCB := Lib.hid (copyBunch_any ⟨i1, t1, k1, s1, n1, d1, f1, ms1, m1⟩ a1 c3 wr hm0 hmn)
      simp only [Bu.at] at HCB
      obtain ⟨l, Hl⟩ : ∃ l, Hid (l = ms1.length) := ⟨_, rfl⟩
      rw [← Hl.out] at HCB hrow
      have hA0 := HA.out.bel hbr
      have a0 := hA0.1.2 0 _ rfl
      have al := hA0.1.1
      have q0 := (hrow).cell 0 rfl
      have q1 := (hrow).cell 1 rfl
      have q2 := (hrow).cell 2 rfl
      have q3 := (hrow).cell 3 rfl
      have q4 := (hrow).cell 4 rfl
      have q5 := (hrow).cell 5 rfl
      have q6 := (hrow).cell 6 rfl
      have q7 := (hrow).cell 7 rfl
      have q8 := (hrow).cell 8 rfl
      rw [Nat.add_zero] at q0
      clear hf2 hf3 hf4 hf5 hx hat hrow hq hr hi hd hmn hm0 hA0
      go_wp2_with fail
      refine HCB.out.mono ?_; rintro e w3 ⟨A9, c9, rfl, hZ, hb3⟩
      have hBN3 := hBN.keep hb3
      have hown3 : w3.ownsRow w1.heap.size 27 9 (.slice Ao k co) k (bmc L') := by have h := hBN3.bo.own; rw [HLK.out] at h; exact h
      have hlt9 := fun k e => (hBN.bo.own.lt k e).2
      have hbr3 := hbr.trans hb3
      have hws3 := hbr3.size
      clear q0 q1 q2 q3 q4 q5 q6 q7 q8 e0 a0 al hBN hb3
      go_wp2_with (at_builtin; go_must (refine wpList_append_own_at _ rfl _ _ 46 rfl w1.heap.size 27 i0 _ 9 96 Try.underlying46 hi0 hz0 hz1 hz2 rfl (by omega) (.slice Ao k co) _ _ rfl (hown3.alloc _) ⟨w3.heap.size, 0, none⟩ 1 1 (Bun.cells ⟨i1, t1, k1, s1, n1, d1, f1, A9, l, c9, m1⟩) rfl rfl (World.news_of_block (cs := #[.int .i64 i1, .int .i64 t1, .int .i64 k1, .int .i64 s1, .int .i64 n1, .string d1, .bool f1, .slice A9 l c9, .int .i64 m1]) (t := 27) (fr := (0, 0)) (heap_alloc_new w3 _)) (bcells_oneP _) (by unfold maxLen; omega) (by omega) (by simp; omega) ?_); intro v' w7 hown' hg' _ hloc; obtain ⟨gn, cn, hvn, _, _⟩ := hown'.form (by omega); subst hvn)
      have hcl : Bun.cells ⟨i1, t1, k1, s1, n1, d1, f1, A9, l, c9, m1⟩ = (Bu.at ⟨i1, t1, k1, s1, n1, d1, f1, ms1, m1⟩ A9 c9).cells := by rw [Hl.out]; rfl
      rw [hcl] at hown'
      have hS := BN.snoc (x := ⟨Bu.at ⟨i1, t1, k1, s1, n1, d1, f1, ms1, m1⟩ A9 c9, ms1⟩) hBN3 hZ.1 hZ.2 hbr.size hlt9 (by rw [HLK.out]; exact hown') hg' hloc
      have hb7 := bel_own (hbr3.alloc _) (hown3.alloc _) hg' (Nat.le_refl _)
      have HL2 : Hid ((L' ++ [(⟨Bu.at ⟨i1, t1, k1, s1, n1, d1, f1, ms1, m1⟩ A9 c9, ms1⟩ : BM)]).map BM.bu = ((ordP P).take (k + 1)).map fun i : Nat => P.getD i zeroU) := by
        show _ = _
        rw [List.take_add_one, HQ.out, List.map_append, List.map_append, HL.out]
        congr 1
        simp only [Option.toList_some, List.map_cons, List.map_nil]
        rw [HPX.out]
        rfl
      go_roundw
      case rel => exact ⟨k + 1, _, by go_num, by omega, HL2, hS, hb7⟩
      case measure => simp [intOf]; omega
    · obtain rfl : k = n := by omega
      have jk : decide ((k : Int) < (k : Int)) = false := by simp
      have hB0 := HB.out.bel hbr
      have b0 := hB0.1.2 0 _ rfl
      have bl := hB0.1.1
      have bf := hB0.2 0
      have hB2 := hB0.set 0 (by simp) (.slice none 0 0)
      have hS := hBN.far (p := ⟨w.heap.size + 1, 0, none⟩) (by have := HB.out.1.1; show w.heap.size + 1 < _; omega) (.slice none 0 0)
      have hb9 := (hbw1.trans hbr).setNew (p := ⟨w.heap.size + 1, 0, none⟩) (by show w.heap.size ≤ w.heap.size + 1; omega) (.slice none 0 0)
      have HL2 : Hid (L'.map BM.bu = drainP P) := by show _ = _; rw [HL.out, List.take_of_length_le (by rw [HLO.out]; exact Nat.le_refl _)]; rfl
      clear hBN
      go_wp2
      have r0 := hB2.1.2 0 _ rfl
      exact bodyPost_ret (v := .tuple #[.agg #[.slice none 0 0], .slice Ao k co]) (by simp [results, Try.results32, go_sem, r0]) rfl ⟨_, L', rfl, hS.mono hbw1.size, HL2.out, hb9⟩
end Go.Proofs.Ytbijfmpmgmfpgaa
