/- The walk of FairIdle. -/
import Derived.Test.YtacbljfpcchbbaaFairH
namespace Go.Proofs.Ytacbljfpcchbbaa
open Go.RowKit
set_option linter.unusedSimpArgs false

theorem madeF_fok (n : Int) : Fok 0 (madeF n) := by
  obtain ⟨a, b, c, _, _, _, h1, h2, h3, HM⟩ := madeF_eq n
  rw [HM.out]
  refine ⟨rfl, ?_⟩
  intro k x y hk
  match k with
  | 0 => simp [newF] at hk; omega
  | 1 => simp [newF] at hk; omega
  | 2 => simp [newF] at hk; omega
  | k + 3 => simp [newF] at hk

theorem idle_new {W w5 : World} {B : Nat} {T : TypeId} {cs : List Value} {a b v : Value} {xs : List Value} (hA : AtF W B cs) (hb : Bel W.drew w5) (hR : Rd w5 v 2 3 xs) :
    AtF (w5.alloc (.cells #[a, b] T)) B cs ∧ AtF (w5.alloc (.cells #[a, b] T)) w5.heap.size [a, b] ∧ Rd (w5.alloc (.cells #[a, b] T)) v 2 3 xs ∧ Bel W (w5.alloc (.cells #[a, b] T)) :=
  ⟨(hA.drew.bel hb).alloc _, AtF.new w5 T [a, b], hR.alloc _, ((Bel.drew (Bel.refl _)).trans hb).alloc _⟩
theorem idle_old {W w5 : World} {B base : Nat} {T e : TypeId} {cs : List Value} {a b c d v : Value} {xs : List Value} (hA : AtF W B cs) (hb : Bel (W.drew.alloc (.cells #[c, d] T)) w5) (ho : w5.ownsRow base e 2 v 3 xs) (hB : W.heap.size < base) :
    AtF ((w5.setCell ⟨W.heap.size, 0, none⟩ a).setCell ⟨W.heap.size, 1, none⟩ b) B cs ∧ AtF ((w5.setCell ⟨W.heap.size, 0, none⟩ a).setCell ⟨W.heap.size, 1, none⟩ b) W.heap.size [a, b] ∧ Rd ((w5.setCell ⟨W.heap.size, 0, none⟩ a).setCell ⟨W.heap.size, 1, none⟩ b) v 2 3 xs ∧ Bel W ((w5.setCell ⟨W.heap.size, 0, none⟩ a).setCell ⟨W.heap.size, 1, none⟩ b) := by
  have hne : B ≠ W.heap.size := by have := hA.1.1; omega
  have h1 := (hA.drew.alloc (.cells #[c, d] T)).bel hb
  have h2 := (AtF.new W.drew T [c, d]).bel hb
  simp at h2
  exact ⟨(h1.other hne _ _).other hne _ _, (h2.set 0 (by simp) a).set 1 (by simp) b, ((Rd.own ho).far (own_ne ho (.inl hB)) _).far (own_ne ho (.inl hB)) _,
    ((((Bel.drew (Bel.refl W)).alloc _).trans hb).setNew (Nat.le_refl _) _).setNew (Nat.le_refl _) _⟩

set_option maxRecDepth 100000 in
set_option maxHeartbeats 4000000 in
theorem fairIdle_walk (n : Int) (v : Value) (zs : List Int) (tn ct st : Int) (w : World) (_ : IsInt n) (hz : Ints w v zs) (_ : IsInt tn) (_ : IsInt ct) (_ : IsInt st) :
    Calls Try.prog 3 #[.int .i64 n, v, .int .i64 tn, .int .i64 ct, .int .i64 st] w fun e w' => e = .returned (.bool true) ∧ Bel w w' := by
  have HI := Lib.hid hz
  clear hz
  have hf1 := stN_ok (zs.take 30) (madeF_fok n) (by omega) (by simp; omega)
  have hl30 : (zs.take 30).length ≤ 30 := by simp; omega
  have hf2 := hf1.mono (B' := 201600) (by omega)
  have HFK := Lib.hid hf2
  clear hf1 hf2 hl30
  have s1 := rnd_lo st 20000
  have s2 := rnd_hi st 20000 (by omega)
  obtain ⟨s, Hs⟩ : ∃ s, Hid (s = rnd st 20000) := ⟨_, rfl⟩
  rw [← Hs.out] at s1 s2
  have t1 := rnd_lo tn 3
  have t2 := rnd_hi tn 3 (by omega)
  obtain ⟨k, hk⟩ : ∃ k : Nat, (k : Int) = rnd tn 3 := ⟨(rnd tn 3).toNat, by omega⟩
  have Hk := Lib.hid hk
  rw [← hk] at t1 t2
  clear hk
  have c1 := rnd_lo ct 8
  have c2 := rnd_hi ct 8 (by omega)
  obtain ⟨c, Hc⟩ : ∃ c, Hid (c = rnd ct 8) := ⟨_, rfl⟩
  rw [← Hc.out] at c1 c2
  obtain ⟨F, HF⟩ : ∃ F, Hid (F = stN (madeF n) (zs.take 30)) := ⟨_, rfl⟩
  rw [← HF.out] at HFK
  obtain ⟨x, y, hx, x1, x2, y1, y2⟩ := HFK.out.get (show k < 3 by omega)
  have hst := (HFK.out.stamp (V := s) (c := 1 + c) hx (by omega) (by omega) (by omega) (by omega) (by omega))
  have HX := Lib.hid hx
  have HY := Lib.hid (show (F.set k (x, max s y + (1 + c) * 840 / x))[k]? = some (x, max s y + (1 + c) * 840 / x) from List.getElem?_set_self (List.getElem?_eq_some_iff.1 hx).1)
  have HST := Lib.hid hst.1
  obtain ⟨M, hM⟩ : ∃ M, M = max s y := ⟨_, rfl⟩
  obtain ⟨D, hD⟩ : ∃ D, D = (1 + c) * 840 / x := ⟨_, rfl⟩
  have d1 : 0 ≤ D := by rw [hD]; exact Int.ediv_nonneg (by omega) (by omega)
  have d2 : D ≤ 6720 := by rw [hD]; exact Int.le_trans (Int.ediv_le_self _ (by omega)) (by omega)
  have m1 : 0 ≤ M := by omega
  have m2 : M ≤ 201600 := by omega
  rw [← hM, ← hD] at HST HY
  have HM := Lib.hid hM
  have HD := Lib.hid hD
  clear hM hD hx hst
  have hlen : F.length = 3 := HFK.out.1
  go_enter Try.func3, Try.ntmps3
  go_wp2_with fail
  refine (madeFair_any n _).mono ?_; rintro e w1 ⟨v1, rfl, hown1, hb1⟩
  go_wp2_with fail
  refine (stamped_any (madeF n) v1 v zs _ (madeF_fok n) (Rd.own hown1) (HI.out.bel hb1)).mono ?_; rw [← HF.out]; rintro e w2 ⟨v2, q2, rfl, hR2, _, hb2⟩
  have hbw2 : Bel w w2 := hb1.trans hb2
  obtain ⟨A2, cp2, rfl, _, _⟩ := hR2.form
  clear hown1 hb1 hb2
  go_wp2_with fail
  refine (round_any st 20000 _ (by omega)).mono ?_; rw [← Hs.out]; rintro e w9 ⟨rfl, rfl⟩
  go_wp2_with fail
  refine (fairServe_any 0 s F _ _ (by rw [hlen]; exact hR2.alloc _) (by omega)).mono ?_; rw [hlen, show (if 0 < s ∧ s ≤ 1125899906842624 then s else 0) = s from by split <;> omega]; rintro e w3 ⟨v3, rfl, hown3, hb3⟩
  obtain ⟨A3, cp3, rfl⟩ := own_slice hown3
  have hA3 := (AtF.new w2 25 [.int .i64 0, .slice A2 3 cp2]).bel hb3
  have hA4 := (hA3.set 0 (by simp) (.int .i64 s)).set 1 (by simp) (.slice A3 3 cp3)
  have hne3 : ∀ p : Nat, p = w2.heap.size → (Value.slice A3 3 cp3).ownBlock ≠ some p := by rintro p rfl; exact own_ne hown3 (.inl (by simp))
  have hR4 := ((Rd.own hown3).far (p := ⟨w2.heap.size, 0, none⟩) (hne3 _ rfl) (.int .i64 s)).far (p := ⟨w2.heap.size, 1, none⟩) (hne3 _ rfl) (.slice A3 3 cp3)
  have hW4 : Bel w ((w3.setCell ⟨w2.heap.size, 0, none⟩ (.int .i64 s)).setCell ⟨w2.heap.size, 1, none⟩ (.slice A3 3 cp3)) := ((((hbw2.alloc _).trans hb3).setNew hbw2.size _).setNew hbw2.size _)
  have a0 := hA3.1.2 0 _ rfl
  have a1 := hA3.1.2 1 _ rfl
  have af := hA3.2
  have al := hA3.1.1
  go_wp2_with fail
  simp only [List.set_cons_zero, List.set_cons_succ] at hA4
  clear hA3 a0 a1 af al hown3 hb3 hne3 hR2 hbw2
  generalize (w3.setCell ⟨w2.heap.size, 0, none⟩ (.int .i64 s)).setCell ⟨w2.heap.size, 1, none⟩ (.slice A3 3 cp3) = W at *
  generalize w2.heap.size = B at *
  refine (round_any tn 3 _ (by omega)).mono ?_; rw [← Hk.out]; rintro e w9 ⟨rfl, rfl⟩
  obtain ⟨b, o, cp4, hv4, hlb, hcell⟩ := hR4.at (by omega)
  cases hv4
  have fl0 := hcell _ _ (fcells_at0 _ _ _ HX.out)
  have fl1 := hcell _ _ (fcells_at1 _ _ _ HX.out)
  rw [← Nat.add_assoc] at fl1
  have k1 : (k : Int) < ((3 : Nat) : Int) := by omega
  clear hcell
  have a0 := hA4.1.2 0 _ rfl
  have a1 := hA4.1.2 1 _ rfl
  have af := hA4.2
  have al := hA4.1.1
  go_wp2_with fail
  have rg0 := fun d os => cell_regrown a0 d os
  have rg1 := fun d os => cell_regrown a1 d os
  have rg2 := fun d os => cell_regrown fl0 d os
  have rg3 := fun d os => cell_regrown fl1 d os
  have x0 : (x == 0) = false := by simp; omega
  have hm9 : (if s < y then y else s) = M := by have := HM.out; split <;> omega
  have e2 : IntKind.i64.wrap ((1 + c) * 840) = (1 + c) * 840 := IntWalk.i64_in _ (by omega)
  have e3 : ((1 + c) * 840).tdiv x = D := by rw [HD.out, Int.tdiv_eq_ediv_of_nonneg (by omega)]
  have e4 : IntKind.i64.wrap D = D := IntWalk.i64_in _ (by omega)
  have e5 : IntKind.i64.wrap (M + D) = M + D := IntWalk.i64_in _ (by omega)
  have e1 : IntKind.i64.wrap (1 + c) = 1 + c := IntWalk.i64_in _ (by omega)
  refine wp_region_st [3, 5, 10, 11] 14 (by kernel_rfl) (by kernel_rfl) ?_
  refine st_sel [0, 1, 2] (by kernel_rfl) (by kernel_rfl) ?_
  simp only [picked, List.getElem?_cons_succ, List.getElem?_cons_zero, Option.toList_some, List.nil_append, List.cons_append, List.append_nil]
  try simp only [Act.put, List.setIfInBounds_toArray, List.set_cons_succ, List.set_cons_zero]
  repeat (go_big_quiet_step (fail))
  refine wpQuiet_nil ?_
  refine st_branch [3, 10] (by kernel_rfl) (branch_cons (by simp only [List.getElem?_toArray, List.getElem?_cons_succ, List.getElem?_cons_zero]; rfl) ?_ (branch_cons (by simp only [List.getElem?_toArray, List.getElem?_cons_succ, List.getElem?_cons_zero]; rfl) ?_ branch_nil))
  · skip
    refine eff_call 12 rfl (by simp [go_sem]; rfl) (by repeat (first | (with_reducible exact Bel.refl _) | (with_reducible assumption) | (with_reducible refine Bel.drewN ?_ _) | (with_reducible refine Bel.drew ?_) | (with_reducible refine Bel.alloc ?_ _) | (with_reducible refine Bel.setNew ?_ ?_ _) | (with_reducible refine Bel.trans ?_ (by assumption)) | (focus (simp; done)) | (focus (simp; omega)))) ?_
    refine (round_any ct 8 _ (by omega)).mono ?_; rintro e wq ⟨rfl, rfl⟩
    refine ⟨_, rfl, Bel.refl _, ?_⟩
    try simp only [List.nil_append, List.cons_append, Act.put, List.setIfInBounds_toArray, List.set_cons_succ, List.set_cons_zero]
    rw [← Hc.out]
    refine st_sel [4] (by kernel_rfl) (by kernel_rfl) ?_
    simp only [picked, List.getElem?_cons_succ, List.getElem?_cons_zero, Option.toList_some, List.nil_append, List.cons_append, List.append_nil]
    try simp only [Act.put, List.setIfInBounds_toArray, List.set_cons_succ, List.set_cons_zero]
    repeat (go_big_quiet_step (fail))
    refine wpQuiet_nil ?_
    refine st_branch [5, 10] (by kernel_rfl) (branch_cons (by simp only [List.getElem?_toArray, List.getElem?_cons_succ, List.getElem?_cons_zero]; rfl) ?_ (branch_cons (by simp only [List.getElem?_toArray, List.getElem?_cons_succ, List.getElem?_cons_zero]; rfl) ?_ branch_nil))
    · skip
      refine eff_call 14 rfl (by simp [go_sem]; rfl) (by repeat (first | (with_reducible exact Bel.refl _) | (with_reducible assumption) | (with_reducible refine Bel.drewN ?_ _) | (with_reducible refine Bel.drew ?_) | (with_reducible refine Bel.alloc ?_ _) | (with_reducible refine Bel.setNew ?_ ?_ _) | (with_reducible refine Bel.trans ?_ (by assumption)) | (focus (simp; done)) | (focus (simp; omega)))) ?_
      refine (fairStamp_any s k (1 + c) F _ _ (by rw [hlen]; exact hR4.bel (by repeat (first | (with_reducible exact Bel.refl _) | (with_reducible assumption) | (with_reducible refine Bel.drewN ?_ _) | (with_reducible refine Bel.drew ?_) | (with_reducible refine Bel.alloc ?_ _) | (with_reducible refine Bel.setNew ?_ ?_ _) | (with_reducible refine Bel.trans ?_ (by assumption)) | (focus (simp; done)) | (focus (simp; omega))))) (by omega)).mono ?_; rw [hlen, HST.out]; rintro e w5 ⟨v5, rfl, hown5, hb5⟩
      obtain ⟨A5, cp5, rfl⟩ := own_slice hown5
      refine ⟨_, rfl, hb5, ?_⟩
      try simp only [List.nil_append, List.cons_append, Act.put, List.setIfInBounds_toArray, List.set_cons_succ, List.set_cons_zero]
      refine st_sel [6, 7, 8, 9] (by kernel_rfl) (by kernel_rfl) ?_
      simp only [picked, List.getElem?_cons_succ, List.getElem?_cons_zero, Option.toList_some, List.nil_append, List.cons_append, List.append_nil]
      try simp only [Act.put, List.setIfInBounds_toArray, List.set_cons_succ, List.set_cons_zero]
      repeat (go_big_quiet_step (fail))
      refine wpQuiet_nil ?_
      refine st_branch [10] (by kernel_rfl) (branch_cons (by simp only [List.getElem?_toArray, List.getElem?_cons_succ, List.getElem?_cons_zero]; rfl) ?_ branch_nil)
      refine eff_made rfl (by simp [go_sem]; exact ⟨rfl, rfl⟩) (by repeat (first | (with_reducible exact Bel.refl _) | (with_reducible assumption) | (with_reducible refine Bel.drewN ?_ _) | (with_reducible refine Bel.drew ?_) | (with_reducible refine Bel.alloc ?_ _) | (with_reducible refine Bel.setNew ?_ ?_ _) | (with_reducible refine Bel.trans ?_ (by assumption)) | (focus (simp; done)) | (focus (simp; omega)))) ?_
      try simp only [List.nil_append, List.cons_append, Act.put, List.setIfInBounds_toArray, List.set_cons_succ, List.set_cons_zero]
      refine st_branch [11] (by kernel_rfl) (branch_cons (by simp only [List.getElem?_toArray, List.getElem?_cons_succ, List.getElem?_cons_zero]; rfl) ?_ branch_nil)
      refine eff_done rfl (by simp [go_sem]; rfl) (by repeat (first | (with_reducible exact Bel.refl _) | (with_reducible assumption) | (with_reducible refine Bel.drewN ?_ _) | (with_reducible refine Bel.drew ?_) | (with_reducible refine Bel.alloc ?_ _) | (with_reducible refine Bel.setNew ?_ ?_ _) | (with_reducible refine Bel.trans ?_ (by assumption)) | (focus (simp; done)) | (focus (simp; omega)))) ?_
      try simp only [List.nil_append, List.cons_append, Act.put, List.setIfInBounds_toArray, List.set_cons_succ, List.set_cons_zero]
      refine st_sel [12, 13] (by kernel_rfl) (by kernel_rfl) ?_
      simp only [picked, List.getElem?_cons_succ, List.getElem?_cons_zero, Option.toList_some, List.nil_append, List.cons_append, List.append_nil]
      try simp only [Act.put, List.setIfInBounds_toArray, List.set_cons_succ, List.set_cons_zero]
      repeat (go_big_quiet_step (fail))
      refine wpQuiet_nil ?_
      refine st_end (by kernel_rfl) ?_
      simp only [List.drop_succ_cons, List.drop_zero, List.drop_nil]
      have H9 := idle_new (T := 25) (a := .int .i64 s) (b := .slice A5 3 cp5) hA4 hb5 (Rd.own hown5)
      generalize w5.alloc _ = W5 at H9 ⊢
      generalize w5.heap.size = P at H9 ⊢
      obtain ⟨hA9, hP9, hG9, hb9⟩ := H9
      have hR9 := hR4.bel hb9
      clear rg0 rg1 rg2 rg3 a0 a1 af al fl0 fl1
      have a0 := hA9.1.2 0 _ rfl
      have a1 := hA9.1.2 1 _ rfl
      have af := hA9.2
      have al := hA9.1.1
      have p0 := hP9.1.2 0 _ rfl
      have p1 := hP9.1.2 1 _ rfl
      have pf := hP9.2
      have pl := hP9.1.1
      obtain ⟨b', o', cc', hv', hlb', hcell'⟩ := hR9.at (by omega)
      cases hv'
      obtain ⟨gb, go, gc, hgv, hglb, hgcell⟩ := hG9.at (by omega)
      cases hgv
      have fl0 := hcell' _ _ (fcells_at0 _ _ _ HX.out)
      have gl1 := hgcell _ _ (fcells_at1 _ _ _ HY.out)
      rw [← Nat.add_assoc] at gl1
      clear hcell' hgcell
      go_wp2_with fail
      have rg0 := fun d os => cell_regrown a0 d os
      have rg1 := fun d os => cell_regrown a1 d os
      have rg2 := fun d os => cell_regrown fl0 d os
      have rg3 := fun d os => cell_regrown gl1 d os
      have rg4 := fun d os => cell_regrown p0 d os
      have rg5 := fun d os => cell_regrown p1 d os
      refine wp_region_lex [30, 44] 47 (by kernel_rfl) (by kernel_rfl) ?_
      simp only [List.take_succ_cons, List.take_zero, List.drop_succ_cons, List.drop_zero]
      refine lex_seg 30 _ _ _ _ (by kernel_rfl) ?_
      simp only [List.take_succ_cons, List.take_zero, List.drop_succ_cons, List.drop_zero]
      try simp only [Act.put, List.setIfInBounds_toArray, List.set_cons_succ, List.set_cons_zero]
      repeat (go_big_quiet_step (fail))
      refine wpQuiet_nil ?_
      refine lex_call 12 rfl rfl (by simp [go_sem]; rfl) ?_
      refine (round_any ct 8 _ (by omega)).mono ?_; rintro e w7 ⟨rfl, rfl⟩
      refine ⟨_, rfl, Bel.refl _, ?_⟩
      rw [← Hc.out]
      refine lex_seg 13 _ _ _ _ (by kernel_rfl) ?_
      simp only [List.take_succ_cons, List.take_zero, List.drop_succ_cons, List.drop_zero]
      try simp only [Act.put, List.setIfInBounds_toArray, List.set_cons_succ, List.set_cons_zero]
      repeat (go_big_quiet_step (fail))
      refine wpQuiet_nil ?_
      refine lex_call 15 rfl rfl (by simp [go_sem]; rfl) ?_
      refine (awakeFair_any _).mono ?_; rintro e w6 ⟨rfl, hb6⟩
      refine ⟨_, rfl, hb6, ?_⟩
      refine lex_seg 2 _ _ _ _ (by kernel_rfl) ?_
      simp only [List.take_succ_cons, List.take_zero, List.drop_succ_cons, List.drop_zero]
      try simp only [Act.put, List.setIfInBounds_toArray, List.set_cons_succ, List.set_cons_zero]
      repeat (go_big_quiet_step (fail))
      refine wpQuiet_nil ?_
      refine lex_nil ?_
      go_wp2
      go_ret
      exact ⟨rfl, hW4.trans (hb9.trans ((Bel.drew (Bel.refl _)).trans hb6))⟩
    · skip
      refine eff_made rfl (by simp [go_sem]; exact ⟨rfl, rfl⟩) (by repeat (first | (with_reducible exact Bel.refl _) | (with_reducible assumption) | (with_reducible refine Bel.drewN ?_ _) | (with_reducible refine Bel.drew ?_) | (with_reducible refine Bel.alloc ?_ _) | (with_reducible refine Bel.setNew ?_ ?_ _) | (with_reducible refine Bel.trans ?_ (by assumption)) | (focus (simp; done)) | (focus (simp; omega)))) ?_
      try simp only [List.nil_append, List.cons_append, Act.put, List.setIfInBounds_toArray, List.set_cons_succ, List.set_cons_zero]
      refine st_branch [5] (by kernel_rfl) (branch_cons (by simp only [List.getElem?_toArray, List.getElem?_cons_succ, List.getElem?_cons_zero]; rfl) ?_ branch_nil)
      refine eff_call 14 rfl (by simp [go_sem]; rfl) (by repeat (first | (with_reducible exact Bel.refl _) | (with_reducible assumption) | (with_reducible refine Bel.drewN ?_ _) | (with_reducible refine Bel.drew ?_) | (with_reducible refine Bel.alloc ?_ _) | (with_reducible refine Bel.setNew ?_ ?_ _) | (with_reducible refine Bel.trans ?_ (by assumption)) | (focus (simp; done)) | (focus (simp; omega)))) ?_
      refine (fairStamp_any s k (1 + c) F _ _ (by rw [hlen]; exact hR4.bel (by repeat (first | (with_reducible exact Bel.refl _) | (with_reducible assumption) | (with_reducible refine Bel.drewN ?_ _) | (with_reducible refine Bel.drew ?_) | (with_reducible refine Bel.alloc ?_ _) | (with_reducible refine Bel.setNew ?_ ?_ _) | (with_reducible refine Bel.trans ?_ (by assumption)) | (focus (simp; done)) | (focus (simp; omega))))) (by omega)).mono ?_; rw [hlen, HST.out]; rintro e w5 ⟨v5, rfl, hown5, hb5⟩
      obtain ⟨A5, cp5, rfl⟩ := own_slice hown5
      refine ⟨_, rfl, hb5, ?_⟩
      try simp only [List.nil_append, List.cons_append, Act.put, List.setIfInBounds_toArray, List.set_cons_succ, List.set_cons_zero]
      refine st_sel [6, 7, 8, 9] (by kernel_rfl) (by kernel_rfl) ?_
      simp only [picked, List.getElem?_cons_succ, List.getElem?_cons_zero, Option.toList_some, List.nil_append, List.cons_append, List.append_nil]
      try simp only [Act.put, List.setIfInBounds_toArray, List.set_cons_succ, List.set_cons_zero]
      repeat (go_big_quiet_step (fail))
      refine wpQuiet_nil ?_
      refine st_branch [11] (by kernel_rfl) (branch_cons (by simp only [List.getElem?_toArray, List.getElem?_cons_succ, List.getElem?_cons_zero]; rfl) ?_ branch_nil)
      have e0 := hb5.cellAt W.heap.size 0 (by simp)
      have e1 := hb5.cellAt W.heap.size 1 (by simp)
      have f0 := hb5.frozenAt W.heap.size 0 (by simp)
      have f1 := hb5.frozenAt W.heap.size 1 (by simp)
      simp [go_sem] at e0 e1 f0 f1
      refine eff_done rfl (by simp [go_sem, e0, e1, f0, f1]; rfl) (by repeat (first | (with_reducible exact Bel.refl _) | (with_reducible assumption) | (with_reducible refine Bel.drewN ?_ _) | (with_reducible refine Bel.drew ?_) | (with_reducible refine Bel.alloc ?_ _) | (with_reducible refine Bel.setNew ?_ ?_ _) | (with_reducible refine Bel.trans ?_ (by assumption)) | (focus (simp; done)) | (focus (simp; omega)))) ?_
      try simp only [List.nil_append, List.cons_append, Act.put, List.setIfInBounds_toArray, List.set_cons_succ, List.set_cons_zero]
      clear e0 e1 f0 f1
      refine st_sel [12, 13] (by kernel_rfl) (by kernel_rfl) ?_
      simp only [picked, List.getElem?_cons_succ, List.getElem?_cons_zero, Option.toList_some, List.nil_append, List.cons_append, List.append_nil]
      try simp only [Act.put, List.setIfInBounds_toArray, List.set_cons_succ, List.set_cons_zero]
      repeat (go_big_quiet_step (fail))
      refine wpQuiet_nil ?_
      refine st_end (by kernel_rfl) ?_
      simp only [List.drop_succ_cons, List.drop_zero, List.drop_nil]
      have H9 := idle_old (a := .int .i64 s) (b := .slice A5 3 cp5) hA4 hb5 hown5 (by simp)
      generalize World.setCell _ _ _ = W5 at H9 ⊢
      generalize W.heap.size = P at H9 ⊢
      obtain ⟨hA9, hP9, hG9, hb9⟩ := H9
      have hR9 := hR4.bel hb9
      clear rg0 rg1 rg2 rg3 a0 a1 af al fl0 fl1
      have a0 := hA9.1.2 0 _ rfl
      have a1 := hA9.1.2 1 _ rfl
      have af := hA9.2
      have al := hA9.1.1
      have p0 := hP9.1.2 0 _ rfl
      have p1 := hP9.1.2 1 _ rfl
      have pf := hP9.2
      have pl := hP9.1.1
      obtain ⟨b', o', cc', hv', hlb', hcell'⟩ := hR9.at (by omega)
      cases hv'
      obtain ⟨gb, go, gc, hgv, hglb, hgcell⟩ := hG9.at (by omega)
      cases hgv
      have fl0 := hcell' _ _ (fcells_at0 _ _ _ HX.out)
      have gl1 := hgcell _ _ (fcells_at1 _ _ _ HY.out)
      rw [← Nat.add_assoc] at gl1
      clear hcell' hgcell
      go_wp2_with fail
      have rg0 := fun d os => cell_regrown a0 d os
      have rg1 := fun d os => cell_regrown a1 d os
      have rg2 := fun d os => cell_regrown fl0 d os
      have rg3 := fun d os => cell_regrown gl1 d os
      have rg4 := fun d os => cell_regrown p0 d os
      have rg5 := fun d os => cell_regrown p1 d os
      refine wp_region_lex [30, 44] 47 (by kernel_rfl) (by kernel_rfl) ?_
      simp only [List.take_succ_cons, List.take_zero, List.drop_succ_cons, List.drop_zero]
      refine lex_seg 30 _ _ _ _ (by kernel_rfl) ?_
      simp only [List.take_succ_cons, List.take_zero, List.drop_succ_cons, List.drop_zero]
      try simp only [Act.put, List.setIfInBounds_toArray, List.set_cons_succ, List.set_cons_zero]
      repeat (go_big_quiet_step (fail))
      refine wpQuiet_nil ?_
      refine lex_call 12 rfl rfl (by simp [go_sem]; rfl) ?_
      refine (round_any ct 8 _ (by omega)).mono ?_; rintro e w7 ⟨rfl, rfl⟩
      refine ⟨_, rfl, Bel.refl _, ?_⟩
      rw [← Hc.out]
      refine lex_seg 13 _ _ _ _ (by kernel_rfl) ?_
      simp only [List.take_succ_cons, List.take_zero, List.drop_succ_cons, List.drop_zero]
      try simp only [Act.put, List.setIfInBounds_toArray, List.set_cons_succ, List.set_cons_zero]
      repeat (go_big_quiet_step (fail))
      refine wpQuiet_nil ?_
      refine lex_call 15 rfl rfl (by simp [go_sem]; rfl) ?_
      refine (awakeFair_any _).mono ?_; rintro e w6 ⟨rfl, hb6⟩
      refine ⟨_, rfl, hb6, ?_⟩
      refine lex_seg 2 _ _ _ _ (by kernel_rfl) ?_
      simp only [List.take_succ_cons, List.take_zero, List.drop_succ_cons, List.drop_zero]
      try simp only [Act.put, List.setIfInBounds_toArray, List.set_cons_succ, List.set_cons_zero]
      repeat (go_big_quiet_step (fail))
      refine wpQuiet_nil ?_
      refine lex_nil ?_
      go_wp2
      go_ret
      exact ⟨rfl, hW4.trans (hb9.trans ((Bel.drew (Bel.refl _)).trans hb6))⟩
  · skip
    refine eff_made rfl (by simp [go_sem]; exact ⟨rfl, rfl⟩) (by repeat (first | (with_reducible exact Bel.refl _) | (with_reducible assumption) | (with_reducible refine Bel.drewN ?_ _) | (with_reducible refine Bel.drew ?_) | (with_reducible refine Bel.alloc ?_ _) | (with_reducible refine Bel.setNew ?_ ?_ _) | (with_reducible refine Bel.trans ?_ (by assumption)) | (focus (simp; done)) | (focus (simp; omega)))) ?_
    try simp only [List.nil_append, List.cons_append, Act.put, List.setIfInBounds_toArray, List.set_cons_succ, List.set_cons_zero]
    refine st_branch [3] (by kernel_rfl) (branch_cons (by simp only [List.getElem?_toArray, List.getElem?_cons_succ, List.getElem?_cons_zero]; rfl) ?_ branch_nil)
    refine eff_call 12 rfl (by simp [go_sem]; rfl) (by repeat (first | (with_reducible exact Bel.refl _) | (with_reducible assumption) | (with_reducible refine Bel.drewN ?_ _) | (with_reducible refine Bel.drew ?_) | (with_reducible refine Bel.alloc ?_ _) | (with_reducible refine Bel.setNew ?_ ?_ _) | (with_reducible refine Bel.trans ?_ (by assumption)) | (focus (simp; done)) | (focus (simp; omega)))) ?_
    refine (round_any ct 8 _ (by omega)).mono ?_; rintro e wq ⟨rfl, rfl⟩
    refine ⟨_, rfl, Bel.refl _, ?_⟩
    try simp only [List.nil_append, List.cons_append, Act.put, List.setIfInBounds_toArray, List.set_cons_succ, List.set_cons_zero]
    rw [← Hc.out]
    refine st_sel [4] (by kernel_rfl) (by kernel_rfl) ?_
    simp only [picked, List.getElem?_cons_succ, List.getElem?_cons_zero, Option.toList_some, List.nil_append, List.cons_append, List.append_nil]
    try simp only [Act.put, List.setIfInBounds_toArray, List.set_cons_succ, List.set_cons_zero]
    repeat (go_big_quiet_step (fail))
    refine wpQuiet_nil ?_
    refine st_branch [5] (by kernel_rfl) (branch_cons (by simp only [List.getElem?_toArray, List.getElem?_cons_succ, List.getElem?_cons_zero]; rfl) ?_ branch_nil)
    refine eff_call 14 rfl (by simp [go_sem]; rfl) (by repeat (first | (with_reducible exact Bel.refl _) | (with_reducible assumption) | (with_reducible refine Bel.drewN ?_ _) | (with_reducible refine Bel.drew ?_) | (with_reducible refine Bel.alloc ?_ _) | (with_reducible refine Bel.setNew ?_ ?_ _) | (with_reducible refine Bel.trans ?_ (by assumption)) | (focus (simp; done)) | (focus (simp; omega)))) ?_
    refine (fairStamp_any s k (1 + c) F _ _ (by rw [hlen]; exact hR4.bel (by repeat (first | (with_reducible exact Bel.refl _) | (with_reducible assumption) | (with_reducible refine Bel.drewN ?_ _) | (with_reducible refine Bel.drew ?_) | (with_reducible refine Bel.alloc ?_ _) | (with_reducible refine Bel.setNew ?_ ?_ _) | (with_reducible refine Bel.trans ?_ (by assumption)) | (focus (simp; done)) | (focus (simp; omega))))) (by omega)).mono ?_; rw [hlen, HST.out]; rintro e w5 ⟨v5, rfl, hown5, hb5⟩
    obtain ⟨A5, cp5, rfl⟩ := own_slice hown5
    refine ⟨_, rfl, hb5, ?_⟩
    try simp only [List.nil_append, List.cons_append, Act.put, List.setIfInBounds_toArray, List.set_cons_succ, List.set_cons_zero]
    refine st_sel [6, 7, 8, 9] (by kernel_rfl) (by kernel_rfl) ?_
    simp only [picked, List.getElem?_cons_succ, List.getElem?_cons_zero, Option.toList_some, List.nil_append, List.cons_append, List.append_nil]
    try simp only [Act.put, List.setIfInBounds_toArray, List.set_cons_succ, List.set_cons_zero]
    repeat (go_big_quiet_step (fail))
    refine wpQuiet_nil ?_
    refine st_branch [11] (by kernel_rfl) (branch_cons (by simp only [List.getElem?_toArray, List.getElem?_cons_succ, List.getElem?_cons_zero]; rfl) ?_ branch_nil)
    have e0 := hb5.cellAt W.heap.size 0 (by simp)
    have e1 := hb5.cellAt W.heap.size 1 (by simp)
    have f0 := hb5.frozenAt W.heap.size 0 (by simp)
    have f1 := hb5.frozenAt W.heap.size 1 (by simp)
    simp [go_sem] at e0 e1 f0 f1
    refine eff_done rfl (by simp [go_sem, e0, e1, f0, f1]; rfl) (by repeat (first | (with_reducible exact Bel.refl _) | (with_reducible assumption) | (with_reducible refine Bel.drewN ?_ _) | (with_reducible refine Bel.drew ?_) | (with_reducible refine Bel.alloc ?_ _) | (with_reducible refine Bel.setNew ?_ ?_ _) | (with_reducible refine Bel.trans ?_ (by assumption)) | (focus (simp; done)) | (focus (simp; omega)))) ?_
    try simp only [List.nil_append, List.cons_append, Act.put, List.setIfInBounds_toArray, List.set_cons_succ, List.set_cons_zero]
    clear e0 e1 f0 f1
    refine st_sel [12, 13] (by kernel_rfl) (by kernel_rfl) ?_
    simp only [picked, List.getElem?_cons_succ, List.getElem?_cons_zero, Option.toList_some, List.nil_append, List.cons_append, List.append_nil]
    try simp only [Act.put, List.setIfInBounds_toArray, List.set_cons_succ, List.set_cons_zero]
    repeat (go_big_quiet_step (fail))
    refine wpQuiet_nil ?_
    refine st_end (by kernel_rfl) ?_
    simp only [List.drop_succ_cons, List.drop_zero, List.drop_nil]
    have H9 := idle_old (a := .int .i64 s) (b := .slice A5 3 cp5) hA4 hb5 hown5 (by simp)
    generalize World.setCell _ _ _ = W5 at H9 ⊢
    generalize W.heap.size = P at H9 ⊢
    obtain ⟨hA9, hP9, hG9, hb9⟩ := H9
    have hR9 := hR4.bel hb9
    clear rg0 rg1 rg2 rg3 a0 a1 af al fl0 fl1
    have a0 := hA9.1.2 0 _ rfl
    have a1 := hA9.1.2 1 _ rfl
    have af := hA9.2
    have al := hA9.1.1
    have p0 := hP9.1.2 0 _ rfl
    have p1 := hP9.1.2 1 _ rfl
    have pf := hP9.2
    have pl := hP9.1.1
    obtain ⟨b', o', cc', hv', hlb', hcell'⟩ := hR9.at (by omega)
    cases hv'
    obtain ⟨gb, go, gc, hgv, hglb, hgcell⟩ := hG9.at (by omega)
    cases hgv
    have fl0 := hcell' _ _ (fcells_at0 _ _ _ HX.out)
    have gl1 := hgcell _ _ (fcells_at1 _ _ _ HY.out)
    rw [← Nat.add_assoc] at gl1
    clear hcell' hgcell
    go_wp2_with fail
    have rg0 := fun d os => cell_regrown a0 d os
    have rg1 := fun d os => cell_regrown a1 d os
    have rg2 := fun d os => cell_regrown fl0 d os
    have rg3 := fun d os => cell_regrown gl1 d os
    have rg4 := fun d os => cell_regrown p0 d os
    have rg5 := fun d os => cell_regrown p1 d os
    refine wp_region_lex [30, 44] 47 (by kernel_rfl) (by kernel_rfl) ?_
    simp only [List.take_succ_cons, List.take_zero, List.drop_succ_cons, List.drop_zero]
    refine lex_seg 30 _ _ _ _ (by kernel_rfl) ?_
    simp only [List.take_succ_cons, List.take_zero, List.drop_succ_cons, List.drop_zero]
    try simp only [Act.put, List.setIfInBounds_toArray, List.set_cons_succ, List.set_cons_zero]
    repeat (go_big_quiet_step (fail))
    refine wpQuiet_nil ?_
    refine lex_call 12 rfl rfl (by simp [go_sem]; rfl) ?_
    refine (round_any ct 8 _ (by omega)).mono ?_; rintro e w7 ⟨rfl, rfl⟩
    refine ⟨_, rfl, Bel.refl _, ?_⟩
    rw [← Hc.out]
    refine lex_seg 13 _ _ _ _ (by kernel_rfl) ?_
    simp only [List.take_succ_cons, List.take_zero, List.drop_succ_cons, List.drop_zero]
    try simp only [Act.put, List.setIfInBounds_toArray, List.set_cons_succ, List.set_cons_zero]
    repeat (go_big_quiet_step (fail))
    refine wpQuiet_nil ?_
    refine lex_call 15 rfl rfl (by simp [go_sem]; rfl) ?_
    refine (awakeFair_any _).mono ?_; rintro e w6 ⟨rfl, hb6⟩
    refine ⟨_, rfl, hb6, ?_⟩
    refine lex_seg 2 _ _ _ _ (by kernel_rfl) ?_
    simp only [List.take_succ_cons, List.take_zero, List.drop_succ_cons, List.drop_zero]
    try simp only [Act.put, List.setIfInBounds_toArray, List.set_cons_succ, List.set_cons_zero]
    repeat (go_big_quiet_step (fail))
    refine wpQuiet_nil ?_
    refine lex_nil ?_
    go_wp2
    go_ret
    exact ⟨rfl, hW4.trans (hb9.trans ((Bel.drew (Bel.refl _)).trans hb6))⟩
end Go.Proofs.Ytacbljfpcchbbaa
