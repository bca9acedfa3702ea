/- The walk of FairScales. -/
import Derived.Test.YtacbljfpcchbbaaFairO
import Derived.Test.YtacbljfpcchbbaaScl
namespace Go.Proofs.Ytacbljfpcchbbaa
open Go.RowKit
set_option linter.unusedSimpArgs false

theorem box_new {W X w5 : World} {B n : Nat} {T : TypeId} {cs : List Value} {a b v : Value} {xs : List Value} (hA : AtF W B cs) (hX : Bel W X) (hb : Bel X w5) (hR : Rd w5 v 2 n xs) :
    AtF (w5.alloc (.cells #[a, b] T)) B cs ∧ AtF (w5.alloc (.cells #[a, b] T)) w5.heap.size [a, b] ∧ Rd (w5.alloc (.cells #[a, b] T)) v 2 n xs ∧ Bel W (w5.alloc (.cells #[a, b] T)) :=
  ⟨((hA.bel hX).bel hb).alloc _, AtF.new w5 T [a, b], hR.alloc _, (hX.trans hb).alloc _⟩
theorem box_old {W X w5 : World} {B base n : Nat} {T e : TypeId} {cs : List Value} {a b c d v : Value} {xs : List Value} (hA : AtF W B cs) (hX : Bel W X) (hb : Bel (X.alloc (.cells #[c, d] T)) w5) (ho : w5.ownsRow base e 2 v n xs) (hB : X.heap.size < base) :
    AtF ((w5.setCell ⟨X.heap.size, 0, none⟩ a).setCell ⟨X.heap.size, 1, none⟩ b) B cs ∧ AtF ((w5.setCell ⟨X.heap.size, 0, none⟩ a).setCell ⟨X.heap.size, 1, none⟩ b) X.heap.size [a, b] ∧ Rd ((w5.setCell ⟨X.heap.size, 0, none⟩ a).setCell ⟨X.heap.size, 1, none⟩ b) v 2 n xs ∧ Bel W ((w5.setCell ⟨X.heap.size, 0, none⟩ a).setCell ⟨X.heap.size, 1, none⟩ b) := by
  have hne : B ≠ X.heap.size := by have := hA.1.1; have := hX.size; omega
  have h1 := ((hA.bel hX).alloc (.cells #[c, d] T)).bel hb
  have h2 := (AtF.new X T [c, d]).bel hb
  exact ⟨(h1.other hne _ _).other hne _ _, (h2.set 0 (by simp) a).set 1 (by simp) b, ((Rd.own ho).far (own_ne ho (.inl hB)) _).far (own_ne ho (.inl hB)) _,
    (((hX.alloc _).trans hb).setNew hX.size _).setNew hX.size _⟩

theorem ints3_at {W : World} {B : Nat} {a b c : Int} (h0 : W.cell? ⟨B, 0, none⟩ = some (.int .i64 a)) (h1 : W.cell? ⟨B, 1, none⟩ = some (.int .i64 b)) (h2 : W.cell? ⟨B, 2, none⟩ = some (.int .i64 c)) (ha : IsInt a) (hb : IsInt b) (hc : IsInt c) :
    Ints W (.slice (some ⟨B, 0, none⟩) 3 3) [a, b, c] := by
  refine ⟨?_, _, 3, rfl, Nat.le_refl _, by unfold maxLen; omega, fun _ => ⟨B, 0, rfl, World.block_lt_of_cell? _ _ h0, ?_⟩⟩
  · intro z hz
    simp at hz
    rcases hz with rfl | rfl | rfl <;> assumption
  · intro j hj
    match j, hj with
    | 0, _ => simpa using h0
    | 1, _ => simpa using h1
    | 2, _ => simpa using h2
    | j + 3, h => exact absurd h (by simp)

set_option maxRecDepth 100000 in
set_option maxHeartbeats 4000000 in
theorem fairScales_walk (n : Int) (v : Value) (zs : List Int) (w : World) (_ : IsInt n) (hz : Ints w v zs) :
    Calls Try.prog 6 #[.int .i64 n, v] w fun e w' => e = .returned (.bool true) ∧ Bel w w' := by
  have HI := Lib.hid hz
  obtain ⟨i0, hi0, hz0, hz1, hz2⟩ := info_parts Try.infoQueued
  obtain ⟨hzi, A, cp, rfl, hcp, hmx, _⟩ := hz
  unfold maxLen at hmx
  clear hzi
  have s1 := rnd_lo n 4
  have s2 := rnd_hi n 4 (by omega)
  have s3 := rnd_lo (n / 4) 4
  have s4 := rnd_hi (n / 4) 4 (by omega)
  have s5 := rnd_lo (n / 16) 4
  have s6 := rnd_hi (n / 16) 4 (by omega)
  obtain ⟨a, Ha⟩ : ∃ a, Hid (a = rnd n 4) := ⟨_, rfl⟩
  obtain ⟨b, Hb⟩ : ∃ a, Hid (a = rnd (n / 4) 4) := ⟨_, rfl⟩
  obtain ⟨c, Hc⟩ : ∃ a, Hid (a = rnd (n / 16) 4) := ⟨_, rfl⟩
  rw [← Ha.out] at s1 s2
  rw [← Hb.out] at s3 s4
  rw [← Hc.out] at s5 s6
  obtain ⟨f1, f2, hR, k1, k2⟩ := scl_new (a := 1 + a) (b := 1 + b) (c := 1 + c) ⟨by omega, by omega⟩ ⟨by omega, by omega⟩ ⟨by omega, by omega⟩
  have hmap := scl_all (zs.take 30) _ _ 0 0 f1 f2 (by omega) (by simp; omega) hR
  have hN1 := fun (W : World) (vw : Value) (h : Ints W vw [1 + a, 1 + b, 1 + c]) => fairNew_any [1 + a, 1 + b, 1 + c] vw W h (by simp)
  have hN2 := fun (W : World) (vw : Value) (h : Ints W vw [2 * (1 + a), 2 * (1 + b), 2 * (1 + c)]) => fairNew_any [2 * (1 + a), 2 * (1 + b), 2 * (1 + c)] vw W h (by simp)
  rw [k1, if_pos rfl] at hN1
  rw [k2, if_pos rfl] at hN2
  obtain ⟨fa, Hfa⟩ : ∃ f, Hid (f = newF [1 + a, 1 + b, 1 + c]) := ⟨_, rfl⟩
  obtain ⟨fb, Hfb⟩ : ∃ f, Hid (f = newF [2 * (1 + a), 2 * (1 + b), 2 * (1 + c)]) := ⟨_, rfl⟩
  rw [← Hfa.out] at hN1 f1 hmap
  rw [← Hfb.out] at hN2 f2 hmap
  have hfa3 := f1.1
  have hfb3 := f2.1
  rw [hfa3] at hN1
  rw [hfb3] at hN2
  obtain ⟨l0, HL0⟩ : ∃ l0, Hid (l0 = stQ fb 0 (zs.take 30)) := ⟨_, rfl⟩
  have hl0 : l0.length = (zs.take 30).length := by rw [HL0.out, stQ_len]
  have hmin : (if (zs.length : Int) < 30 then (zs.length : Int) else 30) = (l0.length : Int) := by rw [hl0, List.length_take]; split <;> omega
  have hl30 : l0.length ≤ 30 := by rw [hl0, List.length_take]; omega
  have HSO := Lib.hid (show StaOk l0 by rw [HL0.out]; exact StaOk.start f2 _ (by simp; omega))
  rw [← HL0.out] at hmap
  have HN1 := Lib.hid hN1
  have HN2 := Lib.hid hN2
  have HF1 := Lib.hid f1
  have HF2 := Lib.hid f2
  have HMAP := Lib.hid hmap
  have HMN := Lib.hid hmin
  have HLL := Lib.hid hl0
  obtain ⟨m, Hm⟩ : ∃ m, Hid (m = zs.length) := ⟨_, rfl⟩
  rw [← Hm.out] at hcp HMN HI ⊢
  clear hN1 hN2 f1 f2 hmap hmin hl0 hR k1 k2 hfa3 hfb3
  go_enter Try.func6, Try.ntmps6
  go_wp2_with fail
  refine (round_any n 4 _ (by omega)).mono ?_; rw [← Ha.out]; rintro e w9 ⟨rfl, rfl⟩
  go_wp2_with fail
  refine (round_any (n / 4) 4 _ (by omega)).mono ?_; rw [← Hb.out]; rintro e w9 ⟨rfl, rfl⟩
  go_wp2_with fail
  refine (round_any (n / 16) 4 _ (by omega)).mono ?_; rw [← Hc.out]; rintro e w9 ⟨rfl, rfl⟩
  go_wp2_with fail
  refine (HN1.out _ _ (Ints.three w 3 (a := 1 + a) (b := 1 + b) (c := 1 + c) ⟨by omega, by omega⟩ ⟨by omega, by omega⟩ ⟨by omega, by omega⟩)).mono ?_; rintro e w1 ⟨v1, rfl, hown1, hb1⟩
  obtain ⟨A1, c1, rfl⟩ := own_slice hown1
  have hW1 := (AtF.new w 3 [.int .i64 (1 + a), .int .i64 (1 + b), .int .i64 (1 + c)]).bel hb1
  have hA1 := AtF.new w1 25 [.int .i64 0, .slice A1 3 c1]
  have hR1 := (Rd.own hown1).alloc (.cells #[.int .i64 0, .slice A1 3 c1] 25)
  have hb1' : Bel w w1 := ((Bel.refl w).alloc _).trans hb1
  have hW2 := hW1.alloc (.cells #[.int .i64 0, .slice A1 3 c1] 25)
  have hbw : Bel w (w1.alloc (.cells #[.int .i64 0, .slice A1 3 c1] 25)) := hb1'.alloc _
  clear hown1 hb1 hW1 hb1'
  go_wp2_with fail
  generalize w1.alloc (.cells #[.int .i64 0, .slice A1 3 c1] 25) = W at *
  generalize w1.heap.size = B at *
  generalize w.heap.size = G at hW2 ⊢
  have g0 := hW2.1.2 0 _ rfl
  have g1 := hW2.1.2 1 _ rfl
  have g2 := hW2.1.2 2 _ rfl
  have rg0 := fun d os => cell_regrown g0 d os
  have rg1 := fun d os => cell_regrown g1 d os
  have rg2 := fun d os => cell_regrown g2 d os
  have e0 : IntKind.i64.wrap (2 * (1 + a)) = 2 * (1 + a) := IntWalk.i64_in _ (by omega)
  have e1 : IntKind.i64.wrap (2 * (1 + b)) = 2 * (1 + b) := IntWalk.i64_in _ (by omega)
  have e2 : IntKind.i64.wrap (2 * (1 + c)) = 2 * (1 + c) := IntWalk.i64_in _ (by omega)
  refine wp_region_st [12, 13, 17, 18] 20 (by kernel_rfl) (by kernel_rfl) ?_
  with_reducible refine st_sel [0, 1, 2, 3, 4, 5, 6, 7, 8, 9, 10, 11] (by kernel_rfl) (by kernel_rfl) ?_
  simp only [picked, List.getElem?_cons_succ, List.getElem?_cons_zero, Option.toList_some, List.nil_append, List.cons_append, List.append_nil]
  try simp only [Act.put, List.setIfInBounds_toArray, List.set_cons_succ, List.set_cons_zero]
  repeat (go_big_quiet_step (fail))
  with_reducible refine wpQuiet_nil ?_
  refine st_branch [12, 17] (by kernel_rfl) (branch_cons (by simp only [List.getElem?_toArray, List.getElem?_cons_succ, List.getElem?_cons_zero]; rfl) ?_ (branch_cons (by simp only [List.getElem?_toArray, List.getElem?_cons_succ, List.getElem?_cons_zero]; rfl) ?_ branch_nil))
  · skip
    refine eff_made rfl (by simp [go_sem]; exact ⟨rfl, rfl⟩) (by repeat (first | (with_reducible exact Bel.refl _) | (with_reducible assumption) | (with_reducible refine Bel.drewN ?_ _) | (with_reducible refine Bel.drew ?_) | (with_reducible refine Bel.alloc ?_ _) | (with_reducible refine Bel.setNew ?_ ?_ _) | (with_reducible refine Bel.trans ?_ (by assumption)) | (focus (simp; done)) | (focus (simp; omega)))) ?_
    try simp only [List.nil_append, List.cons_append, Act.put, List.setIfInBounds_toArray, List.set_cons_succ, List.set_cons_zero]
    refine st_branch [13, 17] (by kernel_rfl) (branch_cons (by simp only [List.getElem?_toArray, List.getElem?_cons_succ, List.getElem?_cons_zero]; rfl) ?_ (branch_cons (by simp only [List.getElem?_toArray, List.getElem?_cons_succ, List.getElem?_cons_zero]; rfl) ?_ branch_nil))
    · skip
      refine eff_call 24 rfl (by simp [go_sem]; rfl) (by repeat (first | (with_reducible exact Bel.refl _) | (with_reducible assumption) | (with_reducible refine Bel.drewN ?_ _) | (with_reducible refine Bel.drew ?_) | (with_reducible refine Bel.alloc ?_ _) | (with_reducible refine Bel.setNew ?_ ?_ _) | (with_reducible refine Bel.trans ?_ (by assumption)) | (focus (simp; done)) | (focus (simp; omega)))) ?_
      refine (HN2.out _ _ (ints3_at (by simp [go_sem]) (by simp [go_sem]) (by simp [go_sem]) ⟨by omega, by omega⟩ ⟨by omega, by omega⟩ ⟨by omega, by omega⟩)).mono ?_; rintro e w5 ⟨v5, rfl, hown5, hb5⟩
      obtain ⟨A5, c5, rfl⟩ := own_slice hown5
      refine ⟨_, rfl, hb5, ?_⟩
      try simp only [List.nil_append, List.cons_append, Act.put, List.setIfInBounds_toArray, List.set_cons_succ, List.set_cons_zero]
      with_reducible refine st_sel [14, 15, 16] (by kernel_rfl) (by kernel_rfl) ?_
      simp only [picked, List.getElem?_cons_succ, List.getElem?_cons_zero, Option.toList_some, List.nil_append, List.cons_append, List.append_nil]
      try simp only [Act.put, List.setIfInBounds_toArray, List.set_cons_succ, List.set_cons_zero]
      repeat (go_big_quiet_step (fail))
      with_reducible refine wpQuiet_nil ?_
      refine st_branch [17] (by kernel_rfl) (branch_cons (by simp only [List.getElem?_toArray, List.getElem?_cons_succ, List.getElem?_cons_zero]; rfl) ?_ branch_nil)
      refine eff_made rfl (by simp [go_sem]; exact ⟨rfl, rfl⟩) (by repeat (first | (with_reducible exact Bel.refl _) | (with_reducible assumption) | (with_reducible refine Bel.drewN ?_ _) | (with_reducible refine Bel.drew ?_) | (with_reducible refine Bel.alloc ?_ _) | (with_reducible refine Bel.setNew ?_ ?_ _) | (with_reducible refine Bel.trans ?_ (by assumption)) | (focus (simp; done)) | (focus (simp; omega)))) ?_
      try simp only [List.nil_append, List.cons_append, Act.put, List.setIfInBounds_toArray, List.set_cons_succ, List.set_cons_zero]
      refine st_branch [18] (by kernel_rfl) (branch_cons (by simp only [List.getElem?_toArray, List.getElem?_cons_succ, List.getElem?_cons_zero]; rfl) ?_ branch_nil)
      refine eff_done rfl (by simp [go_sem]; rfl) (by repeat (first | (with_reducible exact Bel.refl _) | (with_reducible assumption) | (with_reducible refine Bel.drewN ?_ _) | (with_reducible refine Bel.drew ?_) | (with_reducible refine Bel.alloc ?_ _) | (with_reducible refine Bel.setNew ?_ ?_ _) | (with_reducible refine Bel.trans ?_ (by assumption)) | (focus (simp; done)) | (focus (simp; omega)))) ?_
      try simp only [List.nil_append, List.cons_append, Act.put, List.setIfInBounds_toArray, List.set_cons_succ, List.set_cons_zero]
      with_reducible refine st_sel [19] (by kernel_rfl) (by kernel_rfl) ?_
      simp only [picked, List.getElem?_cons_succ, List.getElem?_cons_zero, Option.toList_some, List.nil_append, List.cons_append, List.append_nil]
      try simp only [Act.put, List.setIfInBounds_toArray, List.set_cons_succ, List.set_cons_zero]
      repeat (go_big_quiet_step (fail))
      with_reducible refine wpQuiet_nil ?_
      refine st_end (by kernel_rfl) ?_
      simp only [List.drop_succ_cons, List.drop_zero, List.drop_nil]
      have H9 := box_new (T := 25) (a := .int .i64 0) (b := .slice A5 3 c5) hA1 (by repeat (first | (with_reducible exact Bel.refl _) | (with_reducible assumption) | (with_reducible refine Bel.drewN ?_ _) | (with_reducible refine Bel.drew ?_) | (with_reducible refine Bel.alloc ?_ _) | (with_reducible refine Bel.setNew ?_ ?_ _) | (with_reducible refine Bel.trans ?_ (by assumption)) | (focus (simp; done)) | (focus (simp; omega)))) hb5 (Rd.own hown5)
      generalize w5.alloc _ = W5 at H9 ⊢
      generalize w5.heap.size = P at H9 ⊢
      obtain ⟨hA9, hP9, hG9, hb9⟩ := H9
      have hR9 := hR1.bel hb9
      have hbw9 : Bel w W5 := hbw.trans hb9
      clear rg0 rg1 rg2 g0 g1 g2 e0 e1 e2
      have a0 := hA9.1.2 0 _ rfl
      have a1 := hA9.1.2 1 _ rfl
      have af := hA9.2
      have al := hA9.1.1
      have p0 := hP9.1.2 0 _ rfl
      have p1 := hP9.1.2 1 _ rfl
      have pf := hP9.2
      have pl := hP9.1.1
      go_wp2_with fail
      refine (stamped_any fa _ _ zs _ HF1.out hR9 (HI.out.bel hbw9)).mono ?_; rw [HMAP.out, ← HLL.out]; rintro e w6 ⟨v6, x6, rfl, hV6, hX6, hb6⟩
      obtain ⟨A6, c6, rfl, _, _⟩ := hV6.form
      obtain ⟨Ax, cx, rfl, _, _⟩ := hX6.form
      have p0' := (hb6.cellAt P 0 pl).trans p0
      have p1' := (hb6.cellAt P 1 pl).trans p1
      have hlp : P < w6.heap.size := Nat.lt_of_lt_of_le pl hb6.size
      clear a0 a1 af al p0 p1 pf
      go_wp2_with fail
      refine (stamped_any fb _ _ zs _ HF2.out (hG9.bel (hb6.alloc _)) (HI.out.bel ((hbw9.trans hb6).alloc _))).mono ?_; rw [← HL0.out, ← HLL.out]; rintro e w7 ⟨v7, x7, rfl, hV7, hX7, hb7⟩
      obtain ⟨A7, c7, rfl, _, _⟩ := hV7.form
      obtain ⟨Ay, cy, rfl, _, _⟩ := hX7.form
      have hX7b := ((hX6.alloc (.cells #[.int .i64 0, .slice A6 3 c6] 25)).bel hb7).alloc (.cells #[.int .i64 0, .slice A7 3 c7] 25)
      have hY7b := hX7.alloc (.cells #[.int .i64 0, .slice A7 3 c7] 25)
      have hb7b : Bel w (w7.alloc (.cells #[.int .i64 0, .slice A7 3 c7] 25)) := (((hbw9.trans hb6).alloc _).trans hb7).alloc _
      have hmin := HMN.out
      obtain ⟨lx0, Hlx0⟩ : ∃ lx, Hid (lx = l0.map dbl) := ⟨_, rfl⟩
      have hlx0 : l0.length = lx0.length := by rw [Hlx0.out, List.length_map]
      rw [← Hlx0.out] at hX7b
      have HLX0 := Lib.hid hlx0
      clear hlp p0' p1' pl hV6 hX6 hb6 hX7 hb7 hV7 hR9 hbw9 hA9 hP9 hG9 hb9 hlx0
      go_wp2
      generalize w7.alloc (.cells #[.int .i64 0, .slice A7 3 c7] 25) = W8 at *
      clear hmin
      go_loopw [11, 13] (fun xv yv wr => ∃ (l lx : List Qd), Hid (lx = l.map dbl) ∧ Hid (lx.length = l.length) ∧ l.length ≤ 30 ∧ Rd wr xv 12 lx.length (qcells lx) ∧ Rd wr yv 12 l.length (qcells l) ∧ Hid (StaOk l) ∧ Bel w wr) (fun xv _ _ => lenV xv)
      case atStart => exact ⟨l0, lx0, Hlx0, HLX0.out.symm, hl30, by rw [← HLX0.out]; exact hX7b, hY7b, HSO, hb7b⟩
      case round =>
        obtain ⟨l, lx, HLX, HLN, hl, hXr, hYr, HS, hbr⟩ := hrel
        clear hX7b hY7b hb7b
        obtain ⟨Ax', cx', rfl, hcx1, hcx2⟩ := hXr.form
        obtain ⟨Ay', cy', rfl, hcy1, hcy2⟩ := hYr.form
        unfold maxLen at hcx2 hcy2
        by_cases h0 : 0 < l.length
        · have h0x : 0 < lx.length := by rw [HLN.out]; exact h0
          obtain ⟨kb, q, hpick, hkl, hq, _⟩ := pick_all h0
          have hpx : pickN lx (yesL lx.length) lx.length = some kb := by rw [HLN.out, HLX.out, pickN_dbl]; exact hpick
          have hklx : kb < lx.length := by rw [HLN.out]; exact hkl
          have hqx : lx[kb]? = some (dbl q) := by rw [HLX.out, List.getElem?_map, hq]; rfl
          have hsq := HS.out q (List.mem_of_getElem? hq)
          obtain ⟨sq1, sq2⟩ := hsq
          have HP := Lib.hid hpick
          have HPX := Lib.hid hpx
          have HXR := Lib.hid hXr
          have HYR := Lib.hid hYr
          obtain ⟨bx, ox, cqx, hvx, hlbx, hcellx⟩ := hXr.at h0x
          cases hvx
          obtain ⟨bY, oY, cqy, hvy, hlby, hcelly⟩ := hYr.at h0
          cases hvy
          have cxa := (row_at Qd.cells_len hcellx hqx).cell 10 rfl
          have cya := (row_at Qd.cells_len hcelly hq).cell 10 rfl
          simp only [dbl] at cxa
          have h1 : (0 : Int) < (lx.length : Int) := by omega
          have k1 : (kb : Int) < (l.length : Int) := by omega
          have k2 : (kb : Int) < (lx.length : Int) := by omega
          have k0 : (0 : Int) ≤ (kb : Int) := by omega
          have hlx30 : lx.length ≤ 30 := by rw [HLN.out]; exact hl
          have k8 : decide ((kb : Int) < 0) = false := by simp
          have k7 : decide ((lx.length : Int) ≤ (kb : Int)) = false := by simp; omega
          have k6 : decide (lx.length ≤ kb) = false := by simp; omega
          clear hpick hpx hq hqx hcellx hcelly hXr hYr
          go_wp2_with fail
          refine (yes_any lx.length _ (by omega)).mono ?_; rintro e w3 ⟨vy, rfl, hy3, hb3⟩
          go_wp2_with fail
          refine (fairPick_any lx (yesL lx.length) _ vy _ (HXR.out.bel hb3) hy3).mono ?_; rw [HPX.out]; rintro e w4 ⟨rfl, hb4⟩
          have hb34 : Bel wr w4 := hb3.trans hb4
          clear hb3 hb4 hy3
          go_wp2_with fail
          refine (yes_any l.length _ (by omega)).mono ?_; rintro e w3 ⟨vy, rfl, hy3, hb3⟩
          go_wp2_with fail
          refine (fairPick_any l (yesL l.length) _ vy _ (HYR.out.bel (hb34.trans hb3)) hy3).mono ?_; rw [HP.out]; rintro e w5 ⟨rfl, hb4⟩
          have hb35 : Bel wr w5 := (hb34.trans hb3).trans hb4
          have hX5 := HXR.out.bel hb35
          have hY5 := HYR.out.bel hb35
          have cxa' := (hb35.cellAt bx (ox + kb * 12 + 10) hlbx).trans cxa
          have cya' := (hb35.cellAt bY (oY + kb * 12 + 10) hlby).trans cya
          have hlx5 : bx < w5.heap.size := Nat.lt_of_lt_of_le hlbx hb35.size
          have hly5 : bY < w5.heap.size := Nat.lt_of_lt_of_le hlby hb35.size
          have hbw5 : Bel w w5 := hbr.trans hb35
          clear hb34 hb3 hb4 hy3 cxa cya hlbx hlby hb35 hbr
          go_wp2_with fail
          have rg0 := fun d os => cell_regrown cxa' d os
          have rg1 := fun d os => cell_regrown cya' d os
          have e5 : IntKind.i64.wrap (2 * q.sta) = 2 * q.sta := IntWalk.i64_in _ (by omega)
          refine wp_region_lex [] 35 (by kernel_rfl) (by kernel_rfl) ?_
          simp only [List.take_succ_cons, List.take_zero, List.drop_succ_cons, List.drop_zero]
          with_reducible refine lex_seg 35 _ _ _ _ (by kernel_rfl) ?_
          simp only [List.take_succ_cons, List.take_zero, List.drop_succ_cons, List.drop_zero]
          try simp only [Act.put, List.setIfInBounds_toArray, List.set_cons_succ, List.set_cons_zero]
          repeat (go_big_quiet_step (fail))
          with_reducible refine wpQuiet_nil ?_
          with_reducible refine lex_nil ?_
          clear rg0 rg1 e5 k8 k7 k6
          have hXd := hX5.bel (Bel.drew (Bel.refl w5))
          have hYd := hY5.bel (Bel.drew (Bel.refl w5))
          have hbd := hbw5.drew
          have hlxd : bx < w5.drew.heap.size := hlx5
          have hlyd : bY < w5.drew.heap.size := hly5
          clear cxa' cya' hX5 hY5 hbw5 hlx5 hly5
          go_wp2_with fail
          generalize w5.drew = Y at *
          have e6 : IntKind.i64.wrap ((kb : Int) + 1) = (kb : Int) + 1 := IntWalk.i64_in _ (by omega)
          obtain ⟨hnew11, ad1, had1, hnew21⟩ := rem_news hXd hlxd hklx
          obtain ⟨hnew12, ad2, had2, hnew22⟩ := rem_news hYd hlyd hkl
          have hel1 : kb + (lx.length - (kb + 1)) = (lx.eraseIdx kb).length := by rw [List.length_eraseIdx, if_pos hklx]; omega
          have hel2 : kb + (l.length - (kb + 1)) = (l.eraseIdx kb).length := by rw [List.length_eraseIdx, if_pos hkl]; omega
          refine wp_region_st [3, 8, 12, 17] 20 (by kernel_rfl) (by kernel_rfl) ?_
          with_reducible refine st_sel [0, 1, 2, 4, 5, 6, 7, 9, 10, 11, 13, 14, 15, 16] (by kernel_rfl) (by kernel_rfl) ?_
          simp only [picked, List.getElem?_cons_succ, List.getElem?_cons_zero, Option.toList_some, List.nil_append, List.cons_append, List.append_nil]
          try simp only [Act.put, List.setIfInBounds_toArray, List.set_cons_succ, List.set_cons_zero]
          repeat (go_big_quiet_step (fail))
          with_reducible refine wpQuiet_nil ?_
          refine st_branch [3] (by kernel_rfl) (branch_cons (by simp only [List.getElem?_toArray, List.getElem?_cons_succ, List.getElem?_cons_zero]; rfl) ?_ branch_nil)
          refine eff_append_own rfl _ _ 26 rfl (Y).heap.size 53 i0 _ 12 120 Try.underlying26 hi0 hz0 hz1 hz2 rfl (by omega) (.slice none 0 0) 0 [] rfl ⟨by simp, Or.inl ⟨rfl, rfl⟩⟩ ⟨bx, ox, none⟩ kb _ (qcells ((lx).take kb)) rfl (by rw [qcells_len, List.length_take, Nat.min_eq_left (Nat.le_of_lt hklx)]) (hnew11 _ (by repeat (first | (with_reducible exact Bel.refl _) | (with_reducible assumption) | (with_reducible refine Bel.drewN ?_ _) | (with_reducible refine Bel.drew ?_) | (with_reducible refine Bel.alloc ?_ _) | (with_reducible refine Bel.setNew ?_ ?_ _) | (with_reducible refine Bel.trans ?_ (by assumption)) | (focus (simp; done)) | (focus (simp; omega))))) (qcells_one _) (by unfold maxLen; omega) (by omega) (by simp) (by repeat (first | (with_reducible exact Bel.refl _) | (with_reducible assumption) | (with_reducible refine Bel.drewN ?_ _) | (with_reducible refine Bel.drew ?_) | (with_reducible refine Bel.alloc ?_ _) | (with_reducible refine Bel.setNew ?_ ?_ _) | (with_reducible refine Bel.trans ?_ (by assumption)) | (focus (simp; done)) | (focus (simp; omega)))) (by simp) ?_
          intro va1 wa1 howna1 hga1 hba1
          simp only [Nat.zero_add, List.nil_append] at howna1
          try simp only [List.nil_append, List.cons_append, Act.put, List.setIfInBounds_toArray, List.set_cons_succ, List.set_cons_zero]
          refine st_branch [8] (by kernel_rfl) (branch_cons (by simp only [List.getElem?_toArray, List.getElem?_cons_succ, List.getElem?_cons_zero]; rfl) ?_ branch_nil)
          refine eff_append_own rfl _ _ 26 rfl (Y).heap.size 53 i0 _ 12 120 Try.underlying26 hi0 hz0 hz1 hz2 rfl (by omega) va1 kb _ rfl howna1 ad1 ((lx).length - (kb + 1)) _ (qcells ((lx).drop (kb + 1))) rfl (by rw [qcells_len, List.length_drop]) (hnew21 _ (Bel.trans (by repeat (first | (with_reducible exact Bel.refl _) | (with_reducible assumption) | (with_reducible refine Bel.drewN ?_ _) | (with_reducible refine Bel.drew ?_) | (with_reducible refine Bel.alloc ?_ _) | (with_reducible refine Bel.setNew ?_ ?_ _) | (with_reducible refine Bel.trans ?_ (by assumption)) | (focus (simp; done)) | (focus (simp; omega)))) hba1)) (qcells_one _) (by unfold maxLen; omega) (by omega) hba1.size hba1 (by simp) ?_
          intro vb1 wb1 hownb1 hgb1 hbb1
          rw [← qcells_app, erase_eq, hel1] at hownb1
          try simp only [List.nil_append, List.cons_append, Act.put, List.setIfInBounds_toArray, List.set_cons_succ, List.set_cons_zero]
          refine st_branch [12] (by kernel_rfl) (branch_cons (by simp only [List.getElem?_toArray, List.getElem?_cons_succ, List.getElem?_cons_zero]; rfl) ?_ branch_nil)
          refine eff_append_own rfl _ _ 26 rfl (wb1).heap.size 53 i0 _ 12 120 Try.underlying26 hi0 hz0 hz1 hz2 rfl (by omega) (.slice none 0 0) 0 [] rfl ⟨by simp, Or.inl ⟨rfl, rfl⟩⟩ ⟨bY, oY, none⟩ kb _ (qcells ((l).take kb)) rfl (by rw [qcells_len, List.length_take, Nat.min_eq_left (Nat.le_of_lt hkl)]) (hnew12 _ (by repeat (first | (with_reducible exact Bel.refl _) | (with_reducible assumption) | (with_reducible refine Bel.drewN ?_ _) | (with_reducible refine Bel.drew ?_) | (with_reducible refine Bel.alloc ?_ _) | (with_reducible refine Bel.setNew ?_ ?_ _) | (with_reducible refine Bel.trans ?_ (by assumption)) | (focus (simp; done)) | (focus (simp; omega))))) (qcells_one _) (by unfold maxLen; omega) (by omega) (by simp) (by repeat (first | (with_reducible exact Bel.refl _) | (with_reducible assumption) | (with_reducible refine Bel.drewN ?_ _) | (with_reducible refine Bel.drew ?_) | (with_reducible refine Bel.alloc ?_ _) | (with_reducible refine Bel.setNew ?_ ?_ _) | (with_reducible refine Bel.trans ?_ (by assumption)) | (focus (simp; done)) | (focus (simp; omega)))) hbb1.size ?_
          intro va2 wa2 howna2 hga2 hba2
          simp only [Nat.zero_add, List.nil_append] at howna2
          try simp only [List.nil_append, List.cons_append, Act.put, List.setIfInBounds_toArray, List.set_cons_succ, List.set_cons_zero]
          have hbc : Bel wb1 wa2 := bel_own (Bel.refl _) (⟨by simp, Or.inl ⟨rfl, rfl⟩⟩ : World.ownsRow wb1 wb1.heap.size 53 12 (.slice none 0 0) 0 []) hga2 (Nat.le_refl _)
          refine st_branch [17] (by kernel_rfl) (branch_cons (by simp only [List.getElem?_toArray, List.getElem?_cons_succ, List.getElem?_cons_zero]; rfl) ?_ branch_nil)
          refine eff_append_own rfl _ _ 26 rfl (wb1).heap.size 53 i0 _ 12 120 Try.underlying26 hi0 hz0 hz1 hz2 rfl (by omega) va2 kb _ rfl howna2 ad2 ((l).length - (kb + 1)) _ (qcells ((l).drop (kb + 1))) rfl (by rw [qcells_len, List.length_drop]) (hnew22 _ (Bel.trans (by repeat (first | (with_reducible exact Bel.refl _) | (with_reducible assumption) | (with_reducible refine Bel.drewN ?_ _) | (with_reducible refine Bel.drew ?_) | (with_reducible refine Bel.alloc ?_ _) | (with_reducible refine Bel.setNew ?_ ?_ _) | (with_reducible refine Bel.trans ?_ (by assumption)) | (focus (simp; done)) | (focus (simp; omega)))) hba2)) (qcells_one _) (by unfold maxLen; omega) (by omega) hga2.size hba2 hbb1.size ?_
          intro vb2 wb2 hownb2 hgb2 hbb2
          rw [← qcells_app, erase_eq, hel2] at hownb2
          try simp only [List.nil_append, List.cons_append, Act.put, List.setIfInBounds_toArray, List.set_cons_succ, List.set_cons_zero]
          have hbd2 : Bel wb1 wb2 := bel_own hbc howna2 hgb2 (Nat.le_refl _)
          with_reducible refine st_sel [18, 19] (by kernel_rfl) (by kernel_rfl) ?_
          simp only [picked, List.getElem?_cons_succ, List.getElem?_cons_zero, Option.toList_some, List.nil_append, List.cons_append, List.append_nil]
          try simp only [Act.put, List.setIfInBounds_toArray, List.set_cons_succ, List.set_cons_zero]
          repeat (go_big_quiet_step (fail))
          with_reducible refine wpQuiet_nil ?_
          refine st_end (by kernel_rfl) ?_
          simp only [List.drop_succ_cons, List.drop_zero, List.drop_nil]
          skip
          go_wp2_with fail
          obtain ⟨Ab1, cb1, rfl⟩ := own_slice hownb1
          obtain ⟨Ab2, cb2, rfl⟩ := own_slice hownb2
          have hle1 : (lx.eraseIdx kb).length < lx.length := by rw [List.length_eraseIdx, if_pos hklx]; omega
          have hle2 : (l.eraseIdx kb).length < l.length := by rw [List.length_eraseIdx, if_pos hkl]; omega
          have hlee : (lx.eraseIdx kb).length = (l.eraseIdx kb).length := by rw [List.length_eraseIdx, List.length_eraseIdx, if_pos hklx, if_pos hkl, HLN.out]
          go_roundw
          case rel => exact ⟨l.eraseIdx kb, lx.eraseIdx kb, by rw [HLX.out, erase_map]; rfl, hlee, by omega, (Rd.own hownb1).bel hbd2, Rd.own hownb2, HS.out.erase kb, hbd.trans (Bel.trans (by repeat (first | (with_reducible exact Bel.refl _) | (with_reducible assumption) | (with_reducible refine Bel.drewN ?_ _) | (with_reducible refine Bel.drew ?_) | (with_reducible refine Bel.alloc ?_ _) | (with_reducible refine Bel.setNew ?_ ?_ _) | (with_reducible refine Bel.trans ?_ (by assumption)) | (focus (simp; done)) | (focus (simp; omega)))) hbb2)⟩
          case measure => simp [lenV]; omega
        · have e0 : lx.length = 0 := by rw [HLN.out]; omega
          rw [e0]
          go_wp2_with fail
          refine (awakeFair_any _).mono ?_; rintro e w3 ⟨rfl, hb3⟩
          go_wp2
          go_ret
          exact ⟨rfl, hbr.trans hb3⟩
    · skip
      refine eff_made rfl (by simp [go_sem]; exact ⟨rfl, rfl⟩) (by repeat (first | (with_reducible exact Bel.refl _) | (with_reducible assumption) | (with_reducible refine Bel.drewN ?_ _) | (with_reducible refine Bel.drew ?_) | (with_reducible refine Bel.alloc ?_ _) | (with_reducible refine Bel.setNew ?_ ?_ _) | (with_reducible refine Bel.trans ?_ (by assumption)) | (focus (simp; done)) | (focus (simp; omega)))) ?_
      try simp only [List.nil_append, List.cons_append, Act.put, List.setIfInBounds_toArray, List.set_cons_succ, List.set_cons_zero]
      refine st_branch [13] (by kernel_rfl) (branch_cons (by simp only [List.getElem?_toArray, List.getElem?_cons_succ, List.getElem?_cons_zero]; rfl) ?_ branch_nil)
      refine eff_call 24 rfl (by simp [go_sem]; rfl) (by repeat (first | (with_reducible exact Bel.refl _) | (with_reducible assumption) | (with_reducible refine Bel.drewN ?_ _) | (with_reducible refine Bel.drew ?_) | (with_reducible refine Bel.alloc ?_ _) | (with_reducible refine Bel.setNew ?_ ?_ _) | (with_reducible refine Bel.trans ?_ (by assumption)) | (focus (simp; done)) | (focus (simp; omega)))) ?_
      refine (HN2.out _ _ (ints3_at (by simp [go_sem]) (by simp [go_sem]) (by simp [go_sem]) ⟨by omega, by omega⟩ ⟨by omega, by omega⟩ ⟨by omega, by omega⟩)).mono ?_; rintro e w5 ⟨v5, rfl, hown5, hb5⟩
      obtain ⟨A5, c5, rfl⟩ := own_slice hown5
      refine ⟨_, rfl, hb5, ?_⟩
      try simp only [List.nil_append, List.cons_append, Act.put, List.setIfInBounds_toArray, List.set_cons_succ, List.set_cons_zero]
      with_reducible refine st_sel [14, 15, 16] (by kernel_rfl) (by kernel_rfl) ?_
      simp only [picked, List.getElem?_cons_succ, List.getElem?_cons_zero, Option.toList_some, List.nil_append, List.cons_append, List.append_nil]
      try simp only [Act.put, List.setIfInBounds_toArray, List.set_cons_succ, List.set_cons_zero]
      repeat (go_big_quiet_step (fail))
      with_reducible refine wpQuiet_nil ?_
      refine st_branch [18] (by kernel_rfl) (branch_cons (by simp only [List.getElem?_toArray, List.getElem?_cons_succ, List.getElem?_cons_zero]; rfl) ?_ branch_nil)
      have e0 := hb5.cellAt (W.heap.size + 1) 0 (by first | (simp; done) | (simp; omega))
      have e1 := hb5.cellAt (W.heap.size + 1) 1 (by first | (simp; done) | (simp; omega))
      have f0 := hb5.frozenAt (W.heap.size + 1) 0 (by first | (simp; done) | (simp; omega))
      have f1 := hb5.frozenAt (W.heap.size + 1) 1 (by first | (simp; done) | (simp; omega))
      simp [go_sem] at e0 e1 f0 f1
      refine eff_done rfl (by simp [go_sem, e0, e1, f0, f1]; rfl) (by repeat (first | (with_reducible exact Bel.refl _) | (with_reducible assumption) | (with_reducible refine Bel.drewN ?_ _) | (with_reducible refine Bel.drew ?_) | (with_reducible refine Bel.alloc ?_ _) | (with_reducible refine Bel.setNew ?_ ?_ _) | (with_reducible refine Bel.trans ?_ (by assumption)) | (focus (simp; done)) | (focus (simp; omega)))) ?_
      try simp only [List.nil_append, List.cons_append, Act.put, List.setIfInBounds_toArray, List.set_cons_succ, List.set_cons_zero]
      clear e0 e1 f0 f1
      with_reducible refine st_sel [19] (by kernel_rfl) (by kernel_rfl) ?_
      simp only [picked, List.getElem?_cons_succ, List.getElem?_cons_zero, Option.toList_some, List.nil_append, List.cons_append, List.append_nil]
      try simp only [Act.put, List.setIfInBounds_toArray, List.set_cons_succ, List.set_cons_zero]
      repeat (go_big_quiet_step (fail))
      with_reducible refine wpQuiet_nil ?_
      refine st_end (by kernel_rfl) ?_
      simp only [List.drop_succ_cons, List.drop_zero, List.drop_nil]
      have H9 := box_old (X := W.alloc (.cells #[.int .i64 (2 * (1 + a)), .int .i64 (2 * (1 + b)), .int .i64 (2 * (1 + c))] 3)) (T := 25) (c := .int .i64 0) (d := .slice none 0 0) (a := .int .i64 0) (b := .slice A5 3 c5) hA1 ((Bel.refl _).alloc _) (Bel.trans (by repeat (first | (with_reducible exact Bel.refl _) | (with_reducible assumption) | (with_reducible refine Bel.drewN ?_ _) | (with_reducible refine Bel.drew ?_) | (with_reducible refine Bel.alloc ?_ _) | (with_reducible refine Bel.setNew ?_ ?_ _) | (with_reducible refine Bel.trans ?_ (by assumption)) | (focus (simp; done)) | (focus (simp; omega)))) hb5) hown5 (by simp)
      simp only [World.size_alloc] at H9
      generalize World.setCell _ _ _ = W5 at H9 ⊢
      generalize W.heap.size + 1 = P at H9 ⊢
      obtain ⟨hA9, hP9, hG9, hb9⟩ := H9
      have hR9 := hR1.bel hb9
      have hbw9 : Bel w W5 := hbw.trans hb9
      clear rg0 rg1 rg2 g0 g1 g2 e0 e1 e2
      have a0 := hA9.1.2 0 _ rfl
      have a1 := hA9.1.2 1 _ rfl
      have af := hA9.2
      have al := hA9.1.1
      have p0 := hP9.1.2 0 _ rfl
      have p1 := hP9.1.2 1 _ rfl
      have pf := hP9.2
      have pl := hP9.1.1
      go_wp2_with fail
      refine (stamped_any fa _ _ zs _ HF1.out hR9 (HI.out.bel hbw9)).mono ?_; rw [HMAP.out, ← HLL.out]; rintro e w6 ⟨v6, x6, rfl, hV6, hX6, hb6⟩
      obtain ⟨A6, c6, rfl, _, _⟩ := hV6.form
      obtain ⟨Ax, cx, rfl, _, _⟩ := hX6.form
      have p0' := (hb6.cellAt P 0 pl).trans p0
      have p1' := (hb6.cellAt P 1 pl).trans p1
      have hlp : P < w6.heap.size := Nat.lt_of_lt_of_le pl hb6.size
      clear a0 a1 af al p0 p1 pf
      go_wp2_with fail
      refine (stamped_any fb _ _ zs _ HF2.out (hG9.bel (hb6.alloc _)) (HI.out.bel ((hbw9.trans hb6).alloc _))).mono ?_; rw [← HL0.out, ← HLL.out]; rintro e w7 ⟨v7, x7, rfl, hV7, hX7, hb7⟩
      obtain ⟨A7, c7, rfl, _, _⟩ := hV7.form
      obtain ⟨Ay, cy, rfl, _, _⟩ := hX7.form
      have hX7b := ((hX6.alloc (.cells #[.int .i64 0, .slice A6 3 c6] 25)).bel hb7).alloc (.cells #[.int .i64 0, .slice A7 3 c7] 25)
      have hY7b := hX7.alloc (.cells #[.int .i64 0, .slice A7 3 c7] 25)
      have hb7b : Bel w (w7.alloc (.cells #[.int .i64 0, .slice A7 3 c7] 25)) := (((hbw9.trans hb6).alloc _).trans hb7).alloc _
      have hmin := HMN.out
      obtain ⟨lx0, Hlx0⟩ : ∃ lx, Hid (lx = l0.map dbl) := ⟨_, rfl⟩
      have hlx0 : l0.length = lx0.length := by rw [Hlx0.out, List.length_map]
      rw [← Hlx0.out] at hX7b
      have HLX0 := Lib.hid hlx0
      clear hlp p0' p1' pl hV6 hX6 hb6 hX7 hb7 hV7 hR9 hbw9 hA9 hP9 hG9 hb9 hlx0
      go_wp2
      generalize w7.alloc (.cells #[.int .i64 0, .slice A7 3 c7] 25) = W8 at *
      clear hmin
      go_loopw [11, 13] (fun xv yv wr => ∃ (l lx : List Qd), Hid (lx = l.map dbl) ∧ Hid (lx.length = l.length) ∧ l.length ≤ 30 ∧ Rd wr xv 12 lx.length (qcells lx) ∧ Rd wr yv 12 l.length (qcells l) ∧ Hid (StaOk l) ∧ Bel w wr) (fun xv _ _ => lenV xv)
      case atStart => exact ⟨l0, lx0, Hlx0, HLX0.out.symm, hl30, by rw [← HLX0.out]; exact hX7b, hY7b, HSO, hb7b⟩
      case round =>
        obtain ⟨l, lx, HLX, HLN, hl, hXr, hYr, HS, hbr⟩ := hrel
        clear hX7b hY7b hb7b
        obtain ⟨Ax', cx', rfl, hcx1, hcx2⟩ := hXr.form
        obtain ⟨Ay', cy', rfl, hcy1, hcy2⟩ := hYr.form
        unfold maxLen at hcx2 hcy2
        by_cases h0 : 0 < l.length
        · have h0x : 0 < lx.length := by rw [HLN.out]; exact h0
          obtain ⟨kb, q, hpick, hkl, hq, _⟩ := pick_all h0
          have hpx : pickN lx (yesL lx.length) lx.length = some kb := by rw [HLN.out, HLX.out, pickN_dbl]; exact hpick
          have hklx : kb < lx.length := by rw [HLN.out]; exact hkl
          have hqx : lx[kb]? = some (dbl q) := by rw [HLX.out, List.getElem?_map, hq]; rfl
          have hsq := HS.out q (List.mem_of_getElem? hq)
          obtain ⟨sq1, sq2⟩ := hsq
          have HP := Lib.hid hpick
          have HPX := Lib.hid hpx
          have HXR := Lib.hid hXr
          have HYR := Lib.hid hYr
          obtain ⟨bx, ox, cqx, hvx, hlbx, hcellx⟩ := hXr.at h0x
          cases hvx
          obtain ⟨bY, oY, cqy, hvy, hlby, hcelly⟩ := hYr.at h0
          cases hvy
          have cxa := (row_at Qd.cells_len hcellx hqx).cell 10 rfl
          have cya := (row_at Qd.cells_len hcelly hq).cell 10 rfl
          simp only [dbl] at cxa
          have h1 : (0 : Int) < (lx.length : Int) := by omega
          have k1 : (kb : Int) < (l.length : Int) := by omega
          have k2 : (kb : Int) < (lx.length : Int) := by omega
          have k0 : (0 : Int) ≤ (kb : Int) := by omega
          have hlx30 : lx.length ≤ 30 := by rw [HLN.out]; exact hl
          have k8 : decide ((kb : Int) < 0) = false := by simp
          have k7 : decide ((lx.length : Int) ≤ (kb : Int)) = false := by simp; omega
          have k6 : decide (lx.length ≤ kb) = false := by simp; omega
          clear hpick hpx hq hqx hcellx hcelly hXr hYr
          go_wp2_with fail
          refine (yes_any lx.length _ (by omega)).mono ?_; rintro e w3 ⟨vy, rfl, hy3, hb3⟩
          go_wp2_with fail
          refine (fairPick_any lx (yesL lx.length) _ vy _ (HXR.out.bel hb3) hy3).mono ?_; rw [HPX.out]; rintro e w4 ⟨rfl, hb4⟩
          have hb34 : Bel wr w4 := hb3.trans hb4
          clear hb3 hb4 hy3
          go_wp2_with fail
          refine (yes_any l.length _ (by omega)).mono ?_; rintro e w3 ⟨vy, rfl, hy3, hb3⟩
          go_wp2_with fail
          refine (fairPick_any l (yesL l.length) _ vy _ (HYR.out.bel (hb34.trans hb3)) hy3).mono ?_; rw [HP.out]; rintro e w5 ⟨rfl, hb4⟩
          have hb35 : Bel wr w5 := (hb34.trans hb3).trans hb4
          have hX5 := HXR.out.bel hb35
          have hY5 := HYR.out.bel hb35
          have cxa' := (hb35.cellAt bx (ox + kb * 12 + 10) hlbx).trans cxa
          have cya' := (hb35.cellAt bY (oY + kb * 12 + 10) hlby).trans cya
          have hlx5 : bx < w5.heap.size := Nat.lt_of_lt_of_le hlbx hb35.size
          have hly5 : bY < w5.heap.size := Nat.lt_of_lt_of_le hlby hb35.size
          have hbw5 : Bel w w5 := hbr.trans hb35
          clear hb34 hb3 hb4 hy3 cxa cya hlbx hlby hb35 hbr
          go_wp2_with fail
          have rg0 := fun d os => cell_regrown cxa' d os
          have rg1 := fun d os => cell_regrown cya' d os
          have e5 : IntKind.i64.wrap (2 * q.sta) = 2 * q.sta := IntWalk.i64_in _ (by omega)
          refine wp_region_lex [] 35 (by kernel_rfl) (by kernel_rfl) ?_
          simp only [List.take_succ_cons, List.take_zero, List.drop_succ_cons, List.drop_zero]
          with_reducible refine lex_seg 35 _ _ _ _ (by kernel_rfl) ?_
          simp only [List.take_succ_cons, List.take_zero, List.drop_succ_cons, List.drop_zero]
          try simp only [Act.put, List.setIfInBounds_toArray, List.set_cons_succ, List.set_cons_zero]
          repeat (go_big_quiet_step (fail))
          with_reducible refine wpQuiet_nil ?_
          with_reducible refine lex_nil ?_
          clear rg0 rg1 e5 k8 k7 k6
          have hXd := hX5.bel (Bel.drew (Bel.refl w5))
          have hYd := hY5.bel (Bel.drew (Bel.refl w5))
          have hbd := hbw5.drew
          have hlxd : bx < w5.drew.heap.size := hlx5
          have hlyd : bY < w5.drew.heap.size := hly5
          clear cxa' cya' hX5 hY5 hbw5 hlx5 hly5
          go_wp2_with fail
          generalize w5.drew = Y at *
          have e6 : IntKind.i64.wrap ((kb : Int) + 1) = (kb : Int) + 1 := IntWalk.i64_in _ (by omega)
          obtain ⟨hnew11, ad1, had1, hnew21⟩ := rem_news hXd hlxd hklx
          obtain ⟨hnew12, ad2, had2, hnew22⟩ := rem_news hYd hlyd hkl
          have hel1 : kb + (lx.length - (kb + 1)) = (lx.eraseIdx kb).length := by rw [List.length_eraseIdx, if_pos hklx]; omega
          have hel2 : kb + (l.length - (kb + 1)) = (l.eraseIdx kb).length := by rw [List.length_eraseIdx, if_pos hkl]; omega
          refine wp_region_st [3, 8, 12, 17] 20 (by kernel_rfl) (by kernel_rfl) ?_
          with_reducible refine st_sel [0, 1, 2, 4, 5, 6, 7, 9, 10, 11, 13, 14, 15, 16] (by kernel_rfl) (by kernel_rfl) ?_
          simp only [picked, List.getElem?_cons_succ, List.getElem?_cons_zero, Option.toList_some, List.nil_append, List.cons_append, List.append_nil]
          try simp only [Act.put, List.setIfInBounds_toArray, List.set_cons_succ, List.set_cons_zero]
          repeat (go_big_quiet_step (fail))
          with_reducible refine wpQuiet_nil ?_
          refine st_branch [3] (by kernel_rfl) (branch_cons (by simp only [List.getElem?_toArray, List.getElem?_cons_succ, List.getElem?_cons_zero]; rfl) ?_ branch_nil)
          refine eff_append_own rfl _ _ 26 rfl (Y).heap.size 53 i0 _ 12 120 Try.underlying26 hi0 hz0 hz1 hz2 rfl (by omega) (.slice none 0 0) 0 [] rfl ⟨by simp, Or.inl ⟨rfl, rfl⟩⟩ ⟨bx, ox, none⟩ kb _ (qcells ((lx).take kb)) rfl (by rw [qcells_len, List.length_take, Nat.min_eq_left (Nat.le_of_lt hklx)]) (hnew11 _ (by repeat (first | (with_reducible exact Bel.refl _) | (with_reducible assumption) | (with_reducible refine Bel.drewN ?_ _) | (with_reducible refine Bel.drew ?_) | (with_reducible refine Bel.alloc ?_ _) | (with_reducible refine Bel.setNew ?_ ?_ _) | (with_reducible refine Bel.trans ?_ (by assumption)) | (focus (simp; done)) | (focus (simp; omega))))) (qcells_one _) (by unfold maxLen; omega) (by omega) (by simp) (by repeat (first | (with_reducible exact Bel.refl _) | (with_reducible assumption) | (with_reducible refine Bel.drewN ?_ _) | (with_reducible refine Bel.drew ?_) | (with_reducible refine Bel.alloc ?_ _) | (with_reducible refine Bel.setNew ?_ ?_ _) | (with_reducible refine Bel.trans ?_ (by assumption)) | (focus (simp; done)) | (focus (simp; omega)))) (by simp) ?_
          intro va1 wa1 howna1 hga1 hba1
          simp only [Nat.zero_add, List.nil_append] at howna1
          try simp only [List.nil_append, List.cons_append, Act.put, List.setIfInBounds_toArray, List.set_cons_succ, List.set_cons_zero]
          refine st_branch [8] (by kernel_rfl) (branch_cons (by simp only [List.getElem?_toArray, List.getElem?_cons_succ, List.getElem?_cons_zero]; rfl) ?_ branch_nil)
          refine eff_append_own rfl _ _ 26 rfl (Y).heap.size 53 i0 _ 12 120 Try.underlying26 hi0 hz0 hz1 hz2 rfl (by omega) va1 kb _ rfl howna1 ad1 ((lx).length - (kb + 1)) _ (qcells ((lx).drop (kb + 1))) rfl (by rw [qcells_len, List.length_drop]) (hnew21 _ (Bel.trans (by repeat (first | (with_reducible exact Bel.refl _) | (with_reducible assumption) | (with_reducible refine Bel.drewN ?_ _) | (with_reducible refine Bel.drew ?_) | (with_reducible refine Bel.alloc ?_ _) | (with_reducible refine Bel.setNew ?_ ?_ _) | (with_reducible refine Bel.trans ?_ (by assumption)) | (focus (simp; done)) | (focus (simp; omega)))) hba1)) (qcells_one _) (by unfold maxLen; omega) (by omega) hba1.size hba1 (by simp) ?_
          intro vb1 wb1 hownb1 hgb1 hbb1
          rw [← qcells_app, erase_eq, hel1] at hownb1
          try simp only [List.nil_append, List.cons_append, Act.put, List.setIfInBounds_toArray, List.set_cons_succ, List.set_cons_zero]
          refine st_branch [12] (by kernel_rfl) (branch_cons (by simp only [List.getElem?_toArray, List.getElem?_cons_succ, List.getElem?_cons_zero]; rfl) ?_ branch_nil)
          refine eff_append_own rfl _ _ 26 rfl (wb1).heap.size 53 i0 _ 12 120 Try.underlying26 hi0 hz0 hz1 hz2 rfl (by omega) (.slice none 0 0) 0 [] rfl ⟨by simp, Or.inl ⟨rfl, rfl⟩⟩ ⟨bY, oY, none⟩ kb _ (qcells ((l).take kb)) rfl (by rw [qcells_len, List.length_take, Nat.min_eq_left (Nat.le_of_lt hkl)]) (hnew12 _ (by repeat (first | (with_reducible exact Bel.refl _) | (with_reducible assumption) | (with_reducible refine Bel.drewN ?_ _) | (with_reducible refine Bel.drew ?_) | (with_reducible refine Bel.alloc ?_ _) | (with_reducible refine Bel.setNew ?_ ?_ _) | (with_reducible refine Bel.trans ?_ (by assumption)) | (focus (simp; done)) | (focus (simp; omega))))) (qcells_one _) (by unfold maxLen; omega) (by omega) (by simp) (by repeat (first | (with_reducible exact Bel.refl _) | (with_reducible assumption) | (with_reducible refine Bel.drewN ?_ _) | (with_reducible refine Bel.drew ?_) | (with_reducible refine Bel.alloc ?_ _) | (with_reducible refine Bel.setNew ?_ ?_ _) | (with_reducible refine Bel.trans ?_ (by assumption)) | (focus (simp; done)) | (focus (simp; omega)))) hbb1.size ?_
          intro va2 wa2 howna2 hga2 hba2
          simp only [Nat.zero_add, List.nil_append] at howna2
          try simp only [List.nil_append, List.cons_append, Act.put, List.setIfInBounds_toArray, List.set_cons_succ, List.set_cons_zero]
          have hbc : Bel wb1 wa2 := bel_own (Bel.refl _) (⟨by simp, Or.inl ⟨rfl, rfl⟩⟩ : World.ownsRow wb1 wb1.heap.size 53 12 (.slice none 0 0) 0 []) hga2 (Nat.le_refl _)
          refine st_branch [17] (by kernel_rfl) (branch_cons (by simp only [List.getElem?_toArray, List.getElem?_cons_succ, List.getElem?_cons_zero]; rfl) ?_ branch_nil)
          refine eff_append_own rfl _ _ 26 rfl (wb1).heap.size 53 i0 _ 12 120 Try.underlying26 hi0 hz0 hz1 hz2 rfl (by omega) va2 kb _ rfl howna2 ad2 ((l).length - (kb + 1)) _ (qcells ((l).drop (kb + 1))) rfl (by rw [qcells_len, List.length_drop]) (hnew22 _ (Bel.trans (by repeat (first | (with_reducible exact Bel.refl _) | (with_reducible assumption) | (with_reducible refine Bel.drewN ?_ _) | (with_reducible refine Bel.drew ?_) | (with_reducible refine Bel.alloc ?_ _) | (with_reducible refine Bel.setNew ?_ ?_ _) | (with_reducible refine Bel.trans ?_ (by assumption)) | (focus (simp; done)) | (focus (simp; omega)))) hba2)) (qcells_one _) (by unfold maxLen; omega) (by omega) hga2.size hba2 hbb1.size ?_
          intro vb2 wb2 hownb2 hgb2 hbb2
          rw [← qcells_app, erase_eq, hel2] at hownb2
          try simp only [List.nil_append, List.cons_append, Act.put, List.setIfInBounds_toArray, List.set_cons_succ, List.set_cons_zero]
          have hbd2 : Bel wb1 wb2 := bel_own hbc howna2 hgb2 (Nat.le_refl _)
          with_reducible refine st_sel [18, 19] (by kernel_rfl) (by kernel_rfl) ?_
          simp only [picked, List.getElem?_cons_succ, List.getElem?_cons_zero, Option.toList_some, List.nil_append, List.cons_append, List.append_nil]
          try simp only [Act.put, List.setIfInBounds_toArray, List.set_cons_succ, List.set_cons_zero]
          repeat (go_big_quiet_step (fail))
          with_reducible refine wpQuiet_nil ?_
          refine st_end (by kernel_rfl) ?_
          simp only [List.drop_succ_cons, List.drop_zero, List.drop_nil]
          skip
          go_wp2_with fail
          obtain ⟨Ab1, cb1, rfl⟩ := own_slice hownb1
          obtain ⟨Ab2, cb2, rfl⟩ := own_slice hownb2
          have hle1 : (lx.eraseIdx kb).length < lx.length := by rw [List.length_eraseIdx, if_pos hklx]; omega
          have hle2 : (l.eraseIdx kb).length < l.length := by rw [List.length_eraseIdx, if_pos hkl]; omega
          have hlee : (lx.eraseIdx kb).length = (l.eraseIdx kb).length := by rw [List.length_eraseIdx, List.length_eraseIdx, if_pos hklx, if_pos hkl, HLN.out]
          go_roundw
          case rel => exact ⟨l.eraseIdx kb, lx.eraseIdx kb, by rw [HLX.out, erase_map]; rfl, hlee, by omega, (Rd.own hownb1).bel hbd2, Rd.own hownb2, HS.out.erase kb, hbd.trans (Bel.trans (by repeat (first | (with_reducible exact Bel.refl _) | (with_reducible assumption) | (with_reducible refine Bel.drewN ?_ _) | (with_reducible refine Bel.drew ?_) | (with_reducible refine Bel.alloc ?_ _) | (with_reducible refine Bel.setNew ?_ ?_ _) | (with_reducible refine Bel.trans ?_ (by assumption)) | (focus (simp; done)) | (focus (simp; omega)))) hbb2)⟩
          case measure => simp [lenV]; omega
        · have e0 : lx.length = 0 := by rw [HLN.out]; omega
          rw [e0]
          go_wp2_with fail
          refine (awakeFair_any _).mono ?_; rintro e w3 ⟨rfl, hb3⟩
          go_wp2
          go_ret
          exact ⟨rfl, hbr.trans hb3⟩
  · skip
    refine eff_made rfl (by simp [go_sem]; exact ⟨rfl, rfl⟩) (by repeat (first | (with_reducible exact Bel.refl _) | (with_reducible assumption) | (with_reducible refine Bel.drewN ?_ _) | (with_reducible refine Bel.drew ?_) | (with_reducible refine Bel.alloc ?_ _) | (with_reducible refine Bel.setNew ?_ ?_ _) | (with_reducible refine Bel.trans ?_ (by assumption)) | (focus (simp; done)) | (focus (simp; omega)))) ?_
    try simp only [List.nil_append, List.cons_append, Act.put, List.setIfInBounds_toArray, List.set_cons_succ, List.set_cons_zero]
    refine st_branch [12] (by kernel_rfl) (branch_cons (by simp only [List.getElem?_toArray, List.getElem?_cons_succ, List.getElem?_cons_zero]; rfl) ?_ branch_nil)
    refine eff_made rfl (by simp [go_sem]; exact ⟨rfl, rfl⟩) (by repeat (first | (with_reducible exact Bel.refl _) | (with_reducible assumption) | (with_reducible refine Bel.drewN ?_ _) | (with_reducible refine Bel.drew ?_) | (with_reducible refine Bel.alloc ?_ _) | (with_reducible refine Bel.setNew ?_ ?_ _) | (with_reducible refine Bel.trans ?_ (by assumption)) | (focus (simp; done)) | (focus (simp; omega)))) ?_
    try simp only [List.nil_append, List.cons_append, Act.put, List.setIfInBounds_toArray, List.set_cons_succ, List.set_cons_zero]
    refine st_branch [13] (by kernel_rfl) (branch_cons (by simp only [List.getElem?_toArray, List.getElem?_cons_succ, List.getElem?_cons_zero]; rfl) ?_ branch_nil)
    refine eff_call 24 rfl (by simp [go_sem]; rfl) (by repeat (first | (with_reducible exact Bel.refl _) | (with_reducible assumption) | (with_reducible refine Bel.drewN ?_ _) | (with_reducible refine Bel.drew ?_) | (with_reducible refine Bel.alloc ?_ _) | (with_reducible refine Bel.setNew ?_ ?_ _) | (with_reducible refine Bel.trans ?_ (by assumption)) | (focus (simp; done)) | (focus (simp; omega)))) ?_
    refine (HN2.out _ _ (ints3_at (by simp [go_sem]) (by simp [go_sem]) (by simp [go_sem]) ⟨by omega, by omega⟩ ⟨by omega, by omega⟩ ⟨by omega, by omega⟩)).mono ?_; rintro e w5 ⟨v5, rfl, hown5, hb5⟩
    obtain ⟨A5, c5, rfl⟩ := own_slice hown5
    refine ⟨_, rfl, hb5, ?_⟩
    try simp only [List.nil_append, List.cons_append, Act.put, List.setIfInBounds_toArray, List.set_cons_succ, List.set_cons_zero]
    with_reducible refine st_sel [14, 15, 16] (by kernel_rfl) (by kernel_rfl) ?_
    simp only [picked, List.getElem?_cons_succ, List.getElem?_cons_zero, Option.toList_some, List.nil_append, List.cons_append, List.append_nil]
    try simp only [Act.put, List.setIfInBounds_toArray, List.set_cons_succ, List.set_cons_zero]
    repeat (go_big_quiet_step (fail))
    with_reducible refine wpQuiet_nil ?_
    refine st_branch [18] (by kernel_rfl) (branch_cons (by simp only [List.getElem?_toArray, List.getElem?_cons_succ, List.getElem?_cons_zero]; rfl) ?_ branch_nil)
    have e0 := hb5.cellAt (W.heap.size) 0 (by first | (simp; done) | (simp; omega))
    have e1 := hb5.cellAt (W.heap.size) 1 (by first | (simp; done) | (simp; omega))
    have f0 := hb5.frozenAt (W.heap.size) 0 (by first | (simp; done) | (simp; omega))
    have f1 := hb5.frozenAt (W.heap.size) 1 (by first | (simp; done) | (simp; omega))
    simp [go_sem] at e0 e1 f0 f1
    refine eff_done rfl (by simp [go_sem, e0, e1, f0, f1]; rfl) (by repeat (first | (with_reducible exact Bel.refl _) | (with_reducible assumption) | (with_reducible refine Bel.drewN ?_ _) | (with_reducible refine Bel.drew ?_) | (with_reducible refine Bel.alloc ?_ _) | (with_reducible refine Bel.setNew ?_ ?_ _) | (with_reducible refine Bel.trans ?_ (by assumption)) | (focus (simp; done)) | (focus (simp; omega)))) ?_
    try simp only [List.nil_append, List.cons_append, Act.put, List.setIfInBounds_toArray, List.set_cons_succ, List.set_cons_zero]
    clear e0 e1 f0 f1
    with_reducible refine st_sel [19] (by kernel_rfl) (by kernel_rfl) ?_
    simp only [picked, List.getElem?_cons_succ, List.getElem?_cons_zero, Option.toList_some, List.nil_append, List.cons_append, List.append_nil]
    try simp only [Act.put, List.setIfInBounds_toArray, List.set_cons_succ, List.set_cons_zero]
    repeat (go_big_quiet_step (fail))
    with_reducible refine wpQuiet_nil ?_
    refine st_end (by kernel_rfl) ?_
    simp only [List.drop_succ_cons, List.drop_zero, List.drop_nil]
    have H9 := box_old (X := W) (T := 25) (c := .int .i64 0) (d := .slice none 0 0) (a := .int .i64 0) (b := .slice A5 3 c5) hA1 (Bel.refl _) (Bel.trans (by repeat (first | (with_reducible exact Bel.refl _) | (with_reducible assumption) | (with_reducible refine Bel.drewN ?_ _) | (with_reducible refine Bel.drew ?_) | (with_reducible refine Bel.alloc ?_ _) | (with_reducible refine Bel.setNew ?_ ?_ _) | (with_reducible refine Bel.trans ?_ (by assumption)) | (focus (simp; done)) | (focus (simp; omega)))) hb5) hown5 (by simp; omega)
    generalize World.setCell _ _ _ = W5 at H9 ⊢
    generalize W.heap.size = P at H9 ⊢
    obtain ⟨hA9, hP9, hG9, hb9⟩ := H9
    have hR9 := hR1.bel hb9
    have hbw9 : Bel w W5 := hbw.trans hb9
    clear rg0 rg1 rg2 g0 g1 g2 e0 e1 e2
    have a0 := hA9.1.2 0 _ rfl
    have a1 := hA9.1.2 1 _ rfl
    have af := hA9.2
    have al := hA9.1.1
    have p0 := hP9.1.2 0 _ rfl
    have p1 := hP9.1.2 1 _ rfl
    have pf := hP9.2
    have pl := hP9.1.1
    go_wp2_with fail
    refine (stamped_any fa _ _ zs _ HF1.out hR9 (HI.out.bel hbw9)).mono ?_; rw [HMAP.out, ← HLL.out]; rintro e w6 ⟨v6, x6, rfl, hV6, hX6, hb6⟩
    obtain ⟨A6, c6, rfl, _, _⟩ := hV6.form
    obtain ⟨Ax, cx, rfl, _, _⟩ := hX6.form
    have p0' := (hb6.cellAt P 0 pl).trans p0
    have p1' := (hb6.cellAt P 1 pl).trans p1
    have hlp : P < w6.heap.size := Nat.lt_of_lt_of_le pl hb6.size
    clear a0 a1 af al p0 p1 pf
    go_wp2_with fail
    refine (stamped_any fb _ _ zs _ HF2.out (hG9.bel (hb6.alloc _)) (HI.out.bel ((hbw9.trans hb6).alloc _))).mono ?_; rw [← HL0.out, ← HLL.out]; rintro e w7 ⟨v7, x7, rfl, hV7, hX7, hb7⟩
    obtain ⟨A7, c7, rfl, _, _⟩ := hV7.form
    obtain ⟨Ay, cy, rfl, _, _⟩ := hX7.form
    have hX7b := ((hX6.alloc (.cells #[.int .i64 0, .slice A6 3 c6] 25)).bel hb7).alloc (.cells #[.int .i64 0, .slice A7 3 c7] 25)
    have hY7b := hX7.alloc (.cells #[.int .i64 0, .slice A7 3 c7] 25)
    have hb7b : Bel w (w7.alloc (.cells #[.int .i64 0, .slice A7 3 c7] 25)) := (((hbw9.trans hb6).alloc _).trans hb7).alloc _
    have hmin := HMN.out
    obtain ⟨lx0, Hlx0⟩ : ∃ lx, Hid (lx = l0.map dbl) := ⟨_, rfl⟩
    have hlx0 : l0.length = lx0.length := by rw [Hlx0.out, List.length_map]
    rw [← Hlx0.out] at hX7b
    have HLX0 := Lib.hid hlx0
    clear hlp p0' p1' pl hV6 hX6 hb6 hX7 hb7 hV7 hR9 hbw9 hA9 hP9 hG9 hb9 hlx0
    go_wp2
    generalize w7.alloc (.cells #[.int .i64 0, .slice A7 3 c7] 25) = W8 at *
    clear hmin
    go_loopw [11, 13] (fun xv yv wr => ∃ (l lx : List Qd), Hid (lx = l.map dbl) ∧ Hid (lx.length = l.length) ∧ l.length ≤ 30 ∧ Rd wr xv 12 lx.length (qcells lx) ∧ Rd wr yv 12 l.length (qcells l) ∧ Hid (StaOk l) ∧ Bel w wr) (fun xv _ _ => lenV xv)
    case atStart => exact ⟨l0, lx0, Hlx0, HLX0.out.symm, hl30, by rw [← HLX0.out]; exact hX7b, hY7b, HSO, hb7b⟩
    case round =>
      obtain ⟨l, lx, HLX, HLN, hl, hXr, hYr, HS, hbr⟩ := hrel
      clear hX7b hY7b hb7b
      obtain ⟨Ax', cx', rfl, hcx1, hcx2⟩ := hXr.form
      obtain ⟨Ay', cy', rfl, hcy1, hcy2⟩ := hYr.form
      unfold maxLen at hcx2 hcy2
      by_cases h0 : 0 < l.length
      · have h0x : 0 < lx.length := by rw [HLN.out]; exact h0
        obtain ⟨kb, q, hpick, hkl, hq, _⟩ := pick_all h0
        have hpx : pickN lx (yesL lx.length) lx.length = some kb := by rw [HLN.out, HLX.out, pickN_dbl]; exact hpick
        have hklx : kb < lx.length := by rw [HLN.out]; exact hkl
        have hqx : lx[kb]? = some (dbl q) := by rw [HLX.out, List.getElem?_map, hq]; rfl
        have hsq := HS.out q (List.mem_of_getElem? hq)
        obtain ⟨sq1, sq2⟩ := hsq
        have HP := Lib.hid hpick
        have HPX := Lib.hid hpx
        have HXR := Lib.hid hXr
        have HYR := Lib.hid hYr
        obtain ⟨bx, ox, cqx, hvx, hlbx, hcellx⟩ := hXr.at h0x
        cases hvx
        obtain ⟨bY, oY, cqy, hvy, hlby, hcelly⟩ := hYr.at h0
        cases hvy
        have cxa := (row_at Qd.cells_len hcellx hqx).cell 10 rfl
        have cya := (row_at Qd.cells_len hcelly hq).cell 10 rfl
        simp only [dbl] at cxa
        have h1 : (0 : Int) < (lx.length : Int) := by omega
        have k1 : (kb : Int) < (l.length : Int) := by omega
        have k2 : (kb : Int) < (lx.length : Int) := by omega
        have k0 : (0 : Int) ≤ (kb : Int) := by omega
        have hlx30 : lx.length ≤ 30 := by rw [HLN.out]; exact hl
        have k8 : decide ((kb : Int) < 0) = false := by simp
        have k7 : decide ((lx.length : Int) ≤ (kb : Int)) = false := by simp; omega
        have k6 : decide (lx.length ≤ kb) = false := by simp; omega
        clear hpick hpx hq hqx hcellx hcelly hXr hYr
        go_wp2_with fail
        refine (yes_any lx.length _ (by omega)).mono ?_; rintro e w3 ⟨vy, rfl, hy3, hb3⟩
        go_wp2_with fail
        refine (fairPick_any lx (yesL lx.length) _ vy _ (HXR.out.bel hb3) hy3).mono ?_; rw [HPX.out]; rintro e w4 ⟨rfl, hb4⟩
        have hb34 : Bel wr w4 := hb3.trans hb4
        clear hb3 hb4 hy3
        go_wp2_with fail
        refine (yes_any l.length _ (by omega)).mono ?_; rintro e w3 ⟨vy, rfl, hy3, hb3⟩
        go_wp2_with fail
        refine (fairPick_any l (yesL l.length) _ vy _ (HYR.out.bel (hb34.trans hb3)) hy3).mono ?_; rw [HP.out]; rintro e w5 ⟨rfl, hb4⟩
        have hb35 : Bel wr w5 := (hb34.trans hb3).trans hb4
        have hX5 := HXR.out.bel hb35
        have hY5 := HYR.out.bel hb35
        have cxa' := (hb35.cellAt bx (ox + kb * 12 + 10) hlbx).trans cxa
        have cya' := (hb35.cellAt bY (oY + kb * 12 + 10) hlby).trans cya
        have hlx5 : bx < w5.heap.size := Nat.lt_of_lt_of_le hlbx hb35.size
        have hly5 : bY < w5.heap.size := Nat.lt_of_lt_of_le hlby hb35.size
        have hbw5 : Bel w w5 := hbr.trans hb35
        clear hb34 hb3 hb4 hy3 cxa cya hlbx hlby hb35 hbr
        go_wp2_with fail
        have rg0 := fun d os => cell_regrown cxa' d os
        have rg1 := fun d os => cell_regrown cya' d os
        have e5 : IntKind.i64.wrap (2 * q.sta) = 2 * q.sta := IntWalk.i64_in _ (by omega)
        refine wp_region_lex [] 35 (by kernel_rfl) (by kernel_rfl) ?_
        simp only [List.take_succ_cons, List.take_zero, List.drop_succ_cons, List.drop_zero]
        with_reducible refine lex_seg 35 _ _ _ _ (by kernel_rfl) ?_
        simp only [List.take_succ_cons, List.take_zero, List.drop_succ_cons, List.drop_zero]
        try simp only [Act.put, List.setIfInBounds_toArray, List.set_cons_succ, List.set_cons_zero]
        repeat (go_big_quiet_step (fail))
        with_reducible refine wpQuiet_nil ?_
        with_reducible refine lex_nil ?_
        clear rg0 rg1 e5 k8 k7 k6
        have hXd := hX5.bel (Bel.drew (Bel.refl w5))
        have hYd := hY5.bel (Bel.drew (Bel.refl w5))
        have hbd := hbw5.drew
        have hlxd : bx < w5.drew.heap.size := hlx5
        have hlyd : bY < w5.drew.heap.size := hly5
        clear cxa' cya' hX5 hY5 hbw5 hlx5 hly5
        go_wp2_with fail
        generalize w5.drew = Y at *
        have e6 : IntKind.i64.wrap ((kb : Int) + 1) = (kb : Int) + 1 := IntWalk.i64_in _ (by omega)
        obtain ⟨hnew11, ad1, had1, hnew21⟩ := rem_news hXd hlxd hklx
        obtain ⟨hnew12, ad2, had2, hnew22⟩ := rem_news hYd hlyd hkl
        have hel1 : kb + (lx.length - (kb + 1)) = (lx.eraseIdx kb).length := by rw [List.length_eraseIdx, if_pos hklx]; omega
        have hel2 : kb + (l.length - (kb + 1)) = (l.eraseIdx kb).length := by rw [List.length_eraseIdx, if_pos hkl]; omega
        refine wp_region_st [3, 8, 12, 17] 20 (by kernel_rfl) (by kernel_rfl) ?_
        with_reducible refine st_sel [0, 1, 2, 4, 5, 6, 7, 9, 10, 11, 13, 14, 15, 16] (by kernel_rfl) (by kernel_rfl) ?_
        simp only [picked, List.getElem?_cons_succ, List.getElem?_cons_zero, Option.toList_some, List.nil_append, List.cons_append, List.append_nil]
        try simp only [Act.put, List.setIfInBounds_toArray, List.set_cons_succ, List.set_cons_zero]
        repeat (go_big_quiet_step (fail))
        with_reducible refine wpQuiet_nil ?_
        refine st_branch [3] (by kernel_rfl) (branch_cons (by simp only [List.getElem?_toArray, List.getElem?_cons_succ, List.getElem?_cons_zero]; rfl) ?_ branch_nil)
        refine eff_append_own rfl _ _ 26 rfl (Y).heap.size 53 i0 _ 12 120 Try.underlying26 hi0 hz0 hz1 hz2 rfl (by omega) (.slice none 0 0) 0 [] rfl ⟨by simp, Or.inl ⟨rfl, rfl⟩⟩ ⟨bx, ox, none⟩ kb _ (qcells ((lx).take kb)) rfl (by rw [qcells_len, List.length_take, Nat.min_eq_left (Nat.le_of_lt hklx)]) (hnew11 _ (by repeat (first | (with_reducible exact Bel.refl _) | (with_reducible assumption) | (with_reducible refine Bel.drewN ?_ _) | (with_reducible refine Bel.drew ?_) | (with_reducible refine Bel.alloc ?_ _) | (with_reducible refine Bel.setNew ?_ ?_ _) | (with_reducible refine Bel.trans ?_ (by assumption)) | (focus (simp; done)) | (focus (simp; omega))))) (qcells_one _) (by unfold maxLen; omega) (by omega) (by simp) (by repeat (first | (with_reducible exact Bel.refl _) | (with_reducible assumption) | (with_reducible refine Bel.drewN ?_ _) | (with_reducible refine Bel.drew ?_) | (with_reducible refine Bel.alloc ?_ _) | (with_reducible refine Bel.setNew ?_ ?_ _) | (with_reducible refine Bel.trans ?_ (by assumption)) | (focus (simp; done)) | (focus (simp; omega)))) (by simp) ?_
        intro va1 wa1 howna1 hga1 hba1
        simp only [Nat.zero_add, List.nil_append] at howna1
        try simp only [List.nil_append, List.cons_append, Act.put, List.setIfInBounds_toArray, List.set_cons_succ, List.set_cons_zero]
        refine st_branch [8] (by kernel_rfl) (branch_cons (by simp only [List.getElem?_toArray, List.getElem?_cons_succ, List.getElem?_cons_zero]; rfl) ?_ branch_nil)
        refine eff_append_own rfl _ _ 26 rfl (Y).heap.size 53 i0 _ 12 120 Try.underlying26 hi0 hz0 hz1 hz2 rfl (by omega) va1 kb _ rfl howna1 ad1 ((lx).length - (kb + 1)) _ (qcells ((lx).drop (kb + 1))) rfl (by rw [qcells_len, List.length_drop]) (hnew21 _ (Bel.trans (by repeat (first | (with_reducible exact Bel.refl _) | (with_reducible assumption) | (with_reducible refine Bel.drewN ?_ _) | (with_reducible refine Bel.drew ?_) | (with_reducible refine Bel.alloc ?_ _) | (with_reducible refine Bel.setNew ?_ ?_ _) | (with_reducible refine Bel.trans ?_ (by assumption)) | (focus (simp; done)) | (focus (simp; omega)))) hba1)) (qcells_one _) (by unfold maxLen; omega) (by omega) hba1.size hba1 (by simp) ?_
        intro vb1 wb1 hownb1 hgb1 hbb1
        rw [← qcells_app, erase_eq, hel1] at hownb1
        try simp only [List.nil_append, List.cons_append, Act.put, List.setIfInBounds_toArray, List.set_cons_succ, List.set_cons_zero]
        refine st_branch [12] (by kernel_rfl) (branch_cons (by simp only [List.getElem?_toArray, List.getElem?_cons_succ, List.getElem?_cons_zero]; rfl) ?_ branch_nil)
        refine eff_append_own rfl _ _ 26 rfl (wb1).heap.size 53 i0 _ 12 120 Try.underlying26 hi0 hz0 hz1 hz2 rfl (by omega) (.slice none 0 0) 0 [] rfl ⟨by simp, Or.inl ⟨rfl, rfl⟩⟩ ⟨bY, oY, none⟩ kb _ (qcells ((l).take kb)) rfl (by rw [qcells_len, List.length_take, Nat.min_eq_left (Nat.le_of_lt hkl)]) (hnew12 _ (by repeat (first | (with_reducible exact Bel.refl _) | (with_reducible assumption) | (with_reducible refine Bel.drewN ?_ _) | (with_reducible refine Bel.drew ?_) | (with_reducible refine Bel.alloc ?_ _) | (with_reducible refine Bel.setNew ?_ ?_ _) | (with_reducible refine Bel.trans ?_ (by assumption)) | (focus (simp; done)) | (focus (simp; omega))))) (qcells_one _) (by unfold maxLen; omega) (by omega) (by simp) (by repeat (first | (with_reducible exact Bel.refl _) | (with_reducible assumption) | (with_reducible refine Bel.drewN ?_ _) | (with_reducible refine Bel.drew ?_) | (with_reducible refine Bel.alloc ?_ _) | (with_reducible refine Bel.setNew ?_ ?_ _) | (with_reducible refine Bel.trans ?_ (by assumption)) | (focus (simp; done)) | (focus (simp; omega)))) hbb1.size ?_
        intro va2 wa2 howna2 hga2 hba2
        simp only [Nat.zero_add, List.nil_append] at howna2
        try simp only [List.nil_append, List.cons_append, Act.put, List.setIfInBounds_toArray, List.set_cons_succ, List.set_cons_zero]
        have hbc : Bel wb1 wa2 := bel_own (Bel.refl _) (⟨by simp, Or.inl ⟨rfl, rfl⟩⟩ : World.ownsRow wb1 wb1.heap.size 53 12 (.slice none 0 0) 0 []) hga2 (Nat.le_refl _)
        refine st_branch [17] (by kernel_rfl) (branch_cons (by simp only [List.getElem?_toArray, List.getElem?_cons_succ, List.getElem?_cons_zero]; rfl) ?_ branch_nil)
        refine eff_append_own rfl _ _ 26 rfl (wb1).heap.size 53 i0 _ 12 120 Try.underlying26 hi0 hz0 hz1 hz2 rfl (by omega) va2 kb _ rfl howna2 ad2 ((l).length - (kb + 1)) _ (qcells ((l).drop (kb + 1))) rfl (by rw [qcells_len, List.length_drop]) (hnew22 _ (Bel.trans (by repeat (first | (with_reducible exact Bel.refl _) | (with_reducible assumption) | (with_reducible refine Bel.drewN ?_ _) | (with_reducible refine Bel.drew ?_) | (with_reducible refine Bel.alloc ?_ _) | (with_reducible refine Bel.setNew ?_ ?_ _) | (with_reducible refine Bel.trans ?_ (by assumption)) | (focus (simp; done)) | (focus (simp; omega)))) hba2)) (qcells_one _) (by unfold maxLen; omega) (by omega) hga2.size hba2 hbb1.size ?_
        intro vb2 wb2 hownb2 hgb2 hbb2
        rw [← qcells_app, erase_eq, hel2] at hownb2
        try simp only [List.nil_append, List.cons_append, Act.put, List.setIfInBounds_toArray, List.set_cons_succ, List.set_cons_zero]
        have hbd2 : Bel wb1 wb2 := bel_own hbc howna2 hgb2 (Nat.le_refl _)
        with_reducible refine st_sel [18, 19] (by kernel_rfl) (by kernel_rfl) ?_
        simp only [picked, List.getElem?_cons_succ, List.getElem?_cons_zero, Option.toList_some, List.nil_append, List.cons_append, List.append_nil]
        try simp only [Act.put, List.setIfInBounds_toArray, List.set_cons_succ, List.set_cons_zero]
        repeat (go_big_quiet_step (fail))
        with_reducible refine wpQuiet_nil ?_
        refine st_end (by kernel_rfl) ?_
        simp only [List.drop_succ_cons, List.drop_zero, List.drop_nil]
        skip
        go_wp2_with fail
        obtain ⟨Ab1, cb1, rfl⟩ := own_slice hownb1
        obtain ⟨Ab2, cb2, rfl⟩ := own_slice hownb2
        have hle1 : (lx.eraseIdx kb).length < lx.length := by rw [List.length_eraseIdx, if_pos hklx]; omega
        have hle2 : (l.eraseIdx kb).length < l.length := by rw [List.length_eraseIdx, if_pos hkl]; omega
        have hlee : (lx.eraseIdx kb).length = (l.eraseIdx kb).length := by rw [List.length_eraseIdx, List.length_eraseIdx, if_pos hklx, if_pos hkl, HLN.out]
        go_roundw
        case rel => exact ⟨l.eraseIdx kb, lx.eraseIdx kb, by rw [HLX.out, erase_map]; rfl, hlee, by omega, (Rd.own hownb1).bel hbd2, Rd.own hownb2, HS.out.erase kb, hbd.trans (Bel.trans (by repeat (first | (with_reducible exact Bel.refl _) | (with_reducible assumption) | (with_reducible refine Bel.drewN ?_ _) | (with_reducible refine Bel.drew ?_) | (with_reducible refine Bel.alloc ?_ _) | (with_reducible refine Bel.setNew ?_ ?_ _) | (with_reducible refine Bel.trans ?_ (by assumption)) | (focus (simp; done)) | (focus (simp; omega)))) hbb2)⟩
        case measure => simp [lenV]; omega
      · have e0 : lx.length = 0 := by rw [HLN.out]; omega
        rw [e0]
        go_wp2_with fail
        refine (awakeFair_any _).mono ?_; rintro e w3 ⟨rfl, hb3⟩
        go_wp2
        go_ret
        exact ⟨rfl, hbr.trans hb3⟩
end Go.Proofs.Ytacbljfpcchbbaa
