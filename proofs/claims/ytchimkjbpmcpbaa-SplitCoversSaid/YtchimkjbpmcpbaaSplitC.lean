/- The walk of SplitCovers. -/
import Derived.Test.YtchimkjbpmcpbaaSplitB
namespace Go.Proofs.Ytchimkjbpmcpbaa
open Go.RowKit

set_option maxHeartbeats 2000000 in
theorem splitCovers_walk (n s0 c0 : Int) (w : World) (_ : IsInt n) (_ : IsInt s0) (_ : IsInt c0) :
    Calls Try.prog 6 #[.int .i64 n, .int .i64 s0, .int .i64 c0] w fun e w' => e = .returned (.bool true) ∧ Bel w w' := by
  have hlim := dockLim n
  obtain ⟨M, HM⟩ : ∃ M, Hid (M = 1 + rnd n 6) := ⟨_, rfl⟩
  obtain ⟨B, HB⟩ : ∃ B, Hid (B = bound n) := ⟨_, rfl⟩
  rw [← HM.out, ← HB.out] at hlim
  have s1 := rnd_lo s0 128
  have s2 := rnd_hi s0 128 (by omega)
  obtain ⟨s, Hs⟩ : ∃ s, Hid (s = rnd s0 128) := ⟨_, rfl⟩
  rw [← Hs.out] at s1 s2
  have c1 := rnd_lo c0 (min 30 (128 - s))
  have c2 := rnd_hi c0 (min 30 (128 - s)) (by omega)
  have c3 : rnd c0 (min 30 (128 - s)) < 128 - s := by omega
  obtain ⟨c, Hc⟩ : ∃ c, Hid (c = rnd c0 (min 30 (128 - s))) := ⟨_, rfl⟩
  rw [← Hc.out] at c1 c2 c3
  obtain ⟨d, hd⟩ : ∃ d, 1 + c = d := ⟨_, rfl⟩
  have d1 : 1 ≤ d := by omega
  have d2 : s + d ≤ 128 := by omega
  have hL : splitL M B s d = splitGo M B d.toNat s d := by simp [splitL, hlim, s1, d1]; omega
  have Hd := Lib.hid hd
  clear hd c1 c2 c3
  go_enter Try.func6, Try.ntmps6
  go_wp2_with fail
  refine (limits_any n _).mono ?_; rw [← HM.out, ← HB.out]; rintro e w1 ⟨rfl, hb1⟩
  go_wp2_with fail
  refine (round_any _ _ _ (by omega)).mono ?_; rw [← Hs.out]; rintro e w2 ⟨rfl, rfl⟩
  go_wp2_with fail
  all_goals
    first
    | rw [show (Value.int .i64 30) = Value.int .i64 (min 30 (128 - s)) from congrArg (Value.int .i64) (by omega)]
    | rw [show (Value.int .i64 (128 - s)) = Value.int .i64 (min 30 (128 - s)) from congrArg (Value.int .i64) (by omega)]
    refine (round_any _ _ _ (by omega)).mono ?_; rw [← Hc.out]; rintro e w3 ⟨rfl, rfl⟩
    have hc9 : 0 ≤ c := by have := Hd.out; omega
    have hc8 : c ≤ 128 := by have := Hd.out; omega
    go_wp2_with fail
    rw [Hd.out]
    refine (splitSplit_any M B s d _).mono ?_; rintro e w4 ⟨v, rfl, hown, hb4⟩
    obtain ⟨_, A, cp, rfl, hcp, hmx, hrd⟩ := Rd.own hown
    obtain ⟨nL, HnL⟩ : ∃ nL, Hid (nL = (splitL M B s d).length) := ⟨_, rfl⟩
    rw [← HnL.out] at hcp hrd ⊢
    unfold maxLen at hmx
    have HR := Lib.hid hrd
    clear hrd hown
    have hk0 : w4.cell? ⟨w1.heap.size, 0, none⟩ = some (.int .i64 M) := by rw [hb4.cellAt _ _ (by simp)]; simp [go_sem]
    have hk1 : w4.cell? ⟨w1.heap.size, 1, none⟩ = some (.int .i64 B) := by rw [hb4.cellAt _ _ (by simp)]; simp [go_sem]
    have hbw : Bel w w4 := (by repeat (first | (with_reducible exact Bel.refl _) | (with_reducible assumption) | (with_reducible refine Bel.drewN ?_ _) | (with_reducible refine Bel.drew ?_) | (with_reducible refine Bel.alloc ?_ _) | (with_reducible refine Bel.setNew ?_ ?_ _) | (with_reducible refine Bel.trans ?_ (by assumption)) | (simp; done) | (simp; omega)))
    have HL := Lib.hid hL
    clear hb1 hb4 hL
    go_wp2_with fail
    go_loopw [11, 12] (fun av iv wr => ∃ (i f : Nat) (p r : Int), iv = .int .i64 i ∧ av = .int .i64 p ∧ i ≤ nL ∧ 0 ≤ p ∧ 0 ≤ r ∧ r ≤ f ∧ Hid (p + r = s + d) ∧ p + r ≤ 128 ∧ Hid ((splitL M B s d).drop i = splitGo M B f p r) ∧ Bel w4 wr) (fun _ iv _ => nL - (intOf iv).toNat)
    case atStart => exact ⟨0, d.toNat, s, d, rfl, rfl, by omega, s1, by omega, by omega, rfl, d2, by show _ = _; rw [HL.out]; rfl, Bel.refl _⟩
    case round =>
      obtain ⟨i, f, p, r, rfl, rfl, p1, p2, p3, p4, HS, p5, HE, hbr⟩ := hrel
      by_cases hlt : i < nL
      · have hr1 : 1 ≤ r := by
          rcases Int.lt_or_le r 1 with hr0 | hr0
          · exfalso
            have e1 := HE.out
            obtain rfl : r = 0 := by omega
            have e2 : splitGo M B f p 0 = [] := by cases f <;> simp [splitGo]
            rw [e2, List.drop_eq_nil_iff] at e1
            have := HnL.out
            omega
          · exact hr0
        obtain ⟨f, rfl⟩ : ∃ g, f = g + 1 := ⟨f - 1, by omega⟩
        have r1 := room_pos (s := p) hlim
        obtain ⟨n1, hn1⟩ : ∃ n1, n1 = min r (room M B p) := ⟨_, rfl⟩
        have hE1 : (splitL M B s d)[i]? = some (p, n1) ∧ (splitL M B s d).drop (i + 1) = splitGo M B f (p + n1) (r - n1) := by
          have e1 := HE.out
          rw [splitGo, if_neg (by omega), ← hn1] at e1
          have e2 : ((splitL M B s d).drop i)[0]? = some (p, n1) := by rw [e1]; rfl
          rw [List.getElem?_drop] at e2
          refine ⟨by simpa using e2, ?_⟩
          have e3 : ((splitL M B s d).drop i).drop 1 = splitGo M B f (p + n1) (r - n1) := by rw [e1]; rfl
          rw [List.drop_drop] at e3
          exact e3
        have hf1 : fits M B p n1 = true := by simp [fits, hlim]; omega
        have hf2 : p + n1 < s + d → fits M B p (n1 + 1) = false := by
          intro h9
          have := HS.out
          simp only [fits, hlim, Bool.true_and, decide_eq_false_iff_not]
          omega
        have hn2 : 1 ≤ n1 := by omega
        have hn3 : n1 ≤ r := by omega
        clear hn1 r1
        obtain ⟨b, o, rfl, hlb, hcell⟩ := HR.out (by omega)
        have g0 : wr.cell? ⟨b, o + i * 2, none⟩ = some (.int .i64 p) := by rw [hbr.cellAt _ _ hlb]; exact hcell _ _ (spanCells_at0 _ _ _ hE1.1)
        have g1 : wr.cell? ⟨b, o + i * 2 + 1, none⟩ = some (.int .i64 n1) := by rw [hbr.cellAt _ _ hlb]; exact hcell _ _ (spanCells_at1 _ _ _ hE1.1)
        have g2 : wr.cell? ⟨w1.heap.size, 0, none⟩ = some (.int .i64 M) := by rw [hbr.cellAt _ _ (World.block_lt_of_cell? _ _ hk0)]; exact hk0
        have g3 : wr.cell? ⟨w1.heap.size, 1, none⟩ = some (.int .i64 B) := by rw [hbr.cellAt _ _ (World.block_lt_of_cell? _ _ hk0)]; exact hk1
        have HE1 := Lib.hid hE1
        have Hf2 := Lib.hid hf2
        clear hE1 hf2 hcell
        have i0 : (0 : Int) ≤ (i : Int) := by omega
        have i1 : (i : Int) < (nL : Int) := by omega
        go_wp2
        have q0 := fun d os => cell_regrown g0 d os
        have q1 := fun d os => cell_regrown g1 d os
        have q2 := fun d os => cell_regrown g2 d os
        have q3 := fun d os => cell_regrown g3 d os
        refine wp_region_lex [19] 22 (by kernel_rfl) (by kernel_rfl) ?_
        simp only [List.take_succ_cons, List.take_zero, List.drop_succ_cons, List.drop_zero]
        refine lex_seg 19 _ _ _ _ (by kernel_rfl) ?_
        simp only [List.take_succ_cons, List.take_zero, List.drop_succ_cons, List.drop_zero]
        try simp only [Act.put, List.setIfInBounds_toArray, List.set_cons_succ, List.set_cons_zero]
        repeat (go_big_quiet_step (fail))
        refine wpQuiet_nil ?_
        refine lex_call 20 rfl rfl (by simp [go_sem]; rfl) ?_
        refine (splitFits_any M B p n1 _).mono ?_; rw [hf1]; rintro e w5 ⟨rfl, hb5⟩
        refine ⟨_, rfl, hb5, ?_⟩
        refine lex_seg 2 _ _ _ _ (by kernel_rfl) ?_
        simp only [List.take_succ_cons, List.take_zero, List.drop_succ_cons, List.drop_zero]
        try simp only [Act.put, List.setIfInBounds_toArray, List.set_cons_succ, List.set_cons_zero]
        repeat (go_big_quiet_step (fail))
        refine wpQuiet_nil ?_
        refine lex_nil ?_
        clear q0 q1 q2 q3
        have g0' : w5.cell? ⟨b, o + i * 2, none⟩ = some (.int .i64 p) := by rw [hb5.cellAt _ _ (World.block_lt_of_cell? _ _ g0)]; exact g0
        have g1' : w5.cell? ⟨b, o + i * 2 + 1, none⟩ = some (.int .i64 n1) := by rw [hb5.cellAt _ _ (World.block_lt_of_cell? _ _ g1)]; exact g1
        have g2' : w5.cell? ⟨w1.heap.size, 0, none⟩ = some (.int .i64 M) := by rw [hb5.cellAt _ _ (World.block_lt_of_cell? _ _ g2)]; exact g2
        have g3' : w5.cell? ⟨w1.heap.size, 1, none⟩ = some (.int .i64 B) := by rw [hb5.cellAt _ _ (World.block_lt_of_cell? _ _ g3)]; exact g3
        clear g0 g1 g2 g3
        by_cases hg : p + n1 < s + d
        · have hf3 := Hf2.out hg
          go_wp2
          have q0 := fun d os => cell_regrown g0' d os
          have q1 := fun d os => cell_regrown g1' d os
          have q2 := fun d os => cell_regrown g2' d os
          have q3 := fun d os => cell_regrown g3' d os
          have t1 : IntKind.i64.wrap (s + d) = s + d := IntWalk.i64_in _ ⟨by omega, by omega⟩
          have t2 : IntKind.i64.wrap (n1 + 1) = n1 + 1 := IntWalk.i64_in _ ⟨by omega, by omega⟩
          refine wp_region_lex [18] 20 (by kernel_rfl) (by kernel_rfl) ?_
          simp only [List.take_succ_cons, List.take_zero, List.drop_succ_cons, List.drop_zero]
          refine lex_seg 18 _ _ _ _ (by kernel_rfl) ?_
          simp only [List.take_succ_cons, List.take_zero, List.drop_succ_cons, List.drop_zero]
          try simp only [Act.put, List.setIfInBounds_toArray, List.set_cons_succ, List.set_cons_zero]
          repeat (go_big_quiet_step (fail))
          refine wpQuiet_nil ?_
          refine lex_call 20 rfl rfl (by simp [go_sem]; rfl) ?_
          refine (splitFits_any M B p (n1 + 1) _).mono ?_; rw [hf3]; rintro e w6 ⟨rfl, hb6⟩
          refine ⟨_, rfl, hb6, ?_⟩
          refine lex_seg 1 _ _ _ _ (by kernel_rfl) ?_
          simp only [List.take_succ_cons, List.take_zero, List.drop_succ_cons, List.drop_zero]
          try simp only [Act.put, List.setIfInBounds_toArray, List.set_cons_succ, List.set_cons_zero]
          repeat (go_big_quiet_step (fail))
          refine wpQuiet_nil ?_
          refine lex_nil ?_
          clear q0 q1 q2 q3 t1 t2
          go_wp2
          go_roundw
          case rel => exact ⟨i + 1, f, p + n1, r - n1, by go_num, by go_num, by omega, by omega, by omega, by omega, by have := HS.out; show _ = _; omega, by omega, HE1.out.2, (by repeat (first | (with_reducible exact Bel.refl _) | (with_reducible assumption) | (with_reducible refine Bel.drewN ?_ _) | (with_reducible refine Bel.drew ?_) | (with_reducible refine Bel.alloc ?_ _) | (with_reducible refine Bel.setNew ?_ ?_ _) | (with_reducible refine Bel.trans ?_ (by assumption)) | (simp; done) | (simp; omega)))⟩
          case measure => simp [intOf]; omega
        · have hd9 : decide (p + n1 < s + d) = false := by simpa using hg
          have hrn : r - n1 = 0 := by have := HS.out; omega
          have Hrn := Lib.hid hrn
          have hd8 : s + d ≤ p + n1 := by omega
          clear hrn hg
          go_wp2
          have q0 := fun d os => cell_regrown g0' d os
          have q1 := fun d os => cell_regrown g1' d os
          have q2 := fun d os => cell_regrown g2' d os
          have q3 := fun d os => cell_regrown g3' d os
          have t1 : IntKind.i64.wrap (s + d) = s + d := IntWalk.i64_in _ ⟨by omega, by omega⟩
          refine wp_region_lex [18] 20 (by kernel_rfl) (by kernel_rfl) ?_
          simp only [List.take_succ_cons, List.take_zero, List.drop_succ_cons, List.drop_zero]
          refine lex_seg 18 _ _ _ _ (by kernel_rfl) ?_
          simp only [List.take_succ_cons, List.take_zero, List.drop_succ_cons, List.drop_zero]
          try simp only [Act.put, List.setIfInBounds_toArray, List.set_cons_succ, List.set_cons_zero]
          repeat (go_big_quiet_step (fail))
          refine wpQuiet_nil ?_
          refine lex_skip rfl ?_
          refine lex_seg 1 _ _ _ _ (by kernel_rfl) ?_
          simp only [List.take_succ_cons, List.take_zero, List.drop_succ_cons, List.drop_zero]
          try simp only [Act.put, List.setIfInBounds_toArray, List.set_cons_succ, List.set_cons_zero]
          repeat (go_big_quiet_step (fail))
          refine wpQuiet_nil ?_
          refine lex_nil ?_
          clear q0 q1 q2 q3 t1
          go_wp2
          go_roundw
          case rel => exact ⟨i + 1, f, p + n1, r - n1, by go_num, by go_num, by omega, by omega, by omega, by omega, by have := HS.out; show _ = _; omega, by omega, HE1.out.2, (by repeat (first | (with_reducible exact Bel.refl _) | (with_reducible assumption) | (with_reducible refine Bel.drewN ?_ _) | (with_reducible refine Bel.drew ?_) | (with_reducible refine Bel.alloc ?_ _) | (with_reducible refine Bel.setNew ?_ ?_ _) | (with_reducible refine Bel.trans ?_ (by assumption)) | (simp; done) | (simp; omega)))⟩
          case measure => simp [intOf]; omega
      · have hr0 : p = s + d := by
          have e1 := HE.out
          rw [List.drop_of_length_le (by rw [← HnL.out]; omega)] at e1
          have := HS.out
          rcases Int.lt_or_le 0 r with h9 | h9
          · obtain ⟨f, rfl⟩ : ∃ g, f = g + 1 := ⟨f - 1, by omega⟩
            rw [splitGo, if_neg (by omega)] at e1
            cases e1
          · omega
        subst hr0
        go_wp2_with fail
        refine (awake_any _).mono ?_; rintro e w5 ⟨rfl, hb5⟩
        go_wp2
        go_ret
        exact ⟨rfl, (by repeat (first | (with_reducible exact Bel.refl _) | (with_reducible assumption) | (with_reducible refine Bel.drewN ?_ _) | (with_reducible refine Bel.drew ?_) | (with_reducible refine Bel.alloc ?_ _) | (with_reducible refine Bel.setNew ?_ ?_ _) | (with_reducible refine Bel.trans ?_ (by assumption)) | (simp; done) | (simp; omega)))⟩
end Go.Proofs.Ytchimkjbpmcpbaa
