/- The walks of SplitExact, SplitSmall and SplitCovers. -/
import Derived.Test.YtchimkjbpmcpbaaSplitA
namespace Go.Proofs.Ytchimkjbpmcpbaa
open Go.RowKit

theorem refFits_fits (M B s c : Int) (w : World) :
    Calls Try.prog 21 #[.agg #[.int .i64 M, .int .i64 B], .int .i64 s, .int .i64 c] w fun e w' => e = .returned (.bool (fits M B s c)) ∧ Bel w w' := by
  rw [← rfits_eq]; exact refFits_any M B s c w
theorem same_self (l : List (Int × Int)) (va vb : Value) (w : World) (ha : Rd w va 2 l.length (spanCells l)) (hb : Rd w vb 2 l.length (spanCells l)) :
    Calls Try.prog 22 #[va, vb] w fun e w' => e = .returned (.bool true) ∧ Bel w w' := by
  have := same_any l l va vb w ha hb
  rwa [show decide (l = l) = true by simp] at this

set_option maxHeartbeats 2000000 in
theorem splitExact_walk (M B s0 c0 : Int) (w : World) (_ : IsInt M) (_ : IsInt B) (_ : IsInt s0) (_ : IsInt c0) :
    Calls Try.prog 4 #[.agg #[.int .i64 M, .int .i64 B], .int .i64 s0, .int .i64 c0] w fun e w' => e = .returned (.bool true) ∧ Bel w w' := by
  have l1 := rnd_lo s0 140
  have l2 := rnd_hi s0 140 (by omega)
  have l3 := rnd_lo c0 140
  have l4 := rnd_hi c0 140 (by omega)
  go_enter Try.func4, Try.ntmps4
  go_wp2_with fail
  refine (round_any _ _ _ (by omega)).mono ?_; rintro e w2 ⟨rfl, rfl⟩
  go_wp2_with fail
  refine (round_any _ _ _ (by omega)).mono ?_; rintro e w3 ⟨rfl, rfl⟩
  go_wp2_with fail
  have hx0 : (w.alloc (.cells #[.int .i64 M, .int .i64 B] 23)).cell? ⟨w.heap.size, 0, none⟩ = some (.int .i64 M) := by simp [go_sem]
  have hx1 : (w.alloc (.cells #[.int .i64 M, .int .i64 B] 23)).cell? ⟨w.heap.size, 1, none⟩ = some (.int .i64 B) := by simp [go_sem]
  have hbx : Bel w (w.alloc (.cells #[.int .i64 M, .int .i64 B] 23)) := (by repeat (first | (with_reducible exact Bel.refl _) | (with_reducible assumption) | (with_reducible refine Bel.drewN ?_ _) | (with_reducible refine Bel.drew ?_) | (with_reducible refine Bel.alloc ?_ _) | (with_reducible refine Bel.setNew ?_ ?_ _) | (with_reducible refine Bel.trans ?_ (by assumption)) | (simp; done) | (simp; omega)))
  generalize (w.alloc (.cells #[.int .i64 M, .int .i64 B] 23)) = wx at *
  generalize rnd s0 140 - 5 = s
  generalize rnd c0 140 - 5 = c
  have q0 := fun d os => cell_regrown hx0 d os
  have q1 := fun d os => cell_regrown hx1 d os
  refine wp_region_lex [1, 3, 9, 13, 20, 24, 25, 31, 35, 42, 46, 47, 50] 53 (by kernel_rfl) (by kernel_rfl) ?_
  simp only [List.take_succ_cons, List.take_zero, List.drop_succ_cons, List.drop_zero]
  refine lex_seg 1 _ _ _ _ (by kernel_rfl) ?_
  simp only [List.take_succ_cons, List.take_zero, List.drop_succ_cons, List.drop_zero]
  try simp only [Act.put, List.setIfInBounds_toArray, List.set_cons_succ, List.set_cons_zero]
  repeat (go_big_quiet_step (fail))
  refine wpQuiet_nil ?_
  refine lex_call 18 rfl rfl (by simp [go_sem]; rfl) ?_
  refine (splitValid_any M B _).mono ?_; rintro e w1 ⟨rfl, hb1⟩
  refine ⟨_, rfl, hb1, ?_⟩
  refine lex_seg 1 _ _ _ _ (by kernel_rfl) ?_
  simp only [List.take_succ_cons, List.take_zero, List.drop_succ_cons, List.drop_zero]
  try simp only [Act.put, List.setIfInBounds_toArray, List.set_cons_succ, List.set_cons_zero]
  repeat (go_big_quiet_step (fail))
  refine wpQuiet_nil ?_
  refine lex_call 19 rfl rfl (by simp [go_sem]; rfl) ?_
  refine (refLimits_any M B _).mono ?_; rintro e w2 ⟨rfl, hb2⟩
  refine ⟨_, rfl, hb2, ?_⟩
  refine lex_seg 5 _ _ _ _ (by kernel_rfl) ?_
  simp only [List.take_succ_cons, List.take_zero, List.drop_succ_cons, List.drop_zero]
  try simp only [Act.put, List.setIfInBounds_toArray, List.set_cons_succ, List.set_cons_zero]
  repeat (go_big_quiet_step (fail))
  refine wpQuiet_nil ?_
  refine lex_call 20 rfl rfl (by simp [go_sem]; rfl) ?_
  refine (splitFits_any M B _ _ _).mono ?_; rintro e w3 ⟨rfl, hb3⟩
  refine ⟨_, rfl, hb3, ?_⟩
  refine lex_seg 3 _ _ _ _ (by kernel_rfl) ?_
  simp only [List.take_succ_cons, List.take_zero, List.drop_succ_cons, List.drop_zero]
  try simp only [Act.put, List.setIfInBounds_toArray, List.set_cons_succ, List.set_cons_zero]
  repeat (go_big_quiet_step (fail))
  refine wpQuiet_nil ?_
  refine lex_call 21 rfl rfl (by simp [go_sem]; rfl) ?_
  refine (refFits_fits M B _ _ _).mono ?_; rintro e w4 ⟨rfl, hb4⟩
  refine ⟨_, rfl, hb4, ?_⟩
  refine lex_seg 6 _ _ _ _ (by kernel_rfl) ?_
  simp only [List.take_succ_cons, List.take_zero, List.drop_succ_cons, List.drop_zero]
  try simp only [Act.put, List.setIfInBounds_toArray, List.set_cons_succ, List.set_cons_zero]
  repeat (go_big_quiet_step (fail))
  refine wpQuiet_nil ?_
  refine lex_call 15 rfl rfl (by simp [go_sem]; rfl) ?_
  refine (splitSplit_any M B _ _ _).mono ?_; rintro e w5 ⟨va, rfl, hown5, hb5⟩
  refine ⟨_, rfl, hb5, ?_⟩
  refine lex_seg 3 _ _ _ _ (by kernel_rfl) ?_
  simp only [List.take_succ_cons, List.take_zero, List.drop_succ_cons, List.drop_zero]
  try simp only [Act.put, List.setIfInBounds_toArray, List.set_cons_succ, List.set_cons_zero]
  repeat (go_big_quiet_step (fail))
  refine wpQuiet_nil ?_
  refine lex_call 23 rfl rfl (by simp [go_sem]; rfl) ?_
  refine (refSplit_any M B _ _ _).mono ?_; rintro e w6 ⟨vb, rfl, hown6, hb6⟩
  refine ⟨_, rfl, hb6, ?_⟩
  refine lex_call 22 rfl rfl (by simp [go_sem]; rfl) ?_
  refine (same_self _ _ _ _ ((Rd.own hown5).bel hb6) (Rd.own hown6)).mono ?_; rintro e w7 ⟨rfl, hb7⟩
  refine ⟨_, rfl, hb7, ?_⟩
  refine lex_seg 5 _ _ _ _ (by kernel_rfl) ?_
  simp only [List.take_succ_cons, List.take_zero, List.drop_succ_cons, List.drop_zero]
  try simp only [Act.put, List.setIfInBounds_toArray, List.set_cons_succ, List.set_cons_zero]
  repeat (go_big_quiet_step (fail))
  refine wpQuiet_nil ?_
  refine lex_call 20 rfl rfl (by simp [go_sem]; rfl) ?_
  refine (splitFits_any M B _ _ _).mono ?_; rintro e w8 ⟨rfl, hb8⟩
  refine ⟨_, rfl, hb8, ?_⟩
  refine lex_seg 3 _ _ _ _ (by kernel_rfl) ?_
  simp only [List.take_succ_cons, List.take_zero, List.drop_succ_cons, List.drop_zero]
  try simp only [Act.put, List.setIfInBounds_toArray, List.set_cons_succ, List.set_cons_zero]
  repeat (go_big_quiet_step (fail))
  refine wpQuiet_nil ?_
  refine lex_call 21 rfl rfl (by simp [go_sem]; rfl) ?_
  refine (refFits_fits M B _ _ _).mono ?_; rintro e w9 ⟨rfl, hb9⟩
  refine ⟨_, rfl, hb9, ?_⟩
  refine lex_seg 6 _ _ _ _ (by kernel_rfl) ?_
  simp only [List.take_succ_cons, List.take_zero, List.drop_succ_cons, List.drop_zero]
  try simp only [Act.put, List.setIfInBounds_toArray, List.set_cons_succ, List.set_cons_zero]
  repeat (go_big_quiet_step (fail))
  refine wpQuiet_nil ?_
  refine lex_call 15 rfl rfl (by simp [go_sem]; rfl) ?_
  refine (splitSplit_any M B _ _ _).mono ?_; rintro e w10 ⟨vc, rfl, hown10, hb10⟩
  refine ⟨_, rfl, hb10, ?_⟩
  refine lex_seg 3 _ _ _ _ (by kernel_rfl) ?_
  simp only [List.take_succ_cons, List.take_zero, List.drop_succ_cons, List.drop_zero]
  try simp only [Act.put, List.setIfInBounds_toArray, List.set_cons_succ, List.set_cons_zero]
  repeat (go_big_quiet_step (fail))
  refine wpQuiet_nil ?_
  refine lex_call 23 rfl rfl (by simp [go_sem]; rfl) ?_
  refine (refSplit_any M B _ _ _).mono ?_; rintro e w11 ⟨vd, rfl, hown11, hb11⟩
  refine ⟨_, rfl, hb11, ?_⟩
  refine lex_call 22 rfl rfl (by simp [go_sem]; rfl) ?_
  refine (same_self _ _ _ _ ((Rd.own hown10).bel hb11) (Rd.own hown11)).mono ?_; rintro e w12 ⟨rfl, hb12⟩
  refine ⟨_, rfl, hb12, ?_⟩
  refine lex_seg 2 _ _ _ _ (by kernel_rfl) ?_
  simp only [List.take_succ_cons, List.take_zero, List.drop_succ_cons, List.drop_zero]
  try simp only [Act.put, List.setIfInBounds_toArray, List.set_cons_succ, List.set_cons_zero]
  repeat (go_big_quiet_step (fail))
  refine wpQuiet_nil ?_
  refine lex_call 17 rfl rfl (by simp [go_sem]; rfl) ?_
  refine (awake_any _).mono ?_; rintro e w13 ⟨rfl, hb13⟩
  refine ⟨_, rfl, hb13, ?_⟩
  refine lex_seg 2 _ _ _ _ (by kernel_rfl) ?_
  simp only [List.take_succ_cons, List.take_zero, List.drop_succ_cons, List.drop_zero]
  try simp only [Act.put, List.setIfInBounds_toArray, List.set_cons_succ, List.set_cons_zero]
  repeat (go_big_quiet_step (fail))
  refine wpQuiet_nil ?_
  refine lex_nil ?_
  clear q0 q1
  go_wp2
  go_ret
  exact ⟨rfl, (by repeat (first | (with_reducible exact Bel.refl _) | (with_reducible assumption) | (with_reducible refine Bel.drewN ?_ _) | (with_reducible refine Bel.drew ?_) | (with_reducible refine Bel.alloc ?_ _) | (with_reducible refine Bel.setNew ?_ ?_ _) | (with_reducible refine Bel.trans ?_ (by assumption)) | (simp; done) | (simp; omega)))⟩

set_option maxHeartbeats 2000000 in
theorem splitSmall_walk (n s0 c0 : Int) (w : World) (_ : IsInt n) (_ : IsInt s0) (_ : IsInt c0) :
    Calls Try.prog 5 #[.int .i64 n, .int .i64 s0, .int .i64 c0] w fun e w' => e = .returned (.bool true) ∧ Bel w w' := by
  have hlim := dockLim n
  obtain ⟨M, HM⟩ : ∃ M, Hid (M = 1 + rnd n 6) := ⟨_, rfl⟩
  obtain ⟨B, HB⟩ : ∃ B, Hid (B = bound n) := ⟨_, rfl⟩
  rw [← HM.out, ← HB.out] at hlim
  have l1 := rnd_lo s0 135
  have l2 := rnd_hi s0 135 (by omega)
  have l3 := rnd_lo c0 40
  have l4 := rnd_hi c0 40 (by omega)
  go_enter Try.func5, Try.ntmps5
  go_wp2_with fail
  refine (limits_any n _).mono ?_; rw [← HM.out, ← HB.out]; rintro e w1 ⟨rfl, hb1⟩
  go_wp2_with fail
  refine (round_any _ _ _ (by omega)).mono ?_; rintro e w2 ⟨rfl, rfl⟩
  go_wp2_with fail
  refine (round_any _ _ _ (by omega)).mono ?_; rintro e w3 ⟨rfl, rfl⟩
  go_wp2_with fail
  have hx0 : (w1.alloc (.cells #[.int .i64 M, .int .i64 B] 23)).cell? ⟨w1.heap.size, 0, none⟩ = some (.int .i64 M) := by simp [go_sem]
  have hx1 : (w1.alloc (.cells #[.int .i64 M, .int .i64 B] 23)).cell? ⟨w1.heap.size, 1, none⟩ = some (.int .i64 B) := by simp [go_sem]
  have hbx : Bel w (w1.alloc (.cells #[.int .i64 M, .int .i64 B] 23)) := (by repeat (first | (with_reducible exact Bel.refl _) | (with_reducible assumption) | (with_reducible refine Bel.drewN ?_ _) | (with_reducible refine Bel.drew ?_) | (with_reducible refine Bel.alloc ?_ _) | (with_reducible refine Bel.setNew ?_ ?_ _) | (with_reducible refine Bel.trans ?_ (by assumption)) | (simp; done) | (simp; omega)))
  clear hb1
  generalize (w1.alloc (.cells #[.int .i64 M, .int .i64 B] 23)) = wx at *
  generalize rnd s0 135 - 3 = s
  generalize rnd c0 40 = c
  have q0 := fun d os => cell_regrown hx0 d os
  have q1 := fun d os => cell_regrown hx1 d os
  refine wp_region_lex [1, 6, 10, 17, 21, 22, 25] 28 (by kernel_rfl) (by kernel_rfl) ?_
  simp only [List.take_succ_cons, List.take_zero, List.drop_succ_cons, List.drop_zero]
  refine lex_seg 1 _ _ _ _ (by kernel_rfl) ?_
  simp only [List.take_succ_cons, List.take_zero, List.drop_succ_cons, List.drop_zero]
  try simp only [Act.put, List.setIfInBounds_toArray, List.set_cons_succ, List.set_cons_zero]
  repeat (go_big_quiet_step (fail))
  refine wpQuiet_nil ?_
  refine lex_call 18 rfl rfl (by simp [go_sem]; rfl) ?_
  refine (splitValid_any M B _).mono ?_; rw [hlim]; rintro e w2 ⟨rfl, hb2⟩
  refine ⟨_, rfl, hb2, ?_⟩
  refine lex_seg 4 _ _ _ _ (by kernel_rfl) ?_
  simp only [List.take_succ_cons, List.take_zero, List.drop_succ_cons, List.drop_zero]
  try simp only [Act.put, List.setIfInBounds_toArray, List.set_cons_succ, List.set_cons_zero]
  repeat (go_big_quiet_step (fail))
  refine wpQuiet_nil ?_
  refine lex_call 20 rfl rfl (by simp [go_sem]; rfl) ?_
  refine (splitFits_any M B _ _ _).mono ?_; rintro e w3 ⟨rfl, hb3⟩
  refine ⟨_, rfl, hb3, ?_⟩
  refine lex_seg 3 _ _ _ _ (by kernel_rfl) ?_
  simp only [List.take_succ_cons, List.take_zero, List.drop_succ_cons, List.drop_zero]
  try simp only [Act.put, List.setIfInBounds_toArray, List.set_cons_succ, List.set_cons_zero]
  repeat (go_big_quiet_step (fail))
  refine wpQuiet_nil ?_
  refine lex_call 21 rfl rfl (by simp [go_sem]; rfl) ?_
  refine (refFits_fits M B _ _ _).mono ?_; rintro e w4 ⟨rfl, hb4⟩
  refine ⟨_, rfl, hb4, ?_⟩
  refine lex_seg 6 _ _ _ _ (by kernel_rfl) ?_
  simp only [List.take_succ_cons, List.take_zero, List.drop_succ_cons, List.drop_zero]
  try simp only [Act.put, List.setIfInBounds_toArray, List.set_cons_succ, List.set_cons_zero]
  repeat (go_big_quiet_step (fail))
  refine wpQuiet_nil ?_
  refine lex_call 15 rfl rfl (by simp [go_sem]; rfl) ?_
  refine (splitSplit_any M B _ _ _).mono ?_; rintro e w5 ⟨va, rfl, hown5, hb5⟩
  refine ⟨_, rfl, hb5, ?_⟩
  refine lex_seg 3 _ _ _ _ (by kernel_rfl) ?_
  simp only [List.take_succ_cons, List.take_zero, List.drop_succ_cons, List.drop_zero]
  try simp only [Act.put, List.setIfInBounds_toArray, List.set_cons_succ, List.set_cons_zero]
  repeat (go_big_quiet_step (fail))
  refine wpQuiet_nil ?_
  refine lex_call 23 rfl rfl (by simp [go_sem]; rfl) ?_
  refine (refSplit_any M B _ _ _).mono ?_; rintro e w6 ⟨vb, rfl, hown6, hb6⟩
  refine ⟨_, rfl, hb6, ?_⟩
  refine lex_call 22 rfl rfl (by simp [go_sem]; rfl) ?_
  refine (same_self _ _ _ _ ((Rd.own hown5).bel hb6) (Rd.own hown6)).mono ?_; rintro e w7 ⟨rfl, hb7⟩
  refine ⟨_, rfl, hb7, ?_⟩
  refine lex_seg 2 _ _ _ _ (by kernel_rfl) ?_
  simp only [List.take_succ_cons, List.take_zero, List.drop_succ_cons, List.drop_zero]
  try simp only [Act.put, List.setIfInBounds_toArray, List.set_cons_succ, List.set_cons_zero]
  repeat (go_big_quiet_step (fail))
  refine wpQuiet_nil ?_
  refine lex_call 17 rfl rfl (by simp [go_sem]; rfl) ?_
  refine (awake_any _).mono ?_; rintro e w13 ⟨rfl, hb13⟩
  refine ⟨_, rfl, hb13, ?_⟩
  refine lex_seg 2 _ _ _ _ (by kernel_rfl) ?_
  simp only [List.take_succ_cons, List.take_zero, List.drop_succ_cons, List.drop_zero]
  try simp only [Act.put, List.setIfInBounds_toArray, List.set_cons_succ, List.set_cons_zero]
  repeat (go_big_quiet_step (fail))
  refine wpQuiet_nil ?_
  refine lex_nil ?_
  clear q0 q1
  go_wp2
  go_ret
  exact ⟨rfl, (by repeat (first | (with_reducible exact Bel.refl _) | (with_reducible assumption) | (with_reducible refine Bel.drewN ?_ _) | (with_reducible refine Bel.drew ?_) | (with_reducible refine Bel.alloc ?_ _) | (with_reducible refine Bel.setNew ?_ ?_ _) | (with_reducible refine Bel.trans ?_ (by assumption)) | (simp; done) | (simp; omega)))⟩

end Go.Proofs.Ytchimkjbpmcpbaa
