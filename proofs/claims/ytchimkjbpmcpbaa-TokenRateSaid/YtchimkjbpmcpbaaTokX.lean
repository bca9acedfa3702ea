/- The walks of TokenExact and TokenSmall. -/
import Derived.Test.YtchimkjbpmcpbaaTokL
namespace Go.Proofs.Ytchimkjbpmcpbaa
open Go.RowKit
attribute [local go_sem] bkG eq_bk eq_bk_self

set_option maxHeartbeats 2000000 in
theorem tokenExact_walk (r u l t now n : Int) (w : World) (_ : IsInt r) (_ : IsInt u) (_ : IsInt l) (_ : IsInt t) (_ : IsInt now) (_ : IsInt n) :
    Calls Try.prog 7 #[.agg #[.int .i64 r, .int .i64 u, .int .i64 l, .int .i64 t], .int .i64 now, .int .i64 n] w fun e w' => e = .returned (.bool true) ∧ Bel w w' := by
  obtain ⟨x, Hx⟩ : ∃ x, Hid (x = takeB ⟨r, u, l, t⟩ now n) := ⟨_, rfl⟩
  obtain ⟨y, Hy⟩ : ∃ y, Hid (y = whenB ⟨r, u, l, t⟩ now n) := ⟨_, rfl⟩
  obtain ⟨⟨x0, x1, x2, x3⟩, x4⟩ := x
  obtain ⟨y0, y1⟩ := y
  go_enter Try.func7, Try.ntmps7
  go_wp2_with fail
  refine (tokTake_any r u l t now n _).mono ?_; rw [← Hx.out]; unfold bv; rintro e w1 ⟨rfl, hb1⟩
  have hA := (At.new w 37 [.int .i64 r, .int .i64 u, .int .i64 l, .int .i64 t]).bel hb1
  have a0 := hA.2 0 _ rfl
  have a1 := hA.2 1 _ rfl
  have a2 := hA.2 2 _ rfl
  have a3 := hA.2 3 _ rfl
  have la := hA.1
  go_wp2_with fail
  refine (refTake_any r u l t now n _).mono ?_; rw [← Hx.out]; unfold bv; rintro e w2 ⟨rfl, hb2⟩
  have hA2 := (hA.bel ((Bel.refl _).alloc _)).bel hb2
  have hB2 := (At.new w1 37 [.int .i64 x0, .int .i64 x1, .int .i64 x2, .int .i64 x3]).bel hb2
  clear a0 a1 a2 a3 la hA
  have a0 := hA2.2 0 _ rfl
  have a1 := hA2.2 1 _ rfl
  have a2 := hA2.2 2 _ rfl
  have a3 := hA2.2 3 _ rfl
  have la := hA2.1
  go_wp2_with fail
  refine (tokWhen_any r u l t now n _).mono ?_; rw [← Hy.out]; rintro e w3 ⟨rfl, hb3⟩
  have hA3 := (hA2.bel ((Bel.refl _).alloc _)).bel hb3
  have hB3 := (hB2.bel ((Bel.refl _).alloc _)).bel hb3
  have hC3 := (At.new w2 37 [.int .i64 x0, .int .i64 x1, .int .i64 x2, .int .i64 x3]).bel hb3
  clear a0 a1 a2 a3 la hA2 hB2
  have a0 := hA3.2 0 _ rfl
  have a1 := hA3.2 1 _ rfl
  have a2 := hA3.2 2 _ rfl
  have a3 := hA3.2 3 _ rfl
  have la := hA3.1
  go_wp2_with fail
  refine (refWhen_any r u l t now n _).mono ?_; rw [← Hy.out]; rintro e w4 ⟨rfl, hb4⟩
  have hA4 := hA3.bel hb4
  have hB4 := hB3.bel hb4
  have hC4 := hC3.bel hb4
  have hbw : Bel w w4 := (by repeat (first | (with_reducible exact Bel.refl _) | (with_reducible assumption) | (with_reducible refine Bel.drewN ?_ _) | (with_reducible refine Bel.drew ?_) | (with_reducible refine Bel.alloc ?_ _) | (with_reducible refine Bel.setNew ?_ ?_ _) | (with_reducible refine Bel.trans ?_ (by assumption)) | (focus (simp; done)) | (focus (simp; omega))))
  clear a0 a1 a2 a3 la hA3 hB3 hC3 hb1 hb2 hb3 hb4
  go_wp2_with fail
  have qa0 := fun d os => cell_regrown (hA4.2 0 _ rfl) d os
  have qa1 := fun d os => cell_regrown (hA4.2 1 _ rfl) d os
  have qa2 := fun d os => cell_regrown (hA4.2 2 _ rfl) d os
  have qa3 := fun d os => cell_regrown (hA4.2 3 _ rfl) d os
  have qb0 := fun d os => cell_regrown (hB4.2 0 _ rfl) d os
  have qb1 := fun d os => cell_regrown (hB4.2 1 _ rfl) d os
  have qb2 := fun d os => cell_regrown (hB4.2 2 _ rfl) d os
  have qb3 := fun d os => cell_regrown (hB4.2 3 _ rfl) d os
  have qc0 := fun d os => cell_regrown (hC4.2 0 _ rfl) d os
  have qc1 := fun d os => cell_regrown (hC4.2 1 _ rfl) d os
  have qc2 := fun d os => cell_regrown (hC4.2 2 _ rfl) d os
  have qc3 := fun d os => cell_regrown (hC4.2 3 _ rfl) d os
  obtain ⟨z, Hz⟩ : ∃ z, Hid (z = refill ⟨r, u, l, t⟩ now) := ⟨_, rfl⟩
  obtain ⟨z0, z1, z2, z3⟩ := z
  refine wp_region_lex [1, 3, 8, 11, 35] 38 (by kernel_rfl) (by kernel_rfl) ?_
  simp only [List.take_succ_cons, List.take_zero, List.drop_succ_cons, List.drop_zero]
  refine lex_seg 1 _ _ _ _ (by kernel_rfl) ?_
  simp only [List.take_succ_cons, List.take_zero, List.drop_succ_cons, List.drop_zero]
  try simp only [Act.put, List.setIfInBounds_toArray, List.set_cons_succ, List.set_cons_zero]
  repeat (go_big_quiet_step (fail))
  refine wpQuiet_nil ?_
  refine lex_call 28 rfl rfl (by simp [go_sem]; rfl) ?_
  refine (tokValid_any r u l t _).mono ?_; rintro e w5 ⟨rfl, hb5⟩
  refine ⟨_, rfl, hb5, ?_⟩
  refine lex_seg 1 _ _ _ _ (by kernel_rfl) ?_
  simp only [List.take_succ_cons, List.take_zero, List.drop_succ_cons, List.drop_zero]
  try simp only [Act.put, List.setIfInBounds_toArray, List.set_cons_succ, List.set_cons_zero]
  repeat (go_big_quiet_step (fail))
  refine wpQuiet_nil ?_
  refine lex_call 29 rfl rfl (by simp [go_sem]; rfl) ?_
  refine (refBucket_any r u l t _).mono ?_; rintro e w6 ⟨rfl, hb6⟩
  refine ⟨_, rfl, hb6, ?_⟩
  refine lex_seg 4 _ _ _ _ (by kernel_rfl) ?_
  simp only [List.take_succ_cons, List.take_zero, List.drop_succ_cons, List.drop_zero]
  try simp only [Act.put, List.setIfInBounds_toArray, List.set_cons_succ, List.set_cons_zero]
  repeat (go_big_quiet_step (fail))
  refine wpQuiet_nil ?_
  refine lex_call 30 rfl rfl (by simp [go_sem]; rfl) ?_
  refine (tokRefill_any r u l t now _).mono ?_; rw [← Hz.out]; unfold bv; rintro e w7 ⟨rfl, hb7⟩
  refine ⟨_, rfl, hb7, ?_⟩
  refine lex_seg 2 _ _ _ _ (by kernel_rfl) ?_
  simp only [List.take_succ_cons, List.take_zero, List.drop_succ_cons, List.drop_zero]
  try simp only [Act.put, List.setIfInBounds_toArray, List.set_cons_succ, List.set_cons_zero]
  repeat (go_big_quiet_step (fail))
  refine wpQuiet_nil ?_
  refine lex_call 31 rfl rfl (by simp [go_sem]; rfl) ?_
  refine (refRefill_any r u l t now _).mono ?_; rw [← Hz.out]; unfold bv; rintro e w8 ⟨rfl, hb8⟩
  refine ⟨_, rfl, hb8, ?_⟩
  refine lex_seg 23 _ _ _ _ (by kernel_rfl) ?_
  simp only [List.take_succ_cons, List.take_zero, List.drop_succ_cons, List.drop_zero]
  try simp only [Act.put, List.setIfInBounds_toArray, List.set_cons_succ, List.set_cons_zero]
  repeat (go_big_quiet_step (fail))
  refine wpQuiet_nil ?_
  refine lex_call 32 rfl rfl (by simp [go_sem]; rfl) ?_
  refine (awakeTok_any _).mono ?_; rintro e w9 ⟨rfl, hb9⟩
  refine ⟨_, rfl, hb9, ?_⟩
  refine lex_seg 2 _ _ _ _ (by kernel_rfl) ?_
  simp only [List.take_succ_cons, List.take_zero, List.drop_succ_cons, List.drop_zero]
  try simp only [Act.put, List.setIfInBounds_toArray, List.set_cons_succ, List.set_cons_zero]
  repeat (go_big_quiet_step (fail))
  refine wpQuiet_nil ?_
  refine lex_nil ?_
  clear qa0 qa1 qa2 qa3 qb0 qb1 qb2 qb3 qc0 qc1 qc2 qc3
  go_wp2
  go_ret
  exact ⟨rfl, (by repeat (first | (with_reducible exact Bel.refl _) | (with_reducible assumption) | (with_reducible refine Bel.drewN ?_ _) | (with_reducible refine Bel.drew ?_) | (with_reducible refine Bel.alloc ?_ _) | (with_reducible refine Bel.setNew ?_ ?_ _) | (with_reducible refine Bel.trans ?_ (by assumption)) | (focus (simp; done)) | (focus (simp; omega))))⟩
end Go.Proofs.Ytchimkjbpmcpbaa
