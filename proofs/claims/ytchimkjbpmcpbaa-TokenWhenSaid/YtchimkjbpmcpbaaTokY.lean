/- The walks of TokenSmall, TokenWhen, TokenRefills and TokenSplits. -/
import Derived.Test.YtchimkjbpmcpbaaTokQ
namespace Go.Proofs.Ytchimkjbpmcpbaa
open Go.RowKit
attribute [local go_sem] bkG eq_bk eq_bk_self

set_option maxHeartbeats 2000000 in
theorem tokenSmall_walk (n a b : Int) (w : World) (_ : IsInt n) (_ : IsInt a) (_ : IsInt b) :
    Calls Try.prog 8 #[.int .i64 n, .int .i64 a, .int .i64 b] w fun e w' => e = .returned (.bool true) ∧ Bel w w' := by
  have hok := madeB_ok n
  obtain ⟨m, Hm⟩ : ∃ m, Hid (m = madeB n) := ⟨_, rfl⟩
  rw [← Hm.out] at hok
  obtain ⟨r, u, l, t⟩ := m
  have s1 := rnd_lo a 60
  have s2 := rnd_hi a 60 (by omega)
  have s3 := rnd_lo b 11
  have s4 := rnd_hi b 11 (by omega)
  obtain ⟨now, Hnow⟩ : ∃ now, Hid (now = rnd a 60 - 2) := ⟨_, rfl⟩
  obtain ⟨c, Hc⟩ : ∃ c, Hid (c = rnd b 11 - 1) := ⟨_, rfl⟩
  obtain ⟨x, Hx⟩ : ∃ x, Hid (x = takeB ⟨r, u, l, t⟩ now c) := ⟨_, rfl⟩
  obtain ⟨y, Hy⟩ : ∃ y, Hid (y = whenB ⟨r, u, l, t⟩ now c) := ⟨_, rfl⟩
  obtain ⟨⟨x0, x1, x2, x3⟩, x4⟩ := x
  obtain ⟨y0, y1⟩ := y
  go_enter Try.func8, Try.ntmps8
  go_wp2_with fail
  refine (madeTok_any n _).mono ?_; rw [← Hm.out]; unfold bv; rintro e w0 ⟨rfl, hb0⟩
  go_wp2_with fail
  refine (round_any a 60 _ (by omega)).mono ?_; rintro e w1 ⟨rfl, rfl⟩
  go_wp2_with fail
  refine (round_any b 11 _ (by omega)).mono ?_; rintro e w1 ⟨rfl, rfl⟩
  go_wp2_with fail
  rw [← Hnow.out, ← Hc.out]
  refine (tokTake_any r u l t now c _).mono ?_; rw [← Hx.out]; unfold bv; rintro e w1 ⟨rfl, hb1⟩
  have hA := (At.new w0 37 [.int .i64 r, .int .i64 u, .int .i64 l, .int .i64 t]).bel hb1
  have a0 := hA.2 0 _ rfl
  have a1 := hA.2 1 _ rfl
  have a2 := hA.2 2 _ rfl
  have a3 := hA.2 3 _ rfl
  have al := hA.1
  go_wp2_with fail
  refine (refTake_any r u l t now c _).mono ?_; rw [← Hx.out]; unfold bv; rintro e w2 ⟨rfl, hb2⟩
  have hA2 := (hA.bel ((Bel.refl _).alloc _)).bel hb2
  have hB2 := (At.new w1 37 [.int .i64 x0, .int .i64 x1, .int .i64 x2, .int .i64 x3]).bel hb2
  clear a0 a1 a2 a3 al hA
  have a0 := hA2.2 0 _ rfl
  have a1 := hA2.2 1 _ rfl
  have a2 := hA2.2 2 _ rfl
  have a3 := hA2.2 3 _ rfl
  have al := hA2.1
  go_wp2_with fail
  refine (tokWhen_any r u l t now c _).mono ?_; rw [← Hy.out]; rintro e w3 ⟨rfl, hb3⟩
  have hA3 := (hA2.bel ((Bel.refl _).alloc _)).bel hb3
  have hB3 := (hB2.bel ((Bel.refl _).alloc _)).bel hb3
  have hC3 := (At.new w2 37 [.int .i64 x0, .int .i64 x1, .int .i64 x2, .int .i64 x3]).bel hb3
  clear a0 a1 a2 a3 al hA2 hB2
  have a0 := hA3.2 0 _ rfl
  have a1 := hA3.2 1 _ rfl
  have a2 := hA3.2 2 _ rfl
  have a3 := hA3.2 3 _ rfl
  have al := hA3.1
  go_wp2_with fail
  refine (refWhen_any r u l t now c _).mono ?_; rw [← Hy.out]; rintro e w4 ⟨rfl, hb4⟩
  have hA4 := hA3.bel hb4
  have hB4 := hB3.bel hb4
  have hC4 := hC3.bel hb4
  have hbw : Bel w w4 := (by repeat (first | (with_reducible exact Bel.refl _) | (with_reducible assumption) | (with_reducible refine Bel.drewN ?_ _) | (with_reducible refine Bel.drew ?_) | (with_reducible refine Bel.alloc ?_ _) | (with_reducible refine Bel.setNew ?_ ?_ _) | (with_reducible refine Bel.trans ?_ (by assumption)) | (focus (simp; done)) | (focus (simp; omega))))
  clear a0 a1 a2 a3 al hA3 hB3 hC3 hb0 hb1 hb2 hb3 hb4
  go_wp2_with fail
  have qa0 := fun d os => cell_regrown (hA4.2 0 _ rfl) d os
  have qa1 := fun d os => cell_regrown (hA4.2 1 _ rfl) d os
  have qa2 := fun d os => cell_regrown (hA4.2 2 _ rfl) d os
  have qa3 := fun d os => cell_regrown (hA4.2 3 _ rfl) d os
  have qb0 := fun d os => cell_regrown (hB4.2 0 _ rfl) d os
  have qb1 := fun d os => cell_regrown (hB4.2 1 _ rfl) d os
  have qb2 := fun d os => cell_regrown (hB4.2 2 _ rfl) d os
  have qb3 := fun d os => cell_regrown (hB4.2 3 _ rfl) d os
  have qc0 := fun d os => cell_regrown (hC4.2 0 _ rfl) d os
  have qc1 := fun d os => cell_regrown (hC4.2 1 _ rfl) d os
  have qc2 := fun d os => cell_regrown (hC4.2 2 _ rfl) d os
  have qc3 := fun d os => cell_regrown (hC4.2 3 _ rfl) d os
  obtain ⟨z, Hz⟩ : ∃ z, Hid (z = refill ⟨r, u, l, t⟩ now) := ⟨_, rfl⟩
  obtain ⟨z0, z1, z2, z3⟩ := z
  refine wp_region_lex [1, 5, 8, 32] 35 (by kernel_rfl) (by kernel_rfl) ?_
  simp only [List.take_succ_cons, List.take_zero, List.drop_succ_cons, List.drop_zero]
  refine lex_seg 1 _ _ _ _ (by kernel_rfl) ?_
  simp only [List.take_succ_cons, List.take_zero, List.drop_succ_cons, List.drop_zero]
  try simp only [Act.put, List.setIfInBounds_toArray, List.set_cons_succ, List.set_cons_zero]
  repeat (go_big_quiet_step (fail))
  refine wpQuiet_nil ?_
  refine lex_call 28 rfl rfl (by simp [go_sem]; rfl) ?_
  refine (tokValid_any r u l t _).mono ?_; rw [hok]; rintro e w5 ⟨rfl, hb5⟩
  refine ⟨_, rfl, hb5, ?_⟩
  refine lex_seg 3 _ _ _ _ (by kernel_rfl) ?_
  simp only [List.take_succ_cons, List.take_zero, List.drop_succ_cons, List.drop_zero]
  try simp only [Act.put, List.setIfInBounds_toArray, List.set_cons_succ, List.set_cons_zero]
  repeat (go_big_quiet_step (fail))
  refine wpQuiet_nil ?_
  refine lex_call 30 rfl rfl (by simp [go_sem]; rfl) ?_
  refine (tokRefill_any r u l t now _).mono ?_; rw [← Hz.out]; unfold bv; rintro e w7 ⟨rfl, hb7⟩
  refine ⟨_, rfl, hb7, ?_⟩
  refine lex_seg 2 _ _ _ _ (by kernel_rfl) ?_
  simp only [List.take_succ_cons, List.take_zero, List.drop_succ_cons, List.drop_zero]
  try simp only [Act.put, List.setIfInBounds_toArray, List.set_cons_succ, List.set_cons_zero]
  repeat (go_big_quiet_step (fail))
  refine wpQuiet_nil ?_
  refine lex_call 31 rfl rfl (by simp [go_sem]; rfl) ?_
  refine (refRefill_any r u l t now _).mono ?_; rw [← Hz.out]; unfold bv; rintro e w8 ⟨rfl, hb8⟩
  refine ⟨_, rfl, hb8, ?_⟩
  refine lex_seg 23 _ _ _ _ (by kernel_rfl) ?_
  simp only [List.take_succ_cons, List.take_zero, List.drop_succ_cons, List.drop_zero]
  try simp only [Act.put, List.setIfInBounds_toArray, List.set_cons_succ, List.set_cons_zero]
  repeat (go_big_quiet_step (fail))
  refine wpQuiet_nil ?_
  refine lex_call 32 rfl rfl (by simp [go_sem]; rfl) ?_
  refine (awakeTok_any _).mono ?_; rintro e w9 ⟨rfl, hb9⟩
  refine ⟨_, rfl, hb9, ?_⟩
  refine lex_seg 2 _ _ _ _ (by kernel_rfl) ?_
  simp only [List.take_succ_cons, List.take_zero, List.drop_succ_cons, List.drop_zero]
  try simp only [Act.put, List.setIfInBounds_toArray, List.set_cons_succ, List.set_cons_zero]
  repeat (go_big_quiet_step (fail))
  refine wpQuiet_nil ?_
  refine lex_nil ?_
  clear qa0 qa1 qa2 qa3 qb0 qb1 qb2 qb3 qc0 qc1 qc2 qc3
  go_wp2
  go_ret
  exact ⟨rfl, (by repeat (first | (with_reducible exact Bel.refl _) | (with_reducible assumption) | (with_reducible refine Bel.drewN ?_ _) | (with_reducible refine Bel.drew ?_) | (with_reducible refine Bel.alloc ?_ _) | (with_reducible refine Bel.setNew ?_ ?_ _) | (with_reducible refine Bel.trans ?_ (by assumption)) | (focus (simp; done)) | (focus (simp; omega))))⟩

set_option maxHeartbeats 2000000 in
theorem tokenWhen_walk (n a b : Int) (w : World) (_ : IsInt n) (_ : IsInt a) (_ : IsInt b) :
    Calls Try.prog 9 #[.int .i64 n, .int .i64 a, .int .i64 b] w fun e w' => e = .returned (.bool true) ∧ Bel w w' := by
  have hok := madeB_ok n
  have hbd := madeB_bounds n
  obtain ⟨m, Hm⟩ : ∃ m, Hid (m = madeB n) := ⟨_, rfl⟩
  rw [← Hm.out] at hok hbd
  obtain ⟨r, u, l, t⟩ := m
  simp only at hbd
  have s1 := rnd_lo a 60
  have s2 := rnd_hi a 60 (by omega)
  have s3 := rnd_lo b 11
  have s4 := rnd_hi b 11 (by omega)
  obtain ⟨now, Hnow⟩ : ∃ now, Hid (now = rnd a 60) := ⟨_, rfl⟩
  obtain ⟨c, Hc⟩ : ∃ c, Hid (c = rnd b 11) := ⟨_, rfl⟩
  rw [← Hnow.out] at s1 s2
  rw [← Hc.out] at s3 s4
  have hright : rightB ⟨r, u, l, t⟩ now c = true := right_iff.2 ⟨hok, tickB_iff.2 ⟨by omega, by omega⟩, by omega, by omega⟩
  obtain ⟨y, Hy⟩ : ∃ y, Hid (y = whenB ⟨r, u, l, t⟩ now c) := ⟨_, rfl⟩
  have hno := when_no hright (by omega)
  have hyes := when_yes hright
  rw [← Hy.out] at hno hyes
  obtain ⟨y0, y1⟩ := y
  simp only at hno hyes
  cases y1
  · obtain ⟨h1, h2, h3⟩ := hno rfl
    have H3 := Lib.hid (h3 (now + 100000))
    have h1b : (r != 0) = true := by simpa using h1
    clear hno hyes h1 h3
    obtain ⟨x, Hx⟩ : ∃ x, Hid (x = takeB ⟨r, u, l, t⟩ (now + 100000) c) := ⟨_, rfl⟩
    rw [← Hx.out] at H3
    obtain ⟨⟨x0, x1, x2, x3⟩, x4⟩ := x
    obtain rfl : x4 = false := H3.out
    go_enter Try.func9, Try.ntmps9
    go_wp2_with fail
    refine (madeTok_any n _).mono ?_; rw [← Hm.out]; unfold bv; rintro e w0 ⟨rfl, hb0⟩
    go_wp2_with fail
    refine (round_any a 60 _ (by omega)).mono ?_; rw [← Hnow.out]; rintro e w1 ⟨rfl, rfl⟩
    go_wp2_with fail
    refine (round_any b 11 _ (by omega)).mono ?_; rw [← Hc.out]; rintro e w1 ⟨rfl, rfl⟩
    go_wp2_with fail
    refine (tokWhen_any r u l t now c _).mono ?_; rw [← Hy.out]; rintro e w1 ⟨rfl, hb1⟩
    have hA := (At.new w0 37 [.int .i64 r, .int .i64 u, .int .i64 l, .int .i64 t]).bel hb1
    have a0 := hA.2 0 _ rfl
    have a1 := hA.2 1 _ rfl
    have a2 := hA.2 2 _ rfl
    have a3 := hA.2 3 _ rfl
    have al := hA.1
    go_wp2_with fail
    refine (tokTake_any r u l t (now + 100000) c _).mono ?_; rw [← Hx.out]; unfold bv; rintro e w2 ⟨rfl, hb2⟩
    have hA2 := hA.bel hb2
    clear a0 a1 a2 a3 al hA
    have a0 := hA2.2 0 _ rfl
    have a1 := hA2.2 1 _ rfl
    have a2 := hA2.2 2 _ rfl
    have a3 := hA2.2 3 _ rfl
    have al := hA2.1
    go_wp2_with fail
    refine (awakeTok_any _).mono ?_; rintro e w3 ⟨rfl, hb3⟩
    go_wp2
    go_ret
    exact ⟨rfl, (by repeat (first | (with_reducible exact Bel.refl _) | (with_reducible assumption) | (with_reducible refine Bel.drewN ?_ _) | (with_reducible refine Bel.drew ?_) | (with_reducible refine Bel.alloc ?_ _) | (with_reducible refine Bel.setNew ?_ ?_ _) | (with_reducible refine Bel.trans ?_ (by assumption)) | (focus (simp; done)) | (focus (simp; omega))))⟩
  · obtain ⟨h1, h2, h3, h4⟩ := hyes rfl
    clear hno hyes
    obtain ⟨x, Hx⟩ : ∃ x, Hid (x = takeB ⟨r, u, l, t⟩ y0 c) := ⟨_, rfl⟩
    obtain ⟨z, Hz⟩ : ∃ z, Hid (z = takeB ⟨r, u, l, t⟩ (y0 - 1) c) := ⟨_, rfl⟩
    rw [← Hx.out] at h3
    rw [← Hz.out] at h4
    obtain ⟨⟨x0, x1, x2, x3⟩, x4⟩ := x
    obtain ⟨⟨z0, z1, z2, z3⟩, z4⟩ := z
    obtain rfl : x4 = true := h3
    simp only at h4
    have h5 : (y0 == now) = true ∨ (y0 == now) = false ∧ z4 = false := by
      by_cases h9 : y0 = now
      · left; simpa using h9
      · right; exact ⟨by simpa using h9, h4.resolve_left h9⟩
    clear h4
    rcases h5 with h5 | ⟨h5, rfl⟩
    all_goals
      go_enter Try.func9, Try.ntmps9
      go_wp2_with fail
      refine (madeTok_any n _).mono ?_; rw [← Hm.out]; unfold bv; rintro e w0 ⟨rfl, hb0⟩
      go_wp2_with fail
      refine (round_any a 60 _ (by omega)).mono ?_; rw [← Hnow.out]; rintro e w1 ⟨rfl, rfl⟩
      go_wp2_with fail
      refine (round_any b 11 _ (by omega)).mono ?_; rw [← Hc.out]; rintro e w1 ⟨rfl, rfl⟩
      go_wp2_with fail
      refine (tokWhen_any r u l t now c _).mono ?_; rw [← Hy.out]; rintro e w1 ⟨rfl, hb1⟩
      have hA := (At.new w0 37 [.int .i64 r, .int .i64 u, .int .i64 l, .int .i64 t]).bel hb1
      have a0 := hA.2 0 _ rfl
      have a1 := hA.2 1 _ rfl
      have a2 := hA.2 2 _ rfl
      have a3 := hA.2 3 _ rfl
      have al := hA.1
      go_wp2_with fail
      refine (tokTake_any r u l t y0 c _).mono ?_; rw [← Hx.out]; unfold bv; rintro e w2 ⟨rfl, hb2⟩
      have hA2 := hA.bel hb2
      clear a0 a1 a2 a3 al hA
      have a0 := hA2.2 0 _ rfl
      have a1 := hA2.2 1 _ rfl
      have a2 := hA2.2 2 _ rfl
      have a3 := hA2.2 3 _ rfl
      have al := hA2.1
      go_wp2_with fail
      refine (tokTake_any r u l t (y0 - 1) c _).mono ?_; rw [← Hz.out]; unfold bv; rintro e w3 ⟨rfl, hb3⟩
      go_wp2_with fail
      refine (awakeTok_any _).mono ?_; rintro e w4 ⟨rfl, hb4⟩
      go_wp2
      go_ret
      exact ⟨rfl, (by repeat (first | (with_reducible exact Bel.refl _) | (with_reducible assumption) | (with_reducible refine Bel.drewN ?_ _) | (with_reducible refine Bel.drew ?_) | (with_reducible refine Bel.alloc ?_ _) | (with_reducible refine Bel.setNew ?_ ?_ _) | (with_reducible refine Bel.trans ?_ (by assumption)) | (focus (simp; done)) | (focus (simp; omega))))⟩
end Go.Proofs.Ytchimkjbpmcpbaa
