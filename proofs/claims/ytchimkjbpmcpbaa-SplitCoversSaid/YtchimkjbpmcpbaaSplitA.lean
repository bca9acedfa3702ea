/- awake of the laws of layer 24, and the walks of SplitLeast, SplitSmall, SplitExact. -/
import Derived.Test.YtchimkjbpmcpbaaSplitP
namespace Go.Proofs.Ytchimkjbpmcpbaa
open Go.RowKit

theorem awake_split : splitL 4 8 5 10 = [(5, 3), (8, 4), (12, 3)] := by decide +kernel
theorem awake_lim : limOk 1 0 = true := by decide +kernel

set_option maxHeartbeats 1000000 in
theorem awake_any (w : World) : Calls Try.prog 17 #[] w fun e w' => e = .returned (.bool true) ∧ Bel w w' := by
  go_enter Try.func17, Try.ntmps17
  go_wp2_with fail
  refine (splitSplit_any 4 8 5 10 _).mono ?_; rw [awake_split]; rintro e w1 ⟨v, rfl, hown, hb1⟩
  have hr1 := Rd.own hown
  clear hown
  go_wp2_with fail
  refine (same_any [(5, 3), (8, 4), (12, 3)] [(5, 3), (8, 4), (12, 3)] _ _ _ (hr1.bel ((Bel.refl _).alloc _)) (Rd.new w1 35 (spanCells [(5, 3), (8, 4), (12, 3)]) 2 3 rfl (by unfold maxLen; omega))).mono ?_
  rw [show decide ([((5 : Int), (3 : Int)), (8, 4), (12, 3)] = [(5, 3), (8, 4), (12, 3)]) = true from by decide]; rintro e w2 ⟨rfl, hb2⟩
  go_wp2_with fail
  refine (splitValid_any 1 0 _).mono ?_; rw [awake_lim]; rintro e w3 ⟨rfl, hb3⟩
  go_wp2
  go_ret
  exact ⟨rfl, (by repeat (first | (with_reducible exact Bel.refl _) | (with_reducible assumption) | (with_reducible refine Bel.drewN ?_ _) | (with_reducible refine Bel.drew ?_) | (with_reducible refine Bel.alloc ?_ _) | (with_reducible refine Bel.setNew ?_ ?_ _) | (with_reducible refine Bel.trans ?_ (by assumption)) | (simp; done) | (simp; omega)))⟩

theorem dockLim (n : Int) : limOk (1 + rnd n 6) (bound n) = true := by
  have l1 := rnd_lo n 6
  have l2 := rnd_hi n 6 (by omega)
  have l3 := rnd_lo (n / 16) 5
  have l4 := rnd_hi (n / 16) 5 (by omega)
  have h5 : rnd (n / 16) 5 = 0 ∨ rnd (n / 16) 5 = 1 ∨ rnd (n / 16) 5 = 2 ∨ rnd (n / 16) 5 = 3 ∨ rnd (n / 16) 5 = 4 := by omega
  rcases h5 with h5 | h5 | h5 | h5 | h5 <;> simp [limOk, bound, h5] <;> omega

set_option maxHeartbeats 1000000 in
theorem splitLeast_walk (n a b : Int) (w : World) (_ : IsInt n) (_ : IsInt a) (_ : IsInt b) :
    Calls Try.prog 3 #[.int .i64 n, .int .i64 a, .int .i64 b] w fun e w' => e = .returned (.bool true) ∧ Bel w w' := by
  have hlim := dockLim n
  obtain ⟨M, HM⟩ : ∃ M, Hid (M = 1 + rnd n 6) := ⟨_, rfl⟩
  obtain ⟨B, HB⟩ : ∃ B, Hid (B = bound n) := ⟨_, rfl⟩
  rw [← HM.out, ← HB.out] at hlim
  have s1 := rnd_lo a 100
  have s2 := rnd_hi a 100 (by omega)
  have c1 := rnd_lo b 20
  have c2 := rnd_hi b 20 (by omega)
  have HL := Lib.hid (splitL_len (c := 1 + rnd b 20) hlim s1 (by omega) (by omega))
  obtain ⟨s, Hs⟩ : ∃ s, Hid (s = rnd a 100) := ⟨_, rfl⟩
  rw [← Hs.out] at s1 s2 HL
  obtain ⟨c, Hc⟩ : ∃ c, Hid (c = rnd b 20) := ⟨_, rfl⟩
  rw [← Hc.out] at c1 c2 HL
  obtain ⟨m, hm⟩ : ∃ m : Nat, 1 + c = (m : Int) := ⟨(1 + c).toNat, by omega⟩
  have hm' : (1 + c).toNat = m := by omega
  rw [hm', hm] at HL
  have Hm := Lib.hid hm
  clear hm hm'
  go_enter Try.func3, Try.ntmps3
  go_wp2_with fail
  refine (limits_any n _).mono ?_; rw [← HM.out, ← HB.out]; rintro e w1 ⟨rfl, hb1⟩
  go_wp2_with fail
  refine (round_any a 100 _ (by omega)).mono ?_; rw [← Hs.out]; rintro e w2 ⟨rfl, rfl⟩
  go_wp2_with fail
  refine (round_any b 20 _ (by omega)).mono ?_; rw [← Hc.out]; rintro e w3 ⟨rfl, rfl⟩
  go_wp2_with fail
  have hx0 : (w1.alloc (.cells #[.int .i64 M, .int .i64 B] 23)).cell? ⟨w1.heap.size, 0, none⟩ = some (.int .i64 M) := by simp [go_sem]
  have hx1 : (w1.alloc (.cells #[.int .i64 M, .int .i64 B] 23)).cell? ⟨w1.heap.size, 1, none⟩ = some (.int .i64 B) := by simp [go_sem]
  have hbx : Bel w (w1.alloc (.cells #[.int .i64 M, .int .i64 B] 23)) := (by repeat (first | (with_reducible exact Bel.refl _) | (with_reducible assumption) | (with_reducible refine Bel.drewN ?_ _) | (with_reducible refine Bel.drew ?_) | (with_reducible refine Bel.alloc ?_ _) | (with_reducible refine Bel.setNew ?_ ?_ _) | (with_reducible refine Bel.trans ?_ (by assumption)) | (simp; done) | (simp; omega)))
  clear hb1
  generalize (w1.alloc (.cells #[.int .i64 M, .int .i64 B] 23)) = wx at *
  have q0 := fun d os => cell_regrown hx0 d os
  have q1 := fun d os => cell_regrown hx1 d os
  refine wp_region_lex [3, 8, 11] 14 (by kernel_rfl) (by kernel_rfl) ?_
  simp only [List.take_succ_cons, List.take_zero, List.drop_succ_cons, List.drop_zero]
  refine lex_seg 3 _ _ _ _ (by kernel_rfl) ?_
  simp only [List.take_succ_cons, List.take_zero, List.drop_succ_cons, List.drop_zero]
  try simp only [Act.put, List.setIfInBounds_toArray, List.set_cons_succ, List.set_cons_zero]
  repeat (go_big_quiet_step (fail))
  refine wpQuiet_nil ?_
  refine lex_call 15 rfl rfl (by simp [go_sem]; rfl) ?_
  rw [Hm.out]
  refine (splitSplit_any M B s m _).mono ?_; rintro e w2 ⟨v, rfl, hown, hb2⟩
  obtain ⟨_, A, cp, rfl, _⟩ := Rd.own hown
  refine ⟨_, rfl, hb2, ?_⟩
  refine lex_seg 4 _ _ _ _ (by kernel_rfl) ?_
  simp only [List.take_succ_cons, List.take_zero, List.drop_succ_cons, List.drop_zero]
  try simp only [Act.put, List.setIfInBounds_toArray, List.set_cons_succ, List.set_cons_zero]
  repeat (go_big_quiet_step (fail))
  refine wpQuiet_nil ?_
  refine lex_call 16 rfl rfl (by simp [go_sem]; rfl) ?_
  refine (least_any M B s m _ (by have := Hm.out; omega) s1 (by omega)).mono ?_; rw [← HL.out]; rintro e w3 ⟨rfl, hb3⟩
  refine ⟨_, rfl, hb3, ?_⟩
  refine lex_seg 2 _ _ _ _ (by kernel_rfl) ?_
  simp only [List.take_succ_cons, List.take_zero, List.drop_succ_cons, List.drop_zero]
  try simp only [Act.put, List.setIfInBounds_toArray, List.set_cons_succ, List.set_cons_zero]
  repeat (go_big_quiet_step (fail))
  refine wpQuiet_nil ?_
  refine lex_call 17 rfl rfl (by simp [go_sem]; rfl) ?_
  refine (awake_any _).mono ?_; rintro e w4 ⟨rfl, hb4⟩
  refine ⟨_, rfl, hb4, ?_⟩
  refine lex_seg 2 _ _ _ _ (by kernel_rfl) ?_
  simp only [List.take_succ_cons, List.take_zero, List.drop_succ_cons, List.drop_zero]
  try simp only [Act.put, List.setIfInBounds_toArray, List.set_cons_succ, List.set_cons_zero]
  repeat (go_big_quiet_step (fail))
  refine wpQuiet_nil ?_
  refine lex_nil ?_
  clear q0 q1
  go_wp2
  go_ret
  exact ⟨rfl, (by repeat (first | (with_reducible exact Bel.refl _) | (with_reducible assumption) | (with_reducible refine Bel.drewN ?_ _) | (with_reducible refine Bel.drew ?_) | (with_reducible refine Bel.alloc ?_ _) | (with_reducible refine Bel.setNew ?_ ?_ _) | (with_reducible refine Bel.trans ?_ (by assumption)) | (simp; done) | (simp; omega)))⟩
end Go.Proofs.Ytchimkjbpmcpbaa
