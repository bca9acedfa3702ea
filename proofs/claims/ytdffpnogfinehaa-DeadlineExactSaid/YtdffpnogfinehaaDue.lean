/- deadline.Due and the reference's Due. -/
import Derived.Test.YtdffpnogfinehaaMems
import Derived.Test.YtdffpnogfinehaaLex
import Derived.Test.YtdffpnogfinehaaSetRow
namespace Go.Proofs.Ytdffpnogfinehaa
open Go.RowKit
set_option linter.unusedSimpArgs false

def clampI (n : Int) : Int := if n < 0 then 0 else if 1099511627776 < n then 1099511627776 else n
theorem clampI_bd (n : Int) : 0 ≤ clampI n ∧ clampI n ≤ 1099511627776 := by unfold clampI; split <;> (try split) <;> omega
def dueB (r x : Int) (b : Bun) : Int := clampI b.tim + clampI (if b.knd = 1 then r else x)

set_option maxHeartbeats 1000000 in
theorem dlClamp_any (n : Int) (w : World) : Calls Try.prog 36 #[.int .i64 n] w fun e w' => e = .returned (.int .i64 (clampI n)) ∧ w = w' := by
  obtain ⟨V, HV⟩ : ∃ V, Hid (V = clampI n) := ⟨_, rfl⟩
  rw [← HV.out]
  by_cases h1 : n < 0
  · have HF := Lib.hid (show V = 0 by rw [HV.out, clampI, if_pos h1])
    go_enter Try.func36, Try.ntmps36
    go_wp2
    all_goals
      go_ret
      exact ⟨ret_int (by rw [HF.out]; repeat (first | omega | split)), rfl⟩
  · by_cases h2 : 1099511627776 < n
    · have HF := Lib.hid (show V = 1099511627776 by rw [HV.out, clampI, if_neg h1, if_pos h2])
      go_enter Try.func36, Try.ntmps36
      go_wp2
      all_goals
        go_ret
        exact ⟨ret_int (by rw [HF.out]; repeat (first | omega | split)), rfl⟩
    · have HF := Lib.hid (show V = n by rw [HV.out, clampI, if_neg h1, if_neg h2])
      go_enter Try.func36, Try.ntmps36
      go_wp2
      all_goals
        go_ret
        exact ⟨ret_int (by rw [HF.out]; repeat (first | omega | split)), rfl⟩
set_option maxHeartbeats 1000000 in
theorem refSpan_any (n : Int) (w : World) : Calls Try.prog 37 #[.int .i64 n] w fun e w' => e = .returned (.int .i64 (clampI n)) ∧ w = w' := by
  obtain ⟨V, HV⟩ : ∃ V, Hid (V = clampI n) := ⟨_, rfl⟩
  rw [← HV.out]
  by_cases h1 : n < 0
  · have HF := Lib.hid (show V = 0 by rw [HV.out, clampI, if_pos h1])
    go_enter Try.func37, Try.ntmps37
    go_wp2
    all_goals
      go_ret
      exact ⟨ret_int (by rw [HF.out]; repeat (first | omega | split)), rfl⟩
  · by_cases h2 : 1099511627776 < n
    · have HF := Lib.hid (show V = 1099511627776 by rw [HV.out, clampI, if_neg h1, if_pos h2])
      go_enter Try.func37, Try.ntmps37
      go_wp2
      all_goals
        go_ret
        exact ⟨ret_int (by rw [HF.out]; repeat (first | omega | split)), rfl⟩
    · have HF := Lib.hid (show V = n by rw [HV.out, clampI, if_neg h1, if_neg h2])
      go_enter Try.func37, Try.ntmps37
      go_wp2
      all_goals
        go_ret
        exact ⟨ret_int (by rw [HF.out]; repeat (first | omega | split)), rfl⟩
set_option maxRecDepth 100000 in
set_option maxHeartbeats 2000000 in
theorem dlDue_any (r x : Int) (b : Bun) (w : World) :
    Calls Try.prog 20 #[.agg #[.int .i64 r, .int .i64 x], .agg #[.int .i64 (b).id, .int .i64 (b).ten, .int .i64 (b).knd, .int .i64 (b).sec, .int .i64 (b).cnt, .string (b).dat, .bool (b).fua, .slice (b).mA (b).mL (b).mC, .int .i64 (b).tim]] w fun e w' => e = .returned (.int .i64 (dueB r x b)) ∧ Bel w w' := by
  obtain ⟨V, HV⟩ : ∃ V, Hid (V = dueB r x b) := ⟨_, rfl⟩
  rw [← HV.out]
  have hv := HV.out
  unfold dueB at hv
  obtain ⟨id, ten, knd, sec, cnt, dat, fua, mA, mL, mC, tim⟩ := b
  simp only at hv ⊢
  clear HV
  have hX := (AtF.new w 44 [.int .i64 r, .int .i64 x]).alloc (.cells #[.int .i64 id, .int .i64 ten, .int .i64 knd, .int .i64 sec, .int .i64 cnt, .string dat, .bool fua, .slice mA mL mC, .int .i64 tim] 34)
  have hB := AtF.new_at (w := w.alloc (.cells #[.int .i64 r, .int .i64 x] 44)) (g := w.heap.size + 1) (by simp) 34 [.int .i64 id, .int .i64 ten, .int .i64 knd, .int .i64 sec, .int .i64 cnt, .string dat, .bool fua, .slice mA mL mC, .int .i64 tim]
  have hbw : Bel w ((w.alloc (.cells #[.int .i64 r, .int .i64 x] 44)).alloc (.cells #[.int .i64 id, .int .i64 ten, .int .i64 knd, .int .i64 sec, .int .i64 cnt, .string dat, .bool fua, .slice mA mL mC, .int .i64 tim] 34)) := (by repeat (first | (with_reducible exact Bel.refl _) | (with_reducible assumption) | (with_reducible refine Bel.drewN ?_ _) | (with_reducible refine Bel.drew ?_) | (with_reducible refine Bel.alloc ?_ _) | (with_reducible refine Bel.setNew ?_ ?_ _) | (with_reducible refine Bel.trans ?_ (by assumption)) | (focus (simp; done)) | (focus (simp; omega))))
  simp only [List.toArray] at hX hB
  by_cases hk : knd = 1
  · subst hk
    simp only [if_true] at hv
    obtain ⟨p, Hp⟩ : ∃ p, Hid (p = clampI tim) := ⟨_, rfl⟩
    obtain ⟨q, Hq⟩ : ∃ q, Hid (q = clampI r) := ⟨_, rfl⟩
    rw [← Hp.out, ← Hq.out] at hv
    have hp := clampI_bd tim
    have hq := clampI_bd r
    rw [← Hp.out] at hp
    rw [← Hq.out] at hq
    obtain ⟨hp1, hp2⟩ := hp
    obtain ⟨hq1, hq2⟩ := hq
    have HF := Lib.hid hv
    clear hv
    go_enter Try.func20, Try.ntmps20
    go_wp2_with fail
    generalize (w.alloc (.cells #[.int .i64 r, .int .i64 x] 44)).alloc (.cells #[.int .i64 id, .int .i64 ten, .int .i64 _, .int .i64 sec, .int .i64 cnt, .string dat, .bool fua, .slice mA mL mC, .int .i64 tim] 34) = X at *
    have x0 := hX.1.2 0 _ rfl
    have x1 := hX.1.2 1 _ rfl
    have b8 := hB.1.2 8 _ rfl
    have rg0 := fun d os => cell_regrown x0 d os
    have rg1 := fun d os => cell_regrown x1 d os
    have rg2 := fun d os => cell_regrown b8 d os
    have e5 : IntKind.i64.wrap (p + q) = p + q := IntWalk.i64_in _ (by omega)
    refine wp_region_lex [2, 5] 7 (by kernel_rfl) (by kernel_rfl) ?_
    simp only [List.take_succ_cons, List.take_zero, List.drop_succ_cons, List.drop_zero]
    with_reducible refine lex_seg 2 _ _ _ _ (by kernel_rfl) ?_
    simp only [List.take_succ_cons, List.take_zero, List.drop_succ_cons, List.drop_zero]
    try simp only [Act.put, List.setIfInBounds_toArray, List.set_cons_succ, List.set_cons_zero]
    repeat (go_big_quiet_step (fail))
    with_reducible refine wpQuiet_nil ?_
    refine lex_call 36 rfl rfl (by simp [go_sem]; rfl) ?_
    refine (dlClamp_any tim _).mono ?_; rw [← Hp.out]; rintro e w1 ⟨rfl, rfl⟩
    refine ⟨_, rfl, Bel.refl _, ?_⟩
    with_reducible refine lex_seg 2 _ _ _ _ (by kernel_rfl) ?_
    simp only [List.take_succ_cons, List.take_zero, List.drop_succ_cons, List.drop_zero]
    try simp only [Act.put, List.setIfInBounds_toArray, List.set_cons_succ, List.set_cons_zero]
    repeat (go_big_quiet_step (fail))
    with_reducible refine wpQuiet_nil ?_
    refine lex_call 36 rfl rfl (by simp [go_sem]; rfl) ?_
    refine (dlClamp_any r _).mono ?_; rw [← Hq.out]; rintro e w1 ⟨rfl, rfl⟩
    refine ⟨_, rfl, Bel.refl _, ?_⟩
    with_reducible refine lex_seg 1 _ _ _ _ (by kernel_rfl) ?_
    simp only [List.take_succ_cons, List.take_zero, List.drop_succ_cons, List.drop_zero]
    try simp only [Act.put, List.setIfInBounds_toArray, List.set_cons_succ, List.set_cons_zero]
    repeat (go_big_quiet_step (fail))
    with_reducible refine wpQuiet_nil ?_
    with_reducible refine lex_nil ?_
    clear rg0 rg1 rg2 e5 x0 x1 b8
    go_wp2
    go_ret
    exact ⟨ret_int HF.out.symm, hbw.drew⟩
  · rw [if_neg hk] at hv
    have hk1 : (knd == 1) = false := by simpa using hk
    clear hk
    obtain ⟨p, Hp⟩ : ∃ p, Hid (p = clampI tim) := ⟨_, rfl⟩
    obtain ⟨q, Hq⟩ : ∃ q, Hid (q = clampI x) := ⟨_, rfl⟩
    rw [← Hp.out, ← Hq.out] at hv
    have hp := clampI_bd tim
    have hq := clampI_bd x
    rw [← Hp.out] at hp
    rw [← Hq.out] at hq
    obtain ⟨hp1, hp2⟩ := hp
    obtain ⟨hq1, hq2⟩ := hq
    have HF := Lib.hid hv
    clear hv
    go_enter Try.func20, Try.ntmps20
    go_wp2_with fail
    generalize (w.alloc (.cells #[.int .i64 r, .int .i64 x] 44)).alloc (.cells #[.int .i64 id, .int .i64 ten, .int .i64 _, .int .i64 sec, .int .i64 cnt, .string dat, .bool fua, .slice mA mL mC, .int .i64 tim] 34) = X at *
    have x0 := hX.1.2 0 _ rfl
    have x1 := hX.1.2 1 _ rfl
    have b8 := hB.1.2 8 _ rfl
    have rg0 := fun d os => cell_regrown x0 d os
    have rg1 := fun d os => cell_regrown x1 d os
    have rg2 := fun d os => cell_regrown b8 d os
    have e5 : IntKind.i64.wrap (p + q) = p + q := IntWalk.i64_in _ (by omega)
    refine wp_region_lex [2, 5] 7 (by kernel_rfl) (by kernel_rfl) ?_
    simp only [List.take_succ_cons, List.take_zero, List.drop_succ_cons, List.drop_zero]
    with_reducible refine lex_seg 2 _ _ _ _ (by kernel_rfl) ?_
    simp only [List.take_succ_cons, List.take_zero, List.drop_succ_cons, List.drop_zero]
    try simp only [Act.put, List.setIfInBounds_toArray, List.set_cons_succ, List.set_cons_zero]
    repeat (go_big_quiet_step (fail))
    with_reducible refine wpQuiet_nil ?_
    refine lex_call 36 rfl rfl (by simp [go_sem]; rfl) ?_
    refine (dlClamp_any tim _).mono ?_; rw [← Hp.out]; rintro e w1 ⟨rfl, rfl⟩
    refine ⟨_, rfl, Bel.refl _, ?_⟩
    with_reducible refine lex_seg 2 _ _ _ _ (by kernel_rfl) ?_
    simp only [List.take_succ_cons, List.take_zero, List.drop_succ_cons, List.drop_zero]
    try simp only [Act.put, List.setIfInBounds_toArray, List.set_cons_succ, List.set_cons_zero]
    repeat (go_big_quiet_step (fail))
    with_reducible refine wpQuiet_nil ?_
    refine lex_call 36 rfl rfl (by simp [go_sem]; rfl) ?_
    refine (dlClamp_any x _).mono ?_; rw [← Hq.out]; rintro e w1 ⟨rfl, rfl⟩
    refine ⟨_, rfl, Bel.refl _, ?_⟩
    with_reducible refine lex_seg 1 _ _ _ _ (by kernel_rfl) ?_
    simp only [List.take_succ_cons, List.take_zero, List.drop_succ_cons, List.drop_zero]
    try simp only [Act.put, List.setIfInBounds_toArray, List.set_cons_succ, List.set_cons_zero]
    repeat (go_big_quiet_step (fail))
    with_reducible refine wpQuiet_nil ?_
    with_reducible refine lex_nil ?_
    clear rg0 rg1 rg2 e5 x0 x1 b8
    go_wp2
    go_ret
    exact ⟨ret_int HF.out.symm, hbw.drew⟩
set_option maxRecDepth 100000 in
set_option maxHeartbeats 2000000 in
theorem refDue_any (r x : Int) (b : Bun) (w : World) :
    Calls Try.prog 21 #[.agg #[.int .i64 r, .int .i64 x], .agg #[.int .i64 (b).id, .int .i64 (b).ten, .int .i64 (b).knd, .int .i64 (b).sec, .int .i64 (b).cnt, .string (b).dat, .bool (b).fua, .slice (b).mA (b).mL (b).mC, .int .i64 (b).tim]] w fun e w' => e = .returned (.int .i64 (dueB r x b)) ∧ Bel w w' := by
  obtain ⟨V, HV⟩ : ∃ V, Hid (V = dueB r x b) := ⟨_, rfl⟩
  rw [← HV.out]
  have hv := HV.out
  unfold dueB at hv
  obtain ⟨id, ten, knd, sec, cnt, dat, fua, mA, mL, mC, tim⟩ := b
  simp only at hv ⊢
  clear HV
  have hX := (AtF.new w 44 [.int .i64 r, .int .i64 x]).alloc (.cells #[.int .i64 id, .int .i64 ten, .int .i64 knd, .int .i64 sec, .int .i64 cnt, .string dat, .bool fua, .slice mA mL mC, .int .i64 tim] 34)
  have hB := AtF.new_at (w := w.alloc (.cells #[.int .i64 r, .int .i64 x] 44)) (g := w.heap.size + 1) (by simp) 34 [.int .i64 id, .int .i64 ten, .int .i64 knd, .int .i64 sec, .int .i64 cnt, .string dat, .bool fua, .slice mA mL mC, .int .i64 tim]
  have hbw : Bel w ((w.alloc (.cells #[.int .i64 r, .int .i64 x] 44)).alloc (.cells #[.int .i64 id, .int .i64 ten, .int .i64 knd, .int .i64 sec, .int .i64 cnt, .string dat, .bool fua, .slice mA mL mC, .int .i64 tim] 34)) := (by repeat (first | (with_reducible exact Bel.refl _) | (with_reducible assumption) | (with_reducible refine Bel.drewN ?_ _) | (with_reducible refine Bel.drew ?_) | (with_reducible refine Bel.alloc ?_ _) | (with_reducible refine Bel.setNew ?_ ?_ _) | (with_reducible refine Bel.trans ?_ (by assumption)) | (focus (simp; done)) | (focus (simp; omega))))
  simp only [List.toArray] at hX hB
  by_cases hk : knd = 1
  · subst hk
    simp only [if_true] at hv
    obtain ⟨p, Hp⟩ : ∃ p, Hid (p = clampI tim) := ⟨_, rfl⟩
    obtain ⟨q, Hq⟩ : ∃ q, Hid (q = clampI r) := ⟨_, rfl⟩
    rw [← Hp.out, ← Hq.out] at hv
    have hp := clampI_bd tim
    have hq := clampI_bd r
    rw [← Hp.out] at hp
    rw [← Hq.out] at hq
    obtain ⟨hp1, hp2⟩ := hp
    obtain ⟨hq1, hq2⟩ := hq
    have HF := Lib.hid hv
    clear hv
    go_enter Try.func21, Try.ntmps21
    go_wp2_with fail
    generalize (w.alloc (.cells #[.int .i64 r, .int .i64 x] 44)).alloc (.cells #[.int .i64 id, .int .i64 ten, .int .i64 _, .int .i64 sec, .int .i64 cnt, .string dat, .bool fua, .slice mA mL mC, .int .i64 tim] 34) = X at *
    have x0 := hX.1.2 0 _ rfl
    have x1 := hX.1.2 1 _ rfl
    have b8 := hB.1.2 8 _ rfl
    have rg0 := fun d os => cell_regrown x0 d os
    have rg1 := fun d os => cell_regrown x1 d os
    have rg2 := fun d os => cell_regrown b8 d os
    have e5 : IntKind.i64.wrap (p + q) = p + q := IntWalk.i64_in _ (by omega)
    refine wp_region_lex [2, 5] 7 (by kernel_rfl) (by kernel_rfl) ?_
    simp only [List.take_succ_cons, List.take_zero, List.drop_succ_cons, List.drop_zero]
    with_reducible refine lex_seg 2 _ _ _ _ (by kernel_rfl) ?_
    simp only [List.take_succ_cons, List.take_zero, List.drop_succ_cons, List.drop_zero]
    try simp only [Act.put, List.setIfInBounds_toArray, List.set_cons_succ, List.set_cons_zero]
    repeat (go_big_quiet_step (fail))
    with_reducible refine wpQuiet_nil ?_
    refine lex_call 37 rfl rfl (by simp [go_sem]; rfl) ?_
    refine (refSpan_any tim _).mono ?_; rw [← Hp.out]; rintro e w1 ⟨rfl, rfl⟩
    refine ⟨_, rfl, Bel.refl _, ?_⟩
    with_reducible refine lex_seg 2 _ _ _ _ (by kernel_rfl) ?_
    simp only [List.take_succ_cons, List.take_zero, List.drop_succ_cons, List.drop_zero]
    try simp only [Act.put, List.setIfInBounds_toArray, List.set_cons_succ, List.set_cons_zero]
    repeat (go_big_quiet_step (fail))
    with_reducible refine wpQuiet_nil ?_
    refine lex_call 37 rfl rfl (by simp [go_sem]; rfl) ?_
    refine (refSpan_any r _).mono ?_; rw [← Hq.out]; rintro e w1 ⟨rfl, rfl⟩
    refine ⟨_, rfl, Bel.refl _, ?_⟩
    with_reducible refine lex_seg 1 _ _ _ _ (by kernel_rfl) ?_
    simp only [List.take_succ_cons, List.take_zero, List.drop_succ_cons, List.drop_zero]
    try simp only [Act.put, List.setIfInBounds_toArray, List.set_cons_succ, List.set_cons_zero]
    repeat (go_big_quiet_step (fail))
    with_reducible refine wpQuiet_nil ?_
    with_reducible refine lex_nil ?_
    clear rg0 rg1 rg2 e5 x0 x1 b8
    go_wp2
    go_ret
    exact ⟨ret_int HF.out.symm, hbw.drew⟩
  · rw [if_neg hk] at hv
    have hk1 : (knd == 1) = false := by simpa using hk
    clear hk
    obtain ⟨p, Hp⟩ : ∃ p, Hid (p = clampI tim) := ⟨_, rfl⟩
    obtain ⟨q, Hq⟩ : ∃ q, Hid (q = clampI x) := ⟨_, rfl⟩
    rw [← Hp.out, ← Hq.out] at hv
    have hp := clampI_bd tim
    have hq := clampI_bd x
    rw [← Hp.out] at hp
    rw [← Hq.out] at hq
    obtain ⟨hp1, hp2⟩ := hp
    obtain ⟨hq1, hq2⟩ := hq
    have HF := Lib.hid hv
    clear hv
    go_enter Try.func21, Try.ntmps21
    go_wp2_with fail
    generalize (w.alloc (.cells #[.int .i64 r, .int .i64 x] 44)).alloc (.cells #[.int .i64 id, .int .i64 ten, .int .i64 _, .int .i64 sec, .int .i64 cnt, .string dat, .bool fua, .slice mA mL mC, .int .i64 tim] 34) = X at *
    have x0 := hX.1.2 0 _ rfl
    have x1 := hX.1.2 1 _ rfl
    have b8 := hB.1.2 8 _ rfl
    have rg0 := fun d os => cell_regrown x0 d os
    have rg1 := fun d os => cell_regrown x1 d os
    have rg2 := fun d os => cell_regrown b8 d os
    have e5 : IntKind.i64.wrap (p + q) = p + q := IntWalk.i64_in _ (by omega)
    refine wp_region_lex [2, 5] 7 (by kernel_rfl) (by kernel_rfl) ?_
    simp only [List.take_succ_cons, List.take_zero, List.drop_succ_cons, List.drop_zero]
    with_reducible refine lex_seg 2 _ _ _ _ (by kernel_rfl) ?_
    simp only [List.take_succ_cons, List.take_zero, List.drop_succ_cons, List.drop_zero]
    try simp only [Act.put, List.setIfInBounds_toArray, List.set_cons_succ, List.set_cons_zero]
    repeat (go_big_quiet_step (fail))
    with_reducible refine wpQuiet_nil ?_
    refine lex_call 37 rfl rfl (by simp [go_sem]; rfl) ?_
    refine (refSpan_any tim _).mono ?_; rw [← Hp.out]; rintro e w1 ⟨rfl, rfl⟩
    refine ⟨_, rfl, Bel.refl _, ?_⟩
    with_reducible refine lex_seg 2 _ _ _ _ (by kernel_rfl) ?_
    simp only [List.take_succ_cons, List.take_zero, List.drop_succ_cons, List.drop_zero]
    try simp only [Act.put, List.setIfInBounds_toArray, List.set_cons_succ, List.set_cons_zero]
    repeat (go_big_quiet_step (fail))
    with_reducible refine wpQuiet_nil ?_
    refine lex_call 37 rfl rfl (by simp [go_sem]; rfl) ?_
    refine (refSpan_any x _).mono ?_; rw [← Hq.out]; rintro e w1 ⟨rfl, rfl⟩
    refine ⟨_, rfl, Bel.refl _, ?_⟩
    with_reducible refine lex_seg 1 _ _ _ _ (by kernel_rfl) ?_
    simp only [List.take_succ_cons, List.take_zero, List.drop_succ_cons, List.drop_zero]
    try simp only [Act.put, List.setIfInBounds_toArray, List.set_cons_succ, List.set_cons_zero]
    repeat (go_big_quiet_step (fail))
    with_reducible refine wpQuiet_nil ?_
    with_reducible refine lex_nil ?_
    clear rg0 rg1 rg2 e5 x0 x1 b8
    go_wp2
    go_ret
    exact ⟨ret_int HF.out.symm, hbw.drew⟩
end Go.Proofs.Ytdffpnogfinehaa
