/- The walk of MergeConflicts. -/
import Derived.Test.YtbijfmpmgmfpgaaNear
import Derived.Test.YtbijfmpmgmfpgaaLim
import Derived.Test.YtbijfmpmgmfpgaaLex
import Derived.Test.YtbijfmpmgmfpgaaConf
import Derived.Test.YtbijfmpmgmfpgaaAwk25
namespace Go.Proofs.Ytbijfmpmgmfpgaa
open Go.RowKit Go.Maps
set_option linter.unusedSimpArgs false

set_option maxRecDepth 100000 in
set_option maxHeartbeats 8000000 in
theorem mergeConflicts_walk (n m l : Int) (w : World) (_ : IsInt n) (_ : IsInt m) (_ : IsInt l) :
    Calls Try.prog 4 #[.int .i64 n, .int .i64 m, .int .i64 l] w fun e w' => e = .returned (.bool true) ∧ Bel w w' := by
  go_enter Try.func4, Try.ntmps4
  go_wp2_with fail
  refine (near_any n m _).mono ?_; rintro e w1 ⟨x, y, rfl, hx, hy, hb1⟩
  have HC := Lib.hid (fun w' (h : Bel w1 w') => conflict_any x y w' (hx.bel h) (hy.bel h))
  have HC2 := Lib.hid (fun w' (h : Bel w1 w') => conflict_any y x w' (hy.bel h) (hx.bel h))
  have HC3 := Lib.hid (fun w' (h : Bel w1 w') => conflict_any x x w' (hx.bel h) (hx.bel h))
  have HV := Lib.hid (fun w' (h : Bel w1 w') => mergeValid_any x.b x.ms w' (hx.bel h))
  have HL := Lib.hid (fun w' => limits_any l w')
  obtain ⟨M, HM⟩ : ∃ M, Hid (M = 1 + rnd l 6) := ⟨_, rfl⟩
  obtain ⟨B, HB⟩ : ∃ B, Hid (B = bound l) := ⟨_, rfl⟩
  rw [← HM.out, ← HB.out] at HL
  have HN := Lib.hid (fun w' (h : Bel w1 w') => can_any M B x y w' (hx.bel h) (hy.bel h))
  have hsym : confB y x = confB x y := confU_symm y.bu x.bu
  have HW : Hid (confB x y = true → x.b.knd = 2 ∨ y.b.knd = 2) := Lib.hid (fun h => confU_write (u := x.bu) (v := y.bu) h)
  have HA : Hid (canU M B x.bu y.bu ≠ 0 → confB x y = false) := Lib.hid (fun h => canU_apart h)
  have HS : Hid (x.b.knd = 2 → confB x x = validB x.b x.ms) := Lib.hid (fun h => confU_self (u := x.bu) h)
  rw [hsym] at HC2
  clear hx hy hsym
  generalize confB x y = c at *
  generalize confB x x = cx at *
  generalize canU M B x.bu y.bu = h at *
  generalize validB x.b x.ms = vx at *
  obtain ⟨⟨i1, t1, k1, s1, n1, d1, f1, a1, l1, c1, m1⟩, ms1⟩ := x
  obtain ⟨⟨i2, t2, k2, s2, n2, d2, f2, a2, l2, c2, m2⟩, ms2⟩ := y
  simp only at HC HC2 HC3 HV HN HW HS ⊢
  go_wp2_with fail
  have hP := (AtF.new_at (w := w1) rfl 27 [.int .i64 i1, .int .i64 t1, .int .i64 k1, .int .i64 s1, .int .i64 n1, .string d1, .bool f1, .slice a1 l1 c1, .int .i64 m1]).alloc (.cells [.int .i64 i2, .int .i64 t2, .int .i64 k2, .int .i64 s2, .int .i64 n2, .string d2, .bool f2, .slice a2 l2 c2, .int .i64 m2].toArray 27)
  have hQ := AtF.new_at (w := w1.alloc (.cells [.int .i64 i1, .int .i64 t1, .int .i64 k1, .int .i64 s1, .int .i64 n1, .string d1, .bool f1, .slice a1 l1 c1, .int .i64 m1].toArray 27)) (g := w1.heap.size + 1) (by simp) 27 [.int .i64 i2, .int .i64 t2, .int .i64 k2, .int .i64 s2, .int .i64 n2, .string d2, .bool f2, .slice a2 l2 c2, .int .i64 m2]
  have hbw : Bel w1 ((w1.alloc (.cells [.int .i64 i1, .int .i64 t1, .int .i64 k1, .int .i64 s1, .int .i64 n1, .string d1, .bool f1, .slice a1 l1 c1, .int .i64 m1].toArray 27)).alloc (.cells [.int .i64 i2, .int .i64 t2, .int .i64 k2, .int .i64 s2, .int .i64 n2, .string d2, .bool f2, .slice a2 l2 c2, .int .i64 m2].toArray 27)) := (by repeat (first | (with_reducible exact Bel.refl _) | (with_reducible assumption) | (with_reducible refine Bel.drewN ?_ _) | (with_reducible refine Bel.drew ?_) | (with_reducible refine Bel.alloc ?_ _) | (with_reducible refine Bel.setNew ?_ ?_ _) | (with_reducible refine Bel.trans ?_ (by assumption)) | (focus (simp; done)) | (focus (simp; omega))))
  simp only [List.toArray] at hP hQ hbw
  refine (HC.out _ hbw).mono ?_; rintro e w2 ⟨rfl, hb2⟩
  have hP2 := hP.bel hb2
  have hQ2 := hQ.bel hb2
  have hbw2 := hbw.trans hb2
  clear hP hQ hbw hb2
  generalize w1.heap.size = P at *
  go_upto_region 3 with fail
  have p0 := (hP2).1.2 0 _ rfl
  have p1 := (hP2).1.2 1 _ rfl
  have p2 := (hP2).1.2 2 _ rfl
  have p3 := (hP2).1.2 3 _ rfl
  have p4 := (hP2).1.2 4 _ rfl
  have p5 := (hP2).1.2 5 _ rfl
  have p6 := (hP2).1.2 6 _ rfl
  have p7 := (hP2).1.2 7 _ rfl
  have p8 := (hP2).1.2 8 _ rfl
  have q0 := (hQ2).1.2 0 _ rfl
  have q1 := (hQ2).1.2 1 _ rfl
  have q2 := (hQ2).1.2 2 _ rfl
  have q3 := (hQ2).1.2 3 _ rfl
  have q4 := (hQ2).1.2 4 _ rfl
  have q5 := (hQ2).1.2 5 _ rfl
  have q6 := (hQ2).1.2 6 _ rfl
  have q7 := (hQ2).1.2 7 _ rfl
  have q8 := (hQ2).1.2 8 _ rfl
  have r0 := fun d os => cell_regrown p0 d os
  have r1 := fun d os => cell_regrown p1 d os
  have r2 := fun d os => cell_regrown p2 d os
  have r3 := fun d os => cell_regrown p3 d os
  have r4 := fun d os => cell_regrown p4 d os
  have r5 := fun d os => cell_regrown p5 d os
  have r6 := fun d os => cell_regrown p6 d os
  have r7 := fun d os => cell_regrown p7 d os
  have r8 := fun d os => cell_regrown p8 d os
  have u0 := fun d os => cell_regrown q0 d os
  have u1 := fun d os => cell_regrown q1 d os
  have u2 := fun d os => cell_regrown q2 d os
  have u3 := fun d os => cell_regrown q3 d os
  have u4 := fun d os => cell_regrown q4 d os
  have u5 := fun d os => cell_regrown q5 d os
  have u6 := fun d os => cell_regrown q6 d os
  have u7 := fun d os => cell_regrown q7 d os
  have u8 := fun d os => cell_regrown q8 d os
  have HA4 := Lib.hid (fun w' => awake25_any w')
  cases c
  · by_cases h0 : h = 0
    · subst h0
      by_cases hk : k1 = 2
      · have hs := HS.out hk
        subst hk hs
        refine wp_region_lex [3, 21, 24, 38, 40, 45] 47 (by kernel_rfl) (by kernel_rfl) ?_
        simp only [List.take_succ_cons, List.take_zero, List.drop_succ_cons, List.drop_zero]
        with_reducible refine lex_seg 3 _ _ _ _ (by kernel_rfl) ?_
        simp only [List.take_succ_cons, List.take_zero, List.drop_succ_cons, List.drop_zero]
        try simp only [Act.put, List.setIfInBounds_toArray, List.set_cons_succ, List.set_cons_zero]
        repeat (go_big_quiet_step (fail))
        with_reducible refine wpQuiet_nil ?_
        refine lex_call 22 (by kernel_rfl) (by kernel_rfl) (by simp [go_sem]; rfl) ?_
        refine (HC2.out _ (hbw2.trans (by repeat (first | (with_reducible exact Bel.refl _) | (with_reducible assumption) | (with_reducible refine Bel.drewN ?_ _) | (with_reducible refine Bel.drew ?_) | (with_reducible refine Bel.alloc ?_ _) | (with_reducible refine Bel.setNew ?_ ?_ _) | (with_reducible refine Bel.trans ?_ (by assumption)) | (focus (simp; done)) | (focus (simp; omega)))))).mono ?_; rintro e w3 ⟨rfl, hb3⟩
        refine ⟨_, rfl, hb3, ?_⟩
        with_reducible refine lex_seg 17 _ _ _ _ (by kernel_rfl) ?_
        simp only [List.take_succ_cons, List.take_zero, List.drop_succ_cons, List.drop_zero]
        try simp only [Act.put, List.setIfInBounds_toArray, List.set_cons_succ, List.set_cons_zero]
        repeat (go_big_quiet_step (fail))
        with_reducible refine wpQuiet_nil ?_
        refine lex_call 24 (by kernel_rfl) (by kernel_rfl) (by simp [go_sem]; rfl) ?_
        refine (HL.out _).mono ?_; rintro e w4 ⟨rfl, hb4⟩
        refine ⟨_, rfl, hb4, ?_⟩
        with_reducible refine lex_seg 2 _ _ _ _ (by kernel_rfl) ?_
        simp only [List.take_succ_cons, List.take_zero, List.drop_succ_cons, List.drop_zero]
        try simp only [Act.put, List.setIfInBounds_toArray, List.set_cons_succ, List.set_cons_zero]
        repeat (go_big_quiet_step (fail))
        with_reducible refine wpQuiet_nil ?_
        refine lex_call 23 (by kernel_rfl) (by kernel_rfl) (by simp [go_sem]; rfl) ?_
        refine (HN.out _ (hbw2.trans (by repeat (first | (with_reducible exact Bel.refl _) | (with_reducible assumption) | (with_reducible refine Bel.drewN ?_ _) | (with_reducible refine Bel.drew ?_) | (with_reducible refine Bel.alloc ?_ _) | (with_reducible refine Bel.setNew ?_ ?_ _) | (with_reducible refine Bel.trans ?_ (by assumption)) | (focus (simp; done)) | (focus (simp; omega)))))).mono ?_; rintro e w5 ⟨rfl, hb5⟩
        refine ⟨_, rfl, hb5, ?_⟩
        with_reducible refine lex_seg 13 _ _ _ _ (by kernel_rfl) ?_
        simp only [List.take_succ_cons, List.take_zero, List.drop_succ_cons, List.drop_zero]
        try simp only [Act.put, List.setIfInBounds_toArray, List.set_cons_succ, List.set_cons_zero]
        repeat (go_big_quiet_step (fail))
        with_reducible refine wpQuiet_nil ?_
        refine lex_call 22 (by kernel_rfl) (by kernel_rfl) (by simp [go_sem]; rfl) ?_
        refine (HC3.out _ (hbw2.trans (by repeat (first | (with_reducible exact Bel.refl _) | (with_reducible assumption) | (with_reducible refine Bel.drewN ?_ _) | (with_reducible refine Bel.drew ?_) | (with_reducible refine Bel.alloc ?_ _) | (with_reducible refine Bel.setNew ?_ ?_ _) | (with_reducible refine Bel.trans ?_ (by assumption)) | (focus (simp; done)) | (focus (simp; omega)))))).mono ?_; rintro e w6 ⟨rfl, hb6⟩
        refine ⟨_, rfl, hb6, ?_⟩
        with_reducible refine lex_seg 1 _ _ _ _ (by kernel_rfl) ?_
        simp only [List.take_succ_cons, List.take_zero, List.drop_succ_cons, List.drop_zero]
        try simp only [Act.put, List.setIfInBounds_toArray, List.set_cons_succ, List.set_cons_zero]
        repeat (go_big_quiet_step (fail))
        with_reducible refine wpQuiet_nil ?_
        refine lex_call 18 (by kernel_rfl) (by kernel_rfl) (by simp [go_sem]; rfl) ?_
        refine (HV.out _ (hbw2.trans (by repeat (first | (with_reducible exact Bel.refl _) | (with_reducible assumption) | (with_reducible refine Bel.drewN ?_ _) | (with_reducible refine Bel.drew ?_) | (with_reducible refine Bel.alloc ?_ _) | (with_reducible refine Bel.setNew ?_ ?_ _) | (with_reducible refine Bel.trans ?_ (by assumption)) | (focus (simp; done)) | (focus (simp; omega)))))).mono ?_; rintro e w7 ⟨rfl, hb7⟩
        refine ⟨_, rfl, hb7, ?_⟩
        with_reducible refine lex_seg 4 _ _ _ _ (by kernel_rfl) ?_
        simp only [List.take_succ_cons, List.take_zero, List.drop_succ_cons, List.drop_zero]
        try simp only [Act.put, List.setIfInBounds_toArray, List.set_cons_succ, List.set_cons_zero]
        repeat (go_big_quiet_step (fail))
        with_reducible refine wpQuiet_nil ?_
        refine lex_call 20 (by kernel_rfl) (by kernel_rfl) (by simp [go_sem]; rfl) ?_
        refine (HA4.out _).mono ?_; rintro e w8 ⟨rfl, hb8⟩
        refine ⟨_, rfl, hb8, ?_⟩
        with_reducible refine lex_seg 1 _ _ _ _ (by kernel_rfl) ?_
        simp only [List.take_succ_cons, List.take_zero, List.drop_succ_cons, List.drop_zero]
        try simp only [Act.put, List.setIfInBounds_toArray, List.set_cons_succ, List.set_cons_zero]
        repeat (go_big_quiet_step (fail))
        with_reducible refine wpQuiet_nil ?_
        with_reducible refine lex_nil ?_
        go_wp2
        go_ret
        exact ⟨rfl, hb1.trans (hbw2.trans (by repeat (first | (with_reducible exact Bel.refl _) | (with_reducible assumption) | (with_reducible refine Bel.drewN ?_ _) | (with_reducible refine Bel.drew ?_) | (with_reducible refine Bel.alloc ?_ _) | (with_reducible refine Bel.setNew ?_ ?_ _) | (with_reducible refine Bel.trans ?_ (by assumption)) | (focus (simp; done)) | (focus (simp; omega)))))⟩
      · have hkb : (k1 != 2) = true := by simpa using hk
        refine wp_region_lex [3, 21, 24, 38, 40, 45] 47 (by kernel_rfl) (by kernel_rfl) ?_
        simp only [List.take_succ_cons, List.take_zero, List.drop_succ_cons, List.drop_zero]
        with_reducible refine lex_seg 3 _ _ _ _ (by kernel_rfl) ?_
        simp only [List.take_succ_cons, List.take_zero, List.drop_succ_cons, List.drop_zero]
        try simp only [Act.put, List.setIfInBounds_toArray, List.set_cons_succ, List.set_cons_zero]
        repeat (go_big_quiet_step (fail))
        with_reducible refine wpQuiet_nil ?_
        refine lex_call 22 (by kernel_rfl) (by kernel_rfl) (by simp [go_sem]; rfl) ?_
        refine (HC2.out _ (hbw2.trans (by repeat (first | (with_reducible exact Bel.refl _) | (with_reducible assumption) | (with_reducible refine Bel.drewN ?_ _) | (with_reducible refine Bel.drew ?_) | (with_reducible refine Bel.alloc ?_ _) | (with_reducible refine Bel.setNew ?_ ?_ _) | (with_reducible refine Bel.trans ?_ (by assumption)) | (focus (simp; done)) | (focus (simp; omega)))))).mono ?_; rintro e w3 ⟨rfl, hb3⟩
        refine ⟨_, rfl, hb3, ?_⟩
        with_reducible refine lex_seg 17 _ _ _ _ (by kernel_rfl) ?_
        simp only [List.take_succ_cons, List.take_zero, List.drop_succ_cons, List.drop_zero]
        try simp only [Act.put, List.setIfInBounds_toArray, List.set_cons_succ, List.set_cons_zero]
        repeat (go_big_quiet_step (fail))
        with_reducible refine wpQuiet_nil ?_
        refine lex_call 24 (by kernel_rfl) (by kernel_rfl) (by simp [go_sem]; rfl) ?_
        refine (HL.out _).mono ?_; rintro e w4 ⟨rfl, hb4⟩
        refine ⟨_, rfl, hb4, ?_⟩
        with_reducible refine lex_seg 2 _ _ _ _ (by kernel_rfl) ?_
        simp only [List.take_succ_cons, List.take_zero, List.drop_succ_cons, List.drop_zero]
        try simp only [Act.put, List.setIfInBounds_toArray, List.set_cons_succ, List.set_cons_zero]
        repeat (go_big_quiet_step (fail))
        with_reducible refine wpQuiet_nil ?_
        refine lex_call 23 (by kernel_rfl) (by kernel_rfl) (by simp [go_sem]; rfl) ?_
        refine (HN.out _ (hbw2.trans (by repeat (first | (with_reducible exact Bel.refl _) | (with_reducible assumption) | (with_reducible refine Bel.drewN ?_ _) | (with_reducible refine Bel.drew ?_) | (with_reducible refine Bel.alloc ?_ _) | (with_reducible refine Bel.setNew ?_ ?_ _) | (with_reducible refine Bel.trans ?_ (by assumption)) | (focus (simp; done)) | (focus (simp; omega)))))).mono ?_; rintro e w5 ⟨rfl, hb5⟩
        refine ⟨_, rfl, hb5, ?_⟩
        with_reducible refine lex_seg 13 _ _ _ _ (by kernel_rfl) ?_
        simp only [List.take_succ_cons, List.take_zero, List.drop_succ_cons, List.drop_zero]
        try simp only [Act.put, List.setIfInBounds_toArray, List.set_cons_succ, List.set_cons_zero]
        repeat (go_big_quiet_step (fail))
        with_reducible refine wpQuiet_nil ?_
        with_reducible refine lex_skip (by kernel_rfl) ?_
        try simp only [Act.put, List.setIfInBounds_toArray, List.set_cons_succ, List.set_cons_zero]
        with_reducible refine lex_seg 1 _ _ _ _ (by kernel_rfl) ?_
        simp only [List.take_succ_cons, List.take_zero, List.drop_succ_cons, List.drop_zero]
        try simp only [Act.put, List.setIfInBounds_toArray, List.set_cons_succ, List.set_cons_zero]
        repeat (go_big_quiet_step (fail))
        with_reducible refine wpQuiet_nil ?_
        with_reducible refine lex_skip (by kernel_rfl) ?_
        try simp only [Act.put, List.setIfInBounds_toArray, List.set_cons_succ, List.set_cons_zero]
        with_reducible refine lex_seg 4 _ _ _ _ (by kernel_rfl) ?_
        simp only [List.take_succ_cons, List.take_zero, List.drop_succ_cons, List.drop_zero]
        try simp only [Act.put, List.setIfInBounds_toArray, List.set_cons_succ, List.set_cons_zero]
        repeat (go_big_quiet_step (fail))
        with_reducible refine wpQuiet_nil ?_
        refine lex_call 20 (by kernel_rfl) (by kernel_rfl) (by simp [go_sem]; rfl) ?_
        refine (HA4.out _).mono ?_; rintro e w8 ⟨rfl, hb8⟩
        refine ⟨_, rfl, hb8, ?_⟩
        with_reducible refine lex_seg 1 _ _ _ _ (by kernel_rfl) ?_
        simp only [List.take_succ_cons, List.take_zero, List.drop_succ_cons, List.drop_zero]
        try simp only [Act.put, List.setIfInBounds_toArray, List.set_cons_succ, List.set_cons_zero]
        repeat (go_big_quiet_step (fail))
        with_reducible refine wpQuiet_nil ?_
        with_reducible refine lex_nil ?_
        go_wp2
        go_ret
        exact ⟨rfl, hb1.trans (hbw2.trans (by repeat (first | (with_reducible exact Bel.refl _) | (with_reducible assumption) | (with_reducible refine Bel.drewN ?_ _) | (with_reducible refine Bel.drew ?_) | (with_reducible refine Bel.alloc ?_ _) | (with_reducible refine Bel.setNew ?_ ?_ _) | (with_reducible refine Bel.trans ?_ (by assumption)) | (focus (simp; done)) | (focus (simp; omega)))))⟩
    · have h0b : (h == 0) = false := by simpa using h0
      by_cases hk : k1 = 2
      · have hs := HS.out hk
        subst hk hs
        refine wp_region_lex [3, 21, 24, 38, 40, 45] 47 (by kernel_rfl) (by kernel_rfl) ?_
        simp only [List.take_succ_cons, List.take_zero, List.drop_succ_cons, List.drop_zero]
        with_reducible refine lex_seg 3 _ _ _ _ (by kernel_rfl) ?_
        simp only [List.take_succ_cons, List.take_zero, List.drop_succ_cons, List.drop_zero]
        try simp only [Act.put, List.setIfInBounds_toArray, List.set_cons_succ, List.set_cons_zero]
        repeat (go_big_quiet_step (fail))
        with_reducible refine wpQuiet_nil ?_
        refine lex_call 22 (by kernel_rfl) (by kernel_rfl) (by simp [go_sem]; rfl) ?_
        refine (HC2.out _ (hbw2.trans (by repeat (first | (with_reducible exact Bel.refl _) | (with_reducible assumption) | (with_reducible refine Bel.drewN ?_ _) | (with_reducible refine Bel.drew ?_) | (with_reducible refine Bel.alloc ?_ _) | (with_reducible refine Bel.setNew ?_ ?_ _) | (with_reducible refine Bel.trans ?_ (by assumption)) | (focus (simp; done)) | (focus (simp; omega)))))).mono ?_; rintro e w3 ⟨rfl, hb3⟩
        refine ⟨_, rfl, hb3, ?_⟩
        with_reducible refine lex_seg 17 _ _ _ _ (by kernel_rfl) ?_
        simp only [List.take_succ_cons, List.take_zero, List.drop_succ_cons, List.drop_zero]
        try simp only [Act.put, List.setIfInBounds_toArray, List.set_cons_succ, List.set_cons_zero]
        repeat (go_big_quiet_step (fail))
        with_reducible refine wpQuiet_nil ?_
        refine lex_call 24 (by kernel_rfl) (by kernel_rfl) (by simp [go_sem]; rfl) ?_
        refine (HL.out _).mono ?_; rintro e w4 ⟨rfl, hb4⟩
        refine ⟨_, rfl, hb4, ?_⟩
        with_reducible refine lex_seg 2 _ _ _ _ (by kernel_rfl) ?_
        simp only [List.take_succ_cons, List.take_zero, List.drop_succ_cons, List.drop_zero]
        try simp only [Act.put, List.setIfInBounds_toArray, List.set_cons_succ, List.set_cons_zero]
        repeat (go_big_quiet_step (fail))
        with_reducible refine wpQuiet_nil ?_
        refine lex_call 23 (by kernel_rfl) (by kernel_rfl) (by simp [go_sem]; rfl) ?_
        refine (HN.out _ (hbw2.trans (by repeat (first | (with_reducible exact Bel.refl _) | (with_reducible assumption) | (with_reducible refine Bel.drewN ?_ _) | (with_reducible refine Bel.drew ?_) | (with_reducible refine Bel.alloc ?_ _) | (with_reducible refine Bel.setNew ?_ ?_ _) | (with_reducible refine Bel.trans ?_ (by assumption)) | (focus (simp; done)) | (focus (simp; omega)))))).mono ?_; rintro e w5 ⟨rfl, hb5⟩
        refine ⟨_, rfl, hb5, ?_⟩
        with_reducible refine lex_seg 13 _ _ _ _ (by kernel_rfl) ?_
        simp only [List.take_succ_cons, List.take_zero, List.drop_succ_cons, List.drop_zero]
        try simp only [Act.put, List.setIfInBounds_toArray, List.set_cons_succ, List.set_cons_zero]
        repeat (go_big_quiet_step (fail))
        with_reducible refine wpQuiet_nil ?_
        refine lex_call 22 (by kernel_rfl) (by kernel_rfl) (by simp [go_sem]; rfl) ?_
        refine (HC3.out _ (hbw2.trans (by repeat (first | (with_reducible exact Bel.refl _) | (with_reducible assumption) | (with_reducible refine Bel.drewN ?_ _) | (with_reducible refine Bel.drew ?_) | (with_reducible refine Bel.alloc ?_ _) | (with_reducible refine Bel.setNew ?_ ?_ _) | (with_reducible refine Bel.trans ?_ (by assumption)) | (focus (simp; done)) | (focus (simp; omega)))))).mono ?_; rintro e w6 ⟨rfl, hb6⟩
        refine ⟨_, rfl, hb6, ?_⟩
        with_reducible refine lex_seg 1 _ _ _ _ (by kernel_rfl) ?_
        simp only [List.take_succ_cons, List.take_zero, List.drop_succ_cons, List.drop_zero]
        try simp only [Act.put, List.setIfInBounds_toArray, List.set_cons_succ, List.set_cons_zero]
        repeat (go_big_quiet_step (fail))
        with_reducible refine wpQuiet_nil ?_
        refine lex_call 18 (by kernel_rfl) (by kernel_rfl) (by simp [go_sem]; rfl) ?_
        refine (HV.out _ (hbw2.trans (by repeat (first | (with_reducible exact Bel.refl _) | (with_reducible assumption) | (with_reducible refine Bel.drewN ?_ _) | (with_reducible refine Bel.drew ?_) | (with_reducible refine Bel.alloc ?_ _) | (with_reducible refine Bel.setNew ?_ ?_ _) | (with_reducible refine Bel.trans ?_ (by assumption)) | (focus (simp; done)) | (focus (simp; omega)))))).mono ?_; rintro e w7 ⟨rfl, hb7⟩
        refine ⟨_, rfl, hb7, ?_⟩
        with_reducible refine lex_seg 4 _ _ _ _ (by kernel_rfl) ?_
        simp only [List.take_succ_cons, List.take_zero, List.drop_succ_cons, List.drop_zero]
        try simp only [Act.put, List.setIfInBounds_toArray, List.set_cons_succ, List.set_cons_zero]
        repeat (go_big_quiet_step (fail))
        with_reducible refine wpQuiet_nil ?_
        refine lex_call 20 (by kernel_rfl) (by kernel_rfl) (by simp [go_sem]; rfl) ?_
        refine (HA4.out _).mono ?_; rintro e w8 ⟨rfl, hb8⟩
        refine ⟨_, rfl, hb8, ?_⟩
        with_reducible refine lex_seg 1 _ _ _ _ (by kernel_rfl) ?_
        simp only [List.take_succ_cons, List.take_zero, List.drop_succ_cons, List.drop_zero]
        try simp only [Act.put, List.setIfInBounds_toArray, List.set_cons_succ, List.set_cons_zero]
        repeat (go_big_quiet_step (fail))
        with_reducible refine wpQuiet_nil ?_
        with_reducible refine lex_nil ?_
        go_wp2
        go_ret
        exact ⟨rfl, hb1.trans (hbw2.trans (by repeat (first | (with_reducible exact Bel.refl _) | (with_reducible assumption) | (with_reducible refine Bel.drewN ?_ _) | (with_reducible refine Bel.drew ?_) | (with_reducible refine Bel.alloc ?_ _) | (with_reducible refine Bel.setNew ?_ ?_ _) | (with_reducible refine Bel.trans ?_ (by assumption)) | (focus (simp; done)) | (focus (simp; omega)))))⟩
      · have hkb : (k1 != 2) = true := by simpa using hk
        refine wp_region_lex [3, 21, 24, 38, 40, 45] 47 (by kernel_rfl) (by kernel_rfl) ?_
        simp only [List.take_succ_cons, List.take_zero, List.drop_succ_cons, List.drop_zero]
        with_reducible refine lex_seg 3 _ _ _ _ (by kernel_rfl) ?_
        simp only [List.take_succ_cons, List.take_zero, List.drop_succ_cons, List.drop_zero]
        try simp only [Act.put, List.setIfInBounds_toArray, List.set_cons_succ, List.set_cons_zero]
        repeat (go_big_quiet_step (fail))
        with_reducible refine wpQuiet_nil ?_
        refine lex_call 22 (by kernel_rfl) (by kernel_rfl) (by simp [go_sem]; rfl) ?_
        refine (HC2.out _ (hbw2.trans (by repeat (first | (with_reducible exact Bel.refl _) | (with_reducible assumption) | (with_reducible refine Bel.drewN ?_ _) | (with_reducible refine Bel.drew ?_) | (with_reducible refine Bel.alloc ?_ _) | (with_reducible refine Bel.setNew ?_ ?_ _) | (with_reducible refine Bel.trans ?_ (by assumption)) | (focus (simp; done)) | (focus (simp; omega)))))).mono ?_; rintro e w3 ⟨rfl, hb3⟩
        refine ⟨_, rfl, hb3, ?_⟩
        with_reducible refine lex_seg 17 _ _ _ _ (by kernel_rfl) ?_
        simp only [List.take_succ_cons, List.take_zero, List.drop_succ_cons, List.drop_zero]
        try simp only [Act.put, List.setIfInBounds_toArray, List.set_cons_succ, List.set_cons_zero]
        repeat (go_big_quiet_step (fail))
        with_reducible refine wpQuiet_nil ?_
        refine lex_call 24 (by kernel_rfl) (by kernel_rfl) (by simp [go_sem]; rfl) ?_
        refine (HL.out _).mono ?_; rintro e w4 ⟨rfl, hb4⟩
        refine ⟨_, rfl, hb4, ?_⟩
        with_reducible refine lex_seg 2 _ _ _ _ (by kernel_rfl) ?_
        simp only [List.take_succ_cons, List.take_zero, List.drop_succ_cons, List.drop_zero]
        try simp only [Act.put, List.setIfInBounds_toArray, List.set_cons_succ, List.set_cons_zero]
        repeat (go_big_quiet_step (fail))
        with_reducible refine wpQuiet_nil ?_
        refine lex_call 23 (by kernel_rfl) (by kernel_rfl) (by simp [go_sem]; rfl) ?_
        refine (HN.out _ (hbw2.trans (by repeat (first | (with_reducible exact Bel.refl _) | (with_reducible assumption) | (with_reducible refine Bel.drewN ?_ _) | (with_reducible refine Bel.drew ?_) | (with_reducible refine Bel.alloc ?_ _) | (with_reducible refine Bel.setNew ?_ ?_ _) | (with_reducible refine Bel.trans ?_ (by assumption)) | (focus (simp; done)) | (focus (simp; omega)))))).mono ?_; rintro e w5 ⟨rfl, hb5⟩
        refine ⟨_, rfl, hb5, ?_⟩
        with_reducible refine lex_seg 13 _ _ _ _ (by kernel_rfl) ?_
        simp only [List.take_succ_cons, List.take_zero, List.drop_succ_cons, List.drop_zero]
        try simp only [Act.put, List.setIfInBounds_toArray, List.set_cons_succ, List.set_cons_zero]
        repeat (go_big_quiet_step (fail))
        with_reducible refine wpQuiet_nil ?_
        with_reducible refine lex_skip (by kernel_rfl) ?_
        try simp only [Act.put, List.setIfInBounds_toArray, List.set_cons_succ, List.set_cons_zero]
        with_reducible refine lex_seg 1 _ _ _ _ (by kernel_rfl) ?_
        simp only [List.take_succ_cons, List.take_zero, List.drop_succ_cons, List.drop_zero]
        try simp only [Act.put, List.setIfInBounds_toArray, List.set_cons_succ, List.set_cons_zero]
        repeat (go_big_quiet_step (fail))
        with_reducible refine wpQuiet_nil ?_
        with_reducible refine lex_skip (by kernel_rfl) ?_
        try simp only [Act.put, List.setIfInBounds_toArray, List.set_cons_succ, List.set_cons_zero]
        with_reducible refine lex_seg 4 _ _ _ _ (by kernel_rfl) ?_
        simp only [List.take_succ_cons, List.take_zero, List.drop_succ_cons, List.drop_zero]
        try simp only [Act.put, List.setIfInBounds_toArray, List.set_cons_succ, List.set_cons_zero]
        repeat (go_big_quiet_step (fail))
        with_reducible refine wpQuiet_nil ?_
        refine lex_call 20 (by kernel_rfl) (by kernel_rfl) (by simp [go_sem]; rfl) ?_
        refine (HA4.out _).mono ?_; rintro e w8 ⟨rfl, hb8⟩
        refine ⟨_, rfl, hb8, ?_⟩
        with_reducible refine lex_seg 1 _ _ _ _ (by kernel_rfl) ?_
        simp only [List.take_succ_cons, List.take_zero, List.drop_succ_cons, List.drop_zero]
        try simp only [Act.put, List.setIfInBounds_toArray, List.set_cons_succ, List.set_cons_zero]
        repeat (go_big_quiet_step (fail))
        with_reducible refine wpQuiet_nil ?_
        with_reducible refine lex_nil ?_
        go_wp2
        go_ret
        exact ⟨rfl, hb1.trans (hbw2.trans (by repeat (first | (with_reducible exact Bel.refl _) | (with_reducible assumption) | (with_reducible refine Bel.drewN ?_ _) | (with_reducible refine Bel.drew ?_) | (with_reducible refine Bel.alloc ?_ _) | (with_reducible refine Bel.setNew ?_ ?_ _) | (with_reducible refine Bel.trans ?_ (by assumption)) | (focus (simp; done)) | (focus (simp; omega)))))⟩
  · have h0 : h = 0 := by
      rcases Int.decEq h 0 with h0 | h0
      · have := HA.out h0; cases this
      · exact h0
    subst h0
    by_cases hk : k1 = 2
    · have hs := HS.out hk
      subst hk hs
      refine wp_region_lex [3, 21, 24, 38, 40, 45] 47 (by kernel_rfl) (by kernel_rfl) ?_
      simp only [List.take_succ_cons, List.take_zero, List.drop_succ_cons, List.drop_zero]
      with_reducible refine lex_seg 3 _ _ _ _ (by kernel_rfl) ?_
      simp only [List.take_succ_cons, List.take_zero, List.drop_succ_cons, List.drop_zero]
      try simp only [Act.put, List.setIfInBounds_toArray, List.set_cons_succ, List.set_cons_zero]
      repeat (go_big_quiet_step (fail))
      with_reducible refine wpQuiet_nil ?_
      refine lex_call 22 (by kernel_rfl) (by kernel_rfl) (by simp [go_sem]; rfl) ?_
      refine (HC2.out _ (hbw2.trans (by repeat (first | (with_reducible exact Bel.refl _) | (with_reducible assumption) | (with_reducible refine Bel.drewN ?_ _) | (with_reducible refine Bel.drew ?_) | (with_reducible refine Bel.alloc ?_ _) | (with_reducible refine Bel.setNew ?_ ?_ _) | (with_reducible refine Bel.trans ?_ (by assumption)) | (focus (simp; done)) | (focus (simp; omega)))))).mono ?_; rintro e w3 ⟨rfl, hb3⟩
      refine ⟨_, rfl, hb3, ?_⟩
      with_reducible refine lex_seg 17 _ _ _ _ (by kernel_rfl) ?_
      simp only [List.take_succ_cons, List.take_zero, List.drop_succ_cons, List.drop_zero]
      try simp only [Act.put, List.setIfInBounds_toArray, List.set_cons_succ, List.set_cons_zero]
      repeat (go_big_quiet_step (fail))
      with_reducible refine wpQuiet_nil ?_
      refine lex_call 24 (by kernel_rfl) (by kernel_rfl) (by simp [go_sem]; rfl) ?_
      refine (HL.out _).mono ?_; rintro e w4 ⟨rfl, hb4⟩
      refine ⟨_, rfl, hb4, ?_⟩
      with_reducible refine lex_seg 2 _ _ _ _ (by kernel_rfl) ?_
      simp only [List.take_succ_cons, List.take_zero, List.drop_succ_cons, List.drop_zero]
      try simp only [Act.put, List.setIfInBounds_toArray, List.set_cons_succ, List.set_cons_zero]
      repeat (go_big_quiet_step (fail))
      with_reducible refine wpQuiet_nil ?_
      refine lex_call 23 (by kernel_rfl) (by kernel_rfl) (by simp [go_sem]; rfl) ?_
      refine (HN.out _ (hbw2.trans (by repeat (first | (with_reducible exact Bel.refl _) | (with_reducible assumption) | (with_reducible refine Bel.drewN ?_ _) | (with_reducible refine Bel.drew ?_) | (with_reducible refine Bel.alloc ?_ _) | (with_reducible refine Bel.setNew ?_ ?_ _) | (with_reducible refine Bel.trans ?_ (by assumption)) | (focus (simp; done)) | (focus (simp; omega)))))).mono ?_; rintro e w5 ⟨rfl, hb5⟩
      refine ⟨_, rfl, hb5, ?_⟩
      with_reducible refine lex_seg 13 _ _ _ _ (by kernel_rfl) ?_
      simp only [List.take_succ_cons, List.take_zero, List.drop_succ_cons, List.drop_zero]
      try simp only [Act.put, List.setIfInBounds_toArray, List.set_cons_succ, List.set_cons_zero]
      repeat (go_big_quiet_step (fail))
      with_reducible refine wpQuiet_nil ?_
      refine lex_call 22 (by kernel_rfl) (by kernel_rfl) (by simp [go_sem]; rfl) ?_
      refine (HC3.out _ (hbw2.trans (by repeat (first | (with_reducible exact Bel.refl _) | (with_reducible assumption) | (with_reducible refine Bel.drewN ?_ _) | (with_reducible refine Bel.drew ?_) | (with_reducible refine Bel.alloc ?_ _) | (with_reducible refine Bel.setNew ?_ ?_ _) | (with_reducible refine Bel.trans ?_ (by assumption)) | (focus (simp; done)) | (focus (simp; omega)))))).mono ?_; rintro e w6 ⟨rfl, hb6⟩
      refine ⟨_, rfl, hb6, ?_⟩
      with_reducible refine lex_seg 1 _ _ _ _ (by kernel_rfl) ?_
      simp only [List.take_succ_cons, List.take_zero, List.drop_succ_cons, List.drop_zero]
      try simp only [Act.put, List.setIfInBounds_toArray, List.set_cons_succ, List.set_cons_zero]
      repeat (go_big_quiet_step (fail))
      with_reducible refine wpQuiet_nil ?_
      refine lex_call 18 (by kernel_rfl) (by kernel_rfl) (by simp [go_sem]; rfl) ?_
      refine (HV.out _ (hbw2.trans (by repeat (first | (with_reducible exact Bel.refl _) | (with_reducible assumption) | (with_reducible refine Bel.drewN ?_ _) | (with_reducible refine Bel.drew ?_) | (with_reducible refine Bel.alloc ?_ _) | (with_reducible refine Bel.setNew ?_ ?_ _) | (with_reducible refine Bel.trans ?_ (by assumption)) | (focus (simp; done)) | (focus (simp; omega)))))).mono ?_; rintro e w7 ⟨rfl, hb7⟩
      refine ⟨_, rfl, hb7, ?_⟩
      with_reducible refine lex_seg 4 _ _ _ _ (by kernel_rfl) ?_
      simp only [List.take_succ_cons, List.take_zero, List.drop_succ_cons, List.drop_zero]
      try simp only [Act.put, List.setIfInBounds_toArray, List.set_cons_succ, List.set_cons_zero]
      repeat (go_big_quiet_step (fail))
      with_reducible refine wpQuiet_nil ?_
      refine lex_call 20 (by kernel_rfl) (by kernel_rfl) (by simp [go_sem]; rfl) ?_
      refine (HA4.out _).mono ?_; rintro e w8 ⟨rfl, hb8⟩
      refine ⟨_, rfl, hb8, ?_⟩
      with_reducible refine lex_seg 1 _ _ _ _ (by kernel_rfl) ?_
      simp only [List.take_succ_cons, List.take_zero, List.drop_succ_cons, List.drop_zero]
      try simp only [Act.put, List.setIfInBounds_toArray, List.set_cons_succ, List.set_cons_zero]
      repeat (go_big_quiet_step (fail))
      with_reducible refine wpQuiet_nil ?_
      with_reducible refine lex_nil ?_
      go_wp2
      go_ret
      exact ⟨rfl, hb1.trans (hbw2.trans (by repeat (first | (with_reducible exact Bel.refl _) | (with_reducible assumption) | (with_reducible refine Bel.drewN ?_ _) | (with_reducible refine Bel.drew ?_) | (with_reducible refine Bel.alloc ?_ _) | (with_reducible refine Bel.setNew ?_ ?_ _) | (with_reducible refine Bel.trans ?_ (by assumption)) | (focus (simp; done)) | (focus (simp; omega)))))⟩
    · have hkb : (k1 != 2) = true := by simpa using hk
      have hkb2 : (k1 == 2) = false := by simpa using hk
      obtain rfl : k2 = 2 := (HW.out rfl).resolve_left hk
      refine wp_region_lex [3, 21, 24, 38, 40, 45] 47 (by kernel_rfl) (by kernel_rfl) ?_
      simp only [List.take_succ_cons, List.take_zero, List.drop_succ_cons, List.drop_zero]
      with_reducible refine lex_seg 3 _ _ _ _ (by kernel_rfl) ?_
      simp only [List.take_succ_cons, List.take_zero, List.drop_succ_cons, List.drop_zero]
      try simp only [Act.put, List.setIfInBounds_toArray, List.set_cons_succ, List.set_cons_zero]
      repeat (go_big_quiet_step (fail))
      with_reducible refine wpQuiet_nil ?_
      refine lex_call 22 (by kernel_rfl) (by kernel_rfl) (by simp [go_sem]; rfl) ?_
      refine (HC2.out _ (hbw2.trans (by repeat (first | (with_reducible exact Bel.refl _) | (with_reducible assumption) | (with_reducible refine Bel.drewN ?_ _) | (with_reducible refine Bel.drew ?_) | (with_reducible refine Bel.alloc ?_ _) | (with_reducible refine Bel.setNew ?_ ?_ _) | (with_reducible refine Bel.trans ?_ (by assumption)) | (focus (simp; done)) | (focus (simp; omega)))))).mono ?_; rintro e w3 ⟨rfl, hb3⟩
      refine ⟨_, rfl, hb3, ?_⟩
      with_reducible refine lex_seg 17 _ _ _ _ (by kernel_rfl) ?_
      simp only [List.take_succ_cons, List.take_zero, List.drop_succ_cons, List.drop_zero]
      try simp only [Act.put, List.setIfInBounds_toArray, List.set_cons_succ, List.set_cons_zero]
      repeat (go_big_quiet_step (fail))
      with_reducible refine wpQuiet_nil ?_
      refine lex_call 24 (by kernel_rfl) (by kernel_rfl) (by simp [go_sem]; rfl) ?_
      refine (HL.out _).mono ?_; rintro e w4 ⟨rfl, hb4⟩
      refine ⟨_, rfl, hb4, ?_⟩
      with_reducible refine lex_seg 2 _ _ _ _ (by kernel_rfl) ?_
      simp only [List.take_succ_cons, List.take_zero, List.drop_succ_cons, List.drop_zero]
      try simp only [Act.put, List.setIfInBounds_toArray, List.set_cons_succ, List.set_cons_zero]
      repeat (go_big_quiet_step (fail))
      with_reducible refine wpQuiet_nil ?_
      refine lex_call 23 (by kernel_rfl) (by kernel_rfl) (by simp [go_sem]; rfl) ?_
      refine (HN.out _ (hbw2.trans (by repeat (first | (with_reducible exact Bel.refl _) | (with_reducible assumption) | (with_reducible refine Bel.drewN ?_ _) | (with_reducible refine Bel.drew ?_) | (with_reducible refine Bel.alloc ?_ _) | (with_reducible refine Bel.setNew ?_ ?_ _) | (with_reducible refine Bel.trans ?_ (by assumption)) | (focus (simp; done)) | (focus (simp; omega)))))).mono ?_; rintro e w5 ⟨rfl, hb5⟩
      refine ⟨_, rfl, hb5, ?_⟩
      with_reducible refine lex_seg 13 _ _ _ _ (by kernel_rfl) ?_
      simp only [List.take_succ_cons, List.take_zero, List.drop_succ_cons, List.drop_zero]
      try simp only [Act.put, List.setIfInBounds_toArray, List.set_cons_succ, List.set_cons_zero]
      repeat (go_big_quiet_step (fail))
      with_reducible refine wpQuiet_nil ?_
      with_reducible refine lex_skip (by kernel_rfl) ?_
      try simp only [Act.put, List.setIfInBounds_toArray, List.set_cons_succ, List.set_cons_zero]
      with_reducible refine lex_seg 1 _ _ _ _ (by kernel_rfl) ?_
      simp only [List.take_succ_cons, List.take_zero, List.drop_succ_cons, List.drop_zero]
      try simp only [Act.put, List.setIfInBounds_toArray, List.set_cons_succ, List.set_cons_zero]
      repeat (go_big_quiet_step (fail))
      with_reducible refine wpQuiet_nil ?_
      with_reducible refine lex_skip (by kernel_rfl) ?_
      try simp only [Act.put, List.setIfInBounds_toArray, List.set_cons_succ, List.set_cons_zero]
      with_reducible refine lex_seg 4 _ _ _ _ (by kernel_rfl) ?_
      simp only [List.take_succ_cons, List.take_zero, List.drop_succ_cons, List.drop_zero]
      try simp only [Act.put, List.setIfInBounds_toArray, List.set_cons_succ, List.set_cons_zero]
      repeat (go_big_quiet_step (fail))
      with_reducible refine wpQuiet_nil ?_
      refine lex_call 20 (by kernel_rfl) (by kernel_rfl) (by simp [go_sem]; rfl) ?_
      refine (HA4.out _).mono ?_; rintro e w8 ⟨rfl, hb8⟩
      refine ⟨_, rfl, hb8, ?_⟩
      with_reducible refine lex_seg 1 _ _ _ _ (by kernel_rfl) ?_
      simp only [List.take_succ_cons, List.take_zero, List.drop_succ_cons, List.drop_zero]
      try simp only [Act.put, List.setIfInBounds_toArray, List.set_cons_succ, List.set_cons_zero]
      repeat (go_big_quiet_step (fail))
      with_reducible refine wpQuiet_nil ?_
      with_reducible refine lex_nil ?_
      go_wp2
      go_ret
      exact ⟨rfl, hb1.trans (hbw2.trans (by repeat (first | (with_reducible exact Bel.refl _) | (with_reducible assumption) | (with_reducible refine Bel.drewN ?_ _) | (with_reducible refine Bel.drew ?_) | (with_reducible refine Bel.alloc ?_ _) | (with_reducible refine Bel.setNew ?_ ?_ _) | (with_reducible refine Bel.trans ?_ (by assumption)) | (focus (simp; done)) | (focus (simp; omega)))))⟩
end Go.Proofs.Ytbijfmpmgmfpgaa
