/- The walk of FairExact. -/
import Derived.Test.YtacbljfpcchbbaaFairM
import Derived.Test.YtacbljfpcchbbaaRefPick
import Derived.Test.YtacbljfpcchbbaaOpen
namespace Go.Proofs.Ytacbljfpcchbbaa
open Go.RowKit
set_option linter.unusedSimpArgs false

set_option maxHeartbeats 1000000 in
theorem few_any (A : Option Addr) (n c : Nat) (w : World) (hn : n ≤ maxLen) :
    Calls Try.prog 26 #[.slice A n c] w fun e w' => e = .returned (.bool (decide (n ≤ 12))) ∧ Bel w w' := by
  unfold maxLen at hn
  by_cases h : n ≤ 12
  · have h1 : (n : Int) ≤ 12 := by omega
    have HF := Lib.hid (show decide (n ≤ 12) = true by simpa using h)
    rw [HF.out]
    go_enter Try.func26, Try.ntmps26
    go_wp2
    go_ret
    exact ⟨rfl, (by repeat (first | (with_reducible exact Bel.refl _) | (with_reducible assumption) | (with_reducible refine Bel.drewN ?_ _) | (with_reducible refine Bel.drew ?_) | (with_reducible refine Bel.alloc ?_ _) | (with_reducible refine Bel.setNew ?_ ?_ _) | (with_reducible refine Bel.trans ?_ (by assumption)) | (focus (simp; done)) | (focus (simp; omega))))⟩
  · have h1 : decide ((n : Int) ≤ 12) = false := by simp; omega
    have HF := Lib.hid (show decide (n ≤ 12) = false by simpa using h)
    rw [HF.out]
    go_enter Try.func26, Try.ntmps26
    go_wp2
    go_ret
    exact ⟨rfl, (by repeat (first | (with_reducible exact Bel.refl _) | (with_reducible assumption) | (with_reducible refine Bel.drewN ?_ _) | (with_reducible refine Bel.drew ?_) | (with_reducible refine Bel.alloc ?_ _) | (with_reducible refine Bel.setNew ?_ ?_ _) | (with_reducible refine Bel.trans ?_ (by assumption)) | (focus (simp; done)) | (focus (simp; omega))))⟩

set_option maxRecDepth 100000 in
set_option maxHeartbeats 8000000 in
theorem fairExact_walk (wv : Value) (ws : List Int) (V : Int) (fv : Value) (fs : List (Int × Int)) (t c st : Int) (lv : Value) (l : List Qd) (mv : Value) (may : List Bool) (w : World)
    (hw : Ints w wv ws) (hf : Rd w fv 2 fs.length (fcells fs)) (_ : IsInt t) (_ : IsInt c) (_ : IsInt st) (hl : Rd w lv 12 l.length (qcells l)) (hm : Rd w mv 1 may.length (bcells may)) :
    Calls Try.prog 9 #[wv, .agg #[.int .i64 V, fv], .int .i64 t, .int .i64 c, .int .i64 st, lv, mv] w fun e w' => e = .returned (.bool true) ∧ Bel w w' := by
  have HW := Lib.hid hw
  have HFR := Lib.hid hf
  have HLR := Lib.hid hl
  have HMR := Lib.hid hm
  obtain ⟨_, Aw, cw, rfl, hw1, hw2, _⟩ := hw
  obtain ⟨Af, cf, rfl, hf1, hf2⟩ := hf.form
  obtain ⟨Al, cl, rfl, hl1, hl2⟩ := hl.form
  obtain ⟨Am, cm, rfl, hm1, hm2⟩ := hm.form
  have hl3 : l.length ≤ maxLen := by omega
  clear hf hl hm
  unfold maxLen at hw2 hf2 hl2 hm2
  by_cases c1 : 10 < ws.length
  · have d1 : (10 : Int) < (ws.length : Int) := by omega
    go_enter Try.func9, Try.ntmps9
    go_wp2
    go_ret
    exact ⟨rfl, (by repeat (first | (with_reducible exact Bel.refl _) | (with_reducible assumption) | (with_reducible refine Bel.drewN ?_ _) | (with_reducible refine Bel.drew ?_) | (with_reducible refine Bel.alloc ?_ _) | (with_reducible refine Bel.setNew ?_ ?_ _) | (with_reducible refine Bel.trans ?_ (by assumption)) | (focus (simp; done)) | (focus (simp; omega))))⟩
  have d1 : decide ((10 : Int) < (ws.length : Int)) = false := by simp; omega
  by_cases c2 : 10 < fs.length
  · have d2 : (10 : Int) < (fs.length : Int) := by omega
    go_enter Try.func9, Try.ntmps9
    go_wp2
    go_ret
    exact ⟨rfl, (by repeat (first | (with_reducible exact Bel.refl _) | (with_reducible assumption) | (with_reducible refine Bel.drewN ?_ _) | (with_reducible refine Bel.drew ?_) | (with_reducible refine Bel.alloc ?_ _) | (with_reducible refine Bel.setNew ?_ ?_ _) | (with_reducible refine Bel.trans ?_ (by assumption)) | (focus (simp; done)) | (focus (simp; omega))))⟩
  have d2 : decide ((10 : Int) < (fs.length : Int)) = false := by simp; omega
  by_cases c3 : 12 < l.length
  · have HF := Lib.hid (show decide (l.length ≤ 12) = false by simp; omega)
    go_enter Try.func9, Try.ntmps9
    go_wp2_with fail
    refine (few_any Al l.length cl _ hl3).mono ?_; rw [HF.out]; rintro e w1 ⟨rfl, hb1⟩
    go_wp2
    go_ret
    exact ⟨rfl, (by repeat (first | (with_reducible exact Bel.refl _) | (with_reducible assumption) | (with_reducible refine Bel.drewN ?_ _) | (with_reducible refine Bel.drew ?_) | (with_reducible refine Bel.alloc ?_ _) | (with_reducible refine Bel.setNew ?_ ?_ _) | (with_reducible refine Bel.trans ?_ (by assumption)) | (focus (simp; done)) | (focus (simp; omega))))⟩
  have HF := Lib.hid (show decide (l.length ≤ 12) = true by simp; omega)
  by_cases c4 : 20 < may.length
  · have d4 : (20 : Int) < (may.length : Int) := by omega
    go_enter Try.func9, Try.ntmps9
    go_wp2_with fail
    refine (few_any Al l.length cl _ hl3).mono ?_; rw [HF.out]; rintro e w1 ⟨rfl, hb1⟩
    go_wp2
    go_ret
    exact ⟨rfl, (by repeat (first | (with_reducible exact Bel.refl _) | (with_reducible assumption) | (with_reducible refine Bel.drewN ?_ _) | (with_reducible refine Bel.drew ?_) | (with_reducible refine Bel.alloc ?_ _) | (with_reducible refine Bel.setNew ?_ ?_ _) | (with_reducible refine Bel.trans ?_ (by assumption)) | (focus (simp; done)) | (focus (simp; omega))))⟩
  have d4 : decide ((20 : Int) < (may.length : Int)) = false := by simp; omega
  obtain ⟨k0, HK0⟩ : ∃ x, Hid (x = fairOk 0 (newF ws)) := ⟨_, rfl⟩
  obtain ⟨L0, HL0⟩ : ∃ x, Hid (x = if fairOk 0 (newF ws) = true then newF ws else []) := ⟨_, rfl⟩
  have hL0 : L0.length ≤ 1000 := by
    rw [HL0.out]; split
    · rw [newF_len]; omega
    · simp
  have N1 := Lib.hid (fun W (h : Bel w W) => fairNew_any ws _ W (HW.out.bel h) (by omega))
  have N2 := Lib.hid (fun W (h : Bel w W) => refNew_any ws _ W (HW.out.bel h) (by omega))
  have N3 := Lib.hid (fun W (h : Bel w W) => fairStamp_any V t c fs _ W (HFR.out.bel h) (by omega))
  have N4 := Lib.hid (fun W (h : Bel w W) => refStamp_any V t c fs _ W (HFR.out.bel h) (by omega))
  have N5 := Lib.hid (fun W (h : Bel w W) => fairGrow_any V t c fs _ W (HFR.out.bel h) (by omega))
  have N6 := Lib.hid (fun W (h : Bel w W) => refGrow_any V t c fs _ W (HFR.out.bel h) (by omega))
  have N7 := Lib.hid (fun W (h : Bel w W) => fairPick_any l may _ _ W (HLR.out.bel h) (HMR.out.bel h))
  have N8 := Lib.hid (fun W (h : Bel w W) => refPick_any l may _ _ W (HLR.out.bel h) (HMR.out.bel h))
  have N9 := Lib.hid (fun W (h : Bel w W) => fairServe_any V st fs _ W (HFR.out.bel h) (by omega))
  have N10 := Lib.hid (fun W (h : Bel w W) => refServe_any V st fs _ W (HFR.out.bel h) (by omega))
  have N11 := Lib.hid (fun W (h : Bel w W) => fairValid_any V fs _ W (HFR.out.bel h))
  have N12 := Lib.hid (fun W (h : Bel w W) => refFair_any V fs _ W (HFR.out.bel h))
  have hS := Lib.hid (show (stampB V fs t c).1.length = fs.length from advB_len ..)
  have hG := Lib.hid (show (growB V fs t c).1.length = fs.length from advB_len ..)
  rw [← HL0.out, ← HK0.out] at N1 N2
  obtain ⟨R, HR⟩ : ∃ x, Hid (x = pickN l may l.length) := ⟨_, rfl⟩
  rw [← HR.out] at N7 N8
  obtain ⟨r1, Hr1⟩ : ∃ x : Nat, Hid (x = R.getD 0) := ⟨_, rfl⟩
  obtain ⟨r2, Hr2⟩ : ∃ x, Hid (x = R.isSome) := ⟨_, rfl⟩
  rw [← Hr1.out, ← Hr2.out] at N7 N8
  obtain ⟨V', HV⟩ : ∃ x, Hid (x = if V < st ∧ st ≤ 1125899906842624 then st else V) := ⟨_, rfl⟩
  rw [← HV.out] at N9 N10
  obtain ⟨k1, HK1⟩ : ∃ x, Hid (x = fairOk V fs) := ⟨_, rfl⟩
  rw [← HK1.out] at N11 N12
  generalize stampB V fs t c = z at N3 N4 hS
  obtain ⟨z0, z1, z2⟩ := z
  generalize growB V fs t c = g at N5 N6 hG
  obtain ⟨g0, g1, g2⟩ := g
  simp only at hS hG
  have hX0 := AtF.new w 25 [.int .i64 V, .slice Af fs.length cf]
  have hbB : Bel w (w.alloc (.cells #[.int .i64 V, .slice Af fs.length cf] 25)) := (Bel.refl w).alloc _
  have hfs : fs.length ≤ 1000 := by omega
  clear HK0 HL0 HR Hr1 Hr2 HV HK1 c1 c2 c3 c4
  go_enter Try.func9, Try.ntmps9
  go_wp2_with fail
  refine (few_any Al l.length cl _ hl3).mono ?_; rw [HF.out]; rintro e w0 ⟨rfl, hb0⟩
  go_wp2_with fail
  have hw0 : Bel w w0 := hbB.trans hb0
  have hY0 := hX0.bel hb0
  clear hX0 hb0
  have q0 := hY0.1.2 0 _ rfl
  have q1 := hY0.1.2 1 _ rfl
  have qf := hY0.2
  have ql := hY0.1.1
  refine (N1.out _ (hw0)).mono ?_; rintro e w1 ⟨v1, rfl, o1, hb1⟩
  obtain ⟨A1, c1, rfl⟩ := own_slice o1
  have hw1 : Bel w w1 := Bel.trans (hw0) hb1
  clear q0 q1 qf ql
  have hY1 := (hY0).bel hb1
  have q0 := hY1.1.2 0 _ rfl
  have q1 := hY1.1.2 1 _ rfl
  have qf := hY1.2
  have ql := hY1.1.1
  go_wp2_with fail
  refine (N2.out _ (hw1.alloc _)).mono ?_; rintro e w2 ⟨v2, rfl, o2, hb2⟩
  obtain ⟨A2, c2, rfl⟩ := own_slice o2
  have hw2 : Bel w w2 := Bel.trans (hw1.alloc _) hb2
  clear q0 q1 qf ql
  have hY2 := (hY1.alloc _).bel hb2
  have q0 := hY2.1.2 0 _ rfl
  have q1 := hY2.1.2 1 _ rfl
  have qf := hY2.2
  have ql := hY2.1.1
  go_wp2_with fail
  refine (N3.out _ (hw2.alloc _)).mono ?_; rintro e w3 ⟨v3, rfl, o3, hb3⟩
  obtain ⟨A3, c3, rfl⟩ := own_slice o3
  have hw3 : Bel w w3 := Bel.trans (hw2.alloc _) hb3
  clear q0 q1 qf ql
  have hY3 := (hY2.alloc _).bel hb3
  have q0 := hY3.1.2 0 _ rfl
  have q1 := hY3.1.2 1 _ rfl
  have qf := hY3.2
  have ql := hY3.1.1
  go_wp2_with fail
  refine (N4.out _ (hw3.alloc _)).mono ?_; rintro e w4 ⟨v4, rfl, o4, hb4⟩
  obtain ⟨A4, c4, rfl⟩ := own_slice o4
  have hw4 : Bel w w4 := Bel.trans (hw3.alloc _) hb4
  clear q0 q1 qf ql
  have hY4 := (hY3.alloc _).bel hb4
  have q0 := hY4.1.2 0 _ rfl
  have q1 := hY4.1.2 1 _ rfl
  have qf := hY4.2
  have ql := hY4.1.1
  go_wp2_with fail
  refine (N5.out _ (hw4.alloc _)).mono ?_; rintro e w5 ⟨v5, rfl, o5, hb5⟩
  obtain ⟨A5, c5, rfl⟩ := own_slice o5
  have hw5 : Bel w w5 := Bel.trans (hw4.alloc _) hb5
  clear q0 q1 qf ql
  have hY5 := (hY4.alloc _).bel hb5
  have q0 := hY5.1.2 0 _ rfl
  have q1 := hY5.1.2 1 _ rfl
  have qf := hY5.2
  have ql := hY5.1.1
  go_wp2_with fail
  refine (N6.out _ (hw5.alloc _)).mono ?_; rintro e w6 ⟨v6, rfl, o6, hb6⟩
  obtain ⟨A6, c6, rfl⟩ := own_slice o6
  have hw6 : Bel w w6 := Bel.trans (hw5.alloc _) hb6
  clear q0 q1 qf ql
  have hY6 := (hY5.alloc _).bel hb6
  have q0 := hY6.1.2 0 _ rfl
  have q1 := hY6.1.2 1 _ rfl
  have qf := hY6.2
  have ql := hY6.1.1
  go_wp2_with fail
  refine (N7.out _ (hw6.alloc _)).mono ?_; rintro e w7 ⟨rfl, hb7⟩
  clear q0 q1 qf ql
  have hY7 := (hY6.alloc _).bel hb7
  have q0 := hY7.1.2 0 _ rfl
  have q1 := hY7.1.2 1 _ rfl
  have qf := hY7.2
  have ql := hY7.1.1
  have hw7 : Bel w w7 := (hw6.alloc _).trans hb7
  go_wp2_with fail
  refine (N8.out _ hw7).mono ?_; rintro e w8 ⟨rfl, hb8⟩
  clear q0 q1 qf ql
  have hY8 := (hY7).bel hb8
  have q0 := hY8.1.2 0 _ rfl
  have q1 := hY8.1.2 1 _ rfl
  have qf := hY8.2
  have ql := hY8.1.1
  have hw8 : Bel w w8 := hw7.trans hb8
  have e6 := hb7.trans hb8
  have e5 := (hb6.alloc (.cells #[.int .i64 V, .slice A6 fs.length c6] 25)).trans e6
  have e4 := (hb5.alloc (.cells #[.int .i64 V, .slice A5 fs.length c5] 25)).trans e5
  have e3 := (hb4.alloc (.cells #[.int .i64 V, .slice A4 fs.length c4] 25)).trans e4
  have e2 := (hb3.alloc (.cells #[.int .i64 V, .slice A3 fs.length c3] 25)).trans e3
  have e1 := (hb2.alloc (.cells #[.int .i64 0, .slice A2 L0.length c2] 25)).trans e2
  have X1 := (AtF.new w1 25 [.int .i64 0, .slice A1 L0.length c1]).bel e1
  have X2 := (AtF.new w2 25 [.int .i64 0, .slice A2 L0.length c2]).bel e2
  have X3 := (AtF.new w3 25 [.int .i64 V, .slice A3 fs.length c3]).bel e3
  have X4 := (AtF.new w4 25 [.int .i64 V, .slice A4 fs.length c4]).bel e4
  have X5 := (AtF.new w5 25 [.int .i64 V, .slice A5 fs.length c5]).bel e5
  have X6 := (AtF.new w6 25 [.int .i64 V, .slice A6 fs.length c6]).bel e6
  have R1 := ((Rd.own o1).alloc (.cells #[.int .i64 0, .slice A1 L0.length c1] 25)).bel e1
  have R2 := ((Rd.own o2).alloc (.cells #[.int .i64 0, .slice A2 L0.length c2] 25)).bel e2
  have R3 := ((Rd.own o3).alloc (.cells #[.int .i64 V, .slice A3 fs.length c3] 25)).bel e3
  have R4 := ((Rd.own o4).alloc (.cells #[.int .i64 V, .slice A4 fs.length c4] 25)).bel e4
  have R5 := ((Rd.own o5).alloc (.cells #[.int .i64 V, .slice A5 fs.length c5] 25)).bel e5
  have R6 := ((Rd.own o6).alloc (.cells #[.int .i64 V, .slice A6 fs.length c6] 25)).bel e6
  clear q0 q1 qf ql e1 e2 e3 e4 e5 e6 hb1 hb2 hb3 hb4 hb5 hb6 hb7 hb8 o1 o2 o3 o4 o5 o6 hw0 hw1 hw2 hw3 hw4 hw5 hw6 hw7 hY0 hY1 hY2 hY3 hY4 hY5 hY6 hY7
  go_wp2_with fail
  have rg0 := fun d os => cell_regrown (hY8.1.2 0 _ rfl) d os
  have rg1 := fun d os => cell_regrown (hY8.1.2 1 _ rfl) d os
  have rh0 := fun d os => cell_regrown (X1.1.2 0 _ rfl) d os
  have rh1 := fun d os => cell_regrown (X1.1.2 1 _ rfl) d os
  have ri0 := fun d os => cell_regrown (X2.1.2 0 _ rfl) d os
  have ri1 := fun d os => cell_regrown (X2.1.2 1 _ rfl) d os
  have rj0 := fun d os => cell_regrown (X3.1.2 0 _ rfl) d os
  have rj1 := fun d os => cell_regrown (X3.1.2 1 _ rfl) d os
  have rk0 := fun d os => cell_regrown (X4.1.2 0 _ rfl) d os
  have rk1 := fun d os => cell_regrown (X4.1.2 1 _ rfl) d os
  have rm0 := fun d os => cell_regrown (X5.1.2 0 _ rfl) d os
  have rm1 := fun d os => cell_regrown (X5.1.2 1 _ rfl) d os
  have rn0 := fun d os => cell_regrown (X6.1.2 0 _ rfl) d os
  have rn1 := fun d os => cell_regrown (X6.1.2 1 _ rfl) d os
  refine wp_region_lex [2, 10, 12, 18, 33, 53, 56, 57, 60] 63 (by kernel_rfl) (by kernel_rfl) ?_
  simp only [List.take_succ_cons, List.take_zero, List.drop_succ_cons, List.drop_zero]
  with_reducible refine lex_seg 2 _ _ _ _ (by kernel_rfl) ?_
  simp only [List.take_succ_cons, List.take_zero, List.drop_succ_cons, List.drop_zero]
  try simp only [Act.put, List.setIfInBounds_toArray, List.set_cons_succ, List.set_cons_zero]
  repeat (go_big_quiet_step (fail))
  with_reducible refine wpQuiet_nil ?_
  refine lex_call 20 (by kernel_rfl) (by kernel_rfl) (by simp [go_sem]; rfl) ?_
  refine (sameFair_any 0 L0 (.slice A1 L0.length c1) (.slice A2 L0.length c2) _ (R1.bel (by repeat (first | (with_reducible exact Bel.refl _) | (with_reducible assumption) | (with_reducible refine Bel.drewN ?_ _) | (with_reducible refine Bel.drew ?_) | (with_reducible refine Bel.alloc ?_ _) | (with_reducible refine Bel.setNew ?_ ?_ _) | (with_reducible refine Bel.trans ?_ (by assumption)) | (focus (simp; done)) | (focus (simp; omega))))) (R2.bel (by repeat (first | (with_reducible exact Bel.refl _) | (with_reducible assumption) | (with_reducible refine Bel.drewN ?_ _) | (with_reducible refine Bel.drew ?_) | (with_reducible refine Bel.alloc ?_ _) | (with_reducible refine Bel.setNew ?_ ?_ _) | (with_reducible refine Bel.trans ?_ (by assumption)) | (focus (simp; done)) | (focus (simp; omega))))) hL0).mono ?_; rintro e wA ⟨rfl, hbA⟩
  refine ⟨_, rfl, hbA, ?_⟩
  with_reducible refine lex_seg 7 _ _ _ _ (by kernel_rfl) ?_
  simp only [List.take_succ_cons, List.take_zero, List.drop_succ_cons, List.drop_zero]
  try simp only [Act.put, List.setIfInBounds_toArray, List.set_cons_succ, List.set_cons_zero]
  repeat (go_big_quiet_step (fail))
  with_reducible refine wpQuiet_nil ?_
  refine lex_call 21 (by kernel_rfl) (by kernel_rfl) (by simp [go_sem]; rfl) ?_
  refine (N11.out _ (by repeat (first | (with_reducible exact Bel.refl _) | (with_reducible assumption) | (with_reducible refine Bel.drewN ?_ _) | (with_reducible refine Bel.drew ?_) | (with_reducible refine Bel.alloc ?_ _) | (with_reducible refine Bel.setNew ?_ ?_ _) | (with_reducible refine Bel.trans ?_ (by assumption)) | (focus (simp; done)) | (focus (simp; omega))))).mono ?_; rintro e wB ⟨rfl, hbB⟩
  refine ⟨_, rfl, hbB, ?_⟩
  with_reducible refine lex_seg 1 _ _ _ _ (by kernel_rfl) ?_
  simp only [List.take_succ_cons, List.take_zero, List.drop_succ_cons, List.drop_zero]
  try simp only [Act.put, List.setIfInBounds_toArray, List.set_cons_succ, List.set_cons_zero]
  repeat (go_big_quiet_step (fail))
  with_reducible refine wpQuiet_nil ?_
  refine lex_call 29 (by kernel_rfl) (by kernel_rfl) (by simp [go_sem]; rfl) ?_
  refine (N12.out _ (by repeat (first | (with_reducible exact Bel.refl _) | (with_reducible assumption) | (with_reducible refine Bel.drewN ?_ _) | (with_reducible refine Bel.drew ?_) | (with_reducible refine Bel.alloc ?_ _) | (with_reducible refine Bel.setNew ?_ ?_ _) | (with_reducible refine Bel.trans ?_ (by assumption)) | (focus (simp; done)) | (focus (simp; omega))))).mono ?_; rintro e wC ⟨rfl, hbC⟩
  refine ⟨_, rfl, hbC, ?_⟩
  with_reducible refine lex_seg 5 _ _ _ _ (by kernel_rfl) ?_
  simp only [List.take_succ_cons, List.take_zero, List.drop_succ_cons, List.drop_zero]
  try simp only [Act.put, List.setIfInBounds_toArray, List.set_cons_succ, List.set_cons_zero]
  repeat (go_big_quiet_step (fail))
  with_reducible refine wpQuiet_nil ?_
  refine lex_call 20 (by kernel_rfl) (by kernel_rfl) (by simp [go_sem]; rfl) ?_
  refine (sameFair_any V z0 (.slice A3 fs.length c3) (.slice A4 fs.length c4) _ (by rw [hS.out]; exact R3.bel (by repeat (first | (with_reducible exact Bel.refl _) | (with_reducible assumption) | (with_reducible refine Bel.drewN ?_ _) | (with_reducible refine Bel.drew ?_) | (with_reducible refine Bel.alloc ?_ _) | (with_reducible refine Bel.setNew ?_ ?_ _) | (with_reducible refine Bel.trans ?_ (by assumption)) | (focus (simp; done)) | (focus (simp; omega))))) (by rw [hS.out]; exact R4.bel (by repeat (first | (with_reducible exact Bel.refl _) | (with_reducible assumption) | (with_reducible refine Bel.drewN ?_ _) | (with_reducible refine Bel.drew ?_) | (with_reducible refine Bel.alloc ?_ _) | (with_reducible refine Bel.setNew ?_ ?_ _) | (with_reducible refine Bel.trans ?_ (by assumption)) | (focus (simp; done)) | (focus (simp; omega))))) (by rw [hS.out]; omega)).mono ?_; rintro e wD ⟨rfl, hbD⟩
  refine ⟨_, rfl, hbD, ?_⟩
  with_reducible refine lex_seg 14 _ _ _ _ (by kernel_rfl) ?_
  simp only [List.take_succ_cons, List.take_zero, List.drop_succ_cons, List.drop_zero]
  try simp only [Act.put, List.setIfInBounds_toArray, List.set_cons_succ, List.set_cons_zero]
  repeat (go_big_quiet_step (fail))
  with_reducible refine wpQuiet_nil ?_
  refine lex_call 20 (by kernel_rfl) (by kernel_rfl) (by simp [go_sem]; rfl) ?_
  refine (sameFair_any V g0 (.slice A5 fs.length c5) (.slice A6 fs.length c6) _ (by rw [hG.out]; exact R5.bel (by repeat (first | (with_reducible exact Bel.refl _) | (with_reducible assumption) | (with_reducible refine Bel.drewN ?_ _) | (with_reducible refine Bel.drew ?_) | (with_reducible refine Bel.alloc ?_ _) | (with_reducible refine Bel.setNew ?_ ?_ _) | (with_reducible refine Bel.trans ?_ (by assumption)) | (focus (simp; done)) | (focus (simp; omega))))) (by rw [hG.out]; exact R6.bel (by repeat (first | (with_reducible exact Bel.refl _) | (with_reducible assumption) | (with_reducible refine Bel.drewN ?_ _) | (with_reducible refine Bel.drew ?_) | (with_reducible refine Bel.alloc ?_ _) | (with_reducible refine Bel.setNew ?_ ?_ _) | (with_reducible refine Bel.trans ?_ (by assumption)) | (focus (simp; done)) | (focus (simp; omega))))) (by rw [hG.out]; omega)).mono ?_; rintro e wE ⟨rfl, hbE⟩
  refine ⟨_, rfl, hbE, ?_⟩
  with_reducible refine lex_seg 19 _ _ _ _ (by kernel_rfl) ?_
  simp only [List.take_succ_cons, List.take_zero, List.drop_succ_cons, List.drop_zero]
  try simp only [Act.put, List.setIfInBounds_toArray, List.set_cons_succ, List.set_cons_zero]
  repeat (go_big_quiet_step (fail))
  with_reducible refine wpQuiet_nil ?_
  refine lex_call 13 (by kernel_rfl) (by kernel_rfl) (by simp [go_sem]; rfl) ?_
  refine (N9.out _ (by repeat (first | (with_reducible exact Bel.refl _) | (with_reducible assumption) | (with_reducible refine Bel.drewN ?_ _) | (with_reducible refine Bel.drew ?_) | (with_reducible refine Bel.alloc ?_ _) | (with_reducible refine Bel.setNew ?_ ?_ _) | (with_reducible refine Bel.trans ?_ (by assumption)) | (focus (simp; done)) | (focus (simp; omega))))).mono ?_; rintro e wF ⟨v9, rfl, o9, hbF⟩
  obtain ⟨A9, c9, rfl⟩ := own_slice o9
  refine ⟨_, rfl, hbF, ?_⟩
  with_reducible refine lex_seg 2 _ _ _ _ (by kernel_rfl) ?_
  simp only [List.take_succ_cons, List.take_zero, List.drop_succ_cons, List.drop_zero]
  try simp only [Act.put, List.setIfInBounds_toArray, List.set_cons_succ, List.set_cons_zero]
  repeat (go_big_quiet_step (fail))
  with_reducible refine wpQuiet_nil ?_
  refine lex_call 18 (by kernel_rfl) (by kernel_rfl) (by simp [go_sem]; rfl) ?_
  refine (N10.out _ (by repeat (first | (with_reducible exact Bel.refl _) | (with_reducible assumption) | (with_reducible refine Bel.drewN ?_ _) | (with_reducible refine Bel.drew ?_) | (with_reducible refine Bel.alloc ?_ _) | (with_reducible refine Bel.setNew ?_ ?_ _) | (with_reducible refine Bel.trans ?_ (by assumption)) | (focus (simp; done)) | (focus (simp; omega))))).mono ?_; rintro e wG ⟨v10, rfl, o10, hbG⟩
  obtain ⟨A10, c10, rfl⟩ := own_slice o10
  refine ⟨_, rfl, hbG, ?_⟩
  try simp only [Act.put, List.setIfInBounds_toArray, List.set_cons_succ, List.set_cons_zero]
  refine lex_call 20 (by kernel_rfl) (by kernel_rfl) (by simp [go_sem]; rfl) ?_
  refine (sameFair_any V' fs (.slice A9 fs.length c9) (.slice A10 fs.length c10) _ ((Rd.own o9).bel hbG) (Rd.own o10) (by omega)).mono ?_; rintro e wH ⟨rfl, hbH⟩
  refine ⟨_, rfl, hbH, ?_⟩
  with_reducible refine lex_seg 2 _ _ _ _ (by kernel_rfl) ?_
  simp only [List.take_succ_cons, List.take_zero, List.drop_succ_cons, List.drop_zero]
  try simp only [Act.put, List.setIfInBounds_toArray, List.set_cons_succ, List.set_cons_zero]
  repeat (go_big_quiet_step (fail))
  with_reducible refine wpQuiet_nil ?_
  refine lex_call 15 (by kernel_rfl) (by kernel_rfl) (by simp [go_sem]; rfl) ?_
  refine (awakeFair_any _).mono ?_; rintro e wI ⟨rfl, hbI⟩
  refine ⟨_, rfl, hbI, ?_⟩
  with_reducible refine lex_seg 2 _ _ _ _ (by kernel_rfl) ?_
  simp only [List.take_succ_cons, List.take_zero, List.drop_succ_cons, List.drop_zero]
  try simp only [Act.put, List.setIfInBounds_toArray, List.set_cons_succ, List.set_cons_zero]
  repeat (go_big_quiet_step (fail))
  with_reducible refine wpQuiet_nil ?_
  with_reducible refine lex_nil ?_
  go_wp2
  go_ret
  exact ⟨rfl, (by repeat (first | (with_reducible exact Bel.refl _) | (with_reducible assumption) | (with_reducible refine Bel.drewN ?_ _) | (with_reducible refine Bel.drew ?_) | (with_reducible refine Bel.alloc ?_ _) | (with_reducible refine Bel.setNew ?_ ?_ _) | (with_reducible refine Bel.trans ?_ (by assumption)) | (focus (simp; done)) | (focus (simp; omega))))⟩
end Go.Proofs.Ytacbljfpcchbbaa
