/- The walk of TimeoutSmall. -/
import Derived.Test.YtbijfmpmgmfpgaaTmL
namespace Go.Proofs.Ytbijfmpmgmfpgaa
open Go.RowKit
set_option linter.unusedSimpArgs false

set_option maxRecDepth 100000 in
set_option maxHeartbeats 8000000 in
theorem timeoutSmall_walk (v : Value) (zs : List Int) (lim id more : Int) (w : World) (hz : Ints w v zs) (_ : IsInt lim) (_ : IsInt id) (_ : IsInt more) :
    Calls Try.prog 11 #[v, .int .i64 lim, .int .i64 id, .int .i64 more] w fun e w' => e = .returned (.bool true) ∧ Bel w w' := by
  have HMD := Lib.hid (made_any v zs lim w hz)
  have hl1 := rnd_lo lim 20
  have hl2 := rnd_hi lim 20 (by omega)
  have HLB : Hid (limB (1 + rnd lim 20) = true) := Lib.hid (limB_iff.2 ⟨by omega, by omega⟩)
  generalize rnd lim 20 = lm at *
  obtain ⟨L, HL⟩ : ∃ L, Hid (L = 1 + lm) := ⟨_, rfl⟩
  rw [← HL.out] at HMD HLB
  have HA4 := Lib.hid (fun w' => awake28_any w')
  have hq1 := rnd_lo more 30
  have hq2 := rnd_hi more 30 (by omega)
  have HRI := Lib.hid (fun w' => round_any id 10 w' (by omega))
  have HRM := Lib.hid (fun w' => round_any more 30 w' (by omega))
  generalize rnd id 10 = kd at *
  generalize rnd more 30 = q at *
  obtain ⟨A9, c9, rfl, _, _⟩ : ∃ A c, v = .slice A zs.length c ∧ zs.length ≤ c ∧ c ≤ maxLen := by
    obtain ⟨_, A, c, h1, h2, h3, _⟩ := hz
    exact ⟨A, c, h1, h2, h3⟩
  obtain ⟨z8, Hz8⟩ : ∃ z8, Hid (z8 = zs.length) := ⟨_, rfl⟩
  rw [← Hz8.out] at HMD ⊢
  clear hz hl1 hl2 HL
  go_enter Try.func11, Try.ntmps11
  go_wp2_with fail
  refine HMD.out.mono ?_; rintro e w1 ⟨A, c, ms, now, rfl, hrd, hmo, hn1, hn2, hln, hb1⟩
  have hG := AtF.new_at (w := w1) rfl 68 [.int .i64 L, .slice A ms.length c, .int .i64 0]
  have hrd1 := hrd.alloc (.cells [.int .i64 L, .slice A ms.length c, .int .i64 0].toArray 68)
  have hbw1 : Bel w (w1.alloc (.cells [.int .i64 L, .slice A ms.length c, .int .i64 0].toArray 68)) := hb1.alloc _
  have hS := hmo.srt
  have hI := hmo.inR (by omega)
  simp only [List.toArray] at hG hrd1 hbw1
  obtain ⟨t, Ht⟩ : ∃ t, Hid (t = now + q) := ⟨_, rfl⟩
  have ht := Ht.out
  have HS1 := Lib.hid (fun w' (h : Bel (w1.alloc (.cells #[.int .i64 L, .slice A ms.length c, .int .i64 0] 68)) w') => start_any L 0 kd t _ ms w' (hrd1.bel h) (by omega))
  have HS2 := Lib.hid (fun w' (h : Bel (w1.alloc (.cells #[.int .i64 L, .slice A ms.length c, .int .i64 0] 68)) w') => refStart_any L 0 kd t _ ms w' (hrd1.bel h) (by omega))
  have HN1 := Lib.hid (fun w' (h : Bel (w1.alloc (.cells #[.int .i64 L, .slice A ms.length c, .int .i64 0] 68)) w') => next_any L 0 _ ms w' (hrd1.bel h) (by omega) hS hI HLB.out)
  have HN2 := Lib.hid (fun w' (h : Bel (w1.alloc (.cells #[.int .i64 L, .slice A ms.length c, .int .i64 0] 68)) w') => nextWatch_any L 0 _ ms w' (hrd1.bel h) (by omega) hS hI HLB.out)
  have HP1 := Lib.hid (fun w' (h : Bel (w1.alloc (.cells #[.int .i64 L, .slice A ms.length c, .int .i64 0] 68)) w') => stop_any L 0 kd _ ms w' (hrd1.bel h) (by omega))
  have HP2 := Lib.hid (fun w' (h : Bel (w1.alloc (.cells #[.int .i64 L, .slice A ms.length c, .int .i64 0] 68)) w') => refStop_any L 0 kd _ ms w' (hrd1.bel h) (by omega))
  have HD1 := Lib.hid (fun w' (h : Bel (w1.alloc (.cells #[.int .i64 L, .slice A ms.length c, .int .i64 0] 68)) w') => due_any L 0 t _ ms w' (hrd1.bel h) (by omega) hS hI HLB.out)
  have HD2 := Lib.hid (fun w' (h : Bel (w1.alloc (.cells #[.int .i64 L, .slice A ms.length c, .int .i64 0] 68)) w') => overdue_any L 0 t _ ms w' (hrd1.bel h) (by omega) hS hI HLB.out)
  have HG1 := Lib.hid (sameGuard_any L 0 (stW L ms kd t))
  have HG2 := Lib.hid (sameGuard_any L 0 (flW kd ms))
  have HIE := Lib.hid (sameInts_eq (dueL L t ms))
  generalize stW L ms kd t = sw at *
  generalize stB L ms kd t = sb at *
  generalize flW kd ms = fw at *
  generalize nextB L ms = nb at *
  generalize icells (dueL L t ms) = ic at *
  generalize dueL L t ms = dl at *
  obtain ⟨k, Hk⟩ : ∃ k, Hid (k = ms.length) := ⟨_, rfl⟩
  rw [← Hk.out] at HS1 HS2 HN1 HN2 HP1 HP2 HD1 HD2 hG hbw1 ⊢
  obtain ⟨ks, Hks⟩ : ∃ k, Hid (k = sw.length) := ⟨_, rfl⟩
  rw [← Hks.out] at HS1 HS2 HG1
  obtain ⟨kf, Hkf⟩ : ∃ k, Hid (k = fw.length) := ⟨_, rfl⟩
  rw [← Hkf.out] at HP1 HP2 HG2
  obtain ⟨kl, Hkl⟩ : ∃ k, Hid (k = dl.length) := ⟨_, rfl⟩
  rw [← Hkl.out] at HD1 HD2 HIE
  clear HMD hmo hS hI hrd hrd1 hln hb1
  have ht' : now + q = t := ht.symm
  clear ht
  go_wp2_with fail
  refine (HRI.out _).mono ?_; rintro e w2 ⟨rfl, rfl⟩
  go_wp2_with fail
  refine (HRM.out _).mono ?_; rintro e w2 ⟨rfl, rfl⟩
  go_upto_region 3 with fail
  generalize w1.alloc _ = W1 at *
  generalize w1.heap.size = G at *
  have g0 := hG.1.2 0 _ rfl
  have g1 := hG.1.2 1 _ rfl
  have g2 := hG.1.2 2 _ rfl
  go_wp2_with fail
  refine (HS1.out _ (Bel.refl _)).mono ?_; rintro e w3 ⟨v3, rfl, ho3, hb3⟩
  obtain ⟨A3, c3, rfl⟩ := own_slice ho3
  have hA3 := AtF.new w3 68 [.int .i64 L, .slice A3 ks c3, .int .i64 0]
  have hr3 := (Rd.own ho3).alloc (.cells [.int .i64 L, .slice A3 ks c3, .int .i64 0].toArray 68)
  have hG3 := (hG.bel hb3).alloc (.cells [.int .i64 L, .slice A3 ks c3, .int .i64 0].toArray 68)
  have hb3' := hb3.alloc (.cells [.int .i64 L, .slice A3 ks c3, .int .i64 0].toArray 68)
  simp only [List.toArray] at hA3 hr3 hG3 hb3'
  clear g0 g1 g2 ho3
  go_upto_region 4 with fail
  generalize w3.alloc _ = W3 at *
  generalize w3.heap.size = PA at *
  have g0 := hG3.1.2 0 _ rfl
  have g1 := hG3.1.2 1 _ rfl
  have g2 := hG3.1.2 2 _ rfl
  go_wp2_with fail
  refine (HS2.out _ hb3').mono ?_; rintro e w4 ⟨v4, rfl, ho4, hb4⟩
  obtain ⟨A4, c4, rfl⟩ := own_slice ho4
  have hB4 := AtF.new w4 68 [.int .i64 L, .slice A4 ks c4, .int .i64 0]
  have hr4 := (Rd.own ho4).alloc (.cells [.int .i64 L, .slice A4 ks c4, .int .i64 0].toArray 68)
  have hG4 := (hG3.bel hb4).alloc (.cells [.int .i64 L, .slice A4 ks c4, .int .i64 0].toArray 68)
  have hA4 := (hA3.bel hb4).alloc (.cells [.int .i64 L, .slice A4 ks c4, .int .i64 0].toArray 68)
  have hr34 := (hr3.bel hb4).alloc (.cells [.int .i64 L, .slice A4 ks c4, .int .i64 0].toArray 68)
  have hb4' := (hb3'.trans hb4).alloc (.cells [.int .i64 L, .slice A4 ks c4, .int .i64 0].toArray 68)
  simp only [List.toArray] at hB4 hr4 hG4 hA4 hr34 hb4'
  clear g0 g1 g2 ho4
  go_upto_region 5 with fail
  generalize w4.alloc _ = W4 at *
  generalize w4.heap.size = PB at *
  have g0 := hG4.1.2 0 _ rfl
  have g1 := hG4.1.2 1 _ rfl
  have g2 := hG4.1.2 2 _ rfl
  go_wp2_with fail
  refine (HN1.out _ hb4').mono ?_; rintro e w5 ⟨rfl, hb5⟩
  have hG5 := hG4.bel hb5
  clear g0 g1 g2
  have g0 := hG5.1.2 0 _ rfl
  have g1 := hG5.1.2 1 _ rfl
  have g2 := hG5.1.2 2 _ rfl
  go_wp2_with fail
  refine (HN2.out _ (hb4'.trans hb5)).mono ?_; rintro e w6 ⟨rfl, hb6⟩
  have hb46 := hb5.trans hb6
  have hb6' := hb4'.trans hb46
  have hG6 := hG5.bel hb6
  have hA6 := hA4.bel hb46
  have hB6 := hB4.bel hb46
  have hr46 := hr4.bel hb46
  have hr36 := hr34.bel hb46
  clear g0 g1 g2 hG5 hG4 hA4 hB4 hG3 hA3 hG hr4 hr34 hr3 hb3 hb4 hb5 hb6 hb3' hb4' hb46
  obtain ⟨nb1, nb2⟩ := nb
  go_upto_region 7 with fail
  have g0 := hG6.1.2 0 _ rfl
  have g1 := hG6.1.2 1 _ rfl
  have g2 := hG6.1.2 2 _ rfl
  have a0 := hA6.1.2 0 _ rfl
  have a1 := hA6.1.2 1 _ rfl
  have a2 := hA6.1.2 2 _ rfl
  have b0 := hB6.1.2 0 _ rfl
  have b1 := hB6.1.2 1 _ rfl
  have b2 := hB6.1.2 2 _ rfl
  have rg0 := fun d os => cell_regrown g0 d os
  have rg1 := fun d os => cell_regrown g1 d os
  have rg2 := fun d os => cell_regrown g2 d os
  have ra0 := fun d os => cell_regrown a0 d os
  have ra1 := fun d os => cell_regrown a1 d os
  have ra2 := fun d os => cell_regrown a2 d os
  have rb0 := fun d os => cell_regrown b0 d os
  have rb1 := fun d os => cell_regrown b1 d os
  have rb2 := fun d os => cell_regrown b2 d os
  refine wp_region_lex [2, 11, 14, 15, 20, 23, 24, 37] 39 (by kernel_rfl) (by kernel_rfl) ?_
  simp only [List.take_succ_cons, List.take_zero, List.drop_succ_cons, List.drop_zero]
  with_reducible refine lex_seg 2 _ _ _ _ (by kernel_rfl) ?_
  simp only [List.take_succ_cons, List.take_zero, List.drop_succ_cons, List.drop_zero]
  try simp only [Act.put, List.setIfInBounds_toArray, List.set_cons_succ, List.set_cons_zero]
  repeat (go_big_quiet_step (fail))
  with_reducible refine wpQuiet_nil ?_
  refine lex_call 47 (by kernel_rfl) (by kernel_rfl) (by simp [go_sem]; rfl) ?_
  refine (HG1.out A3 A4 c3 c4 _ (by exact hr36.bel (by repeat (first | (with_reducible exact Bel.refl _) | (with_reducible assumption) | (with_reducible refine Bel.drewN ?_ _) | (with_reducible refine Bel.drew ?_) | (with_reducible refine Bel.alloc ?_ _) | (with_reducible refine Bel.setNew ?_ ?_ _) | (with_reducible refine Bel.trans ?_ (by assumption)) | (focus (simp; done)) | (focus (simp; omega))))) (by exact hr46.bel (by repeat (first | (with_reducible exact Bel.refl _) | (with_reducible assumption) | (with_reducible refine Bel.drewN ?_ _) | (with_reducible refine Bel.drew ?_) | (with_reducible refine Bel.alloc ?_ _) | (with_reducible refine Bel.setNew ?_ ?_ _) | (with_reducible refine Bel.trans ?_ (by assumption)) | (focus (simp; done)) | (focus (simp; omega)))))).mono ?_; rintro e w7 ⟨rfl, hb7⟩
  refine ⟨_, rfl, hb7, ?_⟩
  with_reducible refine lex_seg 8 _ _ _ _ (by kernel_rfl) ?_
  simp only [List.take_succ_cons, List.take_zero, List.drop_succ_cons, List.drop_zero]
  try simp only [Act.put, List.setIfInBounds_toArray, List.set_cons_succ, List.set_cons_zero]
  repeat (go_big_quiet_step (fail))
  with_reducible refine wpQuiet_nil ?_
  refine lex_call 48 (by kernel_rfl) (by kernel_rfl) (by simp [go_sem]; rfl) ?_
  refine (HP1.out _ (hb6'.trans (by repeat (first | (with_reducible exact Bel.refl _) | (with_reducible assumption) | (with_reducible refine Bel.drewN ?_ _) | (with_reducible refine Bel.drew ?_) | (with_reducible refine Bel.alloc ?_ _) | (with_reducible refine Bel.setNew ?_ ?_ _) | (with_reducible refine Bel.trans ?_ (by assumption)) | (focus (simp; done)) | (focus (simp; omega)))))).mono ?_; rintro e w8 ⟨A8, c8, rfl, hr8, _, hb8⟩
  refine ⟨_, rfl, hb8, ?_⟩
  with_reducible refine lex_seg 2 _ _ _ _ (by kernel_rfl) ?_
  simp only [List.take_succ_cons, List.take_zero, List.drop_succ_cons, List.drop_zero]
  try simp only [Act.put, List.setIfInBounds_toArray, List.set_cons_succ, List.set_cons_zero]
  repeat (go_big_quiet_step (fail))
  with_reducible refine wpQuiet_nil ?_
  refine lex_call 49 (by kernel_rfl) (by kernel_rfl) (by simp [go_sem]; rfl) ?_
  refine (HP2.out _ (hb6'.trans (by repeat (first | (with_reducible exact Bel.refl _) | (with_reducible assumption) | (with_reducible refine Bel.drewN ?_ _) | (with_reducible refine Bel.drew ?_) | (with_reducible refine Bel.alloc ?_ _) | (with_reducible refine Bel.setNew ?_ ?_ _) | (with_reducible refine Bel.trans ?_ (by assumption)) | (focus (simp; done)) | (focus (simp; omega)))))).mono ?_; rintro e w9 ⟨A9', c9', rfl, hr9, hb9⟩
  refine ⟨_, rfl, hb9, ?_⟩
  refine lex_call 47 (by kernel_rfl) (by kernel_rfl) (by simp [go_sem]; rfl) ?_
  refine (HG2.out A8 A9' c8 c9' _ (hr8.bel hb9) hr9).mono ?_; rintro e w10 ⟨rfl, hb10⟩
  refine ⟨_, rfl, hb10, ?_⟩
  with_reducible refine lex_seg 4 _ _ _ _ (by kernel_rfl) ?_
  simp only [List.take_succ_cons, List.take_zero, List.drop_succ_cons, List.drop_zero]
  try simp only [Act.put, List.setIfInBounds_toArray, List.set_cons_succ, List.set_cons_zero]
  repeat (go_big_quiet_step (fail))
  with_reducible refine wpQuiet_nil ?_
  refine lex_call 50 (by kernel_rfl) (by kernel_rfl) (by simp [go_sem]; rfl) ?_
  refine (HD1.out _ (hb6'.trans (by repeat (first | (with_reducible exact Bel.refl _) | (with_reducible assumption) | (with_reducible refine Bel.drewN ?_ _) | (with_reducible refine Bel.drew ?_) | (with_reducible refine Bel.alloc ?_ _) | (with_reducible refine Bel.setNew ?_ ?_ _) | (with_reducible refine Bel.trans ?_ (by assumption)) | (focus (simp; done)) | (focus (simp; omega)))))).mono ?_; rintro e w11 ⟨v11, rfl, ho11, hb11⟩
  obtain ⟨A11, c11, rfl⟩ := own_slice ho11
  refine ⟨_, rfl, hb11, ?_⟩
  with_reducible refine lex_seg 2 _ _ _ _ (by kernel_rfl) ?_
  simp only [List.take_succ_cons, List.take_zero, List.drop_succ_cons, List.drop_zero]
  try simp only [Act.put, List.setIfInBounds_toArray, List.set_cons_succ, List.set_cons_zero]
  repeat (go_big_quiet_step (fail))
  with_reducible refine wpQuiet_nil ?_
  refine lex_call 51 (by kernel_rfl) (by kernel_rfl) (by simp [go_sem]; rfl) ?_
  refine (HD2.out _ (hb6'.trans (by repeat (first | (with_reducible exact Bel.refl _) | (with_reducible assumption) | (with_reducible refine Bel.drewN ?_ _) | (with_reducible refine Bel.drew ?_) | (with_reducible refine Bel.alloc ?_ _) | (with_reducible refine Bel.setNew ?_ ?_ _) | (with_reducible refine Bel.trans ?_ (by assumption)) | (focus (simp; done)) | (focus (simp; omega)))))).mono ?_; rintro e w12 ⟨v12, rfl, ho12, hb12⟩
  obtain ⟨A12, c12, rfl⟩ := own_slice ho12
  refine ⟨_, rfl, hb12, ?_⟩
  refine lex_call 34 (by kernel_rfl) (by kernel_rfl) (by simp [go_sem]; rfl) ?_
  refine (HIE.out _ _ _ ((Rd.own ho11).bel hb12) (Rd.own ho12)).mono ?_; rintro e w13 ⟨rfl, hb13⟩
  refine ⟨_, rfl, hb13, ?_⟩
  with_reducible refine lex_seg 12 _ _ _ _ (by kernel_rfl) ?_
  simp only [List.take_succ_cons, List.take_zero, List.drop_succ_cons, List.drop_zero]
  try simp only [Act.put, List.setIfInBounds_toArray, List.set_cons_succ, List.set_cons_zero]
  repeat (go_big_quiet_step (fail))
  with_reducible refine wpQuiet_nil ?_
  refine lex_call 52 (by kernel_rfl) (by kernel_rfl) (by simp [go_sem]; rfl) ?_
  refine (HA4.out _).mono ?_; rintro e w14 ⟨rfl, hb14⟩
  refine ⟨_, rfl, hb14, ?_⟩
  with_reducible refine lex_seg 1 _ _ _ _ (by kernel_rfl) ?_
  simp only [List.take_succ_cons, List.take_zero, List.drop_succ_cons, List.drop_zero]
  try simp only [Act.put, List.setIfInBounds_toArray, List.set_cons_succ, List.set_cons_zero]
  repeat (go_big_quiet_step (fail))
  with_reducible refine wpQuiet_nil ?_
  with_reducible refine lex_nil ?_
  go_wp2
  go_ret
  exact ⟨rfl, hbw1.trans (hb6'.trans (by repeat (first | (with_reducible exact Bel.refl _) | (with_reducible assumption) | (with_reducible refine Bel.drewN ?_ _) | (with_reducible refine Bel.drew ?_) | (with_reducible refine Bel.alloc ?_ _) | (with_reducible refine Bel.setNew ?_ ?_ _) | (with_reducible refine Bel.trans ?_ (by assumption)) | (focus (simp; done)) | (focus (simp; omega)))))⟩
end Go.Proofs.Ytbijfmpmgmfpgaa
