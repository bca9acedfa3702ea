/- The walk of DeadlineSmall. -/
import Derived.Test.YtdffpnogfinehaaRPd
import Derived.Test.YtdffpnogfinehaaQd
import Derived.Test.YtdffpnogfinehaaAwk
namespace Go.Proofs.Ytdffpnogfinehaa
open Go.RowKit Go.Maps
set_option linter.unusedSimpArgs false

set_option maxRecDepth 100000 in
set_option maxHeartbeats 8000000 in
theorem deadlineSmall_walk (v : Value) (zs : List Int) (bv0 : Value) (ys : List Int) (head now rd wr0 : Int) (w : World) (hz : Ints w v zs) (hy : Ints w bv0 ys) (_ : IsInt head) (_ : IsInt now) (_ : IsInt rd) (_ : IsInt wr0) :
    Calls Try.prog 8 #[v, bv0, .int .i64 head, .int .i64 now, .int .i64 rd, .int .i64 wr0] w fun e w' => e = .returned (.bool true) ∧ Bel w w' := by
  have HQ := Lib.hid (queued_any v zs w hz)
  have HY := Lib.hid hy
  obtain ⟨A9, c9, rfl, _, _⟩ : ∃ A c, v = .slice A zs.length c ∧ zs.length ≤ c ∧ c ≤ maxLen := by
    obtain ⟨_, A, c, h1, h2, h3, _⟩ := hz
    exact ⟨A, c, h1, h2, h3⟩
  obtain ⟨B9, d9, rfl, _, _⟩ : ∃ A c, bv0 = .slice A ys.length c ∧ ys.length ≤ c ∧ c ≤ maxLen := by
    obtain ⟨_, A, c, h1, h2, h3, _⟩ := hy
    exact ⟨A, c, h1, h2, h3⟩
  obtain ⟨z8, Hz8⟩ : ∃ z8, Hid (z8 = zs.length) := ⟨_, rfl⟩
  obtain ⟨y8, Hy8⟩ : ∃ z8, Hid (z8 = ys.length) := ⟨_, rfl⟩
  have HBS := Lib.hid (fun w' (hb : Bel w w') => bunches_any _ ys w' (HY.out.bel hb))
  rw [← Hz8.out] at HQ ⊢
  rw [← Hy8.out] at HBS ⊢
  clear hz hy HY
  go_enter Try.func8, Try.ntmps8
  go_wp2_with fail
  refine HQ.out.mono ?_; rintro e w1 ⟨qv, L0, rfl, hO, hQL, hb1⟩
  obtain ⟨A, c, rfl, hc1, hc2⟩ := hQL.form
  have hn8 : (L0.map toQ).length ≤ 8 := by rw [List.length_map, hO.1]; omega
  generalize L0.map toQ = L1 at *
  clear hO HQ
  go_wp2_with fail
  refine (HBS.out _ hb1).mono ?_; rintro e w2 ⟨bv, B, rfl, hO, hBL, hb2⟩
  obtain ⟨A', c', rfl, hc1', hc2'⟩ := hBL.form
  have hm8 : B.length ≤ 8 := by rw [hO.1]; omega
  have hQ2 := hQL.bel hb2
  have hbw := hb1.trans hb2
  clear hO HBS hQL
  obtain ⟨n, hn⟩ : ∃ n, n = L1.length := ⟨_, rfl⟩
  obtain ⟨m, hm⟩ : ∃ m, m = B.length := ⟨_, rfl⟩
  obtain ⟨r, Hr⟩ : ∃ r, Hid (r = rnd rd 30) := ⟨_, rfl⟩
  obtain ⟨x, Hx⟩ : ∃ r, Hid (r = rnd wr0 30) := ⟨_, rfl⟩
  obtain ⟨rh, Hrh⟩ : ∃ r, Hid (r = rnd head 20) := ⟨_, rfl⟩
  obtain ⟨rn, Hrn⟩ : ∃ r, Hid (r = rnd now 60) := ⟨_, rfl⟩
  have hr1 := rnd_lo rd 30
  have hr2 := rnd_hi rd 30 (by omega)
  have hx1 := rnd_lo wr0 30
  have hx2 := rnd_hi wr0 30 (by omega)
  rw [← Hr.out] at hr1 hr2
  rw [← Hx.out] at hx1 hx2
  have HBK := Lib.hid (fun w' (hb : Bel w2 w') (i : Int) => dlBlocked_any L1 i B _ _ w' (hQ2.bel hb) (hBL.bel hb))
  have HRB := Lib.hid (fun w' (hb : Bel w2 w') (i : Int) => refBlocked_any L1 i B _ _ w' (hQ2.bel hb) (hBL.bel hb))
  have HUR := Lib.hid (fun w' (hb : Bel w2 w') (i : Int) => dlUrgent_any L1 i _ w' (hQ2.bel hb) (by omega))
  have HRU := Lib.hid (fun w' (hb : Bel w2 w') (i : Int) => refUrgent_any L1 i _ w' (hQ2.bel hb) (by omega))
  have HFR := Lib.hid (fun w' (hb : Bel w2 w') => free_any L1 B _ _ w' (hQ2.bel hb) (hBL.bel hb) (by omega))
  have HPK := Lib.hid (fun w' u (hb : Bel w2 w') (hr : Rd w' u 1 (freeN L1 B L1.length).length (bcells (freeN L1 B L1.length))) => dlPickAll_any L1 (freeN L1 B L1.length) rh rn _ u w' (hQ2.bel hb) hr (by omega))
  have HPR := Lib.hid (fun w' u (hb : Bel w2 w') (hr : Rd w' u 1 (freeN L1 B L1.length).length (bcells (freeN L1 B L1.length))) => refPickDue_any L1 (freeN L1 B L1.length) rh rn _ u w' (hQ2.bel hb) hr (by omega))
  have HAT := Lib.hid (fun k x (hk : B[k]? = some x) => hBL.at hk)
  obtain ⟨R, HR⟩ : ∃ R, Hid (R = pickD L1 (freeN L1 B L1.length) rh rn L1.length) := ⟨_, rfl⟩
  rw [← HR.out] at HPK HPR
  have HM := Lib.hid hm
  rw [← hn] at hn8 hc1 HBK HRB HUR HRU HFR HPK HPR ⊢
  rw [← hm] at hm8 hc1' HBK HRB HFR HAT ⊢
  clear hn hm hQ2 hBL
  go_wp2_with fail
  refine (round_any rd 30 _ (by omega)).mono ?_; rw [← Hr.out]; rintro e w9 ⟨rfl, rfl⟩
  go_wp2_with fail
  refine (round_any wr0 30 _ (by omega)).mono ?_; rw [← Hx.out]; rintro e w9 ⟨rfl, rfl⟩
  go_wp2
  have hE := AtF.new w2 44 [.int .i64 (r - 2), .int .i64 (x - 2)]
  have hbE : Bel w2 (w2.alloc (.cells #[.int .i64 (r - 2), .int .i64 (x - 2)] 44)) := (by repeat (first | (with_reducible exact Bel.refl _) | (with_reducible assumption) | (with_reducible refine Bel.drewN ?_ _) | (with_reducible refine Bel.drew ?_) | (with_reducible refine Bel.alloc ?_ _) | (with_reducible refine Bel.setNew ?_ ?_ _) | (with_reducible refine Bel.trans ?_ (by assumption)) | (focus (simp; done)) | (focus (simp; omega))))
  simp only [List.toArray] at hE
  generalize w2.alloc (.cells #[.int .i64 (r - 2), .int .i64 (x - 2)] 44) = W0 at *
  generalize w2.heap.size = E at *
  go_loopw [16] (fun iv wr => ∃ t : Nat, iv = .int .i64 ((t : Int) - 1) ∧ t ≤ n + 2 ∧ Bel W0 wr) (fun iv _ => (n : Int).toNat + 2 - (intOf iv + 1).toNat)
  case atStart => exact ⟨0, by simp, by omega, Bel.refl _⟩
  case round =>
    obtain ⟨t, rfl, ht, hbr⟩ := hrel
    by_cases hlt : (t : Int) - 1 ≤ (n : Int)
    · obtain ⟨bb, Hbb⟩ : ∃ b, Hid (b = blk L1 ((t : Int) - 1) B) := ⟨_, rfl⟩
      obtain ⟨uu, Huu⟩ : ∃ b, Hid (b = urg L1 ((t : Int) - 1)) := ⟨_, rfl⟩
      have hbb := hbE.trans hbr
      go_wp2_with fail
      refine (HBK.out _ hbb ((t : Int) - 1)).mono ?_; rw [← Hbb.out]; rintro e w3 ⟨rfl, hb3⟩
      have hbb3 := hbb.trans hb3
      go_wp2_with fail
      refine (HRB.out _ hbb3 ((t : Int) - 1)).mono ?_; rw [← Hbb.out]; rintro e w4 ⟨rfl, hb4⟩
      have hbb4 := hbb3.trans hb4
      go_wp2_with fail
      refine (HUR.out _ hbb4 ((t : Int) - 1)).mono ?_; rw [← Huu.out]; rintro e w5 ⟨rfl, hb5⟩
      have hbb5 := hbb4.trans hb5
      go_wp2_with fail
      refine (HRU.out _ hbb5 ((t : Int) - 1)).mono ?_; rw [← Huu.out]; rintro e w6 ⟨rfl, hb6⟩
      have hb36 : Bel wr w6 := ((hb3.trans hb4).trans hb5).trans hb6
      clear hbb hbb3 hbb4 hbb5 hb3 hb4 hb5 hb6
      go_wp2
      go_roundw
      case rel => exact ⟨t + 1, by congr 1; omega, by omega, hbr.trans hb36⟩
      case measure => simp [intOf]; omega
    · go_wp2
      obtain ⟨W, rfl⟩ : ∃ W, W = wr := ⟨_, rfl⟩
      go_loopw [17] (fun jv wr => ∃ j : Nat, jv = .int .i64 j ∧ j ≤ m ∧ Bel W0 wr) (fun jv _ => m - (intOf jv).toNat)
      case atStart => exact ⟨0, rfl, by omega, hbr⟩
      case round =>
        obtain ⟨j, rfl, j1, hbq⟩ := hrel
        have hbQ := hbE.trans hbq
        by_cases hjm : j < m
        · obtain ⟨y, hy⟩ : ∃ x, B[j]? = some x := ⟨B[j]'(by have := HM.out; omega), List.getElem?_eq_getElem _⟩
          obtain ⟨b', o', c9', hX⟩ := HAT.out j y hy
          have hf := hX.form
          simp only [Value.slice.injEq] at hf
          obtain ⟨rfl, _, rfl⟩ := hf
          have hX := hX.bel hbQ
          have hEq := hE.bel hbq
          have e0 := hEq.1.2 0 _ rfl
          have e1 := hEq.1.2 1 _ rfl
          have jm : (j : Int) < (m : Int) := by omega
          obtain ⟨z, Hz⟩ : ∃ z, Hid (z = dueB (r - 2) (x - 2) y.b) := ⟨_, rfl⟩
          clear hy
          go_wp2_with fail
          have p0 := (hX.row).cell 0 rfl
          have p1 := (hX.row).cell 1 rfl
          have p2 := (hX.row).cell 2 rfl
          have p3 := (hX.row).cell 3 rfl
          have p4 := (hX.row).cell 4 rfl
          have p5 := (hX.row).cell 5 rfl
          have p6 := (hX.row).cell 6 rfl
          have p7 := (hX.row).cell 7 rfl
          have p8 := (hX.row).cell 8 rfl
          rw [Nat.add_zero] at p0
          have re0 := fun d os => cell_regrown e0 d os
          have re1 := fun d os => cell_regrown e1 d os
          have s0 := fun d os => cell_regrown p0 d os
          have s1 := fun d os => cell_regrown p1 d os
          have s2 := fun d os => cell_regrown p2 d os
          have s3 := fun d os => cell_regrown p3 d os
          have s4 := fun d os => cell_regrown p4 d os
          have s5 := fun d os => cell_regrown p5 d os
          have s6 := fun d os => cell_regrown p6 d os
          have s7 := fun d os => cell_regrown p7 d os
          have s8 := fun d os => cell_regrown p8 d os
          refine wp_region_lex [5, 11] 13 (by kernel_rfl) (by kernel_rfl) ?_
          simp only [List.take_succ_cons, List.take_zero, List.drop_succ_cons, List.drop_zero]
          with_reducible refine lex_seg 5 _ _ _ _ (by kernel_rfl) ?_
          simp only [List.take_succ_cons, List.take_zero, List.drop_succ_cons, List.drop_zero]
          try simp only [Act.put, List.setIfInBounds_toArray, List.set_cons_succ, List.set_cons_zero]
          repeat (go_big_quiet_step (fail))
          with_reducible refine wpQuiet_nil ?_
          refine lex_call 20 rfl rfl (by simp [go_sem]; rfl) ?_
          refine (dlDue_any (r - 2) (x - 2) y.b _).mono ?_; rw [← Hz.out]; rintro e w3 ⟨rfl, hb3⟩
          refine ⟨_, rfl, hb3, ?_⟩
          with_reducible refine lex_seg 5 _ _ _ _ (by kernel_rfl) ?_
          simp only [List.take_succ_cons, List.take_zero, List.drop_succ_cons, List.drop_zero]
          try simp only [Act.put, List.setIfInBounds_toArray, List.set_cons_succ, List.set_cons_zero]
          repeat (go_big_quiet_step (fail))
          with_reducible refine wpQuiet_nil ?_
          refine lex_call 21 rfl rfl (by simp [go_sem]; rfl) ?_
          refine (refDue_any (r - 2) (x - 2) y.b _).mono ?_; rw [← Hz.out]; rintro e w4 ⟨rfl, hb4⟩
          refine ⟨_, rfl, hb4, ?_⟩
          with_reducible refine lex_seg 1 _ _ _ _ (by kernel_rfl) ?_
          simp only [List.take_succ_cons, List.take_zero, List.drop_succ_cons, List.drop_zero]
          try simp only [Act.put, List.setIfInBounds_toArray, List.set_cons_succ, List.set_cons_zero]
          repeat (go_big_quiet_step (fail))
          with_reducible refine wpQuiet_nil ?_
          with_reducible refine lex_nil ?_
          clear s0 s1 s2 s3 s4 s5 s6 s7 s8
          clear p0 p1 p2 p3 p4 p5 p6 p7 p8
          clear re0 re1 e0 e1
          have hb9 : Bel wr w4 := (by repeat (first | (with_reducible exact Bel.refl _) | (with_reducible assumption) | (with_reducible refine Bel.drewN ?_ _) | (with_reducible refine Bel.drew ?_) | (with_reducible refine Bel.alloc ?_ _) | (with_reducible refine Bel.setNew ?_ ?_ _) | (with_reducible refine Bel.trans ?_ (by assumption)) | (focus (simp; done)) | (focus (simp; omega))))
          go_wp2
          go_roundw
          case rel => exact ⟨j + 1, by go_num, by omega, hbq.trans hb9⟩
          case measure => simp [intOf]; omega
        · obtain rfl : j = m := by omega
          have jm : decide ((j : Int) < (j : Int)) = false := by simp
          go_wp2_with fail
          refine (HFR.out _ hbQ).mono ?_; rintro e w3 ⟨u, rfl, hu, hb3⟩
          have hb23 := hbQ.trans hb3
          go_wp2_with fail
          refine (round_any head 20 _ (by omega)).mono ?_; rw [← Hrh.out]; rintro e w9 ⟨rfl, rfl⟩
          go_wp2_with fail
          refine (round_any now 60 _ (by omega)).mono ?_; rw [← Hrn.out]; rintro e w9 ⟨rfl, rfl⟩
          go_wp2_with fail
          refine (HPK.out _ _ hb23 hu).mono ?_; rintro e w4 ⟨rfl, hb4⟩
          have hu4 := hu.bel hb4
          go_wp2_with fail
          refine (round_any head 20 _ (by omega)).mono ?_; rw [← Hrh.out]; rintro e w9 ⟨rfl, rfl⟩
          go_wp2_with fail
          refine (round_any now 60 _ (by omega)).mono ?_; rw [← Hrn.out]; rintro e w9 ⟨rfl, rfl⟩
          go_wp2_with fail
          refine (HPR.out _ _ (hb23.trans hb4) hu4).mono ?_; rintro e w5 ⟨rfl, hb5⟩
          go_wp2_with fail
          refine (awakeDl_any _).mono ?_; rintro e w6 ⟨rfl, hb6⟩
          go_wp2
          go_ret
          exact ⟨rfl, ((hbw.trans hb23).trans (hb4.trans hb5)).trans hb6⟩
end Go.Proofs.Ytdffpnogfinehaa
