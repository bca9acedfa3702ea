/- The walk of FairShares. -/
import Derived.Test.YtacbljfpcchbbaaFairO
import Derived.Test.YtacbljfpcchbbaaShr
namespace Go.Proofs.Ytacbljfpcchbbaa
open Go.RowKit
set_option linter.unusedSimpArgs false

theorem madeF_zero (n : Int) (t : Nat) (ht : t < 3) : pOf (madeF n) t = 0 := by
  obtain ⟨a, b, c, _, _, _, _, _, _, HM⟩ := madeF_eq n
  rw [HM.out]
  match t, ht with
  | 0, _ => rfl
  | 1, _ => rfl
  | 2, _ => rfl

set_option maxRecDepth 100000 in
set_option maxHeartbeats 8000000 in
theorem fairShares_walk (n : Int) (v : Value) (zs : List Int) (xa xb : Int) (w : World) (_ : IsInt n) (hz : Ints w v zs) (_ : IsInt xa) (_ : IsInt xb) :
    Calls Try.prog 8 #[.int .i64 n, v, .int .i64 xa, .int .i64 xb] w fun e w' => e = .returned (.bool true) ∧ Bel w w' := by
  have HI := Lib.hid hz
  obtain ⟨i0, hi0, hz0, hz1, hz2⟩ := info_parts Try.infoQueued
  obtain ⟨hzi, A, cp, rfl, hcp, hmx, _⟩ := hz
  unfold maxLen at hmx
  clear hzi
  have hF := madeF_fok n
  have hz0' := madeF_zero n
  obtain ⟨M, HM⟩ : ∃ M, Hid (M = madeF n) := ⟨_, rfl⟩
  rw [← HM.out] at hF hz0'
  have HF := Lib.hid hF
  have hl30' : (zs.take 30).length ≤ 30 := by simp; omega
  obtain ⟨l0, HL0⟩ : ∃ l0, Hid (l0 = stQ M 0 (zs.take 30)) := ⟨_, rfl⟩
  have hl0 : l0.length = (zs.take 30).length := by rw [HL0.out, stQ_len]
  have HST := Lib.hid (show ShI (kOf M) (mostQ l0) (fun _ => 0) l0 by rw [HL0.out]; exact ShI.start hF hz0' _ hl30')
  have HMH := Lib.hid (show ∀ t, 0 ≤ mostQ l0 t ∧ mostQ l0 t ≤ 5 from fun t => mostQ_hi _ t (fun x hx => by rw [HL0.out] at hx; exact (stQ_cnt _ _ _ x hx).2))
  have HKP := Lib.hid (show ∀ t, 0 ≤ kOf M t ∧ kOf M t ≤ 840 from fun t => kOf_pos hF)
  obtain ⟨FWs, HFS⟩ : ∃ FWs, Hid (FWs = stN M (zs.take 30)) := ⟨_, rfl⟩
  have hfs := (stN_ok (zs.take 30) hF (by omega) (by omega)).mono (B' := 201600) (by omega)
  have hkf := kOf_stN (zs.take 30) M 0 hF (by omega) (by omega)
  rw [← HFS.out] at hfs hkf
  have hFS3 : FWs.length = 3 := hfs.1
  have HF3 := Lib.hid hFS3
  have t1 := rnd_lo xa 3
  have t2 := rnd_hi xa 3 (by omega)
  have t3 := rnd_lo xb 3
  have t4 := rnd_hi xb 3 (by omega)
  obtain ⟨ta, hta⟩ : ∃ k : Nat, (k : Int) = rnd xa 3 := ⟨(rnd xa 3).toNat, by omega⟩
  obtain ⟨tb, htb⟩ : ∃ k : Nat, (k : Int) = rnd xb 3 := ⟨(rnd xb 3).toNat, by omega⟩
  rw [← hta] at t1 t2
  rw [← htb] at t3 t4
  have Hta := Lib.hid hta
  have Htb := Lib.hid htb
  obtain ⟨wa, ya, hwa, wa1, wa2, _⟩ := hfs.get (show ta < 3 by omega)
  obtain ⟨wb, yb, hwb, wb1, wb2, _⟩ := hfs.get (show tb < 3 by omega)
  have HKA := Lib.hid (show kOf M ta = 840 / wa by rw [← hkf ta (by omega)]; exact kOf_get hwa)
  have HKB := Lib.hid (show kOf M tb = 840 / wb by rw [← hkf tb (by omega)]; exact kOf_get hwb)
  have HWA := Lib.hid hwa
  have HWB := Lib.hid hwb
  have hmin : (if (zs.length : Int) < 30 then (zs.length : Int) else 30) = (l0.length : Int) := by rw [hl0, List.length_take]; split <;> omega
  have hl30 : l0.length ≤ 30 := by rw [hl0, List.length_take]; omega
  have HN := Lib.hid hmin
  have HL := Lib.hid hl0
  obtain ⟨MA, HMA⟩ : ∃ x, Hid (x = mostQ l0 ta) := ⟨_, rfl⟩
  obtain ⟨MB, HMB⟩ : ∃ x, Hid (x = mostQ l0 tb) := ⟨_, rfl⟩
  have ma1 : 0 ≤ MA ∧ MA ≤ 5 := by rw [HMA.out]; exact HMH.out _
  have mb1 : 0 ≤ MB ∧ MB ≤ 5 := by rw [HMB.out]; exact HMH.out _
  obtain ⟨ma1, ma2⟩ := ma1
  obtain ⟨mb1, mb2⟩ := mb1
  have hka := HKP.out ta
  have hkb := HKP.out tb
  obtain ⟨KA, HKa⟩ : ∃ x, Hid (x = kOf M ta) := ⟨_, rfl⟩
  obtain ⟨KB, HKb⟩ : ∃ x, Hid (x = kOf M tb) := ⟨_, rfl⟩
  rw [← HKa.out] at hka HKA
  rw [← HKb.out] at hkb HKB
  obtain ⟨ka1, ka2⟩ := hka
  obtain ⟨kb1, kb2⟩ := hkb
  obtain ⟨QA, HQA⟩ : ∃ x, Hid (x = KA * MA) := ⟨_, rfl⟩
  obtain ⟨QB, HQB⟩ : ∃ x, Hid (x = KB * MB) := ⟨_, rfl⟩
  have qa1 : 0 ≤ QA := by rw [HQA.out]; exact Int.mul_nonneg ka1 ma1
  have qb1 : 0 ≤ QB := by rw [HQB.out]; exact Int.mul_nonneg kb1 mb1
  have qa2 : QA ≤ 4200 := by rw [HQA.out]; exact Int.le_trans (Int.mul_le_mul ka2 ma2 ma1 (by omega)) (by omega)
  have qb2 : QB ≤ 4200 := by rw [HQB.out]; exact Int.le_trans (Int.mul_le_mul kb2 mb2 mb1 (by omega)) (by omega)
  have hda : (MA * 840).tdiv wa = QA := by rw [Int.tdiv_eq_ediv_of_nonneg (by omega), w_div wa1 wa2, HQA.out, HKA.out]
  have hdb : (MB * 840).tdiv wb = QB := by rw [Int.tdiv_eq_ediv_of_nonneg (by omega), w_div wb1 wb2, HQB.out, HKB.out]
  have HDA := Lib.hid hda
  have HDB := Lib.hid hdb
  clear hda hdb
  obtain ⟨m, Hm⟩ : ∃ m, Hid (m = zs.length) := ⟨_, rfl⟩
  rw [← Hm.out] at hcp HN HI ⊢
  clear hF hz0' hl0 hmin hfs hkf hFS3 hta htb hwa hwb hl30'
  go_enter Try.func8, Try.ntmps8
  go_wp2_with fail
  refine (madeFair_any n _).mono ?_; rw [← HM.out]; rintro e w1 ⟨v1, rfl, hown1, hb1⟩
  go_wp2_with fail
  refine (stamped_any M v1 _ zs _ HF.out (Rd.own hown1) (HI.out.bel hb1)).mono ?_; rw [← HL0.out, ← HL.out, ← HFS.out]; rintro e w2 ⟨v2, q2, rfl, hR2, hQ2, hb2⟩
  have hbw2 : Bel w w2 := hb1.trans hb2
  obtain ⟨A2, cp2, rfl, _, _⟩ := hR2.form
  obtain ⟨Aq, cpq, rfl, _, _⟩ := hQ2.form
  clear hown1 hb1 hb2
  have hmin := HN.out
  go_wp2_with fail
  refine (round_any xa 3 _ (by omega)).mono ?_; rw [← Hta.out]; rintro e w9 ⟨rfl, rfl⟩
  go_wp2_with fail
  refine (round_any xb 3 _ (by omega)).mono ?_; rw [← Htb.out]; rintro e w9 ⟨rfl, rfl⟩
  clear hmin
  have hA3 := AtF.new w2 25 [.int .i64 0, .slice A2 3 cp2]
  have hR3 := hR2.alloc (.cells #[.int .i64 0, .slice A2 3 cp2] 25)
  have hQ3 := hQ2.alloc (.cells #[.int .i64 0, .slice A2 3 cp2] 25)
  have hb3 : Bel w (w2.alloc (.cells #[.int .i64 0, .slice A2 3 cp2] 25)) := hbw2.alloc _
  have hne0 : ∀ p : Nat, w2.heap.size ≤ p → 0 < l0.length → (Value.slice Aq l0.length cpq).ownBlock ≠ some p := fun p hp h0 e => by have := hQ2.own_lt h0 e; omega
  have hne1 : ∀ p : Nat, w2.heap.size ≤ p → (Value.slice A2 3 cp2).ownBlock ≠ some p := fun p hp e => by have := hR2.own_lt (by omega) e; omega
  have hwB : w.heap.size ≤ w2.heap.size := hbw2.size
  clear hbw2 hR2 hQ2
  go_wp2_with fail
  generalize w2.alloc (.cells #[.int .i64 0, .slice A2 3 cp2] 25) = W at *
  generalize w2.heap.size = B at *
  obtain ⟨bf, off, cpf, hvf, hlf, hcellf⟩ := hR3.at (by omega)
  cases hvf
  have fa := hcellf _ _ (fcells_at0 _ _ _ HWA.out)
  have fb := hcellf _ _ (fcells_at0 _ _ _ HWB.out)
  clear hcellf
  have a0 := hA3.1.2 0 _ rfl
  have a1 := hA3.1.2 1 _ rfl
  have af := hA3.2
  have al := hA3.1.1
  have rg0 := fun d os => cell_regrown a1 d os
  have rg1 := fun d os => cell_regrown fa d os
  have rg2 := fun d os => cell_regrown fb d os
  have k3 : (ta : Int) < ((3 : Nat) : Int) := by omega
  have k4 : (tb : Int) < ((3 : Nat) : Int) := by omega
  refine wp_region_lex [] 14 (by kernel_rfl) (by kernel_rfl) ?_
  simp only [List.take_succ_cons, List.take_zero, List.drop_succ_cons, List.drop_zero]
  with_reducible refine lex_seg 14 _ _ _ _ (by kernel_rfl) ?_
  simp only [List.take_succ_cons, List.take_zero, List.drop_succ_cons, List.drop_zero]
  try simp only [Act.put, List.setIfInBounds_toArray, List.set_cons_succ, List.set_cons_zero]
  repeat (go_big_quiet_step (fail))
  with_reducible refine wpQuiet_nil ?_
  with_reducible refine lex_nil ?_
  clear rg0 rg1 rg2 fa fb a0 a1 af al
  go_wp2_with fail
  refine (left_any l0 ta _ _ (hQ3.bel (by repeat (first | (with_reducible exact Bel.refl _) | (with_reducible assumption) | (with_reducible refine Bel.drewN ?_ _) | (with_reducible refine Bel.drew ?_) | (with_reducible refine Bel.alloc ?_ _) | (with_reducible refine Bel.setNew ?_ ?_ _) | (with_reducible refine Bel.trans ?_ (by assumption)) | (focus (simp; done)) | (focus (simp; omega))))) (by omega)).mono ?_; rw [← HMA.out]; rintro e w3 ⟨rfl, hb4⟩
  go_wp2_with fail
  refine (left_any l0 tb _ _ (hQ3.bel ((Bel.drew (Bel.refl _)).trans hb4)) (by omega)).mono ?_; rw [← HMB.out]; rintro e w4 ⟨rfl, hb5⟩
  go_wp2_with fail
  have hbW4 : Bel W w4 := ((Bel.drew (Bel.refl _)).trans hb4).trans hb5
  have hA5 := (hA3.bel hbW4).alloc (.cells #[.int .i64 0, .int .i64 0, .int .i64 0] 44)
  have hR5 := (hR3.bel hbW4).alloc (.cells #[.int .i64 0, .int .i64 0, .int .i64 0] 44)
  have hQ5 := (hQ3.bel hbW4).alloc (.cells #[.int .i64 0, .int .i64 0, .int .i64 0] 44)
  have hS5 : AtF (w4.alloc (.cells #[.int .i64 0, .int .i64 0, .int .i64 0] 44)) w4.heap.size (icells [0, 0, 0]) := by
    have := AtF.new w4 44 (icells [0, 0, 0])
    simpa [icells] using this
  have hb6 : Bel w (w4.alloc (.cells #[.int .i64 0, .int .i64 0, .int .i64 0] 44)) := (hb3.trans hbW4).alloc _
  have hBS : B < w4.heap.size := by have := (hA3.bel hbW4).1.1; exact this
  clear hA3 hR3 hQ3 hb3 hb4 hb5 hbW4 hlf
  generalize w4.alloc (.cells #[.int .i64 0, .int .i64 0, .int .i64 0] 44) = W5 at *
  generalize w4.heap.size = S at *
  go_loopw [10] (fun qv wr => ∃ (l : List Qd) (s : List Int) (V : Int) (fv : Value) (P : Int → Int), l.length ≤ 30 ∧ s.length = 3 ∧ Rd wr qv 12 l.length (qcells l) ∧ Hid (∀ p : Nat, (p = S ∨ p = B) → 0 < l.length → qv.ownBlock ≠ some p) ∧ AtF wr S (icells s) ∧ AtF wr B [.int .i64 V, fv] ∧ Rd wr fv 2 3 (fcells FWs) ∧ Hid (∀ p : Nat, (p = S ∨ p = B) → fv.ownBlock ≠ some p) ∧ Hid (ShI (kOf M) (mostQ l0) P l) ∧ Hid (∀ (t : Nat) x, s[t]? = some x → P t = kOf M t * x) ∧ Hid (∀ (t : Nat) x, s[t]? = some x → 0 ≤ x ∧ x + 5 * (l.length : Int) ≤ 150) ∧ Bel w wr) (fun qv _ => lenV qv)
  case atStart =>
    refine ⟨l0, [0, 0, 0], 0, _, fun _ => 0, hl30, rfl, hQ5, Lib.hid (fun p hp h0 => hne0 p (by omega) h0), hS5, hA5, hR5, Lib.hid (fun p hp => hne1 p (by omega)), HST, Lib.hid ?_, Lib.hid ?_, hb6⟩
    · intro t x hx
      have : x = 0 := by simpa using List.mem_of_getElem? hx
      subst this; simp
    · intro t x hx
      have : x = 0 := by simpa using List.mem_of_getElem? hx
      subst this; omega
  case round =>
    obtain ⟨l, s, V, fv, P, hl, hs3, hQr, HNQ, hSr, hBr, hRr, HNF, HSH, HPS, HBD, hbr⟩ := hrel
    clear hA5 hR5 hQ5 hS5 hb6 hne0 hne1
    obtain ⟨A', c', rfl, hcc1, hcc2⟩ := hQr.form
    obtain ⟨Af, cf, rfl, _, _⟩ := hRr.form
    unfold maxLen at hcc2
    by_cases h0 : 0 < l.length
    · have h1 : (0 : Int) < (l.length : Int) := by omega
      by_cases hca : cntQ l ta = 0
      · go_wp2_with fail
        refine (left_any l ta _ _ hQr (by omega)).mono ?_; rw [hca]; rintro e w3 ⟨rfl, hb3⟩
        go_wp2_with fail
        refine (left_any l tb _ _ (hQr.bel hb3) (by omega)).mono ?_; rintro e w4 ⟨rfl, hb4⟩
        have hb5 := (hbr.trans hb3).trans hb4
        go_wp2_with fail
        refine (awakeFair_any _).mono ?_; rintro e w3 ⟨rfl, hb3⟩
        go_wp2
        go_ret
        exact ⟨rfl, hb5.trans ‹_›⟩
      · have ca : (((cntQ l ta : Nat) : Int) == 0) = false := by simpa using hca
        by_cases hcb : cntQ l tb = 0
        · go_wp2_with fail
          refine (left_any l ta _ _ hQr (by omega)).mono ?_; rintro e w3 ⟨rfl, hb3⟩
          go_wp2_with fail
          refine (left_any l tb _ _ (hQr.bel hb3) (by omega)).mono ?_; rw [hcb]; rintro e w4 ⟨rfl, hb4⟩
          have hb5 := (hbr.trans hb3).trans hb4
          go_wp2_with fail
          refine (awakeFair_any _).mono ?_; rintro e w3 ⟨rfl, hb3⟩
          go_wp2
          go_ret
          exact ⟨rfl, hb5.trans ‹_›⟩
        · have cb : (((cntQ l tb : Nat) : Int) == 0) = false := by simpa using hcb
          have hea := cnt_zero.1 (Nat.pos_of_ne_zero hca)
          have heb := cnt_zero.1 (Nat.pos_of_ne_zero hcb)
          have hpa := HSH.out.2.2.2 ta tb heb
          have hpb := HSH.out.2.2.2 tb ta hea
          obtain ⟨sa, hsa⟩ : ∃ x, s[ta]? = some x := ⟨s[ta]'(by omega), List.getElem?_eq_getElem _⟩
          obtain ⟨sb, hsb⟩ : ∃ x, s[tb]? = some x := ⟨s[tb]'(by omega), List.getElem?_eq_getElem _⟩
          obtain ⟨sa1, sa2⟩ := HBD.out ta sa hsa
          obtain ⟨sb1, sb2⟩ := HBD.out tb sb hsb
          have hPA := HPS.out ta sa hsa
          have hPB := HPS.out tb sb hsb
          obtain ⟨PA, HPA⟩ : ∃ x, Hid (x = P ta) := ⟨_, rfl⟩
          obtain ⟨PB, HPB⟩ : ∃ x, Hid (x = P tb) := ⟨_, rfl⟩
          rw [← HPA.out, ← HPB.out, ← HKa.out, ← HMA.out, ← HQA.out] at hpa
          rw [← HPA.out, ← HPB.out, ← HKb.out, ← HMB.out, ← HQB.out] at hpb
          rw [← HPA.out, ← HKa.out] at hPA
          rw [← HPB.out, ← HKb.out] at hPB
          have pa1 : 0 ≤ PA := by rw [hPA]; exact Int.mul_nonneg ka1 sa1
          have pb1 : 0 ≤ PB := by rw [hPB]; exact Int.mul_nonneg kb1 sb1
          have pa2 : PA ≤ 126000 := by rw [hPA]; exact Int.le_trans (Int.mul_le_mul ka2 (show sa ≤ 150 by omega) sa1 (by omega)) (by omega)
          have pb2 : PB ≤ 126000 := by rw [hPB]; exact Int.le_trans (Int.mul_le_mul kb2 (show sb ≤ 150 by omega) sb1 (by omega)) (by omega)
          have hqa : (sa * 840).tdiv wa = PA := by rw [Int.tdiv_eq_ediv_of_nonneg (by omega), w_div wa1 wa2, hPA, HKA.out]
          have hqb : (sb * 840).tdiv wb = PB := by rw [Int.tdiv_eq_ediv_of_nonneg (by omega), w_div wb1 wb2, hPB, HKB.out]
          have HQ1 := Lib.hid (And.intro hqa hqb)
          have cSa := hSr.1.2 ta _ (icells_at hsa)
          have cSb := hSr.1.2 tb _ (icells_at hsb)
          obtain ⟨D, HD⟩ : ∃ x, Hid (x = PA - PB) := ⟨_, rfl⟩
          have dd1 : D ≤ QA + QB := by have := HD.out; omega
          have dd2 : -D ≤ QA + QB := by have := HD.out; omega
          have dd3 : -126000 ≤ D ∧ D ≤ 126000 := by have := HD.out; omega
          obtain ⟨dd3, dd4⟩ := dd3
          clear hpa hpb hPA hPB hqa hqb hsa hsb hea heb hca hcb
          go_wp2_with fail
          refine (left_any l ta _ _ hQr (by omega)).mono ?_; rintro e w3 ⟨rfl, hb3⟩
          go_wp2_with fail
          refine (left_any l tb _ _ (hQr.bel hb3) (by omega)).mono ?_; rintro e w4 ⟨rfl, hb4⟩
          have hb34 := hb3.trans hb4
          have hQ4 := hQr.bel hb34
          have hS4 := hSr.bel hb34
          have hB4 := hBr.bel hb34
          have hR4 := hRr.bel hb34
          have hb4w := hbr.trans hb34
          have cSa' := (hb34.cellAt S ta hSr.1.1).trans cSa
          have cSb' := (hb34.cellAt S tb hSr.1.1).trans cSb
          clear cSa cSb hb3 hb4 hb34 hQr hSr hBr hRr hbr
          go_wp2_with fail
          have rg0 := fun d os => cell_regrown cSa' d os
          have rg1 := fun d os => cell_regrown cSb' d os
          have x0a : (wa == 0) = false := by simp; omega
          have x0b : (wb == 0) = false := by simp; omega
          have e1 : IntKind.i64.wrap (sa * 840) = sa * 840 := IntWalk.i64_in _ (by omega)
          have e2 : IntKind.i64.wrap (sb * 840) = sb * 840 := IntWalk.i64_in _ (by omega)
          have e3 : IntKind.i64.wrap PA = PA := IntWalk.i64_in _ (by omega)
          have e4 : IntKind.i64.wrap PB = PB := IntWalk.i64_in _ (by omega)
          have e5 : IntKind.i64.wrap (PA - PB) = D := by rw [← HD.out]; exact IntWalk.i64_in _ (by omega)
          obtain ⟨e6, e7⟩ := HQ1.out
          have u3 : (ta : Int) < 3 := t2
          have u4 : (tb : Int) < 3 := t4
          refine wp_region_lex [] 14 (by kernel_rfl) (by kernel_rfl) ?_
          simp only [List.take_succ_cons, List.take_zero, List.drop_succ_cons, List.drop_zero]
          with_reducible refine lex_seg 14 _ _ _ _ (by kernel_rfl) ?_
          simp only [List.take_succ_cons, List.take_zero, List.drop_succ_cons, List.drop_zero]
          try simp only [Act.put, List.setIfInBounds_toArray, List.set_cons_succ, List.set_cons_zero]
          repeat (go_big_quiet_step (fail))
          with_reducible refine wpQuiet_nil ?_
          with_reducible refine lex_nil ?_
          clear rg0 rg1 e1 e2 e3 e4 e5 e6 e7 cSa' cSb'
          go_wp2_with fail
          have e1 : IntKind.i64.wrap (MA * 840) = MA * 840 := IntWalk.i64_in _ (by omega)
          have e2 : IntKind.i64.wrap (MB * 840) = MB * 840 := IntWalk.i64_in _ (by omega)
          have e3 : IntKind.i64.wrap QA = QA := IntWalk.i64_in _ (by omega)
          have e4 : IntKind.i64.wrap QB = QB := IntWalk.i64_in _ (by omega)
          have e5 : IntKind.i64.wrap (QA + QB) = QA + QB := IntWalk.i64_in _ (by omega)
          have e8 : IntKind.i64.wrap (-D) = -D := IntWalk.i64_in _ (by omega)
          have e6 := HDA.out
          have e7 := HDB.out
          have d1 : decide (QA + QB < D) = false := by simp; omega
          have d2 : decide (QA + QB < -D) = false := by simp; omega
          refine wp_region_lex [] 25 (by kernel_rfl) (by kernel_rfl) ?_
          simp only [List.take_succ_cons, List.take_zero, List.drop_succ_cons, List.drop_zero]
          with_reducible refine lex_seg 25 _ _ _ _ (by kernel_rfl) ?_
          simp only [List.take_succ_cons, List.take_zero, List.drop_succ_cons, List.drop_zero]
          try simp only [Act.put, List.setIfInBounds_toArray, List.set_cons_succ, List.set_cons_zero]
          repeat (go_big_quiet_step (fail))
          with_reducible refine wpQuiet_nil ?_
          with_reducible refine lex_nil ?_
          clear e1 e2 e3 e4 e5 e6 e7 e8 d1 d2 dd1 dd2 dd3 dd4
          obtain ⟨kb, q, hpick, hkl, hq, hspec⟩ := pick_all h0
          have HP := Lib.hid hpick
          have hstep := HSH.out.step (fun t => (HKP.out t).1) (fun t => (HMH.out t).1) hq hspec
          have hqm := HSH.out.2.2.1 q (List.mem_of_getElem? hq)
          have HSTEP := Lib.hid hstep
          obtain ⟨q1, q2, q3, q4, _⟩ := hqm
          have HNQo := HNQ.out
          obtain ⟨b, o, cq, hv, hlb, hcell⟩ := hQ4.at h0
          cases hv
          have hrow := row_at Qd.cells_len hcell hq
          have c1 := hrow.cell 1 rfl
          have c4 := hrow.cell 4 rfl
          have cA := hrow.cell 10 rfl
          obtain ⟨t, ht⟩ : ∃ t : Nat, (t : Int) = q.b.ten := ⟨q.b.ten.toNat, by omega⟩
          obtain ⟨sq, hsq⟩ : ∃ x, s[t]? = some x := ⟨s[t]'(by omega), List.getElem?_eq_getElem _⟩
          obtain ⟨sq1, sq2⟩ := HBD.out t sq hsq
          have cS := hS4.1.2 t _ (icells_at hsq)
          have hrt := rnd_id (n := q.b.ten) (m := 3) (by omega) (by omega) (by omega)
          rw [← ht] at hrt c1 q1 q2
          have HT := Lib.hid ht
          have HRT := Lib.hid hrt
          have HSQ := Lib.hid hsq
          have hSb : S ≠ b := fun e => HNQo S (.inl rfl) h0 (by simp [Value.ownBlock, e])
          have hBb : B ≠ b := fun e => HNQo B (.inr rfl) h0 (by simp [Value.ownBlock, e])
          have k1 : (kb : Int) < (l.length : Int) := by omega
          have k0 : (0 : Int) ≤ (kb : Int) := by omega
          clear hpick hspec hq hstep hrow hcell ht hrt hsq HNQo
          go_wp2_with fail
          refine (yes_any l.length _ (by omega)).mono ?_; rintro e w5 ⟨vy, rfl, hY5, hb5⟩
          go_wp2_with fail
          refine (fairPick_any l (yesL l.length) _ vy _ (hQ4.bel ((Bel.drew (Bel.drew (Bel.refl _))).trans hb5)) hY5).mono ?_; rw [HP.out]; rintro e w6 ⟨rfl, hb6⟩
          have hb46 : Bel w4 w6 := ((Bel.drew (Bel.drew (Bel.refl _))).trans hb5).trans hb6
          have c1' := (hb46.cellAt b (o + kb * 12 + 1) hlb).trans c1
          have c4' := (hb46.cellAt b (o + kb * 12 + 4) hlb).trans c4
          have cA' := (hb46.cellAt b (o + kb * 12 + 10) hlb).trans cA
          have cS' := (hb46.cellAt S t hS4.1.1).trans cS
          have hQ6 := hQ4.bel hb46
          have hS6 := hS4.bel hb46
          have hB6 := hB4.bel hb46
          have hR6 := hR4.bel hb46
          have hb6w := hb4w.trans hb46
          have hlb6 : b < w6.heap.size := Nat.lt_of_lt_of_le hlb hb46.size
          clear c1 c4 cA cS hb5 hb6 hY5 hb46 hQ4 hS4 hB4 hR4 hb4w hlb
          go_wp2_with fail
          have rg0 := fun d os => cell_regrown c1' d os
          have rg1 := fun d os => cell_regrown c4' d os
          have rg2 := fun d os => cell_regrown cS' d os
          have e1 : IntKind.i64.wrap (sq + q.b.cnt) = sq + q.b.cnt := IntWalk.i64_in _ (by omega)
          refine wp_region_lex [6] 17 (by kernel_rfl) (by kernel_rfl) ?_
          simp only [List.take_succ_cons, List.take_zero, List.drop_succ_cons, List.drop_zero]
          with_reducible refine lex_seg 6 _ _ _ _ (by kernel_rfl) ?_
          simp only [List.take_succ_cons, List.take_zero, List.drop_succ_cons, List.drop_zero]
          try simp only [Act.put, List.setIfInBounds_toArray, List.set_cons_succ, List.set_cons_zero]
          repeat (go_big_quiet_step (fail))
          with_reducible refine wpQuiet_nil ?_
          refine lex_call 12 rfl rfl (by simp [go_sem]; rfl) ?_
          refine (round_any (t : Int) 3 _ (by omega)).mono ?_; rintro e w9 ⟨rfl, rfl⟩
          refine ⟨_, rfl, Bel.refl _, ?_⟩
          rw [HRT.out]
          with_reducible refine lex_seg 10 _ _ _ _ (by kernel_rfl) ?_
          simp only [List.take_succ_cons, List.take_zero, List.drop_succ_cons, List.drop_zero]
          try simp only [Act.put, List.setIfInBounds_toArray, List.set_cons_succ, List.set_cons_zero]
          repeat (go_big_quiet_step (fail))
          with_reducible refine wpQuiet_nil ?_
          with_reducible refine lex_nil ?_
          clear rg0 rg1 rg2 e1
          have hS7 := hS6.set t (by simp [icells]; omega) (.int .i64 (sq + q.b.cnt))
          rw [icells_set] at hS7
          have hB7 := hB6.other (C := S) (by omega) t (.int .i64 (sq + q.b.cnt))
          have hQ7 := hQ6.far (p := ⟨S, t, none⟩) (HNQ.out S (.inl rfl) h0) (.int .i64 (sq + q.b.cnt))
          have hR7 := hR6.far (p := ⟨S, t, none⟩) (HNF.out S (.inl rfl)) (.int .i64 (sq + q.b.cnt))
          have cA7 : (w6.setCell ⟨S, t, none⟩ (.int .i64 (sq + q.b.cnt))).cell? ⟨b, o + kb * 12 + 10, none⟩ = some (.int .i64 q.sta) := (cell_set1 _ hSb _ _).trans cA'
          have hwS : w.heap.size ≤ S := by omega
          have hb7w : Bel w (w6.setCell ⟨S, t, none⟩ (.int .i64 (sq + q.b.cnt))) := hb6w.setNew hwS _
          have hlb7 : b < (w6.setCell ⟨S, t, none⟩ (.int .i64 (sq + q.b.cnt))).heap.size := by simpa [World.setCell] using hlb6
          have cSf := hS6.2
          have cSl := hS6.1.1
          go_wp2_with fail
          clear hS6 hB6 hQ6 hR6 cA' hb6w hlb6 c1' c4' cS' cSf cSl
          have hS8 := hS7.drew
          have hB8 := hB7.drew
          have hQ8 := hQ7.bel (Bel.drew (Bel.refl _))
          have hR8 := hR7.bel (Bel.drew (Bel.refl _))
          have hb8w := hb7w.drew
          have cA8 : (w6.setCell ⟨S, t, none⟩ (.int .i64 (sq + q.b.cnt))).drew.cell? ⟨b, o + kb * 12 + 10, none⟩ = some (.int .i64 q.sta) := cA7
          have hlb8 : b < (w6.setCell ⟨S, t, none⟩ (.int .i64 (sq + q.b.cnt))).drew.heap.size := hlb7
          clear hS7 hB7 hQ7 hR7 hb7w cA7 hlb7
          generalize (w6.setCell ⟨S, t, none⟩ (.int .i64 (sq + q.b.cnt))).drew = X at *
          have b0 := hB8.1.2 0 _ rfl
          have b1 := hB8.1.2 1 _ rfl
          have bf := hB8.2
          have bl := hB8.1.1
          have rg0 := fun d os => cell_regrown b0 d os
          have rg1 := fun d os => cell_regrown b1 d os
          have rg2 := fun d os => cell_regrown cA8 d os
          refine wp_region_lex [6] 7 (by kernel_rfl) (by kernel_rfl) ?_
          simp only [List.take_succ_cons, List.take_zero, List.drop_succ_cons, List.drop_zero]
          with_reducible refine lex_seg 6 _ _ _ _ (by kernel_rfl) ?_
          simp only [List.take_succ_cons, List.take_zero, List.drop_succ_cons, List.drop_zero]
          try simp only [Act.put, List.setIfInBounds_toArray, List.set_cons_succ, List.set_cons_zero]
          repeat (go_big_quiet_step (fail))
          with_reducible refine wpQuiet_nil ?_
          refine lex_call 13 rfl rfl (by simp [go_sem]; rfl) ?_
          refine (fairServe_any V q.sta FWs _ _ (by rw [HF3.out]; exact hR8.bel (by repeat (first | (with_reducible exact Bel.refl _) | (with_reducible assumption) | (with_reducible refine Bel.drewN ?_ _) | (with_reducible refine Bel.drew ?_) | (with_reducible refine Bel.alloc ?_ _) | (with_reducible refine Bel.setNew ?_ ?_ _) | (with_reducible refine Bel.trans ?_ (by assumption)) | (focus (simp; done)) | (focus (simp; omega))))) (by rw [HF3.out]; omega)).mono ?_; rw [HF3.out]; rintro e w9 ⟨v9, rfl, hown9, hb9⟩
          refine ⟨_, rfl, hb9, ?_⟩
          with_reducible refine lex_nil ?_
          simp only [Act.put, List.setIfInBounds_toArray, List.set_cons_succ, List.set_cons_zero]
          obtain ⟨A9, c9, rfl⟩ := own_slice hown9
          clear rg0 rg1 rg2 b0 b1 bf bl cA8
          obtain ⟨V', HV⟩ : ∃ V', Hid (V' = if V < q.sta ∧ q.sta ≤ 1125899906842624 then q.sta else V) := ⟨_, rfl⟩
          rw [← HV.out]
          have hXw : Bel X w9 := (Bel.drew (Bel.refl X)).trans hb9
          have hSX := hS8.1.1
          have hBX := hB8.1.1
          have hn9 : ∀ p : Nat, p < X.heap.size → (Value.slice A9 3 c9).ownBlock ≠ some p := fun p hp => own_ne hown9 (.inl hp)
          have hB9 := hB8.bel hXw
          have b0 := hB9.1.2 0 _ rfl
          have b1 := hB9.1.2 1 _ rfl
          have bf := hB9.2
          have bl := hB9.1.1
          have hSY := ((hS8.bel hXw).other (C := B) (by omega) 0 (.int .i64 V')).other (C := B) (by omega) 1 (.slice A9 3 c9)
          have hBY := (hB9.set 0 (by simp) (.int .i64 V')).set 1 (by simp) (.slice A9 3 c9)
          have hRY := ((Rd.own hown9).far (p := ⟨B, 0, none⟩) (hn9 _ hBX) (.int .i64 V')).far (p := ⟨B, 1, none⟩) (hn9 _ hBX) (.slice A9 3 c9)
          have hQY := ((hQ8.bel hXw).far (p := ⟨B, 0, none⟩) (HNQ.out B (.inr rfl) h0) (.int .i64 V')).far (p := ⟨B, 1, none⟩) (HNQ.out B (.inr rfl) h0) (.slice A9 3 c9)
          have hbY : Bel w ((w9.setCell ⟨B, 0, none⟩ (.int .i64 V')).setCell ⟨B, 1, none⟩ (.slice A9 3 c9)) := ((hb8w.trans hXw).setNew hwB _).setNew hwB _
          have hlbY : b < ((w9.setCell ⟨B, 0, none⟩ (.int .i64 V')).setCell ⟨B, 1, none⟩ (.slice A9 3 c9)).heap.size := by have := hXw.size; simp [World.setCell]; omega
          have HN9 : Hid (∀ p : Nat, (p = S ∨ p = B) → (Value.slice A9 3 c9).ownBlock ≠ some p) := by
            rintro p (rfl | rfl)
            · exact hn9 _ hSX
            · exact hn9 _ hBX
          go_wp2_with fail
          clear hown9 hb9 hXw hn9 hB9 b0 b1 bf bl hS8 hB8 hQ8 hR8 hb8w hlb8
          generalize (w9.setCell ⟨B, 0, none⟩ (.int .i64 V')).setCell ⟨B, 1, none⟩ (.slice A9 3 c9) = Y at *
          have e6 : IntKind.i64.wrap ((kb : Int) + 1) = (kb : Int) + 1 := IntWalk.i64_in _ (by omega)
          obtain ⟨hnew11, ad1, had1, hnew21⟩ := rem_news hQY hlbY hkl
          have hel1 : kb + (l.length - (kb + 1)) = (l.eraseIdx kb).length := by rw [List.length_eraseIdx, if_pos hkl]; omega
          refine wp_region_st [3, 8] 10 (by kernel_rfl) (by kernel_rfl) ?_
          with_reducible refine st_sel [0, 1, 2, 4, 5, 6, 7] (by kernel_rfl) (by kernel_rfl) ?_
          simp only [picked, List.getElem?_cons_succ, List.getElem?_cons_zero, Option.toList_some, List.nil_append, List.cons_append, List.append_nil]
          try simp only [Act.put, List.setIfInBounds_toArray, List.set_cons_succ, List.set_cons_zero]
          repeat (go_big_quiet_step (fail))
          with_reducible refine wpQuiet_nil ?_
          refine st_branch [3] (by kernel_rfl) (branch_cons (by simp only [List.getElem?_toArray, List.getElem?_cons_succ, List.getElem?_cons_zero]; rfl) ?_ branch_nil)
          refine eff_append_own rfl _ _ 26 rfl (Y).heap.size 53 i0 _ 12 120 Try.underlying26 hi0 hz0 hz1 hz2 rfl (by omega) (.slice none 0 0) 0 [] rfl ⟨by simp, Or.inl ⟨rfl, rfl⟩⟩ ⟨b, o, none⟩ kb _ (qcells ((l).take kb)) rfl (by rw [qcells_len, List.length_take, Nat.min_eq_left (Nat.le_of_lt hkl)]) (hnew11 _ (by repeat (first | (with_reducible exact Bel.refl _) | (with_reducible assumption) | (with_reducible refine Bel.drewN ?_ _) | (with_reducible refine Bel.drew ?_) | (with_reducible refine Bel.alloc ?_ _) | (with_reducible refine Bel.setNew ?_ ?_ _) | (with_reducible refine Bel.trans ?_ (by assumption)) | (focus (simp; done)) | (focus (simp; omega))))) (qcells_one _) (by unfold maxLen; omega) (by omega) (by simp) (by repeat (first | (with_reducible exact Bel.refl _) | (with_reducible assumption) | (with_reducible refine Bel.drewN ?_ _) | (with_reducible refine Bel.drew ?_) | (with_reducible refine Bel.alloc ?_ _) | (with_reducible refine Bel.setNew ?_ ?_ _) | (with_reducible refine Bel.trans ?_ (by assumption)) | (focus (simp; done)) | (focus (simp; omega)))) (by simp) ?_
          intro va1 wa1 howna1 hga1 hba1
          simp only [Nat.zero_add, List.nil_append] at howna1
          try simp only [List.nil_append, List.cons_append, Act.put, List.setIfInBounds_toArray, List.set_cons_succ, List.set_cons_zero]
          refine st_branch [8] (by kernel_rfl) (branch_cons (by simp only [List.getElem?_toArray, List.getElem?_cons_succ, List.getElem?_cons_zero]; rfl) ?_ branch_nil)
          refine eff_append_own rfl _ _ 26 rfl (Y).heap.size 53 i0 _ 12 120 Try.underlying26 hi0 hz0 hz1 hz2 rfl (by omega) va1 kb _ rfl howna1 ad1 ((l).length - (kb + 1)) _ (qcells ((l).drop (kb + 1))) rfl (by rw [qcells_len, List.length_drop]) (hnew21 _ (Bel.trans (by repeat (first | (with_reducible exact Bel.refl _) | (with_reducible assumption) | (with_reducible refine Bel.drewN ?_ _) | (with_reducible refine Bel.drew ?_) | (with_reducible refine Bel.alloc ?_ _) | (with_reducible refine Bel.setNew ?_ ?_ _) | (with_reducible refine Bel.trans ?_ (by assumption)) | (focus (simp; done)) | (focus (simp; omega)))) hba1)) (qcells_one _) (by unfold maxLen; omega) (by omega) hba1.size hba1 (by simp) ?_
          intro vb1 wb1 hownb1 hgb1 hbb1
          rw [← qcells_app, erase_eq, hel1] at hownb1
          try simp only [List.nil_append, List.cons_append, Act.put, List.setIfInBounds_toArray, List.set_cons_succ, List.set_cons_zero]
          with_reducible refine st_sel [9] (by kernel_rfl) (by kernel_rfl) ?_
          simp only [picked, List.getElem?_cons_succ, List.getElem?_cons_zero, Option.toList_some, List.nil_append, List.cons_append, List.append_nil]
          try simp only [Act.put, List.setIfInBounds_toArray, List.set_cons_succ, List.set_cons_zero]
          repeat (go_big_quiet_step (fail))
          with_reducible refine wpQuiet_nil ?_
          refine st_end (by kernel_rfl) ?_
          simp only [List.drop_succ_cons, List.drop_zero, List.drop_nil]
          skip
          go_wp2_with fail
          obtain ⟨Ab1, cb1, rfl⟩ := own_slice hownb1
          have hle1 : (l.eraseIdx kb).length + 1 = l.length := by rw [List.length_eraseIdx, if_pos hkl]; omega
          have hbYb : Bel Y wb1 := Bel.trans (by repeat (first | (with_reducible exact Bel.refl _) | (with_reducible assumption) | (with_reducible refine Bel.drewN ?_ _) | (with_reducible refine Bel.drew ?_) | (with_reducible refine Bel.alloc ?_ _) | (with_reducible refine Bel.setNew ?_ ?_ _) | (with_reducible refine Bel.trans ?_ (by assumption)) | (focus (simp; done)) | (focus (simp; omega)))) hbb1
          go_roundw
          case rel =>
            refine ⟨l.eraseIdx kb, s.set t (sq + q.b.cnt), V', _, upd P q.b.ten (P q.b.ten + kOf M q.b.ten * q.b.cnt), by omega, by simpa using hs3, Rd.own hownb1, Lib.hid ?_, hSY.bel hbYb, hBY.bel hbYb, hRY.bel hbYb, HN9, Lib.hid HSTEP.out.2, Lib.hid ?_, Lib.hid ?_, hbY.trans hbYb⟩
            · rintro p (rfl | rfl) _
              · exact own_ne hownb1 (.inl hSY.1.1)
              · exact own_ne hownb1 (.inl hBY.1.1)
            · intro u x hu
              by_cases eu : u = t
              · subst eu
                rw [List.getElem?_set_self (by omega)] at hu
                cases hu
                rw [HT.out, upd_self, ← HT.out, HPS.out _ _ HSQ.out, Int.mul_add]
              · rw [List.getElem?_set_ne (Ne.symm eu)] at hu
                rw [upd_ne _ _ (by have := HT.out; omega)]
                exact HPS.out _ _ hu
            · intro u x hu
              by_cases eu : u = t
              · subst eu
                rw [List.getElem?_set_self (by omega)] at hu
                cases hu
                omega
              · rw [List.getElem?_set_ne (Ne.symm eu)] at hu
                have := HBD.out _ _ hu
                omega
          case measure => simp [lenV]; omega
    · have e0 : l.length = 0 := by omega
      rw [e0]
      go_wp2_with fail
      refine (awakeFair_any _).mono ?_; rintro e w3 ⟨rfl, hb3⟩
      go_wp2
      go_ret
      exact ⟨rfl, hbr.trans ‹_›⟩
end Go.Proofs.Ytacbljfpcchbbaa
