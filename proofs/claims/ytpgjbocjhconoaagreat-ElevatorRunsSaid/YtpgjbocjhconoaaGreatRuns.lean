/- The walk of ElevatorRuns. -/
import Derived.Test.YtpgjbocjhconoaaGreatRnsA
import Derived.Test.YtpgjbocjhconoaaGreatSameB
import Derived.Test.YtpgjbocjhconoaaGreatK11
namespace Go.Proofs.YtpgjbocjhconoaaGreat
open Go.RowKit Go.Maps
set_option linter.unusedSimpArgs false

theorem bsy_three {w : World} {base : Nat} {v : Value} {x1 x2 y : BM} (h : Bsy w base v ([x1, x2] ++ [y])) : ∃ b off cap, v = .slice (some ⟨b, off, none⟩) 3 cap ∧ 3 ≤ cap := by
  rcases h.val with ⟨_, h⟩ | ⟨b, off, cap, h1, _, _, h2, _⟩
  · simp at h
  · exact ⟨b, off, cap, h1, h2⟩

set_option maxRecDepth 100000 in
set_option maxHeartbeats 16000000 in
theorem elevatorRuns_walk (n kind lims : Int) (v va : Value) (zs ac : List Int) (w : World) (hn : IsInt n) (_ : IsInt kind) (_ : IsInt lims) (hz : Ints w v zs) (ha : Ints w va ac) :
    Calls Tryz.prog 3 #[.int .i64 n, .int .i64 kind, .int .i64 lims, v, va] w fun e w' => e = .returned (.bool true) ∧ Bel w w' := by
  have HBN := Lib.hid (fun w' (h : Bel w w') => bunchesN_any v zs w' (hz.bel h))
  have hq1 := rnd_lo kind 3
  have hq2 := rnd_hi kind 3 (by omega)
  obtain ⟨rk, HRK⟩ : ∃ r, Hid (rnd kind 3 = r) := ⟨_, rfl⟩
  rw [HRK.out] at hq1 hq2
  have ek : IntKind.i64.wrap (1 + rk) = 1 + rk := IntWalk.i64_in _ (by omega)
  have HMD := Lib.hid (fun W => made_E n (1 + rk) W hn (by unfold kindOk; rw [decide_eq_true_eq]; omega))
  obtain ⟨E0, HE0⟩ : ∃ E, Hid (madeE n (1 + rk) = E) := ⟨_, rfl⟩
  rw [HE0.out] at HMD
  have HOK0 : Hid (OkT 0 E0) := by
    show OkT 0 E0
    rw [← HE0.out]
    have h := madeE_ok n (1 + rk)
    exact ⟨⟨h.fl, h.bk, Nat.le_refl _, h.ok⟩, fun x hx => by cases hx⟩
  have HEN0 : Hid (E0.en = []) := by show _ = _; rw [← HE0.out]; rfl
  obtain ⟨_, A, cp, rfl, hcp, hmx, hr⟩ := ha
  unfold maxLen at hmx
  obtain ⟨na, Hna⟩ : ∃ n, Hid (n = ac.length) := ⟨_, rfl⟩
  have HR : Hid (0 < na → ∃ b o, A = some ⟨b, o, none⟩ ∧ b < w.heap.size ∧ ∀ j z, ac[j]? = some z → w.cell? ⟨b, o + j, none⟩ = some (.int .i64 z)) := by
    intro h
    obtain ⟨b, o, h1, h2, h3⟩ := hr (by have := Hna.out; omega)
    exact ⟨b, o, h1, h2, fun j z hj => by obtain ⟨g1, g2⟩ := List.getElem?_eq_some_iff.1 hj; rw [h3 j g1, g2]⟩
  rw [← Hna.out] at hcp ⊢
  clear hr hz
  go_enter Tryz.func3, Tryz.ntmps3
  go_wp2_with fail
  refine (round_any kind 3 _ (by omega)).mono ?_; rw [HRK.out]; rintro e w1 ⟨rfl, rfl⟩
  go_wp2_with fail
  refine (HMD.out _).mono ?_; rintro e w2 ⟨fl1, bu1, en1, rfl, hEN, hb2⟩
  obtain ⟨A4, c4, rfl⟩ := own_slice hEN.flo
  obtain ⟨A5, c5, rfl⟩ := own_slice hEN.buo
  obtain ⟨A6, c6, hv6⟩ := own_slice hEN.eno.bo.own
  subst hv6
  obtain ⟨X, HX0⟩ : ∃ X, Hid (w2.heap.size = X) := ⟨_, rfl⟩
  have hwX : w.heap.size ≤ X := by rw [← HX0.out]; exact hb2.size
  have hX := AtF.new_at (w := w2) HX0.out.symm 31 [.int .i64 E0.knd, .int .i64 E0.rdE, .int .i64 E0.wrE, .int .i64 E0.vt, .slice A4 E0.fl.length c4, .slice A5 E0.bk.length c5, .slice A6 0 c6, .int .i64 E0.hd]
  have hbn : Bel w2 (w2.alloc (.cells [.int .i64 E0.knd, .int .i64 E0.rdE, .int .i64 E0.wrE, .int .i64 E0.vt, .slice A4 E0.fl.length c4, .slice A5 E0.bk.length c5, .slice A6 0 c6, .int .i64 E0.hd].toArray 31)) := bI
  have hs3 : (w2.alloc (.cells [.int .i64 E0.knd, .int .i64 E0.rdE, .int .i64 E0.wrE, .int .i64 E0.vt, .slice A4 E0.fl.length c4, .slice A5 E0.bk.length c5, .slice A6 0 c6, .int .i64 E0.hd].toArray 31)).heap.size = X + 1 := by rw [World.size_alloc, HX0.out]
  simp only [List.toArray] at hX hbn hs3
  go_upto_region 2 with fail
  rw [HX0.out]
  generalize w2.alloc _ = W2 at *
  have hX2 := AtF.new_at (w := W2) hs3.symm 31 [.int .i64 E0.knd, .int .i64 E0.rdE, .int .i64 E0.wrE, .int .i64 E0.vt, .slice A4 E0.fl.length c4, .slice A5 E0.bk.length c5, .slice A6 0 c6, .int .i64 E0.hd]
  have hbn2 : Bel W2 (W2.alloc (.cells [.int .i64 E0.knd, .int .i64 E0.rdE, .int .i64 E0.wrE, .int .i64 E0.vt, .slice A4 E0.fl.length c4, .slice A5 E0.bk.length c5, .slice A6 0 c6, .int .i64 E0.hd].toArray 31)) := bI
  have hs4 : (W2.alloc (.cells [.int .i64 E0.knd, .int .i64 E0.rdE, .int .i64 E0.wrE, .int .i64 E0.vt, .slice A4 E0.fl.length c4, .slice A5 E0.bk.length c5, .slice A6 0 c6, .int .i64 E0.hd].toArray 31)).heap.size = X + 2 := by rw [World.size_alloc, hs3]
  simp only [List.toArray] at hX2 hbn2 hs4
  have k0 := (hX).1.2 0 _ rfl
  have k1 := (hX).1.2 1 _ rfl
  have k2 := (hX).1.2 2 _ rfl
  have k3 := (hX).1.2 3 _ rfl
  have k4 := (hX).1.2 4 _ rfl
  have k5 := (hX).1.2 5 _ rfl
  have k6 := (hX).1.2 6 _ rfl
  have k7 := (hX).1.2 7 _ rfl
  have kl := hX.1.1
  go_upto_region 3 with fail
  try rw [hs3]
  clear k0 k1 k2 k3 k4 k5 k6 k7 kl
  generalize W2.alloc _ = W3 at *
  have hX3 := hX.bel hbn2
  have hEN3 := hEN.keep (hbn.trans hbn2)
  have hb3 := hb2.trans (hbn.trans hbn2)
  have hOF : ∀ k, X ≤ k → Off k (.slice A4 E0.fl.length c4) (.slice A5 E0.bk.length c5) (.slice A6 0 c6) [] := fun k hk => hEN.newOff (by rw [HX0.out]; exact hk)
  clear hX hEN hbn hbn2 hb2 hs3
  have hlq1 := rnd_lo lims 6
  have hlq2 := rnd_hi lims 6 (by omega)
  go_wp2_with fail
  refine (limits_any lims _).mono ?_; rintro e w3 ⟨rfl, hb4⟩
  obtain ⟨M, HM⟩ : ∃ M, Hid (1 + rnd lims 6 = M) := ⟨_, rfl⟩
  obtain ⟨D, HD⟩ : ∃ M, Hid (bound lims = M) := ⟨_, rfl⟩
  rw [HM.out, HD.out]
  obtain ⟨XL, HXL⟩ : ∃ X, Hid (w3.heap.size = X) := ⟨_, rfl⟩
  have hXL1 : X + 2 ≤ XL := by rw [← HXL.out]; have := hb4.size; omega
  have hL := AtF.new_at (w := w3) HXL.out.symm 36 [.int .i64 M, .int .i64 D]
  have hbn3 : Bel w3 (w3.alloc (.cells [.int .i64 M, .int .i64 D].toArray 36)) := bI
  have hs5 : (w3.alloc (.cells [.int .i64 M, .int .i64 D].toArray 36)).heap.size = XL + 1 := by rw [World.size_alloc, HXL.out]
  simp only [List.toArray] at hL hbn3 hs5
  go_upto_region 4 with fail
  rw [HXL.out]
  generalize w3.alloc _ = W4 at *
  have hb5 := hb3.trans (hb4.trans hbn3)
  go_wp2_with fail
  refine (HBN.out _ hb5).mono ?_; rintro e w5 ⟨U, LB, rfl, hLB, hBN, hb6⟩
  have hb46 := hb4.trans (hbn3.trans hb6)
  have hb7 := hb5.trans hb6
  obtain ⟨Z, HZ⟩ : ∃ Z, Hid (w5.heap.size = Z) := ⟨_, rfl⟩
  have hZ1 : XL < Z := by rw [← HZ.out]; have := hb6.size; omega
  obtain ⟨Au, cu, huv⟩ := own_slice hBN.bo.own
  subst huv
  have hRS : RS w w5 X (X + 1) XL Z M D (.slice Au LB.length cu) LB E0 (.slice A4 E0.fl.length c4) (.slice A5 E0.bk.length c5) (.slice A6 0 c6) [] (.slice A4 E0.fl.length c4) (.slice A5 E0.bk.length c5) (.slice A6 0 c6) [] (.slice none 0 0) [] := by
    have hZs := HZ.out
    refine ⟨hX3.bel hb46, hX2.bel hb46, hL.bel hb6, (ElR.of hEN3).bel hb46, (ElR.of hEN3).bel hb46, HEN0.out.symm, HEN0.out.symm, ?_, ?_, hBN.bo.bl, ?_, ⟨.inl ⟨rfl, rfl⟩, (fun x hx => by cases hx), (fun x hx => by cases hx)⟩, hb7, by omega⟩
    · intro k hk
      rcases hk with rfl | rfl | hk
      · exact hOF _ (Nat.le_refl _)
      · exact hOF _ (by omega)
      · cases hk
    · intro k hk
      rcases hk with rfl | rfl | hk
      · exact hOF _ (Nat.le_refl _)
      · exact hOF _ (by omega)
      · cases hk
    · intro k hk
      have h4 : W4.heap.size = XL + 1 := hs5
      refine ⟨fun e => ?_, fun x hx h0 e => ?_⟩
      · have h1 := hBN.bo.own.lt k e
        rcases hk with hk | hk | hk <;> omega
      · obtain ⟨j, hj⟩ := List.getElem?_of_mem hx
        have h1 := hBN.fr j x (List.getElem?_eq_some_iff.1 hj).1 hj h0 k e
        have h2 := (hBN.bo.mem x hx).rd.own_lt h0 e
        rcases hk with hk | hk | hk <;> omega
  obtain ⟨nb, Hnb⟩ : ∃ k, Hid (LB.length = k) := ⟨_, rfl⟩
  have HLB := Lib.hid hLB
  have hn8 : nb ≤ 8 := by rw [← Hnb.out, hLB.1]; omega
  rw [Hnb.out] at hRS ⊢
  have HRS0 := Lib.hid hRS
  clear hRS hb5 hb6 hb7 hb46 hb4 hbn3 hb3 hX3 hX2 hL hEN3 hBN hOF hs4 hs5 hLB hlq1 hlq2 HX0 HXL HZ
  go_wp2_with fail
  go_loopw [16, 17, 18, 19] (fun bv nv xv iv wr => ∃ (i k : Nat) (now : Int) (E : El) (fl bu en : Value) (L : List QM) (fl2 bu2 en2 : Value) (L2 : List QM) (B : List BM), iv = .int .i64 i ∧ nv = .int .i64 now ∧ xv = .int .i64 k ∧ i ≤ na ∧ i ≤ 20 ∧ 0 ≤ now ∧ now ≤ 2 * i ∧ k ≤ nb ∧ B.length ≤ 2 ∧ Hid (OkT k E) ∧ Hid (RS w wr X (X + 1) XL Z M D (.slice Au nb cu) LB E fl bu en L fl2 bu2 en2 L2 bv B)) (fun _ _ _ iv _ => 20 - (intOf iv).toNat)
  case atStart => exact ⟨0, 0, 0, E0, _, _, _, _, _, _, _, _, [], rfl, rfl, rfl, by omega, by omega, by omega, by omega, by omega, by simp, HOK0, HRS0⟩
  case round =>
    clear HRS0 HOK0 HEN0 HE0 HMD HBN HRK ek hq1 hq2
    obtain ⟨i, k, now, E, fl, bu, en, L, fl2, bu2, en2, L2, B, rfl, rfl, rfl, p1, p2, p3, p4, p5, p6, HOK, HRS⟩ := hrel
    obtain ⟨W6, rfl⟩ : ∃ X, X = wr := ⟨_, rfl⟩
    by_cases hlt : i < na ∧ i < 20
    · obtain ⟨h1, h2⟩ := hlt
      have i1 : (i : Int) < (na : Int) := by omega
      have i2 : (i : Int) < 20 := by omega
      obtain ⟨b, o, rfl, hlb, hcell⟩ := HR.out (by omega)
      obtain ⟨z, hzi⟩ : ∃ z, ac[i]? = some z := ⟨ac[i]'(by have := Hna.out; omega), List.getElem?_eq_getElem _⟩
      have c0 : W6.cell? ⟨b, o + i, none⟩ = some (.int .i64 z) := by
        rw [HRS.out.bel.cellAt b _ hlb]; exact hcell i z hzi
      clear hcell hzi
      go_wp2_with fail
      have hr1 := rnd_lo (z / 16) 3
      have hr2 := rnd_hi (z / 16) 3 (by omega)
      obtain ⟨dr, HDR⟩ : ∃ r, Hid (rnd (z / 16) 3 = r) := ⟨_, rfl⟩
      rw [HDR.out] at hr1 hr2
      refine (round_any _ 3 _ (by omega)).mono ?_; rw [HDR.out]; rintro e w7 ⟨rfl, rfl⟩
      have enw : IntKind.i64.wrap (now + dr) = now + dr := IntWalk.i64_in _ (by omega)
      go_upto_region 11 with fail
      go_cut [76] (fun tv wx => ∃ q : Bool, tv = .bool q ∧ (q = true → k < nb) ∧ W6 = wx)
      case first =>
        by_cases hk : k < nb
        · have hk1 : (k : Int) < (nb : Int) := by omega
          go_wp2_with fail
          refine (round_any _ 2 _ (by omega)).mono ?_; rintro e w8 ⟨rfl, rfl⟩
          go_wp2_with fail
          go_meet
          exact ⟨_, rfl, fun _ => hk, rfl⟩
        · have hk1 : ¬ (k : Int) < (nb : Int) := by omega
          go_wp2_with fail
          go_meet
          exact ⟨_, rfl, fun h => (by cases h), rfl⟩
      case rest =>
        obtain ⟨q, rfl, hq, rfl⟩ := hcut
        obtain ⟨now2, hnow2⟩ : ∃ x, x = now + dr := ⟨_, rfl⟩
        rw [← hnow2]
        have hn1 : 0 ≤ now2 := by omega
        have hn2 : now2 ≤ 2 * ((i : Int) + 1) := by omega
        clear hnow2 enw hr1 hr2 HDR p3 p4
        obtain ⟨A1, c1, rfl, -, -⟩ := HRS.out.r.f.form
        obtain ⟨A2, c2, rfl, -, -⟩ := HRS.out.r.b.form
        obtain ⟨A3, c3, rfl, -, -⟩ := HRS.out.r.q.form
        obtain ⟨B1, d1, rfl, -, -⟩ := HRS.out.r2.f.form
        obtain ⟨B2, d2, rfl, -, -⟩ := HRS.out.r2.b.form
        obtain ⟨B3, d3, rfl, -, -⟩ := HRS.out.r2.q.form
        have HLT : Hid (∀ j, (j = X ∨ j = X + 1 ∨ u16.ownBlock = some j) → j < W6.heap.size) := fun j hj => by
          have h1 := HRS.out.sz
          rcases hj with rfl | rfl | hj
          · omega
          · omega
          · exact (HRS.out.bs.blk hj).2
        have HO1 := Lib.hid HRS.out.o
        have HO2 := Lib.hid HRS.out.o2
        have hoke := Lib.hid (HOK.out.a.oke (by omega))
        cases q
        · clear hq
          obtain ⟨⟨E', p, b'⟩, HE'⟩ : ∃ r, Hid (nxtE E now2 (B.map BM.bu) = r) := ⟨_, rfl⟩
          have HOK2 := Lib.hid (HOK.out.next now2 (B.map BM.bu))
          rw [HE'.out] at HOK2
          simp only at HOK2
          have HN1 := Lib.hid (fun W (hb : Bel W6 W) => elNext_S E E' p b' now2 _ _ _ u16 L B W (HRS.out.r.bel hb) HRS.out.q hoke.out (HRS.out.keep hb).bs.bl HE'.out)
          have HN2 := Lib.hid (fun W (hb : Bel W6 W) => refNext_S E E' p b' now2 _ _ _ u16 L2 B W k (HRS.out.r2.bel hb) HRS.out.q2 hoke.out HOK.out (HRS.out.keep hb).bs.bl HE'.out)
          have HW1 := Lib.hid (fun W (hb : Bel W6 W) => elWake_S E now2 _ _ _ L W (HRS.out.r.bel hb) HRS.out.q hoke.out (by unfold IsInt; omega))
          have HW2 := Lib.hid (fun W (hb : Bel W6 W) => refWake_S E now2 _ _ _ L2 W k (HRS.out.r2.bel hb) HRS.out.q2 hoke.out HOK.out (by unfold IsInt; omega))
          obtain ⟨wi, Hwi⟩ : ∃ x, Hid ((wakL E.bk now2 E.en).getD 0 = x) := ⟨_, rfl⟩
          obtain ⟨wb, Hwb⟩ : ∃ x, Hid ((wakL E.bk now2 E.en).isSome = x) := ⟨_, rfl⟩
          rw [Hwi.out, Hwb.out] at HW1 HW2
          clear HE' HOK hoke Hwi Hwb HR HLB
          go_upto_region 17 with fail
          go_cut [24, 25, 26] (fun xv pv kv wx => ∃ (Y : Nat) (fl' bu' en' : Value) (L3 : List QM) (A : Option Addr) (c : Nat), xv = .pointer (some ⟨Y, 0, none⟩) ∧ pv = .pointer (some ⟨Y + 1, 0, none⟩) ∧ kv = .bool b' ∧ AtF wx Y [.int .i64 E'.knd, .int .i64 E'.rdE, .int .i64 E'.wrE, .int .i64 E'.vt, fl', bu', en', .int .i64 E'.hd] ∧ AtF wx (Y + 1) [.int .i64 ((p.at A c)).id, .int .i64 ((p.at A c)).ten, .int .i64 ((p.at A c)).knd, .int .i64 ((p.at A c)).sec, .int .i64 ((p.at A c)).cnt, .string ((p.at A c)).dat, .bool ((p.at A c)).fua, .slice ((p.at A c)).mA ((p.at A c)).mL ((p.at A c)).mC, .int .i64 ((p.at A c)).tim] ∧ ElR wx fl' bu' en' E'.fl E'.bk L3 ∧ L3.map QM.qu = E'.en ∧ (∀ j, (j = X ∨ j = X + 1 ∨ u16.ownBlock = some j) → Off j fl' bu' en' L3) ∧ Mems wx (p.at A c) p.ms ∧ (∀ j, (Value.slice A p.ms.length c).ownBlock = some j → W6.heap.size ≤ j) ∧ Bel W6 wx ∧ W6.heap.size ≤ Y)
          case first =>
            have hX := HRS.out.x
            have k0 := (hX).1.2 0 _ rfl
            have k1 := (hX).1.2 1 _ rfl
            have k2 := (hX).1.2 2 _ rfl
            have k3 := (hX).1.2 3 _ rfl
            have k4 := (hX).1.2 4 _ rfl
            have k5 := (hX).1.2 5 _ rfl
            have k6 := (hX).1.2 6 _ rfl
            have k7 := (hX).1.2 7 _ rfl
            have kl := hX.1.1
            clear HW1 HW2 HN2
            go_wp2_with fail
            refine (HN1.out _ (Bel.refl _)).mono ?_; rintro e w5 ⟨fl5, bu5, en5, L5, Az, cz, rfl, hE5, hL5, hO5, hZ5, hb5⟩
            clear k0 k1 k2 k3 k4 k5 k6 k7 kl HN1
            obtain ⟨A7, c7, rfl, -, -⟩ := hE5.f.form
            obtain ⟨A8, c8, rfl, -, -⟩ := hE5.b.form
            obtain ⟨A9, c9, rfl, -, -⟩ := hE5.q.form
            have hO5' : Hid (∀ j, (j = X ∨ j = X + 1 ∨ u16.ownBlock = some j) → Off j (.slice A7 E'.fl.length c7) (.slice A8 E'.bk.length c8) (.slice A9 L5.length c9) L5) := fun j hj => hO5 j (HLT.out j hj)
            have hs5 := hb5.size
            clear hO5 HLT HO1 HO2 HRS hX
            obtain ⟨i1, t1, kd1, s1, n1, dt1, f1, m1, tm⟩ := p
            simp only [Bu.at] at hZ5 ⊢
            have HZ5 := Lib.hid hZ5
            have HL5 := Lib.hid hL5
            clear hZ5 hL5
            have nw0 : Bel w5 ((w5.alloc (.cells [.int .i64 0, .int .i64 0, .int .i64 0, .int .i64 0, .slice none 0 0, .slice none 0 0, .slice none 0 0, .int .i64 0].toArray 31)).alloc (.cells [.int .i64 0, .int .i64 0, .int .i64 0, .int .i64 0, .int .i64 0, .string ⟨#[]⟩, .bool false, .slice none 0 0, .int .i64 0].toArray 44)) := bI
            have nx0 := (AtF.new_at (w := w5) rfl 31 [.int .i64 0, .int .i64 0, .int .i64 0, .int .i64 0, .slice none 0 0, .slice none 0 0, .slice none 0 0, .int .i64 0]).alloc (.cells [.int .i64 0, .int .i64 0, .int .i64 0, .int .i64 0, .int .i64 0, .string ⟨#[]⟩, .bool false, .slice none 0 0, .int .i64 0].toArray 44)
            have ny0 := AtF.new_at (w := w5.alloc (.cells [.int .i64 0, .int .i64 0, .int .i64 0, .int .i64 0, .slice none 0 0, .slice none 0 0, .slice none 0 0, .int .i64 0].toArray 31)) (g := w5.heap.size + 1) (by simp) 44 [.int .i64 0, .int .i64 0, .int .i64 0, .int .i64 0, .int .i64 0, .string ⟨#[]⟩, .bool false, .slice none 0 0, .int .i64 0]
            have hi8 : (Tryz.prog.info? 31).map (·.size) = some 8 := by kernel_rfl
            have hi9 : (Tryz.prog.info? 44).map (·.size) = some 9 := by kernel_rfl
            have one8 : ∀ u ∈ ([.int .i64 E'.knd, .int .i64 E'.rdE, .int .i64 E'.wrE, .int .i64 E'.vt, .slice A7 E'.fl.length c7, .slice A8 E'.bk.length c8, .slice A9 L5.length c9, .int .i64 E'.hd] : List Value), u.oneCell' = true := fun u hu => by
              simp only [List.mem_cons, List.not_mem_nil, or_false] at hu
              rcases hu with rfl | rfl | rfl | rfl | rfl | rfl | rfl | rfl <;> rfl
            have one9 : ∀ u ∈ ([.int .i64 i1, .int .i64 t1, .int .i64 kd1, .int .i64 s1, .int .i64 n1, .string dt1, .bool f1, .slice Az m1.length cz, .int .i64 tm] : List Value), u.oneCell' = true := fun u hu => by
              simp only [List.mem_cons, List.not_mem_nil, or_false] at hu
              rcases hu with rfl | rfl | rfl | rfl | rfl | rfl | rfl | rfl | rfl <;> rfl
            have ny1 := ny0.setRow_other (B := w5.heap.size) (i := 0) [.int .i64 E'.knd, .int .i64 E'.rdE, .int .i64 E'.wrE, .int .i64 E'.vt, .slice A7 E'.fl.length c7, .slice A8 E'.bk.length c8, .slice A9 L5.length c9, .int .i64 E'.hd] (by omega)
            have nx2 := (nx0.setRow [.int .i64 E'.knd, .int .i64 E'.rdE, .int .i64 E'.wrE, .int .i64 E'.vt, .slice A7 E'.fl.length c7, .slice A8 E'.bk.length c8, .slice A9 L5.length c9, .int .i64 E'.hd] rfl).setRow_other (B := w5.heap.size + 1) (i := 0) [.int .i64 i1, .int .i64 t1, .int .i64 kd1, .int .i64 s1, .int .i64 n1, .string dt1, .bool f1, .slice Az m1.length cz, .int .i64 tm] (by omega)
            have ny2 := ny1.setRow [.int .i64 i1, .int .i64 t1, .int .i64 kd1, .int .i64 s1, .int .i64 n1, .string dt1, .bool f1, .slice Az m1.length cz, .int .i64 tm] rfl
            have nw2 := Bel.setRow (B := w5.heap.size + 1) (i := 0) [.int .i64 i1, .int .i64 t1, .int .i64 kd1, .int .i64 s1, .int .i64 n1, .string dt1, .bool f1, .slice Az m1.length cz, .int .i64 tm] (Bel.setRow (B := w5.heap.size) (i := 0) [.int .i64 E'.knd, .int .i64 E'.rdE, .int .i64 E'.wrE, .int .i64 E'.vt, .slice A7 E'.fl.length c7, .slice A8 E'.bk.length c8, .slice A9 L5.length c9, .int .i64 E'.hd] nw0 (by omega)) (by omega)
            simp only [List.toArray] at nx0 ny1 nx2 ny2 nw2
            first | (rename_i hKK; refine hKK _ _ ?_; clear hKK) | (rename_i hKK _; refine hKK _ _ ?_; clear hKK) | (rename_i hKK _ _; refine hKK _ _ ?_; clear hKK) | (rename_i hKK _ _ _; refine hKK _ _ ?_; clear hKK)
            iterate 18 (first | go_step | go_upon | go_values)
            refine wpList_store_at rfl 31 _ _ rfl rfl rfl nx0 rfl one8 hi8 ?_
            refine wpList_store_at rfl 44 _ _ rfl rfl rfl ny1 rfl one9 hi9 ?_
            clear nx0 ny0 nw0 ny1 one8 one9 hi8 hi9
            generalize setRow (setRow ((w5.alloc (.cells #[.int .i64 0, .int .i64 0, .int .i64 0, .int .i64 0, .slice none 0 0, .slice none 0 0, .slice none 0 0, .int .i64 0] 31)).alloc (.cells #[.int .i64 0, .int .i64 0, .int .i64 0, .int .i64 0, .int .i64 0, .string ⟨#[]⟩, .bool false, .slice none 0 0, .int .i64 0] 44)) w5.heap.size 0 [.int .i64 E'.knd, .int .i64 E'.rdE, .int .i64 E'.wrE, .int .i64 E'.vt, .slice A7 E'.fl.length c7, .slice A8 E'.bk.length c8, .slice A9 L5.length c9, .int .i64 E'.hd]) (w5.heap.size + 1) 0 [.int .i64 i1, .int .i64 t1, .int .i64 kd1, .int .i64 s1, .int .i64 n1, .string dt1, .bool f1, .slice Az m1.length cz, .int .i64 tm] = NW at *
            have ne2 := (hE5).bel nw2
            generalize w5.heap.size = NY at *
            simp only [Act.put, Act.eval, List.setIfInBounds_toArray, List.set_cons_succ, List.set_cons_zero]
            have HFF := Lib.hid (And.intro nx2 (And.intro ny2 (And.intro ne2 (And.intro hb5 nw2))))
            clear nx2 ny2 ne2 nw2 hb5 hE5
            go_wp2_with fail
            go_meet
            obtain ⟨x1, x2, x3, x4, x5⟩ := HFF.out
            exact ⟨NY, _, _, _, L5, Az, cz, rfl, rfl, rfl, x1, x2, x3, HL5.out, hO5'.out, HZ5.out.1.bel x5, HZ5.out.2, x4.trans x5, hs5⟩
          case rest =>
            obtain ⟨Y1, fl5, bu5, en5, L5, Az, cz, rfl, rfl, rfl, hY1, hP1, hR5, hL5, hO5, hM5, hMb, hb5, hy1⟩ := hcut
            obtain ⟨W7, rfl⟩ : ∃ X, X = wc := ⟨_, rfl⟩
            have HRS7 := Lib.hid (HRS.out.keep hb5)
            have HLT7 : Hid (∀ j, (j = X ∨ j = X + 1 ∨ u16.ownBlock = some j) → j < W7.heap.size) := fun j hj => Nat.lt_of_lt_of_le (HLT.out j hj) hb5.size
            have HN3 := Lib.hid (fun W (hb : Bel W7 W) => HN2.out W (hb5.trans hb))
            have hle7 := hb5.size
            have HH5 := Lib.hid (And.intro hY1 (And.intro hP1 (And.intro hR5 (And.intro hL5 (And.intro hO5 (And.intro hM5 (And.intro hMb hb5)))))))
            clear hY1 hP1 hR5 hL5 hO5 hM5 hMb hb5 HN1 HN2 HLT HO1
            go_upto_region 18 with fail
            go_cut [27, 28, 29] (fun xv pv kv wx => ∃ (Y : Nat) (fl' bu' en' : Value) (L3 : List QM) (A : Option Addr) (c : Nat), xv = .pointer (some ⟨Y, 0, none⟩) ∧ pv = .pointer (some ⟨Y + 1, 0, none⟩) ∧ kv = .bool b' ∧ AtF wx Y [.int .i64 E'.knd, .int .i64 E'.rdE, .int .i64 E'.wrE, .int .i64 E'.vt, fl', bu', en', .int .i64 E'.hd] ∧ AtF wx (Y + 1) [.int .i64 ((p.at A c)).id, .int .i64 ((p.at A c)).ten, .int .i64 ((p.at A c)).knd, .int .i64 ((p.at A c)).sec, .int .i64 ((p.at A c)).cnt, .string ((p.at A c)).dat, .bool ((p.at A c)).fua, .slice ((p.at A c)).mA ((p.at A c)).mL ((p.at A c)).mC, .int .i64 ((p.at A c)).tim] ∧ ElR wx fl' bu' en' E'.fl E'.bk L3 ∧ L3.map QM.qu = E'.en ∧ (∀ j, (j = X ∨ j = X + 1 ∨ u16.ownBlock = some j) → Off j fl' bu' en' L3) ∧ Mems wx (p.at A c) p.ms ∧ Bel W7 wx ∧ W7.heap.size ≤ Y)
            case first =>
              have hX := HRS7.out.x2
              have k0 := (hX).1.2 0 _ rfl
              have k1 := (hX).1.2 1 _ rfl
              have k2 := (hX).1.2 2 _ rfl
              have k3 := (hX).1.2 3 _ rfl
              have k4 := (hX).1.2 4 _ rfl
              have k5 := (hX).1.2 5 _ rfl
              have k6 := (hX).1.2 6 _ rfl
              have k7 := (hX).1.2 7 _ rfl
              have kl := hX.1.1
              clear HW1 HW2
              go_wp2_with fail
              refine (HN3.out _ (Bel.refl _)).mono ?_; rintro e w5 ⟨fl6, bu6, en6, L6, Ax, cx, rfl, hE5, hL6, hZ5, hO6, hb5⟩
              clear k0 k1 k2 k3 k4 k5 k6 k7 kl HN3 HH5
              obtain ⟨A7, c7, rfl, -, -⟩ := hE5.f.form
              obtain ⟨A8, c8, rfl, -, -⟩ := hE5.b.form
              obtain ⟨A9, c9, rfl, -, -⟩ := hE5.q.form
              have hO6' : Hid (∀ j, (j = X ∨ j = X + 1 ∨ u16.ownBlock = some j) → Off j (.slice A7 E'.fl.length c7) (.slice A8 E'.bk.length c8) (.slice A9 L6.length c9) L6) := fun j hj => hO6 j (HLT7.out j hj) (HO2.out j hj)
              have hs5 := hb5.size
              clear hO6 HLT7 HO2 HRS HRS7 hX
              obtain ⟨i1, t1, kd1, s1, n1, dt1, f1, m1, tm⟩ := p
              simp only [Bu.at] at hZ5 ⊢
              have HZ5 := Lib.hid hZ5
              have HL6 := Lib.hid hL6
              clear hZ5 hL6
              have nw0 : Bel w5 ((w5.alloc (.cells [.int .i64 0, .int .i64 0, .int .i64 0, .int .i64 0, .slice none 0 0, .slice none 0 0, .slice none 0 0, .int .i64 0].toArray 31)).alloc (.cells [.int .i64 0, .int .i64 0, .int .i64 0, .int .i64 0, .int .i64 0, .string ⟨#[]⟩, .bool false, .slice none 0 0, .int .i64 0].toArray 44)) := bI
              have nx0 := (AtF.new_at (w := w5) rfl 31 [.int .i64 0, .int .i64 0, .int .i64 0, .int .i64 0, .slice none 0 0, .slice none 0 0, .slice none 0 0, .int .i64 0]).alloc (.cells [.int .i64 0, .int .i64 0, .int .i64 0, .int .i64 0, .int .i64 0, .string ⟨#[]⟩, .bool false, .slice none 0 0, .int .i64 0].toArray 44)
              have ny0 := AtF.new_at (w := w5.alloc (.cells [.int .i64 0, .int .i64 0, .int .i64 0, .int .i64 0, .slice none 0 0, .slice none 0 0, .slice none 0 0, .int .i64 0].toArray 31)) (g := w5.heap.size + 1) (by simp) 44 [.int .i64 0, .int .i64 0, .int .i64 0, .int .i64 0, .int .i64 0, .string ⟨#[]⟩, .bool false, .slice none 0 0, .int .i64 0]
              have hi8 : (Tryz.prog.info? 31).map (·.size) = some 8 := by kernel_rfl
              have hi9 : (Tryz.prog.info? 44).map (·.size) = some 9 := by kernel_rfl
              have one8 : ∀ u ∈ ([.int .i64 E'.knd, .int .i64 E'.rdE, .int .i64 E'.wrE, .int .i64 E'.vt, .slice A7 E'.fl.length c7, .slice A8 E'.bk.length c8, .slice A9 L6.length c9, .int .i64 E'.hd] : List Value), u.oneCell' = true := fun u hu => by
                simp only [List.mem_cons, List.not_mem_nil, or_false] at hu
                rcases hu with rfl | rfl | rfl | rfl | rfl | rfl | rfl | rfl <;> rfl
              have one9 : ∀ u ∈ ([.int .i64 i1, .int .i64 t1, .int .i64 kd1, .int .i64 s1, .int .i64 n1, .string dt1, .bool f1, .slice Ax m1.length cx, .int .i64 tm] : List Value), u.oneCell' = true := fun u hu => by
                simp only [List.mem_cons, List.not_mem_nil, or_false] at hu
                rcases hu with rfl | rfl | rfl | rfl | rfl | rfl | rfl | rfl | rfl <;> rfl
              have ny1 := ny0.setRow_other (B := w5.heap.size) (i := 0) [.int .i64 E'.knd, .int .i64 E'.rdE, .int .i64 E'.wrE, .int .i64 E'.vt, .slice A7 E'.fl.length c7, .slice A8 E'.bk.length c8, .slice A9 L6.length c9, .int .i64 E'.hd] (by omega)
              have nx2 := (nx0.setRow [.int .i64 E'.knd, .int .i64 E'.rdE, .int .i64 E'.wrE, .int .i64 E'.vt, .slice A7 E'.fl.length c7, .slice A8 E'.bk.length c8, .slice A9 L6.length c9, .int .i64 E'.hd] rfl).setRow_other (B := w5.heap.size + 1) (i := 0) [.int .i64 i1, .int .i64 t1, .int .i64 kd1, .int .i64 s1, .int .i64 n1, .string dt1, .bool f1, .slice Ax m1.length cx, .int .i64 tm] (by omega)
              have ny2 := ny1.setRow [.int .i64 i1, .int .i64 t1, .int .i64 kd1, .int .i64 s1, .int .i64 n1, .string dt1, .bool f1, .slice Ax m1.length cx, .int .i64 tm] rfl
              have nw2 := Bel.setRow (B := w5.heap.size + 1) (i := 0) [.int .i64 i1, .int .i64 t1, .int .i64 kd1, .int .i64 s1, .int .i64 n1, .string dt1, .bool f1, .slice Ax m1.length cx, .int .i64 tm] (Bel.setRow (B := w5.heap.size) (i := 0) [.int .i64 E'.knd, .int .i64 E'.rdE, .int .i64 E'.wrE, .int .i64 E'.vt, .slice A7 E'.fl.length c7, .slice A8 E'.bk.length c8, .slice A9 L6.length c9, .int .i64 E'.hd] nw0 (by omega)) (by omega)
              simp only [List.toArray] at nx0 ny1 nx2 ny2 nw2
              first | (rename_i hKK; refine hKK _ _ ?_; clear hKK) | (rename_i hKK _; refine hKK _ _ ?_; clear hKK) | (rename_i hKK _ _; refine hKK _ _ ?_; clear hKK) | (rename_i hKK _ _ _; refine hKK _ _ ?_; clear hKK)
              iterate 18 (first | go_step | go_upon | go_values)
              refine wpList_store_at rfl 31 _ _ rfl rfl rfl nx0 rfl one8 hi8 ?_
              refine wpList_store_at rfl 44 _ _ rfl rfl rfl ny1 rfl one9 hi9 ?_
              clear nx0 ny0 nw0 ny1 one8 one9 hi8 hi9
              generalize setRow (setRow ((w5.alloc (.cells #[.int .i64 0, .int .i64 0, .int .i64 0, .int .i64 0, .slice none 0 0, .slice none 0 0, .slice none 0 0, .int .i64 0] 31)).alloc (.cells #[.int .i64 0, .int .i64 0, .int .i64 0, .int .i64 0, .int .i64 0, .string ⟨#[]⟩, .bool false, .slice none 0 0, .int .i64 0] 44)) w5.heap.size 0 [.int .i64 E'.knd, .int .i64 E'.rdE, .int .i64 E'.wrE, .int .i64 E'.vt, .slice A7 E'.fl.length c7, .slice A8 E'.bk.length c8, .slice A9 L6.length c9, .int .i64 E'.hd]) (w5.heap.size + 1) 0 [.int .i64 i1, .int .i64 t1, .int .i64 kd1, .int .i64 s1, .int .i64 n1, .string dt1, .bool f1, .slice Ax m1.length cx, .int .i64 tm] = NW at *
              have ne2 := (hE5).bel nw2
              generalize w5.heap.size = NY at *
              simp only [Act.put, Act.eval, List.setIfInBounds_toArray, List.set_cons_succ, List.set_cons_zero]
              have HFF := Lib.hid (And.intro nx2 (And.intro ny2 (And.intro ne2 (And.intro hb5 nw2))))
              clear nx2 ny2 ne2 nw2 hb5 hE5
              go_wp2_with fail
              go_meet
              obtain ⟨x1, x2, x3, x4, x5⟩ := HFF.out
              exact ⟨NY, _, _, _, L6, Ax, cx, rfl, rfl, rfl, x1, x2, x3, HL6.out, hO6'.out, HZ5.out.bel x5, x4.trans x5, hs5⟩
            case rest =>
              obtain ⟨hY1, hP1, hR5, hL5, hO5, hM5, hMb, hb5⟩ := HH5.out
              obtain ⟨Y2, fl6, bu6, en6, L6, Ax, cx, rfl, rfl, rfl, hY2, hP2, hR6, hL6, hO6, hM6, hb6, hy2⟩ := hcut
              obtain ⟨W8, rfl⟩ : ∃ X, X = wc := ⟨_, rfl⟩
              clear HN3 HLT7 HH5 HO2
              have hsz := HRS.out.sz
              have HBK : Hid (∀ j, u16.ownBlock = some j → j < W6.heap.size) := fun j hj => (HRS.out.bs.blk hj).2
              have HRS8 := Lib.hid (HRS7.out.keep hb6)
              have hb8 := hb5.trans hb6
              obtain ⟨i1, t1, kd1, s1, n1, dt1, f1, m1, tm⟩ := p
              simp only [Bu.at] at hP1 hM5 hMb hP2 hM6
              obtain ⟨A4, c4, rfl, -, -⟩ := hR5.f.form
              obtain ⟨A5, c5, rfl, -, -⟩ := hR5.b.form
              obtain ⟨A6, c6, rfl, -, -⟩ := hR5.q.form
              obtain ⟨B4, d4, rfl, -, -⟩ := hR6.f.form
              obtain ⟨B5, d5, rfl, -, -⟩ := hR6.b.form
              obtain ⟨B6, d6, rfl, -, -⟩ := hR6.q.form
              have HSB := Lib.hid (fun W (hb : Bel W8 W) => sameBunch_any i1 t1 kd1 s1 n1 dt1 f1 tm m1 Az Ax cz cx W ((hM5.bel hb6).rd.bel hb) (hM6.rd.bel hb))
              have HSM := Lib.hid (fun W (hb : Bel W8 W) => same_S E' _ _ _ _ _ _ L5 L6 W ((hR5.bel hb6).bel hb) hL5 (hR6.bel hb) hL6 (HOK2.out.a.oke (by omega)))
              have HH6 := Lib.hid (And.intro (hR5.bel hb6) (And.intro hL5 (And.intro hO5 (And.intro hR6 (And.intro hL6 (And.intro hO6 (hM5.bel hb6)))))))
              have HYY := Lib.hid (And.intro (hY1.bel hb6) (And.intro (hP1.bel hb6) (And.intro hY2 hP2)))
              clear hR5 hL5 hO5 hR6 hL6 hO6 hM5 hM6 hY1 hP1 hY2 hP2 hb5 hb6 HRS7
              have hX8 := HRS8.out.x
              have k0 := (hX8).1.2 0 _ rfl
              have k1 := (hX8).1.2 1 _ rfl
              have k2 := (hX8).1.2 2 _ rfl
              have k3 := (hX8).1.2 3 _ rfl
              have k4 := (hX8).1.2 4 _ rfl
              have k5 := (hX8).1.2 5 _ rfl
              have k6 := (hX8).1.2 6 _ rfl
              have k7 := (hX8).1.2 7 _ rfl
              have kl := hX8.1.1
              clear hX8
              go_wp2_with fail
              refine (HW1.out _ hb8).mono ?_; rintro e Wa ⟨rfl, hba⟩
              clear k0 k1 k2 k3 k4 k5 k6 k7 kl HW1
              have hX9 := (HRS8.out.keep hba).x2
              have k0 := (hX9).1.2 0 _ rfl
              have k1 := (hX9).1.2 1 _ rfl
              have k2 := (hX9).1.2 2 _ rfl
              have k3 := (hX9).1.2 3 _ rfl
              have k4 := (hX9).1.2 4 _ rfl
              have k5 := (hX9).1.2 5 _ rfl
              have k6 := (hX9).1.2 6 _ rfl
              have k7 := (hX9).1.2 7 _ rfl
              have kl := hX9.1.1
              clear hX9
              go_wp2_with fail
              refine (HW2.out _ (hb8.trans hba)).mono ?_; rintro e Wb ⟨rfl, hbb⟩
              clear k0 k1 k2 k3 k4 k5 k6 k7 kl HW2
              have hbab := hba.trans hbb
              have hY1b := HYY.out.1.bel hbab
              have hP1b := HYY.out.2.1.bel hbab
              have hY2b := HYY.out.2.2.1.bel hbab
              have hP2b := HYY.out.2.2.2.bel hbab
              have x0 := (hY1b).1.2 0 _ rfl
              have x1 := (hY1b).1.2 1 _ rfl
              have x2 := (hY1b).1.2 2 _ rfl
              have x3 := (hY1b).1.2 3 _ rfl
              have x4 := (hY1b).1.2 4 _ rfl
              have x5 := (hY1b).1.2 5 _ rfl
              have x6 := (hY1b).1.2 6 _ rfl
              have x7 := (hY1b).1.2 7 _ rfl
              have xl := hY1b.1.1
              have v0 := (hY2b).1.2 0 _ rfl
              have v1 := (hY2b).1.2 1 _ rfl
              have v2 := (hY2b).1.2 2 _ rfl
              have v3 := (hY2b).1.2 3 _ rfl
              have v4 := (hY2b).1.2 4 _ rfl
              have v5 := (hY2b).1.2 5 _ rfl
              have v6 := (hY2b).1.2 6 _ rfl
              have v7 := (hY2b).1.2 7 _ rfl
              have vl := hY2b.1.1
              have y0 := (hP1b).1.2 0 _ rfl
              have y1 := (hP1b).1.2 1 _ rfl
              have y2 := (hP1b).1.2 2 _ rfl
              have y3 := (hP1b).1.2 3 _ rfl
              have y4 := (hP1b).1.2 4 _ rfl
              have y5 := (hP1b).1.2 5 _ rfl
              have y6 := (hP1b).1.2 6 _ rfl
              have y7 := (hP1b).1.2 7 _ rfl
              have y8 := (hP1b).1.2 8 _ rfl
              have yl := hP1b.1.1
              have z0 := (hP2b).1.2 0 _ rfl
              have z1 := (hP2b).1.2 1 _ rfl
              have z2 := (hP2b).1.2 2 _ rfl
              have z3 := (hP2b).1.2 3 _ rfl
              have z4 := (hP2b).1.2 4 _ rfl
              have z5 := (hP2b).1.2 5 _ rfl
              have z6 := (hP2b).1.2 6 _ rfl
              have z7 := (hP2b).1.2 7 _ rfl
              have z8 := (hP2b).1.2 8 _ rfl
              have zl := hP2b.1.1
              have bb : (b' == b') = true := by cases b' <;> rfl
              have wbb : (wb == wb) = true := by cases wb <;> rfl
              clear hY1b hY2b hP1b hP2b hba hbb
              go_wp2_with fail
              refine (HSB.out _ hbab).mono ?_; rintro e Wc ⟨rfl, hbc⟩
              clear x0 x1 x2 x3 x4 x5 x6 x7 xl v0 v1 v2 v3 v4 v5 v6 v7 vl y0 y1 y2 y3 y4 y5 y6 y7 y8 yl z0 z1 z2 z3 z4 z5 z6 z7 z8 zl HSB
              have hbac := hbab.trans hbc
              have hY1b := HYY.out.1.bel hbac
              have hY2b := HYY.out.2.2.1.bel hbac
              have x0 := (hY1b).1.2 0 _ rfl
              have x1 := (hY1b).1.2 1 _ rfl
              have x2 := (hY1b).1.2 2 _ rfl
              have x3 := (hY1b).1.2 3 _ rfl
              have x4 := (hY1b).1.2 4 _ rfl
              have x5 := (hY1b).1.2 5 _ rfl
              have x6 := (hY1b).1.2 6 _ rfl
              have x7 := (hY1b).1.2 7 _ rfl
              have xl := hY1b.1.1
              have v0 := (hY2b).1.2 0 _ rfl
              have v1 := (hY2b).1.2 1 _ rfl
              have v2 := (hY2b).1.2 2 _ rfl
              have v3 := (hY2b).1.2 3 _ rfl
              have v4 := (hY2b).1.2 4 _ rfl
              have v5 := (hY2b).1.2 5 _ rfl
              have v6 := (hY2b).1.2 6 _ rfl
              have v7 := (hY2b).1.2 7 _ rfl
              have vl := hY2b.1.1
              clear hY1b hY2b hbab hbc
              go_wp2_with fail
              refine (HSM.out _ hbac).mono ?_; rintro e W9 ⟨rfl, hbd⟩
              clear x0 x1 x2 x3 x4 x5 x6 x7 xl v0 v1 v2 v3 v4 v5 v6 v7 vl HSM
              go_wp2_with fail
              have hbz := hbac.trans hbd
              obtain ⟨hR5, hL5, hO5, hR6, hL6, hO6, hM5⟩ := HH6.out
              have HRS9 := HRS8.out.keep hbz
              have hY1c := HYY.out.1.bel hbz
              have hP9 := HYY.out.2.1.bel hbz
              have hY2c := HYY.out.2.2.1.bel hbz
              have hR5c := hR5.bel hbz
              have hR6c := hR6.bel hbz
              have hM9 := hM5.bel hbz
              clear hR5 hR6 hM5 hbz hbac hbd hb8 HH6 HYY HRS8 bb wbb
              have one5 : ∀ u ∈ ([.int .i64 E'.knd, .int .i64 E'.rdE, .int .i64 E'.wrE, .int .i64 E'.vt, .slice A4 E'.fl.length c4, .slice A5 E'.bk.length c5, .slice A6 L5.length c6, .int .i64 E'.hd] : List Value), u.oneCell' = true := fun u hu => by
                simp only [List.mem_cons, List.not_mem_nil, or_false] at hu
                rcases hu with rfl | rfl | rfl | rfl | rfl | rfl | rfl | rfl <;> rfl
              have one6 : ∀ u ∈ ([.int .i64 E'.knd, .int .i64 E'.rdE, .int .i64 E'.wrE, .int .i64 E'.vt, .slice B4 E'.fl.length d4, .slice B5 E'.bk.length d5, .slice B6 L6.length d6, .int .i64 E'.hd] : List Value), u.oneCell' = true := fun u hu => by
                simp only [List.mem_cons, List.not_mem_nil, or_false] at hu
                rcases hu with rfl | rfl | rfl | rfl | rfl | rfl | rfl | rfl <;> rfl
              have hi8 : (Tryz.prog.info? 31).map (·.size) = some 8 := by kernel_rfl
              let RQS : World → Prop := fun W' => AtF W' Y1 [.int .i64 E'.knd, .int .i64 E'.rdE, .int .i64 E'.wrE, .int .i64 E'.vt, .slice A4 E'.fl.length c4, .slice A5 E'.bk.length c5, .slice A6 L5.length c6, .int .i64 E'.hd] ∧ AtF W' Y2 [.int .i64 E'.knd, .int .i64 E'.rdE, .int .i64 E'.wrE, .int .i64 E'.vt, .slice B4 E'.fl.length d4, .slice B5 E'.bk.length d5, .slice B6 L6.length d6, .int .i64 E'.hd]
              haveI nnS : Nonempty (InS RQS) := ⟨⟨W9, hY1c, hY2c⟩⟩
              have ra0 := fun (p : InS RQS) => p.h.1.1.2 0 _ rfl
              have ra1 := fun (p : InS RQS) => p.h.1.1.2 1 _ rfl
              have ra2 := fun (p : InS RQS) => p.h.1.1.2 2 _ rfl
              have ra3 := fun (p : InS RQS) => p.h.1.1.2 3 _ rfl
              have ra4 := fun (p : InS RQS) => p.h.1.1.2 4 _ rfl
              have ra5 := fun (p : InS RQS) => p.h.1.1.2 5 _ rfl
              have ra6 := fun (p : InS RQS) => p.h.1.1.2 6 _ rfl
              have ra7 := fun (p : InS RQS) => p.h.1.1.2 7 _ rfl
              have rb0 := fun (p : InS RQS) => p.h.2.1.2 0 _ rfl
              have rb1 := fun (p : InS RQS) => p.h.2.1.2 1 _ rfl
              have rb2 := fun (p : InS RQS) => p.h.2.1.2 2 _ rfl
              have rb3 := fun (p : InS RQS) => p.h.2.1.2 3 _ rfl
              have rb4 := fun (p : InS RQS) => p.h.2.1.2 4 _ rfl
              have rb5 := fun (p : InS RQS) => p.h.2.1.2 5 _ rfl
              have rb6 := fun (p : InS RQS) => p.h.2.1.2 6 _ rfl
              have rb7 := fun (p : InS RQS) => p.h.2.1.2 7 _ rfl
              refine wp_region_sts RQS [2, 3] 4 (by kernel_rfl) (by kernel_rfl) ?hS0 ?_
              case hS0 => exact ⟨hY1c.drew, hY2c.drew⟩
              with_reducible refine st_sel [0, 1] (by kernel_rfl) (by kernel_rfl) ?_
              simp only [picked, List.getElem?_cons_succ, List.getElem?_cons_zero, Option.toList_some, List.nil_append, List.cons_append, List.append_nil]
              try simp only [Act.put, List.setIfInBounds_toArray, List.set_cons_succ, List.set_cons_zero]
              repeat (go_big_quiet_step (fail))
              with_reducible refine wpQuiet_nil ?_
              refine st_branch [2] (by kernel_rfl) (branch_cons (by simp only [List.getElem?_toArray, List.getElem?_cons_succ, List.getElem?_cons_zero]; rfl) ?_ branch_nil)
              refine eff_done_s rfl (exec_store_at (vs := [.int .i64 E'.knd, .int .i64 E'.rdE, .int .i64 E'.wrE, .int .i64 E'.vt, .slice A4 E'.fl.length c4, .slice A5 E'.bk.length c5, .slice A6 L5.length c6, .int .i64 E'.hd]) 31 (.tmp 11) (.tmp 163) rfl rfl rfl HRS9.x.drew rfl one5 hi8) ?hS1b ?_
              case hS1b => exact ⟨(hY1c.drew).setRow_other (B := X) (i := 0) [.int .i64 E'.knd, .int .i64 E'.rdE, .int .i64 E'.wrE, .int .i64 E'.vt, .slice A4 E'.fl.length c4, .slice A5 E'.bk.length c5, .slice A6 L5.length c6, .int .i64 E'.hd] (by omega), (hY2c.drew).setRow_other (B := X) (i := 0) [.int .i64 E'.knd, .int .i64 E'.rdE, .int .i64 E'.wrE, .int .i64 E'.vt, .slice A4 E'.fl.length c4, .slice A5 E'.bk.length c5, .slice A6 L5.length c6, .int .i64 E'.hd] (by omega)⟩
              try simp only [List.nil_append, List.cons_append, Act.put, List.setIfInBounds_toArray, List.set_cons_succ, List.set_cons_zero]
              refine st_branch [3] (by kernel_rfl) (branch_cons (by simp only [List.getElem?_toArray, List.getElem?_cons_succ, List.getElem?_cons_zero]; rfl) ?_ branch_nil)
              have hPn := hP9.drew.setRow_other (B := X) (i := 0) [.int .i64 E'.knd, .int .i64 E'.rdE, .int .i64 E'.wrE, .int .i64 E'.vt, .slice A4 E'.fl.length c4, .slice A5 E'.bk.length c5, .slice A6 L5.length c6, .int .i64 E'.hd] (by omega)
              have hMn := (hM9.bel (Bel.drew (Bel.refl W9))).grown (setRowL_grown X [.int .i64 E'.knd, .int .i64 E'.rdE, .int .i64 E'.wrE, .int .i64 E'.vt, .slice A4 E'.fl.length c4, .slice A5 E'.bk.length c5, .slice A6 L5.length c6, .int .i64 E'.hd] 0 W9.drew) (fun h0 j hj e => by have h1 := hMb j hj; cases e; omega)
              have hU8 := hY1c.drew.setRow_other (B := X) (i := 0) [.int .i64 E'.knd, .int .i64 E'.rdE, .int .i64 E'.wrE, .int .i64 E'.vt, .slice A4 E'.fl.length c4, .slice A5 E'.bk.length c5, .slice A6 L5.length c6, .int .i64 E'.hd] (by omega)
              have hV8 := hY2c.drew.setRow_other (B := X) (i := 0) [.int .i64 E'.knd, .int .i64 E'.rdE, .int .i64 E'.wrE, .int .i64 E'.vt, .slice A4 E'.fl.length c4, .slice A5 E'.bk.length c5, .slice A6 L5.length c6, .int .i64 E'.hd] (by omega)
              have hZ8 := HRS9.x2.drew.setRow_other (B := X) (i := 0) [.int .i64 E'.knd, .int .i64 E'.rdE, .int .i64 E'.wrE, .int .i64 E'.vt, .slice A4 E'.fl.length c4, .slice A5 E'.bk.length c5, .slice A6 L5.length c6, .int .i64 E'.hd] (by omega)
              have hFS := RS.store (HRS9.keep (Bel.drew (Bel.refl W9))) (hR5c.bel (Bel.drew (Bel.refl W9))) hL5 hO5 (hR6c.bel (Bel.drew (Bel.refl W9))) hL6 hO6 (R5 := [.int .i64 E'.knd, .int .i64 E'.rdE, .int .i64 E'.wrE, .int .i64 E'.vt, .slice A4 E'.fl.length c4, .slice A5 E'.bk.length c5, .slice A6 L5.length c6, .int .i64 E'.hd]) (R6 := [.int .i64 E'.knd, .int .i64 E'.rdE, .int .i64 E'.wrE, .int .i64 E'.vt, .slice B4 E'.fl.length d4, .slice B5 E'.bk.length d5, .slice B6 L6.length d6, .int .i64 E'.hd]) rfl rfl
              generalize setRow W9.drew X 0 [.int .i64 E'.knd, .int .i64 E'.rdE, .int .i64 E'.wrE, .int .i64 E'.vt, .slice A4 E'.fl.length c4, .slice A5 E'.bk.length c5, .slice A6 L5.length c6, .int .i64 E'.hd] = W10 at *
              with_reducible refine eff_done_s (w' := setRow W10 (X + 1) 0 [.int .i64 E'.knd, .int .i64 E'.rdE, .int .i64 E'.wrE, .int .i64 E'.vt, .slice B4 E'.fl.length d4, .slice B5 E'.bk.length d5, .slice B6 L6.length d6, .int .i64 E'.hd]) ?hq1b5 ?hq2b5 ?hS1b5 ?hq3b5
              case hq1b5 => rfl
              case hq2b5 => exact exec_store_at (vs := [.int .i64 E'.knd, .int .i64 E'.rdE, .int .i64 E'.wrE, .int .i64 E'.vt, .slice B4 E'.fl.length d4, .slice B5 E'.bk.length d5, .slice B6 L6.length d6, .int .i64 E'.hd]) 31 (.tmp 13) (.tmp 164) rfl rfl rfl hZ8 rfl one6 hi8
              case hS1b5 => exact ⟨hU8.setRow_other (B := X + 1) (i := 0) [.int .i64 E'.knd, .int .i64 E'.rdE, .int .i64 E'.wrE, .int .i64 E'.vt, .slice B4 E'.fl.length d4, .slice B5 E'.bk.length d5, .slice B6 L6.length d6, .int .i64 E'.hd] (by omega), hV8.setRow_other (B := X + 1) (i := 0) [.int .i64 E'.knd, .int .i64 E'.rdE, .int .i64 E'.wrE, .int .i64 E'.vt, .slice B4 E'.fl.length d4, .slice B5 E'.bk.length d5, .slice B6 L6.length d6, .int .i64 E'.hd] (by omega)⟩
              try simp only [List.nil_append, List.cons_append, Act.put, List.setIfInBounds_toArray, List.set_cons_succ, List.set_cons_zero]
              refine st_end (by kernel_rfl) ?_
              simp only [List.drop_succ_cons, List.drop_zero, List.drop_nil]
              have hPm := hPn.setRow_other (B := X + 1) (i := 0) [.int .i64 E'.knd, .int .i64 E'.rdE, .int .i64 E'.wrE, .int .i64 E'.vt, .slice B4 E'.fl.length d4, .slice B5 E'.bk.length d5, .slice B6 L6.length d6, .int .i64 E'.hd] (by omega)
              have hMm := hMn.grown (setRowL_grown (X + 1) [.int .i64 E'.knd, .int .i64 E'.rdE, .int .i64 E'.wrE, .int .i64 E'.vt, .slice B4 E'.fl.length d4, .slice B5 E'.bk.length d5, .slice B6 L6.length d6, .int .i64 E'.hd] 0 W10) (fun h0 j hj e => by have h1 := hMb j hj; cases e; omega)
              generalize setRow W10 (X + 1) 0 [.int .i64 E'.knd, .int .i64 E'.rdE, .int .i64 E'.wrE, .int .i64 E'.vt, .slice B4 E'.fl.length d4, .slice B5 E'.bk.length d5, .slice B6 L6.length d6, .int .i64 E'.hd] = W11 at *
              have HFS := Lib.hid (And.intro hFS (And.intro hPm hMm))
              have HMB := Lib.hid hMb
              clear hMb hFS hU8 hV8 hZ8 HRS9 hR5c hR6c hL5 hL6 hO5 hO6 hY1c hY2c hPm hPn hMm hMn hP9 hM9 ra0 ra1 ra2 ra3 ra4 ra5 ra6 ra7 rb0 rb1 rb2 rb3 rb4 rb5 rb6 rb7 nnS RQS one5 one6 hi8
              clear hsz
              cases b'
              · obtain ⟨Ab, cb, hv16, -, -⟩ := HFS.out.1.bs.bl.rd.form
                subst hv16
                have HF1 := Lib.hid HFS.out.1
                obtain ⟨nB, HnB⟩ : ∃ k, Hid (B.length = k) := ⟨_, rfl⟩
                have p7 := p6
                rw [HnB.out] at HF1 p7 ⊢
                clear HFS HBK HMB
                have hlen : ¬ (2 : Int) < (nB : Int) := by omega
                go_wp2
                go_roundw
                case rel => exact ⟨i + 1, k, now2, E', _, _, _, L5, _, _, _, L6, B, by go_num, rfl, rfl, by omega, by omega, hn1, by omega, by omega, p6, HOK2, HF1⟩
                case measure => simp [intOf]; omega
              · obtain ⟨i0, hi0, hz0, hz1, hz2⟩ := info_parts Tryz.infoBunch
                obtain ⟨hRS, hP, hM⟩ := HFS.out
                have hs := hRS.sz
                have hbuf : Bel W11 (W11.alloc (.cells #[.int .i64 i1, .int .i64 t1, .int .i64 kd1, .int .i64 s1, .int .i64 n1, .string dt1, .bool f1, .slice Az m1.length cz, .int .i64 tm] 44)) := bI
                have hbs := hRS.bs.keep hbuf
                have hMA := hM.bel hbuf
                have HRSA := Lib.hid (hRS.keep hbuf)
                have hzb : Z ≤ (W11.alloc (.cells #[.int .i64 i1, .int .i64 t1, .int .i64 kd1, .int .i64 s1, .int .i64 n1, .string dt1, .bool f1, .slice Az m1.length cz, .int .i64 tm] 44)).heap.size := by have := hbuf.size; omega
                have hfr : 0 < (BM.mk ⟨i1, t1, kd1, s1, n1, dt1, f1, Az, m1.length, cz, tm⟩ m1).ms.length → ∀ j, (Value.slice Az m1.length cz).ownBlock = some j → Z ≤ j ∧ u16.ownBlock ≠ some j := fun _ j hj => ⟨by have := HMB.out j hj; have := HRS.out.sz; omega, fun e => by have h1 := HBK.out j e; have h2 := HMB.out j hj; omega⟩
                have HNEW := Lib.hid (World.news_of_block (cs := #[.int .i64 i1, .int .i64 t1, .int .i64 kd1, .int .i64 s1, .int .i64 n1, .string dt1, .bool f1, .slice Az m1.length cz, .int .i64 tm]) (t := 44) (fr := (0, 0)) (heap_alloc_new W11 _))
                have y0 := (hP).1.2 0 _ rfl
                have y1 := (hP).1.2 1 _ rfl
                have y2 := (hP).1.2 2 _ rfl
                have y3 := (hP).1.2 3 _ rfl
                have y4 := (hP).1.2 4 _ rfl
                have y5 := (hP).1.2 5 _ rfl
                have y6 := (hP).1.2 6 _ rfl
                have y7 := (hP).1.2 7 _ rfl
                have y8 := (hP).1.2 8 _ rfl
                have yl := hP.1.1
                clear hRS hP hM hbuf HFS HBK
                by_cases hB2 : B.length = 2
                · obtain ⟨x1, x2, rfl⟩ : ∃ a b, B = [a, b] := by
                    match B, hB2 with
                    | [a, b], _ => exact ⟨a, b, rfl⟩
                  go_wp2_with (at_builtin; go_must (refine wpList_append_bsy (v := u16) rfl _ _ 38 rfl i0 _ Tryz.underlying38 hi0 hz0 hz1 hz2 rfl rfl hbs hzb (by simp) ⟨W11.heap.size, 0, none⟩ 1 ⟨⟨i1, t1, kd1, s1, n1, dt1, f1, Az, m1.length, cz, tm⟩, m1⟩ rfl HNEW.out hMA hfr ?_); intro v' w' hb' hg' hloc; have HP := Lib.hid (HRSA.out.push hb' hg' hloc); clear hg' hloc hbs hMA hfr y0 y1 y2 y3 y4 y5 y6 y7 y8 yl HRSA HNEW; obtain ⟨bb', off, cap, hv', hc3⟩ : ∃ b off cap, v' = .slice (some ⟨b, off, none⟩) 3 cap ∧ 3 ≤ cap := bsy_three hb'; clear hb'; subst hv')
                  have HP2 := Lib.hid (RS.cut (n := 2) HP.out (by simp))
                  have hcn : ¬ cap = 1 := by omega
                  clear HP hzb
                  go_wp2
                  go_roundw
                  case rel => exact ⟨i + 1, k, now2, E', _, _, _, L5, _, _, _, L6, [x2, ⟨⟨i1, t1, kd1, s1, n1, dt1, f1, Az, m1.length, cz, tm⟩, m1⟩], by go_num, rfl, rfl, by omega, by omega, hn1, by omega, by omega, Nat.le_refl 2, HOK2, HP2⟩
                  case measure => simp [intOf]; omega
                · obtain ⟨nB, HnB⟩ : ∃ k, Hid (B.length = k) := ⟨_, rfl⟩
                  have hnb2 : nB + 1 ≤ 2 := by have := HnB.out; omega
                  go_wp2_with (at_builtin; go_must (refine wpList_append_bsy (v := u16) rfl _ _ 38 rfl i0 _ Tryz.underlying38 hi0 hz0 hz1 hz2 rfl rfl hbs hzb (by omega) ⟨W11.heap.size, 0, none⟩ 1 ⟨⟨i1, t1, kd1, s1, n1, dt1, f1, Az, m1.length, cz, tm⟩, m1⟩ rfl HNEW.out hMA hfr ?_); intro v' w' hb' hg' hloc; have HP := Lib.hid (HRSA.out.push hb' hg' hloc); clear hg' hloc hbs hMA hfr y0 y1 y2 y3 y4 y5 y6 y7 y8 yl HRSA HNEW; obtain ⟨Ab, cap, hv', -, -⟩ := hb'.bl.rd.form; rw [List.length_append, List.length_singleton, HnB.out] at hv'; clear hb'; subst hv')
                  have hlen : ¬ (2 : Int) < ((nB + 1 : Nat) : Int) := by omega
                  have hlen2 : ¬ (2 : Int) < (nB : Int) + 1 := by omega
                  clear hzb
                  go_wp2
                  go_roundw
                  case rel => exact ⟨i + 1, k, now2, E', _, _, _, L5, _, _, _, L6, _, by go_num, rfl, rfl, by omega, by omega, hn1, by omega, by omega, by rw [List.length_append, List.length_singleton, HnB.out]; exact hnb2, HOK2, HP⟩
                  case measure => simp [intOf]; omega
        · have hk := hq rfl
          clear hq
          obtain ⟨y, hy⟩ : ∃ y, LB[k]? = some y := ⟨LB[k]'(by have := Hnb.out; omega), List.getElem?_eq_getElem _⟩
          obtain ⟨g, oo, c9, hat⟩ := HRS.out.al.at hy
          have hfo := hat.form
          injection hfo with e1 e2 e3
          subst e1
          have hrow := hat.row
          have hmy := Lib.hid hat.mem
          have gl := hat.lt
          have hki : (k : Int) < (nb : Int) := by omega
          have hym : y.ms.length ≤ 1000 := by
            obtain ⟨z', A', _, rfl⟩ := HLB.out.2 k y hy
            show (bnM z' k).length ≤ 1000
            rw [bnM]; split <;> simp
          have HOM : Hid (∀ N, ((N = X ∨ N = X + 1 ∨ u16.ownBlock = some N) ∨ W6.heap.size ≤ N) → Ofm N y) := fun N hN h0 e => by
            have hs := HRS.out.sz
            refine (HRS.out.oa N ?_).2 y (List.mem_of_getElem? hy) h0 e
            rcases hN with (hN | hN | hN) | hN
            · exact .inl hN
            · exact .inr (.inl hN)
            · exact .inr (.inr (HRS.out.bs.blk hN).1)
            · exact .inr (.inr (by omega))
          have HOK2 := Lib.hid (HOK.out.add M D y.bu)
          obtain ⟨⟨E', b'⟩, HE'⟩ : ∃ r, Hid (addE M D E y.bu = r) := ⟨_, rfl⟩
          rw [HE'.out] at HOK2
          simp only at HOK2
          have HA1 := Lib.hid (fun W (hb : Bel W6 W) => elAdd_S M D E E' b' _ _ _ L y W (HRS.out.r.bel hb) HRS.out.q hoke.out (hmy.out.bel hb) hym HE'.out)
          have HA2 := Lib.hid (fun W (hb : Bel W6 W) => refAdd_S M D E E' b' _ _ _ L2 y W (HRS.out.r2.bel hb) HRS.out.q2 hoke.out (hmy.out.bel hb) HE'.out)
          have HNW := Lib.hid (fun N (hN : W6.heap.size ≤ N) => HRS.out.r.newOff hN)
          clear e2 e3 hat HE' hym hmy hoke HOK
          go_upto_region 12 with fail
          go_cut [20, 21] (fun xv kv wx => ∃ (Y : Nat) (fl' bu' en' : Value) (L3 : List QM), xv = .pointer (some ⟨Y, 0, none⟩) ∧ kv = .bool b' ∧ AtF wx Y [.int .i64 E'.knd, .int .i64 E'.rdE, .int .i64 E'.wrE, .int .i64 E'.vt, fl', bu', en', .int .i64 E'.hd] ∧ ElR wx fl' bu' en' E'.fl E'.bk L3 ∧ L3.map QM.qu = E'.en ∧ (∀ j, (j = X ∨ j = X + 1 ∨ u16.ownBlock = some j) → Off j fl' bu' en' L3) ∧ Bel W6 wx ∧ W6.heap.size ≤ Y)
          case first =>
            have hX := HRS.out.x
            have hXL := HRS.out.xl
            have hle0 : W6.heap.size ≤ W6.heap.size := Nat.le_refl _
            obtain ⟨⟨i2, t2, k2, s2, n2, dd2, f2, a2, l2, c3', m2⟩, ms2⟩ := y
            simp only at hrow HA1
            clear HA2 HLB HR hy
            have k0 := (hX).1.2 0 _ rfl
            have k1 := (hX).1.2 1 _ rfl
            have k2 := (hX).1.2 2 _ rfl
            have k3 := (hX).1.2 3 _ rfl
            have k4 := (hX).1.2 4 _ rfl
            have k5 := (hX).1.2 5 _ rfl
            have k6 := (hX).1.2 6 _ rfl
            have k7 := (hX).1.2 7 _ rfl
            have r0 := fun d os => cell_regrown k0 d os
            have r1 := fun d os => cell_regrown k1 d os
            have r2 := fun d os => cell_regrown k2 d os
            have r3 := fun d os => cell_regrown k3 d os
            have r4 := fun d os => cell_regrown k4 d os
            have r5 := fun d os => cell_regrown k5 d os
            have r6 := fun d os => cell_regrown k6 d os
            have r7 := fun d os => cell_regrown k7 d os
            have kl := hX.1.1
            have l0 := hXL.1.2 0 _ rfl
            have l1 := hXL.1.2 1 _ rfl
            have rl0 := fun d os => cell_regrown l0 d os
            have rl1 := fun d os => cell_regrown l1 d os
            have ll := hXL.1.1
            have b0 := (hrow).cell 0 rfl
            have b1 := (hrow).cell 1 rfl
            have b2 := (hrow).cell 2 rfl
            have b3 := (hrow).cell 3 rfl
            have b4 := (hrow).cell 4 rfl
            have b5 := (hrow).cell 5 rfl
            have b6 := (hrow).cell 6 rfl
            have b7 := (hrow).cell 7 rfl
            have b8 := (hrow).cell 8 rfl
            rw [Nat.add_zero] at b0
            have q0 := fun d os => cell_regrown b0 d os
            have q1 := fun d os => cell_regrown b1 d os
            have q2 := fun d os => cell_regrown b2 d os
            have q3 := fun d os => cell_regrown b3 d os
            have q4 := fun d os => cell_regrown b4 d os
            have q5 := fun d os => cell_regrown b5 d os
            have q6 := fun d os => cell_regrown b6 d os
            have q7 := fun d os => cell_regrown b7 d os
            have q8 := fun d os => cell_regrown b8 d os
            clear k0 k1 k2 k3 k4 k5 k6 k7 l0 l1 hrow
            clear b0 b1 b2 b3 b4 b5 b6 b7 b8
            refine wp_region_st [6, 10, 11] 12 (by kernel_rfl) (by kernel_rfl) ?_
            with_reducible refine st_sel [0, 1, 2, 3, 4, 5] (by kernel_rfl) (by kernel_rfl) ?_
            simp only [picked, List.getElem?_cons_succ, List.getElem?_cons_zero, Option.toList_some, List.nil_append, List.cons_append, List.append_nil]
            try simp only [Act.put, List.setIfInBounds_toArray, List.set_cons_succ, List.set_cons_zero]
            repeat (go_big_quiet_step (fail))
            with_reducible refine wpQuiet_nil ?_
            refine st_branch [6, 10] (by kernel_rfl) (branch_cons (by simp only [List.getElem?_toArray, List.getElem?_cons_succ, List.getElem?_cons_zero]; rfl) ?_ (branch_cons (by simp only [List.getElem?_toArray, List.getElem?_cons_succ, List.getElem?_cons_zero]; rfl) ?_ branch_nil))
            · skip
              refine eff_call 8 rfl (by simp [go_sem]; rfl) bI ?_
              refine (HA1.out _ bI).mono ?_; rintro e w6 ⟨fl', bu', en', L3, rfl, hE6, hL6, hO6, hb6⟩
              obtain ⟨A7, c7, rfl, -, -⟩ := hE6.f.form
              obtain ⟨A8, c8, rfl, -, -⟩ := hE6.b.form
              obtain ⟨A9, c9', rfl, -, -⟩ := hE6.q.form
              refine ⟨_, rfl, hb6, ?_⟩
              try simp only [List.nil_append, List.cons_append, Act.put, List.setIfInBounds_toArray, List.set_cons_succ, List.set_cons_zero]
              with_reducible refine st_sel [7, 8, 9] (by kernel_rfl) (by kernel_rfl) ?_
              simp only [picked, List.getElem?_cons_succ, List.getElem?_cons_zero, Option.toList_some, List.nil_append, List.cons_append, List.append_nil]
              try simp only [Act.put, List.setIfInBounds_toArray, List.set_cons_succ, List.set_cons_zero]
              repeat (go_big_quiet_step (fail))
              with_reducible refine wpQuiet_nil ?_
              refine st_branch [10] (by kernel_rfl) (branch_cons (by simp only [List.getElem?_toArray, List.getElem?_cons_succ, List.getElem?_cons_zero]; rfl) ?_ branch_nil)
              refine eff_made rfl (by simp [go_sem]; exact ⟨rfl, rfl⟩) bI ?_
              try simp only [List.nil_append, List.cons_append, Act.put, List.setIfInBounds_toArray, List.set_cons_succ, List.set_cons_zero]
              refine st_branch [11] (by kernel_rfl) (branch_cons (by simp only [List.getElem?_toArray, List.getElem?_cons_succ, List.getElem?_cons_zero]; rfl) ?_ branch_nil)
              have hs6 := hb6.size
              simp only [World.size_drew] at hs6
              have hYY := AtF.new_at (w := w6) rfl 31 [.int .i64 0, .int .i64 0, .int .i64 0, .int .i64 0, .slice none 0 0, .slice none 0 0, .slice none 0 0, .int .i64 0]
              have hbn : Bel w6 (w6.alloc (.cells [.int .i64 0, .int .i64 0, .int .i64 0, .int .i64 0, .slice none 0 0, .slice none 0 0, .slice none 0 0, .int .i64 0].toArray 31)) := bI
              have hBW : Bel W6 (w6.alloc (.cells [.int .i64 0, .int .i64 0, .int .i64 0, .int .i64 0, .slice none 0 0, .slice none 0 0, .slice none 0 0, .int .i64 0].toArray 31)) := Bel.trans (Bel.trans (Bel.drew (Bel.refl W6)) hb6) hbn
              have hYl : W6.heap.size ≤ w6.heap.size := by omega
              have hF2 := ElR.offRow (hE6.newOff (Nat.le_refl _)) [.int .i64 E'.knd, .int .i64 E'.rdE, .int .i64 E'.wrE, .int .i64 E'.vt, .slice A7 E'.fl.length c7, .slice A8 E'.bk.length c8, .slice A9 L3.length c9', .int .i64 E'.hd] (i := 0) (hE6.bel hbn)
              have hOX : ∀ j, (j = X ∨ j = X + 1 ∨ u16.ownBlock = some j) → Off j (.slice A7 E'.fl.length c7) (.slice A8 E'.bk.length c8) (.slice A9 L3.length c9') L3 := fun j hj => hO6 j (by simp only [World.size_drew]; exact HLT.out j hj) (HO1.out j hj) (HOM.out j (.inl hj))
              simp only [List.toArray] at hYY hF2 hBW
              clear hbn hs6
              have one8 : ∀ u ∈ ([.int .i64 E'.knd, .int .i64 E'.rdE, .int .i64 E'.wrE, .int .i64 E'.vt, .slice A7 E'.fl.length c7, .slice A8 E'.bk.length c8, .slice A9 L3.length c9', .int .i64 E'.hd] : List Value), u.oneCell' = true := fun u hu => by
                simp only [List.mem_cons, List.not_mem_nil, or_false] at hu
                rcases hu with rfl | rfl | rfl | rfl | rfl | rfl | rfl | rfl <;> rfl
              have hi8 : (Tryz.prog.info? 31).map (·.size) = some 8 := by kernel_rfl
              have hF1 := hYY.setRow [.int .i64 E'.knd, .int .i64 E'.rdE, .int .i64 E'.wrE, .int .i64 E'.vt, .slice A7 E'.fl.length c7, .slice A8 E'.bk.length c8, .slice A9 L3.length c9', .int .i64 E'.hd] rfl
              have hF3 := Bel.setRow (B := w6.heap.size) (i := 0) [.int .i64 E'.knd, .int .i64 E'.rdE, .int .i64 E'.wrE, .int .i64 E'.vt, .slice A7 E'.fl.length c7, .slice A8 E'.bk.length c8, .slice A9 L3.length c9', .int .i64 E'.hd] hBW hYl
              have HFF := Lib.hid (And.intro hF1 (And.intro hF2 hF3))
              have HYL := Lib.hid hYl
              with_reducible refine eff_done (w' := setRow (w6.alloc (.cells #[.int .i64 0, .int .i64 0, .int .i64 0, .int .i64 0, .slice none 0 0, .slice none 0 0, .slice none 0 0, .int .i64 0] 31)) (w6.heap.size) 0 [.int .i64 E'.knd, .int .i64 E'.rdE, .int .i64 E'.wrE, .int .i64 E'.vt, .slice A7 E'.fl.length c7, .slice A8 E'.bk.length c8, .slice A9 L3.length c9', .int .i64 E'.hd]) ?_ ?_ ?_ ?_
              · rfl
              · exact exec_store_at (vs := [.int .i64 E'.knd, .int .i64 E'.rdE, .int .i64 E'.wrE, .int .i64 E'.vt, .slice A7 E'.fl.length c7, .slice A8 E'.bk.length c8, .slice A9 L3.length c9', .int .i64 E'.hd]) 31 _ _ rfl rfl rfl hYY rfl one8 hi8
              · exact hF3
              try simp only [List.nil_append, List.cons_append, Act.put, List.setIfInBounds_toArray, List.set_cons_succ, List.set_cons_zero]
              clear hF1 hF2 hF3 hYY hBW hYl one8 hi8
              generalize setRow (w6.alloc (.cells #[.int .i64 0, .int .i64 0, .int .i64 0, .int .i64 0, .slice none 0 0, .slice none 0 0, .slice none 0 0, .int .i64 0] 31)) (w6.heap.size) 0 [.int .i64 E'.knd, .int .i64 E'.rdE, .int .i64 E'.wrE, .int .i64 E'.vt, .slice A7 E'.fl.length c7, .slice A8 E'.bk.length c8, .slice A9 L3.length c9', .int .i64 E'.hd] = WF at HFF ⊢
              refine st_end (by kernel_rfl) ?_
              simp only [List.drop_succ_cons, List.drop_zero, List.drop_nil]
              obtain ⟨x1, x2, x3⟩ := HFF.out
              have HL6 := Lib.hid hL6
              clear hL6
              go_wp2_with fail
              go_meet
              exact ⟨_, _, _, _, L3, rfl, rfl, x1, x2, HL6.out, hOX, x3, HYL.out⟩
            · skip
              refine eff_made rfl (by simp [go_sem]; exact ⟨rfl, rfl⟩) bI ?_
              try simp only [List.nil_append, List.cons_append, Act.put, List.setIfInBounds_toArray, List.set_cons_succ, List.set_cons_zero]
              refine st_branch [6] (by kernel_rfl) (branch_cons (by simp only [List.getElem?_toArray, List.getElem?_cons_succ, List.getElem?_cons_zero]; rfl) ?_ branch_nil)
              refine eff_call 8 rfl (by simp [go_sem]; rfl) bI ?_
              refine (HA1.out _ bI).mono ?_; rintro e w6 ⟨fl', bu', en', L3, rfl, hE6, hL6, hO6, hb6⟩
              obtain ⟨A7, c7, rfl, -, -⟩ := hE6.f.form
              obtain ⟨A8, c8, rfl, -, -⟩ := hE6.b.form
              obtain ⟨A9, c9', rfl, -, -⟩ := hE6.q.form
              refine ⟨_, rfl, hb6, ?_⟩
              try simp only [List.nil_append, List.cons_append, Act.put, List.setIfInBounds_toArray, List.set_cons_succ, List.set_cons_zero]
              with_reducible refine st_sel [7, 8, 9] (by kernel_rfl) (by kernel_rfl) ?_
              simp only [picked, List.getElem?_cons_succ, List.getElem?_cons_zero, Option.toList_some, List.nil_append, List.cons_append, List.append_nil]
              try simp only [Act.put, List.setIfInBounds_toArray, List.set_cons_succ, List.set_cons_zero]
              repeat (go_big_quiet_step (fail))
              with_reducible refine wpQuiet_nil ?_
              refine st_branch [11] (by kernel_rfl) (branch_cons (by simp only [List.getElem?_toArray, List.getElem?_cons_succ, List.getElem?_cons_zero]; rfl) ?_ branch_nil)
              have hs6 := hb6.size
              simp only [World.size_drew, World.size_alloc] at hs6
              have hYY := (AtF.new_at (w := W6.drew) (g := W6.heap.size) (by simp) 31 [.int .i64 0, .int .i64 0, .int .i64 0, .int .i64 0, .slice none 0 0, .slice none 0 0, .slice none 0 0, .int .i64 0]).bel hb6
              have hBW : Bel W6 w6 := (Bel.drew (Bel.refl W6)).trans (((Bel.refl W6.drew).alloc _).trans hb6)
              have hYl : W6.heap.size ≤ W6.heap.size := Nat.le_refl _
              have hF2 := ElR.offRow (i := 0) (hO6 W6.heap.size (by simp) (HNW.out _ (Nat.le_refl _)) (HOM.out _ (.inr hle0))) [.int .i64 E'.knd, .int .i64 E'.rdE, .int .i64 E'.wrE, .int .i64 E'.vt, .slice A7 E'.fl.length c7, .slice A8 E'.bk.length c8, .slice A9 L3.length c9', .int .i64 E'.hd] hE6
              have hOX : ∀ j, (j = X ∨ j = X + 1 ∨ u16.ownBlock = some j) → Off j (.slice A7 E'.fl.length c7) (.slice A8 E'.bk.length c8) (.slice A9 L3.length c9') L3 := fun j hj => hO6 j (by have := HLT.out j hj; simp only [World.size_drew, World.size_alloc]; omega) (HO1.out j hj) (HOM.out j (.inl hj))
              clear hs6
              have one8 : ∀ u ∈ ([.int .i64 E'.knd, .int .i64 E'.rdE, .int .i64 E'.wrE, .int .i64 E'.vt, .slice A7 E'.fl.length c7, .slice A8 E'.bk.length c8, .slice A9 L3.length c9', .int .i64 E'.hd] : List Value), u.oneCell' = true := fun u hu => by
                simp only [List.mem_cons, List.not_mem_nil, or_false] at hu
                rcases hu with rfl | rfl | rfl | rfl | rfl | rfl | rfl | rfl <;> rfl
              have hi8 : (Tryz.prog.info? 31).map (·.size) = some 8 := by kernel_rfl
              have hF1 := hYY.setRow [.int .i64 E'.knd, .int .i64 E'.rdE, .int .i64 E'.wrE, .int .i64 E'.vt, .slice A7 E'.fl.length c7, .slice A8 E'.bk.length c8, .slice A9 L3.length c9', .int .i64 E'.hd] rfl
              have hF3 := Bel.setRow (B := W6.heap.size) (i := 0) [.int .i64 E'.knd, .int .i64 E'.rdE, .int .i64 E'.wrE, .int .i64 E'.vt, .slice A7 E'.fl.length c7, .slice A8 E'.bk.length c8, .slice A9 L3.length c9', .int .i64 E'.hd] hBW hYl
              have HFF := Lib.hid (And.intro hF1 (And.intro hF2 hF3))
              have HYL := Lib.hid hYl
              with_reducible refine eff_done (w' := setRow (w6) (W6.heap.size) 0 [.int .i64 E'.knd, .int .i64 E'.rdE, .int .i64 E'.wrE, .int .i64 E'.vt, .slice A7 E'.fl.length c7, .slice A8 E'.bk.length c8, .slice A9 L3.length c9', .int .i64 E'.hd]) ?_ ?_ ?_ ?_
              · rfl
              · exact exec_store_at (vs := [.int .i64 E'.knd, .int .i64 E'.rdE, .int .i64 E'.wrE, .int .i64 E'.vt, .slice A7 E'.fl.length c7, .slice A8 E'.bk.length c8, .slice A9 L3.length c9', .int .i64 E'.hd]) 31 _ _ rfl rfl rfl hYY rfl one8 hi8
              · exact hF3
              try simp only [List.nil_append, List.cons_append, Act.put, List.setIfInBounds_toArray, List.set_cons_succ, List.set_cons_zero]
              clear hF1 hF2 hF3 hYY hBW hYl one8 hi8
              generalize setRow (w6) (W6.heap.size) 0 [.int .i64 E'.knd, .int .i64 E'.rdE, .int .i64 E'.wrE, .int .i64 E'.vt, .slice A7 E'.fl.length c7, .slice A8 E'.bk.length c8, .slice A9 L3.length c9', .int .i64 E'.hd] = WF at HFF ⊢
              refine st_end (by kernel_rfl) ?_
              simp only [List.drop_succ_cons, List.drop_zero, List.drop_nil]
              obtain ⟨x1, x2, x3⟩ := HFF.out
              have HL6 := Lib.hid hL6
              clear hL6
              go_wp2_with fail
              go_meet
              exact ⟨_, _, _, _, L3, rfl, rfl, x1, x2, HL6.out, hOX, x3, HYL.out⟩
          case rest =>
            obtain ⟨Y1, fl5, bu5, en5, L5, rfl, rfl, hY1, hR5, hL5, hO5, hb5, hy1⟩ := hcut
            obtain ⟨W7, rfl⟩ : ∃ X, X = wc := ⟨_, rfl⟩
            have HRS7 := Lib.hid (HRS.out.keep hb5)
            have HA3 := Lib.hid (fun W (hb : Bel W7 W) => HA2.out W (hb5.trans hb))
            have HLT7 : Hid (∀ j, (j = X ∨ j = X + 1 ∨ u16.ownBlock = some j) → j < W7.heap.size) := fun j hj => Nat.lt_of_lt_of_le (HLT.out j hj) hb5.size
            have hle7 := hb5.size
            have hrow7 := hrow.bel hb5 gl
            have HNW7 := Lib.hid (fun N (hN : W7.heap.size ≤ N) => HRS7.out.r2.newOff hN)
            have HH5 := Lib.hid (And.intro hY1 (And.intro hR5 (And.intro hL5 (And.intro hO5 hb5))))
            clear hY1 hR5 hL5 hO5 hb5 HA1 HA2 HNW hrow HLT HO1
            go_upto_region 13 with fail
            go_cut [22, 23] (fun xv kv wx => ∃ (Y : Nat) (fl' bu' en' : Value) (L3 : List QM), xv = .pointer (some ⟨Y, 0, none⟩) ∧ kv = .bool b' ∧ AtF wx Y [.int .i64 E'.knd, .int .i64 E'.rdE, .int .i64 E'.wrE, .int .i64 E'.vt, fl', bu', en', .int .i64 E'.hd] ∧ ElR wx fl' bu' en' E'.fl E'.bk L3 ∧ L3.map QM.qu = E'.en ∧ (∀ j, (j = X ∨ j = X + 1 ∨ u16.ownBlock = some j) → Off j fl' bu' en' L3) ∧ Bel W7 wx ∧ W7.heap.size ≤ Y)
            case first =>
              have hX := HRS7.out.x2
              have hXL := HRS7.out.xl
              have hle0 : W6.heap.size ≤ W7.heap.size := hle7
              obtain ⟨⟨i2, t2, k2, s2, n2, dd2, f2, a2, l2, c3', m2⟩, ms2⟩ := y
              simp only at hrow7 HA3
              clear HLB HR hy
              have gl7 : g < W7.heap.size := by omega
              have k0 := (hX).1.2 0 _ rfl
              have k1 := (hX).1.2 1 _ rfl
              have k2 := (hX).1.2 2 _ rfl
              have k3 := (hX).1.2 3 _ rfl
              have k4 := (hX).1.2 4 _ rfl
              have k5 := (hX).1.2 5 _ rfl
              have k6 := (hX).1.2 6 _ rfl
              have k7 := (hX).1.2 7 _ rfl
              have r0 := fun d os => cell_regrown k0 d os
              have r1 := fun d os => cell_regrown k1 d os
              have r2 := fun d os => cell_regrown k2 d os
              have r3 := fun d os => cell_regrown k3 d os
              have r4 := fun d os => cell_regrown k4 d os
              have r5 := fun d os => cell_regrown k5 d os
              have r6 := fun d os => cell_regrown k6 d os
              have r7 := fun d os => cell_regrown k7 d os
              have kl := hX.1.1
              have l0 := hXL.1.2 0 _ rfl
              have l1 := hXL.1.2 1 _ rfl
              have rl0 := fun d os => cell_regrown l0 d os
              have rl1 := fun d os => cell_regrown l1 d os
              have ll := hXL.1.1
              have b0 := (hrow7).cell 0 rfl
              have b1 := (hrow7).cell 1 rfl
              have b2 := (hrow7).cell 2 rfl
              have b3 := (hrow7).cell 3 rfl
              have b4 := (hrow7).cell 4 rfl
              have b5 := (hrow7).cell 5 rfl
              have b6 := (hrow7).cell 6 rfl
              have b7 := (hrow7).cell 7 rfl
              have b8 := (hrow7).cell 8 rfl
              rw [Nat.add_zero] at b0
              have q0 := fun d os => cell_regrown b0 d os
              have q1 := fun d os => cell_regrown b1 d os
              have q2 := fun d os => cell_regrown b2 d os
              have q3 := fun d os => cell_regrown b3 d os
              have q4 := fun d os => cell_regrown b4 d os
              have q5 := fun d os => cell_regrown b5 d os
              have q6 := fun d os => cell_regrown b6 d os
              have q7 := fun d os => cell_regrown b7 d os
              have q8 := fun d os => cell_regrown b8 d os
              clear k0 k1 k2 k3 k4 k5 k6 k7 l0 l1 hrow7
              clear b0 b1 b2 b3 b4 b5 b6 b7 b8
              refine wp_region_st [6, 10, 11] 12 (by kernel_rfl) (by kernel_rfl) ?_
              with_reducible refine st_sel [0, 1, 2, 3, 4, 5] (by kernel_rfl) (by kernel_rfl) ?_
              simp only [picked, List.getElem?_cons_succ, List.getElem?_cons_zero, Option.toList_some, List.nil_append, List.cons_append, List.append_nil]
              try simp only [Act.put, List.setIfInBounds_toArray, List.set_cons_succ, List.set_cons_zero]
              repeat (go_big_quiet_step (fail))
              with_reducible refine wpQuiet_nil ?_
              refine st_branch [6, 10] (by kernel_rfl) (branch_cons (by simp only [List.getElem?_toArray, List.getElem?_cons_succ, List.getElem?_cons_zero]; rfl) ?_ (branch_cons (by simp only [List.getElem?_toArray, List.getElem?_cons_succ, List.getElem?_cons_zero]; rfl) ?_ branch_nil))
              · skip
                refine eff_call 9 rfl (by simp [go_sem]; rfl) bI ?_
                refine (HA3.out _ bI).mono ?_; rintro e w6 ⟨fl', bu', en', L3, rfl, hE6, hL6, hO6, hb6⟩
                obtain ⟨A7, c7, rfl, -, -⟩ := hE6.f.form
                obtain ⟨A8, c8, rfl, -, -⟩ := hE6.b.form
                obtain ⟨A9, c9', rfl, -, -⟩ := hE6.q.form
                refine ⟨_, rfl, hb6, ?_⟩
                try simp only [List.nil_append, List.cons_append, Act.put, List.setIfInBounds_toArray, List.set_cons_succ, List.set_cons_zero]
                with_reducible refine st_sel [7, 8, 9] (by kernel_rfl) (by kernel_rfl) ?_
                simp only [picked, List.getElem?_cons_succ, List.getElem?_cons_zero, Option.toList_some, List.nil_append, List.cons_append, List.append_nil]
                try simp only [Act.put, List.setIfInBounds_toArray, List.set_cons_succ, List.set_cons_zero]
                repeat (go_big_quiet_step (fail))
                with_reducible refine wpQuiet_nil ?_
                refine st_branch [10] (by kernel_rfl) (branch_cons (by simp only [List.getElem?_toArray, List.getElem?_cons_succ, List.getElem?_cons_zero]; rfl) ?_ branch_nil)
                refine eff_made rfl (by simp [go_sem]; exact ⟨rfl, rfl⟩) bI ?_
                try simp only [List.nil_append, List.cons_append, Act.put, List.setIfInBounds_toArray, List.set_cons_succ, List.set_cons_zero]
                refine st_branch [11] (by kernel_rfl) (branch_cons (by simp only [List.getElem?_toArray, List.getElem?_cons_succ, List.getElem?_cons_zero]; rfl) ?_ branch_nil)
                have hs6 := hb6.size
                simp only [World.size_drew] at hs6
                have hYY := AtF.new_at (w := w6) rfl 31 [.int .i64 0, .int .i64 0, .int .i64 0, .int .i64 0, .slice none 0 0, .slice none 0 0, .slice none 0 0, .int .i64 0]
                have hbn : Bel w6 (w6.alloc (.cells [.int .i64 0, .int .i64 0, .int .i64 0, .int .i64 0, .slice none 0 0, .slice none 0 0, .slice none 0 0, .int .i64 0].toArray 31)) := bI
                have hBW : Bel W7 (w6.alloc (.cells [.int .i64 0, .int .i64 0, .int .i64 0, .int .i64 0, .slice none 0 0, .slice none 0 0, .slice none 0 0, .int .i64 0].toArray 31)) := Bel.trans (Bel.trans (Bel.drew (Bel.refl W7)) hb6) hbn
                have hYl : W7.heap.size ≤ w6.heap.size := by omega
                have hF2 := ElR.offRow (hE6.newOff (Nat.le_refl _)) [.int .i64 E'.knd, .int .i64 E'.rdE, .int .i64 E'.wrE, .int .i64 E'.vt, .slice A7 E'.fl.length c7, .slice A8 E'.bk.length c8, .slice A9 L3.length c9', .int .i64 E'.hd] (i := 0) (hE6.bel hbn)
                have hOX : ∀ j, (j = X ∨ j = X + 1 ∨ u16.ownBlock = some j) → Off j (.slice A7 E'.fl.length c7) (.slice A8 E'.bk.length c8) (.slice A9 L3.length c9') L3 := fun j hj => hO6 j (by simp only [World.size_drew]; exact HLT7.out j hj) (HO2.out j hj) (HOM.out j (.inl hj))
                simp only [List.toArray] at hYY hF2 hBW
                clear hbn hs6
                have one8 : ∀ u ∈ ([.int .i64 E'.knd, .int .i64 E'.rdE, .int .i64 E'.wrE, .int .i64 E'.vt, .slice A7 E'.fl.length c7, .slice A8 E'.bk.length c8, .slice A9 L3.length c9', .int .i64 E'.hd] : List Value), u.oneCell' = true := fun u hu => by
                  simp only [List.mem_cons, List.not_mem_nil, or_false] at hu
                  rcases hu with rfl | rfl | rfl | rfl | rfl | rfl | rfl | rfl <;> rfl
                have hi8 : (Tryz.prog.info? 31).map (·.size) = some 8 := by kernel_rfl
                have hF1 := hYY.setRow [.int .i64 E'.knd, .int .i64 E'.rdE, .int .i64 E'.wrE, .int .i64 E'.vt, .slice A7 E'.fl.length c7, .slice A8 E'.bk.length c8, .slice A9 L3.length c9', .int .i64 E'.hd] rfl
                have hF3 := Bel.setRow (B := w6.heap.size) (i := 0) [.int .i64 E'.knd, .int .i64 E'.rdE, .int .i64 E'.wrE, .int .i64 E'.vt, .slice A7 E'.fl.length c7, .slice A8 E'.bk.length c8, .slice A9 L3.length c9', .int .i64 E'.hd] hBW hYl
                have HFF := Lib.hid (And.intro hF1 (And.intro hF2 hF3))
                have HYL := Lib.hid hYl
                with_reducible refine eff_done (w' := setRow (w6.alloc (.cells #[.int .i64 0, .int .i64 0, .int .i64 0, .int .i64 0, .slice none 0 0, .slice none 0 0, .slice none 0 0, .int .i64 0] 31)) (w6.heap.size) 0 [.int .i64 E'.knd, .int .i64 E'.rdE, .int .i64 E'.wrE, .int .i64 E'.vt, .slice A7 E'.fl.length c7, .slice A8 E'.bk.length c8, .slice A9 L3.length c9', .int .i64 E'.hd]) ?_ ?_ ?_ ?_
                · rfl
                · exact exec_store_at (vs := [.int .i64 E'.knd, .int .i64 E'.rdE, .int .i64 E'.wrE, .int .i64 E'.vt, .slice A7 E'.fl.length c7, .slice A8 E'.bk.length c8, .slice A9 L3.length c9', .int .i64 E'.hd]) 31 _ _ rfl rfl rfl hYY rfl one8 hi8
                · exact hF3
                try simp only [List.nil_append, List.cons_append, Act.put, List.setIfInBounds_toArray, List.set_cons_succ, List.set_cons_zero]
                clear hF1 hF2 hF3 hYY hBW hYl one8 hi8
                generalize setRow (w6.alloc (.cells #[.int .i64 0, .int .i64 0, .int .i64 0, .int .i64 0, .slice none 0 0, .slice none 0 0, .slice none 0 0, .int .i64 0] 31)) (w6.heap.size) 0 [.int .i64 E'.knd, .int .i64 E'.rdE, .int .i64 E'.wrE, .int .i64 E'.vt, .slice A7 E'.fl.length c7, .slice A8 E'.bk.length c8, .slice A9 L3.length c9', .int .i64 E'.hd] = WF at HFF ⊢
                refine st_end (by kernel_rfl) ?_
                simp only [List.drop_succ_cons, List.drop_zero, List.drop_nil]
                obtain ⟨x1, x2, x3⟩ := HFF.out
                have HL6 := Lib.hid hL6
                clear hL6
                go_wp2_with fail
                go_meet
                exact ⟨_, _, _, _, L3, rfl, rfl, x1, x2, HL6.out, hOX, x3, HYL.out⟩
              · skip
                refine eff_made rfl (by simp [go_sem]; exact ⟨rfl, rfl⟩) bI ?_
                try simp only [List.nil_append, List.cons_append, Act.put, List.setIfInBounds_toArray, List.set_cons_succ, List.set_cons_zero]
                refine st_branch [6] (by kernel_rfl) (branch_cons (by simp only [List.getElem?_toArray, List.getElem?_cons_succ, List.getElem?_cons_zero]; rfl) ?_ branch_nil)
                refine eff_call 9 rfl (by simp [go_sem]; rfl) bI ?_
                refine (HA3.out _ bI).mono ?_; rintro e w6 ⟨fl', bu', en', L3, rfl, hE6, hL6, hO6, hb6⟩
                obtain ⟨A7, c7, rfl, -, -⟩ := hE6.f.form
                obtain ⟨A8, c8, rfl, -, -⟩ := hE6.b.form
                obtain ⟨A9, c9', rfl, -, -⟩ := hE6.q.form
                refine ⟨_, rfl, hb6, ?_⟩
                try simp only [List.nil_append, List.cons_append, Act.put, List.setIfInBounds_toArray, List.set_cons_succ, List.set_cons_zero]
                with_reducible refine st_sel [7, 8, 9] (by kernel_rfl) (by kernel_rfl) ?_
                simp only [picked, List.getElem?_cons_succ, List.getElem?_cons_zero, Option.toList_some, List.nil_append, List.cons_append, List.append_nil]
                try simp only [Act.put, List.setIfInBounds_toArray, List.set_cons_succ, List.set_cons_zero]
                repeat (go_big_quiet_step (fail))
                with_reducible refine wpQuiet_nil ?_
                refine st_branch [11] (by kernel_rfl) (branch_cons (by simp only [List.getElem?_toArray, List.getElem?_cons_succ, List.getElem?_cons_zero]; rfl) ?_ branch_nil)
                have hs6 := hb6.size
                simp only [World.size_drew, World.size_alloc] at hs6
                have hYY := (AtF.new_at (w := W7.drew) (g := W7.heap.size) (by simp) 31 [.int .i64 0, .int .i64 0, .int .i64 0, .int .i64 0, .slice none 0 0, .slice none 0 0, .slice none 0 0, .int .i64 0]).bel hb6
                have hBW : Bel W7 w6 := (Bel.drew (Bel.refl W7)).trans (((Bel.refl W7.drew).alloc _).trans hb6)
                have hYl : W7.heap.size ≤ W7.heap.size := Nat.le_refl _
                have hF2 := ElR.offRow (i := 0) (hO6 W7.heap.size (by simp) (HNW7.out _ (Nat.le_refl _)) (HOM.out _ (.inr hle0))) [.int .i64 E'.knd, .int .i64 E'.rdE, .int .i64 E'.wrE, .int .i64 E'.vt, .slice A7 E'.fl.length c7, .slice A8 E'.bk.length c8, .slice A9 L3.length c9', .int .i64 E'.hd] hE6
                have hOX : ∀ j, (j = X ∨ j = X + 1 ∨ u16.ownBlock = some j) → Off j (.slice A7 E'.fl.length c7) (.slice A8 E'.bk.length c8) (.slice A9 L3.length c9') L3 := fun j hj => hO6 j (by have := HLT7.out j hj; simp only [World.size_drew, World.size_alloc]; omega) (HO2.out j hj) (HOM.out j (.inl hj))
                clear hs6
                have one8 : ∀ u ∈ ([.int .i64 E'.knd, .int .i64 E'.rdE, .int .i64 E'.wrE, .int .i64 E'.vt, .slice A7 E'.fl.length c7, .slice A8 E'.bk.length c8, .slice A9 L3.length c9', .int .i64 E'.hd] : List Value), u.oneCell' = true := fun u hu => by
                  simp only [List.mem_cons, List.not_mem_nil, or_false] at hu
                  rcases hu with rfl | rfl | rfl | rfl | rfl | rfl | rfl | rfl <;> rfl
                have hi8 : (Tryz.prog.info? 31).map (·.size) = some 8 := by kernel_rfl
                have hF1 := hYY.setRow [.int .i64 E'.knd, .int .i64 E'.rdE, .int .i64 E'.wrE, .int .i64 E'.vt, .slice A7 E'.fl.length c7, .slice A8 E'.bk.length c8, .slice A9 L3.length c9', .int .i64 E'.hd] rfl
                have hF3 := Bel.setRow (B := W7.heap.size) (i := 0) [.int .i64 E'.knd, .int .i64 E'.rdE, .int .i64 E'.wrE, .int .i64 E'.vt, .slice A7 E'.fl.length c7, .slice A8 E'.bk.length c8, .slice A9 L3.length c9', .int .i64 E'.hd] hBW hYl
                have HFF := Lib.hid (And.intro hF1 (And.intro hF2 hF3))
                have HYL := Lib.hid hYl
                with_reducible refine eff_done (w' := setRow (w6) (W7.heap.size) 0 [.int .i64 E'.knd, .int .i64 E'.rdE, .int .i64 E'.wrE, .int .i64 E'.vt, .slice A7 E'.fl.length c7, .slice A8 E'.bk.length c8, .slice A9 L3.length c9', .int .i64 E'.hd]) ?_ ?_ ?_ ?_
                · rfl
                · exact exec_store_at (vs := [.int .i64 E'.knd, .int .i64 E'.rdE, .int .i64 E'.wrE, .int .i64 E'.vt, .slice A7 E'.fl.length c7, .slice A8 E'.bk.length c8, .slice A9 L3.length c9', .int .i64 E'.hd]) 31 _ _ rfl rfl rfl hYY rfl one8 hi8
                · exact hF3
                try simp only [List.nil_append, List.cons_append, Act.put, List.setIfInBounds_toArray, List.set_cons_succ, List.set_cons_zero]
                clear hF1 hF2 hF3 hYY hBW hYl one8 hi8
                generalize setRow (w6) (W7.heap.size) 0 [.int .i64 E'.knd, .int .i64 E'.rdE, .int .i64 E'.wrE, .int .i64 E'.vt, .slice A7 E'.fl.length c7, .slice A8 E'.bk.length c8, .slice A9 L3.length c9', .int .i64 E'.hd] = WF at HFF ⊢
                refine st_end (by kernel_rfl) ?_
                simp only [List.drop_succ_cons, List.drop_zero, List.drop_nil]
                obtain ⟨x1, x2, x3⟩ := HFF.out
                have HL6 := Lib.hid hL6
                clear hL6
                go_wp2_with fail
                go_meet
                exact ⟨_, _, _, _, L3, rfl, rfl, x1, x2, HL6.out, hOX, x3, HYL.out⟩
            case rest =>
              obtain ⟨hY1, hR5, hL5, hO5, hb5⟩ := HH5.out
              obtain ⟨Y2, fl6, bu6, en6, L6, rfl, rfl, hY2, hR6, hL6, hO6, hb6, hy2⟩ := hcut
              obtain ⟨W8, rfl⟩ : ∃ X, X = wc := ⟨_, rfl⟩
              clear HA3 HLT7 HNW7 HH5 hrow7 HO2 HOM HLB hy
              have hsz := HRS.out.sz
              have HRS8 := Lib.hid (HRS7.out.keep hb6)
              have hY1b := hY1.bel hb6
              obtain ⟨A4, c4, rfl, -, -⟩ := hR5.f.form
              obtain ⟨A5, c5, rfl, -, -⟩ := hR5.b.form
              obtain ⟨A6, c6, rfl, -, -⟩ := hR5.q.form
              obtain ⟨B4, d4, rfl, -, -⟩ := hR6.f.form
              obtain ⟨B5, d5, rfl, -, -⟩ := hR6.b.form
              obtain ⟨B6, d6, rfl, -, -⟩ := hR6.q.form
              have HSM := Lib.hid (fun W (hb : Bel W8 W) => same_S E' _ _ _ _ _ _ L5 L6 W ((hR5.bel hb6).bel hb) hL5 (hR6.bel hb) hL6 (HOK2.out.a.oke (by omega)))
              have HH6 := Lib.hid (And.intro hR5 (And.intro hL5 (And.intro hO5 (And.intro hR6 (And.intro hL6 (And.intro hO6 (And.intro hb6 hb5)))))))
              clear hR5 hL5 hO5 hR6 hL6 hO6 hb5
              have HYY := Lib.hid (And.intro hY1b hY2)
              have x0 := (hY1b).1.2 0 _ rfl
              have x1 := (hY1b).1.2 1 _ rfl
              have x2 := (hY1b).1.2 2 _ rfl
              have x3 := (hY1b).1.2 3 _ rfl
              have x4 := (hY1b).1.2 4 _ rfl
              have x5 := (hY1b).1.2 5 _ rfl
              have x6 := (hY1b).1.2 6 _ rfl
              have x7 := (hY1b).1.2 7 _ rfl
              have xl := hY1b.1.1
              have v0 := (hY2).1.2 0 _ rfl
              have v1 := (hY2).1.2 1 _ rfl
              have v2 := (hY2).1.2 2 _ rfl
              have v3 := (hY2).1.2 3 _ rfl
              have v4 := (hY2).1.2 4 _ rfl
              have v5 := (hY2).1.2 5 _ rfl
              have v6 := (hY2).1.2 6 _ rfl
              have v7 := (hY2).1.2 7 _ rfl
              have vl := hY2.1.1
              have bb : (b' == b') = true := by cases b' <;> rfl
              clear hY1 hY1b hY2 hb6
              go_wp2_with fail
              refine (HSM.out _ (Bel.refl _)).mono ?_; rintro e W9 ⟨rfl, hb9⟩
              clear x0 x1 x2 x3 x4 x5 x6 x7 xl v0 v1 v2 v3 v4 v5 v6 v7 vl bb HSM
              go_wp2_with fail
              obtain ⟨hR5, hL5, hO5, hR6, hL6, hO6, hb6, hb5⟩ := HH6.out
              have HRS9 := HRS8.out.keep hb9
              have hY1c := HYY.out.1.bel hb9
              have hY2c := HYY.out.2.bel hb9
              have hR5c := hR5.bel (hb6.trans hb9)
              have hR6c := hR6.bel hb9
              clear hR5 hR6 hb5 hb6 hb9 HH6 HYY HRS8 HRS7 HRS
              have one5 : ∀ u ∈ ([.int .i64 E'.knd, .int .i64 E'.rdE, .int .i64 E'.wrE, .int .i64 E'.vt, .slice A4 E'.fl.length c4, .slice A5 E'.bk.length c5, .slice A6 L5.length c6, .int .i64 E'.hd] : List Value), u.oneCell' = true := fun u hu => by
                simp only [List.mem_cons, List.not_mem_nil, or_false] at hu
                rcases hu with rfl | rfl | rfl | rfl | rfl | rfl | rfl | rfl <;> rfl
              have one6 : ∀ u ∈ ([.int .i64 E'.knd, .int .i64 E'.rdE, .int .i64 E'.wrE, .int .i64 E'.vt, .slice B4 E'.fl.length d4, .slice B5 E'.bk.length d5, .slice B6 L6.length d6, .int .i64 E'.hd] : List Value), u.oneCell' = true := fun u hu => by
                simp only [List.mem_cons, List.not_mem_nil, or_false] at hu
                rcases hu with rfl | rfl | rfl | rfl | rfl | rfl | rfl | rfl <;> rfl
              have hi8 : (Tryz.prog.info? 31).map (·.size) = some 8 := by kernel_rfl
              let RQS : World → Prop := fun W' => AtF W' Y1 [.int .i64 E'.knd, .int .i64 E'.rdE, .int .i64 E'.wrE, .int .i64 E'.vt, .slice A4 E'.fl.length c4, .slice A5 E'.bk.length c5, .slice A6 L5.length c6, .int .i64 E'.hd] ∧ AtF W' Y2 [.int .i64 E'.knd, .int .i64 E'.rdE, .int .i64 E'.wrE, .int .i64 E'.vt, .slice B4 E'.fl.length d4, .slice B5 E'.bk.length d5, .slice B6 L6.length d6, .int .i64 E'.hd]
              haveI nnS : Nonempty (InS RQS) := ⟨⟨W9, hY1c, hY2c⟩⟩
              have ra0 := fun (p : InS RQS) => p.h.1.1.2 0 _ rfl
              have ra1 := fun (p : InS RQS) => p.h.1.1.2 1 _ rfl
              have ra2 := fun (p : InS RQS) => p.h.1.1.2 2 _ rfl
              have ra3 := fun (p : InS RQS) => p.h.1.1.2 3 _ rfl
              have ra4 := fun (p : InS RQS) => p.h.1.1.2 4 _ rfl
              have ra5 := fun (p : InS RQS) => p.h.1.1.2 5 _ rfl
              have ra6 := fun (p : InS RQS) => p.h.1.1.2 6 _ rfl
              have ra7 := fun (p : InS RQS) => p.h.1.1.2 7 _ rfl
              have rb0 := fun (p : InS RQS) => p.h.2.1.2 0 _ rfl
              have rb1 := fun (p : InS RQS) => p.h.2.1.2 1 _ rfl
              have rb2 := fun (p : InS RQS) => p.h.2.1.2 2 _ rfl
              have rb3 := fun (p : InS RQS) => p.h.2.1.2 3 _ rfl
              have rb4 := fun (p : InS RQS) => p.h.2.1.2 4 _ rfl
              have rb5 := fun (p : InS RQS) => p.h.2.1.2 5 _ rfl
              have rb6 := fun (p : InS RQS) => p.h.2.1.2 6 _ rfl
              have rb7 := fun (p : InS RQS) => p.h.2.1.2 7 _ rfl
              refine wp_region_sts RQS [4, 5] 6 (by kernel_rfl) (by kernel_rfl) ?hS0 ?_
              case hS0 => exact ⟨hY1c.drew, hY2c.drew⟩
              with_reducible refine st_sel [0, 1, 2, 3] (by kernel_rfl) (by kernel_rfl) ?_
              simp only [picked, List.getElem?_cons_succ, List.getElem?_cons_zero, Option.toList_some, List.nil_append, List.cons_append, List.append_nil]
              try simp only [Act.put, List.setIfInBounds_toArray, List.set_cons_succ, List.set_cons_zero]
              repeat (go_big_quiet_step (fail))
              with_reducible refine wpQuiet_nil ?_
              refine st_branch [4] (by kernel_rfl) (branch_cons (by simp only [List.getElem?_toArray, List.getElem?_cons_succ, List.getElem?_cons_zero]; rfl) ?_ branch_nil)
              refine eff_done_s rfl (exec_store_at (vs := [.int .i64 E'.knd, .int .i64 E'.rdE, .int .i64 E'.wrE, .int .i64 E'.vt, .slice A4 E'.fl.length c4, .slice A5 E'.bk.length c5, .slice A6 L5.length c6, .int .i64 E'.hd]) 31 (.tmp 11) (.tmp 106) rfl rfl rfl HRS9.x.drew rfl one5 hi8) ?hS1a ?_
              case hS1a => exact ⟨(hY1c.drew).setRow_other (B := X) (i := 0) [.int .i64 E'.knd, .int .i64 E'.rdE, .int .i64 E'.wrE, .int .i64 E'.vt, .slice A4 E'.fl.length c4, .slice A5 E'.bk.length c5, .slice A6 L5.length c6, .int .i64 E'.hd] (by omega), (hY2c.drew).setRow_other (B := X) (i := 0) [.int .i64 E'.knd, .int .i64 E'.rdE, .int .i64 E'.wrE, .int .i64 E'.vt, .slice A4 E'.fl.length c4, .slice A5 E'.bk.length c5, .slice A6 L5.length c6, .int .i64 E'.hd] (by omega)⟩
              try simp only [List.nil_append, List.cons_append, Act.put, List.setIfInBounds_toArray, List.set_cons_succ, List.set_cons_zero]
              refine st_branch [5] (by kernel_rfl) (branch_cons (by simp only [List.getElem?_toArray, List.getElem?_cons_succ, List.getElem?_cons_zero]; rfl) ?_ branch_nil)
              have hU8 := hY1c.drew.setRow_other (B := X) (i := 0) [.int .i64 E'.knd, .int .i64 E'.rdE, .int .i64 E'.wrE, .int .i64 E'.vt, .slice A4 E'.fl.length c4, .slice A5 E'.bk.length c5, .slice A6 L5.length c6, .int .i64 E'.hd] (by omega)
              have hV8 := hY2c.drew.setRow_other (B := X) (i := 0) [.int .i64 E'.knd, .int .i64 E'.rdE, .int .i64 E'.wrE, .int .i64 E'.vt, .slice A4 E'.fl.length c4, .slice A5 E'.bk.length c5, .slice A6 L5.length c6, .int .i64 E'.hd] (by omega)
              have hZ8 := HRS9.x2.drew.setRow_other (B := X) (i := 0) [.int .i64 E'.knd, .int .i64 E'.rdE, .int .i64 E'.wrE, .int .i64 E'.vt, .slice A4 E'.fl.length c4, .slice A5 E'.bk.length c5, .slice A6 L5.length c6, .int .i64 E'.hd] (by omega)
              have hFS := RS.store (HRS9.keep (Bel.drew (Bel.refl W9))) (hR5c.bel (Bel.drew (Bel.refl W9))) hL5 hO5 (hR6c.bel (Bel.drew (Bel.refl W9))) hL6 hO6 (R5 := [.int .i64 E'.knd, .int .i64 E'.rdE, .int .i64 E'.wrE, .int .i64 E'.vt, .slice A4 E'.fl.length c4, .slice A5 E'.bk.length c5, .slice A6 L5.length c6, .int .i64 E'.hd]) (R6 := [.int .i64 E'.knd, .int .i64 E'.rdE, .int .i64 E'.wrE, .int .i64 E'.vt, .slice B4 E'.fl.length d4, .slice B5 E'.bk.length d5, .slice B6 L6.length d6, .int .i64 E'.hd]) rfl rfl
              generalize setRow W9.drew X 0 [.int .i64 E'.knd, .int .i64 E'.rdE, .int .i64 E'.wrE, .int .i64 E'.vt, .slice A4 E'.fl.length c4, .slice A5 E'.bk.length c5, .slice A6 L5.length c6, .int .i64 E'.hd] = W10 at *
              with_reducible refine eff_done_s (w' := setRow W10 (X + 1) 0 [.int .i64 E'.knd, .int .i64 E'.rdE, .int .i64 E'.wrE, .int .i64 E'.vt, .slice B4 E'.fl.length d4, .slice B5 E'.bk.length d5, .slice B6 L6.length d6, .int .i64 E'.hd]) ?hq1a5 ?hq2a5 ?hS1a5 ?hq3a5
              case hq1a5 => rfl
              case hq2a5 => exact exec_store_at (vs := [.int .i64 E'.knd, .int .i64 E'.rdE, .int .i64 E'.wrE, .int .i64 E'.vt, .slice B4 E'.fl.length d4, .slice B5 E'.bk.length d5, .slice B6 L6.length d6, .int .i64 E'.hd]) 31 (.tmp 13) (.tmp 107) rfl rfl rfl hZ8 rfl one6 hi8
              case hS1a5 => exact ⟨hU8.setRow_other (B := X + 1) (i := 0) [.int .i64 E'.knd, .int .i64 E'.rdE, .int .i64 E'.wrE, .int .i64 E'.vt, .slice B4 E'.fl.length d4, .slice B5 E'.bk.length d5, .slice B6 L6.length d6, .int .i64 E'.hd] (by omega), hV8.setRow_other (B := X + 1) (i := 0) [.int .i64 E'.knd, .int .i64 E'.rdE, .int .i64 E'.wrE, .int .i64 E'.vt, .slice B4 E'.fl.length d4, .slice B5 E'.bk.length d5, .slice B6 L6.length d6, .int .i64 E'.hd] (by omega)⟩
              try simp only [List.nil_append, List.cons_append, Act.put, List.setIfInBounds_toArray, List.set_cons_succ, List.set_cons_zero]
              refine st_end (by kernel_rfl) ?_
              simp only [List.drop_succ_cons, List.drop_zero, List.drop_nil]
              have HFS := Lib.hid hFS
              clear hFS hU8 hV8 hZ8 HRS9 hR5c hR6c hL5 hL6 hO5 hO6 hY1c hY2c
              generalize setRow W10 (X + 1) 0 [.int .i64 E'.knd, .int .i64 E'.rdE, .int .i64 E'.wrE, .int .i64 E'.vt, .slice B4 E'.fl.length d4, .slice B5 E'.bk.length d5, .slice B6 L6.length d6, .int .i64 E'.hd] = W11 at *
              go_wp2
              go_roundw
              case rel => exact ⟨i + 1, k + 1, now2, E', _, _, _, L5, _, _, _, L6, B, by go_num, rfl, by go_num, by omega, by omega, hn1, by omega, by omega, p6, HOK2, HFS⟩
              case measure => simp [intOf]; omega
    · by_cases h1 : i < na
      · obtain rfl : i = 20 := by omega
        have hb := HRS.out.bel
        go_wp2_with fail
        refine (awake33_any _).mono ?_; rintro e w9 ⟨rfl, hb9⟩
        go_wp2
        go_ret
        exact ⟨rfl, hb.trans hb9⟩
      · obtain rfl : i = na := by omega
        have jk : decide ((i : Int) < (i : Int)) = false := by simp
        have hb := HRS.out.bel
        go_wp2_with fail
        refine (awake33_any _).mono ?_; rintro e w9 ⟨rfl, hb9⟩
        go_wp2
        go_ret
        exact ⟨rfl, hb.trans hb9⟩
end Go.Proofs.YtpgjbocjhconoaaGreat
