/- The walk of FairSmall. -/
import Derived.Test.YtacbljfpcchbbaaFairL
import Derived.Test.YtacbljfpcchbbaaFairH
namespace Go.Proofs.Ytacbljfpcchbbaa
open Go.RowKit
set_option linter.unusedSimpArgs false

theorem advB_ok {V t c : Int} {fs : List (Int × Int)} {st : Int → Int → Int} (h : fairOk V fs = true) : fairOk V (advB V fs t c st).1 = true := by
  unfold advB
  split
  · rename_i h1
    obtain ⟨_, t1, t2, _⟩ := h1
    split
    · rename_i h2
      obtain ⟨k, rfl⟩ : ∃ k : Nat, t = k := ⟨t.toNat, by omega⟩
      obtain ⟨⟨x, y⟩, hx⟩ : ∃ p, fs[k]? = some p := ⟨fs[k]'(by omega), List.getElem?_eq_getElem _⟩
      have e1 : fs.getD (k : Int).toNat (0, 0) = (x, y) := by rw [Int.toNat_natCast, List.getD_eq_getElem?_getD, hx]; rfl
      rw [e1] at h2 ⊢
      simp only [fairOk, Bool.and_eq_true, List.all_eq_true] at h ⊢
      refine ⟨⟨by simpa using h.1.1, h.1.2⟩, fun p hp => ?_⟩
      have hfl := flowOk_iff.1 (h.2 _ (List.mem_of_getElem? hx))
      rcases List.mem_or_eq_of_mem_set hp with hp | rfl
      · exact h.2 p hp
      · have h3 := timeB_iff.1 h2
        exact flowOk_iff.2 ⟨hfl.1, h3⟩
    · exact h
  · exact h
theorem serve_ok {V s : Int} {fs : List (Int × Int)} (h : fairOk V fs = true) : fairOk (if V < s ∧ s ≤ 1125899906842624 then s else V) fs = true := by
  split
  · rename_i h1
    have h2 := timeB_iff.1 (fairOk_time h)
    simp only [fairOk, Bool.and_eq_true] at h ⊢
    exact ⟨⟨h.1.1, timeB_iff.2 ⟨by omega, h1.2⟩⟩, h.2⟩
  · exact h

set_option maxRecDepth 100000 in
set_option maxHeartbeats 4000000 in
theorem fairSmall_walk (n : Int) (v : Value) (zs : List Int) (w : World) (_ : IsInt n) (hz : Ints w v zs) :
    Calls Try.prog 4 #[.int .i64 n, v] w fun e w' => e = .returned (.bool true) ∧ Bel w w' := by
  obtain ⟨hzi, A, cp, rfl, hcp, hmx, hr⟩ := hz
  unfold maxLen at hmx
  have HR := Lib.hid hr
  clear hr hzi
  obtain ⟨m, Hm⟩ : ∃ m, Hid (m = zs.length) := ⟨_, rfl⟩
  rw [← Hm.out] at hcp ⊢
  go_enter Try.func4, Try.ntmps4
  go_wp2_with fail
  refine (madeFair_any n _).mono ?_; rintro e w1 ⟨v1, rfl, hown1, hb1⟩
  obtain ⟨A1, c1, rfl⟩ := own_slice hown1
  have hA1 := AtF.new w1 25 [.int .i64 0, .slice A1 3 c1]
  have hR1 := (Rd.own hown1).alloc (.cells #[.int .i64 0, .slice A1 3 c1] 25)
  have hOK := madeF_ok n
  have hln : (madeF n).length = 3 := (madeF_fok n).1
  have HM : ∃ M, Hid (M = madeF n) := ⟨_, rfl⟩
  obtain ⟨M, HM⟩ := HM
  rw [← HM.out] at hR1 hOK hln
  have HO := Lib.hid hOK
  have HL := Lib.hid hln
  have hsz1 := hb1.size
  have hW1 : Bel w (w1.alloc (.cells #[.int .i64 0, .slice A1 3 c1] 25)) := hb1.alloc _
  clear hown1 hOK hln hb1
  go_wp2_with fail
  generalize w1.alloc (.cells #[.int .i64 0, .slice A1 3 c1] 25) = W1 at *
  generalize w1.heap.size = B at *
  go_loopw [6] (fun iv wr => ∃ (i : Nat) (V : Int) (fs : List (Int × Int)) (fv : Value), iv = .int .i64 i ∧ i ≤ m ∧ (i : Int) ≤ 12 ∧ AtF wr B [.int .i64 V, fv] ∧ Rd wr fv 2 3 (fcells fs) ∧ Hid (fairOk V fs = true) ∧ Hid (fs.length = 3) ∧ Bel w wr) (fun iv _ => 12 - (intOf iv).toNat)
  case atStart => exact ⟨0, 0, M, _, rfl, by omega, by omega, hA1, hR1, HO, HL, hW1⟩
  case round =>
    obtain ⟨i, V, fs, fv, rfl, p1, p2, hAr, hRr, HO, HL, hbr⟩ := hrel
    obtain ⟨Af, cpf, rfl, _, _⟩ := hRr.form
    clear hA1 hR1
    by_cases hlt : i < m
    · by_cases hlt2 : i < 12
      · obtain ⟨b, o, rfl, hlb, hcell⟩ := HR.out (by have := Hm.out; omega)
        have hiz : i < zs.length := by have := Hm.out; omega
        obtain ⟨x, Hx⟩ : ∃ x, Hid (x = zs[i]) := ⟨zs[i], rfl⟩
        have g0 : wr.cell? ⟨b, o + i, none⟩ = some (.int .i64 x) := by rw [hbr.cellAt _ _ hlb, hcell i hiz, Hx.out]
        have lk := World.block_lt_of_cell? _ _ g0
        clear hcell
        have s1 := rnd_lo x 4
        have s2 := rnd_hi x 4 (by omega)
        have s3 := rnd_lo (x / 4) 6
        have s4 := rnd_hi (x / 4) 6 (by omega)
        have s5 := rnd_lo (x / 32) 4
        have s6 := rnd_hi (x / 32) 4 (by omega)
        obtain ⟨t, Ht⟩ : ∃ t, Hid (t = rnd x 4) := ⟨_, rfl⟩
        obtain ⟨c, Hc⟩ : ∃ c, Hid (c = rnd (x / 4) 6) := ⟨_, rfl⟩
        obtain ⟨k, Hk⟩ : ∃ k, Hid (k = rnd (x / 32) 4) := ⟨_, rfl⟩
        rw [← Ht.out] at s1 s2
        rw [← Hc.out] at s3 s4
        rw [← Hk.out] at s5 s6
        have i1 : (i : Int) < (m : Int) := by omega
        have i2 : (i : Int) < 12 := by omega
        have i3 : (0 : Int) ≤ (i : Int) := by omega
        have a0 := hAr.1.2 0 _ rfl
        have a1 := hAr.1.2 1 _ rfl
        have af := hAr.2
        have al := hAr.1.1
        go_wp2_with fail
        have rg0 := fun d os => cell_regrown g0 d os
        refine wp_region_lex [4, 10] 13 (by kernel_rfl) (by kernel_rfl) ?_
        simp only [List.take_succ_cons, List.take_zero, List.drop_succ_cons, List.drop_zero]
        with_reducible refine lex_seg 4 _ _ _ _ (by kernel_rfl) ?_
        simp only [List.take_succ_cons, List.take_zero, List.drop_succ_cons, List.drop_zero]
        try simp only [Act.put, List.setIfInBounds_toArray, List.set_cons_succ, List.set_cons_zero]
        repeat (go_big_quiet_step (fail))
        with_reducible refine wpQuiet_nil ?_
        refine lex_call 12 rfl rfl (by simp [go_sem]; rfl) ?_
        refine (round_any x 4 _ (by omega)).mono ?_; rintro e w1 ⟨rfl, rfl⟩
        refine ⟨_, rfl, Bel.refl _, ?_⟩
        rw [← Ht.out]
        with_reducible refine lex_seg 5 _ _ _ _ (by kernel_rfl) ?_
        simp only [List.take_succ_cons, List.take_zero, List.drop_succ_cons, List.drop_zero]
        try simp only [Act.put, List.setIfInBounds_toArray, List.set_cons_succ, List.set_cons_zero]
        repeat (go_big_quiet_step (fail))
        with_reducible refine wpQuiet_nil ?_
        refine lex_call 12 rfl rfl (by simp [go_sem]; rfl) ?_
        refine (round_any (x / 4) 6 _ (by omega)).mono ?_; rintro e w2 ⟨rfl, rfl⟩
        refine ⟨_, rfl, Bel.refl _, ?_⟩
        rw [← Hc.out]
        with_reducible refine lex_seg 2 _ _ _ _ (by kernel_rfl) ?_
        simp only [List.take_succ_cons, List.take_zero, List.drop_succ_cons, List.drop_zero]
        try simp only [Act.put, List.setIfInBounds_toArray, List.set_cons_succ, List.set_cons_zero]
        repeat (go_big_quiet_step (fail))
        with_reducible refine wpQuiet_nil ?_
        with_reducible refine lex_nil ?_
        clear rg0
        go_wp2_with fail
        refine (round_any (x / 32) 4 _ (by omega)).mono ?_; rw [← Hk.out]; rintro e w9 ⟨rfl, rfl⟩
        have hA2 := ((hAr.alloc (.cells #[.int .i64 0, .slice none 0 0] 25)).alloc (.cells #[.int .i64 0, .slice none 0 0] 25)).drew
        have hG2 := ((AtF.new wr 25 [.int .i64 0, .slice none 0 0]).alloc (.cells #[.int .i64 0, .slice none 0 0] 25)).drew
        have hH2 := (AtF.new (wr.alloc (.cells #[.int .i64 0, .slice none 0 0] 25)) 25 [.int .i64 0, .slice none 0 0]).drew
        have hW2 : Bel wr ((wr.alloc (.cells #[.int .i64 0, .slice none 0 0] 25)).alloc (.cells #[.int .i64 0, .slice none 0 0] 25)).drew := (by repeat (first | (with_reducible exact Bel.refl _) | (with_reducible assumption) | (with_reducible refine Bel.drewN ?_ _) | (with_reducible refine Bel.drew ?_) | (with_reducible refine Bel.alloc ?_ _) | (with_reducible refine Bel.setNew ?_ ?_ _) | (with_reducible refine Bel.trans ?_ (by assumption)) | (focus (simp; done)) | (focus (simp; omega))))
        have hgs : B < wr.heap.size := hAr.1.1
        have hbs : w.heap.size ≤ B := hsz1
        have hgs2 : w.heap.size ≤ wr.heap.size := hbr.size
        simp only [World.size_alloc] at hH2
        generalize ((wr.alloc (.cells #[.int .i64 0, .slice none 0 0] 25)).alloc (.cells #[.int .i64 0, .slice none 0 0] 25)).drew = W at *
        have hR2 := hRr.bel hW2
        have hAfG : ∀ p : Nat, wr.heap.size ≤ p → (Value.slice Af 3 cpf).ownBlock ≠ some p := fun p hp e => by have := hRr.own_lt (by omega) e; omega
        have hb2 := hbr.trans hW2
        clear a0 a1 af al g0 lk hAr hRr hbr hW2 hsz1
        generalize wr.heap.size = G at *
        have a0 := hA2.1.2 0 _ rfl
        have a1 := hA2.1.2 1 _ rfl
        have af := hA2.2
        have al := hA2.1.1
        have b0 := hG2.1.2 0 _ rfl
        have b1 := hG2.1.2 1 _ rfl
        have bf := hG2.2
        have bl := hG2.1.1
        have d0 := hH2.1.2 0 _ rfl
        have d1 := hH2.1.2 1 _ rfl
        have df := hH2.2
        have dl := hH2.1.1
        have hBG : B ≠ G := by omega
        have hBH : B ≠ G + 1 := by omega
        have hGH : G ≠ G + 1 := by omega
        have hGB : G ≠ B := by omega
        have hHB : G + 1 ≠ B := by omega
        have hHG : G + 1 ≠ G := by omega
        by_cases k0 : k = 0
        · subst k0
          have HG1 := Lib.hid (fun w' h => fairGrow_any V t c fs (.slice Af 3 cpf) w' h (by rw [HL.out]; omega))
          have HG2 := Lib.hid (fun w' h => refGrow_any V t c fs (.slice Af 3 cpf) w' h (by rw [HL.out]; omega))
          rw [HL.out] at HG1 HG2
          have HO2 := Lib.hid (show fairOk V (growB V fs t c).1 = true from advB_ok HO.out)
          have HL2 := Lib.hid (show (growB V fs t c).1.length = 3 by rw [show (growB V fs t c).1.length = fs.length from advB_len ..]; exact HL.out)
          generalize growB V fs t c = z at HG1 HG2 HO2 HL2
          obtain ⟨z0, z1, z2⟩ := z
          simp only at HO2 HL2
          clear HO HL
          go_wp2_with fail
          refine (HG1.out _ hR2).mono ?_; rintro e w3 ⟨v3, rfl, hown3, hb3⟩
          obtain ⟨A3, c3, rfl⟩ := own_slice hown3
          have hA3 := ((hA2.bel hb3).other hBG 0 (.int .i64 V)).other hBG 1 (.slice A3 3 c3)
          have hG3 := ((hG2.bel hb3).set 0 (by simp) (.int .i64 V)).set 1 (by simp) (.slice A3 3 c3)
          have hH3 := ((hH2.bel hb3).other hHG 0 (.int .i64 V)).other hHG 1 (.slice A3 3 c3)
          have hR3 := ((hR2.bel hb3).far (p := ⟨G, 0, none⟩) (hAfG _ (by simp)) (.int .i64 V)).far (p := ⟨G, 1, none⟩) (hAfG _ (by simp)) (.slice A3 3 c3)
          have hS3 := ((Rd.own hown3).far (p := ⟨G, 0, none⟩) (own_ne hown3 (.inl bl)) (.int .i64 V)).far (p := ⟨G, 1, none⟩) (own_ne hown3 (.inl bl)) (.slice A3 3 c3)
          have hx3 : ∀ p : Nat, p = G + 1 → (Value.slice A3 3 c3).ownBlock ≠ some p := by rintro p rfl; exact own_ne hown3 (.inl dl)
          have hbw3 : Bel w ((w3.setCell ⟨G, 0, none⟩ (.int .i64 V)).setCell ⟨G, 1, none⟩ (.slice A3 3 c3)) := ((hb2.trans hb3).setNew hgs2 _).setNew hgs2 _
          have hA3o := hA2.bel hb3
          have hG3o := hG2.bel hb3
          have hH3o := hH2.bel hb3
          clear a0 a1 af al b0 b1 bf bl d0 d1 df dl
          have a0 := hA3o.1.2 0 _ rfl
          have a1 := hA3o.1.2 1 _ rfl
          have af := hA3o.2
          have al := hA3o.1.1
          have b0 := hG3o.1.2 0 _ rfl
          have b1 := hG3o.1.2 1 _ rfl
          have bf := hG3o.2
          have bl := hG3o.1.1
          have d0 := hH3o.1.2 0 _ rfl
          have d1 := hH3o.1.2 1 _ rfl
          have df := hH3o.2
          have dl := hH3o.1.1
          go_wp2_with fail
          refine (HG2.out _ hR3).mono ?_; rintro e w4 ⟨v4, rfl, hown4, hb4⟩
          obtain ⟨A4, c4, rfl⟩ := own_slice hown4
          have hB4 := ((hA3.bel hb4).other hBH 0 (.int .i64 V)).other hBH 1 (.slice A4 3 c4)
          have hG4 := ((hG3.bel hb4).other hGH 0 (.int .i64 V)).other hGH 1 (.slice A4 3 c4)
          have hH4 := ((hH3.bel hb4).set 0 (by simp) (.int .i64 V)).set 1 (by simp) (.slice A4 3 c4)
          have hv3 := ((hS3.bel hb4).far (p := ⟨G + 1, 0, none⟩) (hx3 _ (by simp)) (.int .i64 V)).far (p := ⟨G + 1, 1, none⟩) (hx3 _ (by simp)) (.slice A4 3 c4)
          have hv4 := ((Rd.own hown4).far (p := ⟨G + 1, 0, none⟩) (own_ne hown4 (.inl hH3.1.1)) (.int .i64 V)).far (p := ⟨G + 1, 1, none⟩) (own_ne hown4 (.inl hH3.1.1)) (.slice A4 3 c4)
          have hx4 : ∀ p : Nat, p = B → (Value.slice A4 3 c4).ownBlock ≠ some p := by rintro p rfl; exact own_ne hown4 (.inl hA3.1.1)
          have hbw4 : Bel w ((w4.setCell ⟨G + 1, 0, none⟩ (.int .i64 V)).setCell ⟨G + 1, 1, none⟩ (.slice A4 3 c4)) := ((hbw3.trans hb4).setNew (Nat.le_succ_of_le hgs2) _).setNew (Nat.le_succ_of_le hgs2) _
          have hA4o := hA3.bel hb4
          have hG4o := hG3.bel hb4
          have hH4o := hH3.bel hb4
          clear a0 a1 af al b0 b1 bf bl d0 d1 df dl
          have a0 := hA4o.1.2 0 _ rfl
          have a1 := hA4o.1.2 1 _ rfl
          have af := hA4o.2
          have al := hA4o.1.1
          have b0 := hG4o.1.2 0 _ rfl
          have b1 := hG4o.1.2 1 _ rfl
          have bf := hG4o.2
          have bl := hG4o.1.1
          have d0 := hH4o.1.2 0 _ rfl
          have d1 := hH4o.1.2 1 _ rfl
          have df := hH4o.2
          have dl := hH4o.1.1
          go_wp2_with fail
          have hl3 := HL2.out
          refine (sameFair_any V z0 (.slice A3 3 c3) (.slice A4 3 c4) _ (by rw [hl3]; exact hv3) (by rw [hl3]; exact hv4) (by omega)).mono ?_; rintro e w5 ⟨rfl, hb5⟩
          clear hl3
          have hB5 := hB4.bel hb5
          have hG5 := hG4.bel hb5
          have hH5 := hH4.bel hb5
          have hv5 := hv4.bel hb5
          have hbw5 : Bel w w5 := hbw4.trans hb5
          clear a0 a1 af al b0 b1 bf bl d0 d1 df dl hB4 hG4 hH4 hv3 hv4 hbw4 hb5 hA3 hG3 hH3 hR3 hS3 hx3 hbw3 hA2 hG2 hH2 hR2 hA4o hG4o hH4o hA3o hG3o hH3o
          have a0 := hB5.1.2 0 _ rfl
          have a1 := hB5.1.2 1 _ rfl
          have af := hB5.2
          have al := hB5.1.1
          have b0 := hG5.1.2 0 _ rfl
          have b1 := hG5.1.2 1 _ rfl
          have bf := hG5.2
          have bl := hG5.1.1
          have d0 := hH5.1.2 0 _ rfl
          have d1 := hH5.1.2 1 _ rfl
          have df := hH5.2
          have dl := hH5.1.1
          go_wp2
          go_roundw
          case rel =>
            exact ⟨i + 1, V, z0, _, by go_num, by omega, by omega, (hB5.set 0 (by simp) (.int .i64 V)).set 1 (by simp) (.slice A4 3 c4), (hv5.far (p := ⟨B, 0, none⟩) (hx4 _ rfl) (.int .i64 V)).far (p := ⟨B, 1, none⟩) (hx4 _ rfl) (.slice A4 3 c4), HO2, HL2, (hbw5.setNew hbs _).setNew hbs _⟩
          case measure => simp [intOf]; omega
        · have k0' : (k == 0) = false := by simpa using k0
          by_cases k1 : k = 1
          · subst k1
            obtain ⟨V', HV⟩ : ∃ V', Hid (V' = if V < 100 * c ∧ 100 * c ≤ 1125899906842624 then 100 * c else V) := ⟨_, rfl⟩
            have HG1 := Lib.hid (fun w' h => fairServe_any V (100 * c) fs (.slice Af 3 cpf) w' h (by rw [HL.out]; omega))
            have HG2 := Lib.hid (fun w' h => refServe_any V (100 * c) fs (.slice Af 3 cpf) w' h (by rw [HL.out]; omega))
            rw [HL.out, ← HV.out] at HG1 HG2
            have HO2 := Lib.hid (show fairOk V' fs = true by rw [HV.out]; exact serve_ok HO.out)
            have HL2 := HL
            clear HO HL
            go_wp2_with fail
            have rg0 := fun d os => cell_regrown a0 d os
            have rg1 := fun d os => cell_regrown a1 d os
            have e1 : IntKind.i64.wrap (100 * c) = 100 * c := IntWalk.i64_in _ (by omega)
            refine wp_region_lex [3, 7] 8 (by kernel_rfl) (by kernel_rfl) ?_
            simp only [List.take_succ_cons, List.take_zero, List.drop_succ_cons, List.drop_zero]
            with_reducible refine lex_seg 3 _ _ _ _ (by kernel_rfl) ?_
            simp only [List.take_succ_cons, List.take_zero, List.drop_succ_cons, List.drop_zero]
            try simp only [Act.put, List.setIfInBounds_toArray, List.set_cons_succ, List.set_cons_zero]
            repeat (go_big_quiet_step (fail))
            with_reducible refine wpQuiet_nil ?_
            refine lex_call 13 rfl rfl (by simp [go_sem]; rfl) ?_
            refine (HG1.out _ (hR2.bel (by repeat (first | (with_reducible exact Bel.refl _) | (with_reducible assumption) | (with_reducible refine Bel.drewN ?_ _) | (with_reducible refine Bel.drew ?_) | (with_reducible refine Bel.alloc ?_ _) | (with_reducible refine Bel.setNew ?_ ?_ _) | (with_reducible refine Bel.trans ?_ (by assumption)) | (focus (simp; done)) | (focus (simp; omega)))))).mono ?_; rintro e w3 ⟨v3, rfl, hown3, hb3⟩
            refine ⟨_, rfl, hb3, ?_⟩
            with_reducible refine lex_seg 3 _ _ _ _ (by kernel_rfl) ?_
            simp only [List.take_succ_cons, List.take_zero, List.drop_succ_cons, List.drop_zero]
            try simp only [Act.put, List.setIfInBounds_toArray, List.set_cons_succ, List.set_cons_zero]
            repeat (go_big_quiet_step (fail))
            with_reducible refine wpQuiet_nil ?_
            refine lex_call 18 rfl rfl (by simp [go_sem]; rfl) ?_
            refine (HG2.out _ ((hR2.bel (Bel.drew (Bel.refl _))).bel hb3)).mono ?_; rintro e w4 ⟨v4, rfl, hown4, hb4⟩
            refine ⟨_, rfl, hb4, ?_⟩
            with_reducible refine lex_nil ?_
            simp only [Act.put, List.setIfInBounds_toArray, List.set_cons_succ, List.set_cons_zero]
            clear rg0 rg1 e1
            obtain ⟨A3, c3, rfl⟩ := own_slice hown3
            obtain ⟨A4, c4, rfl⟩ := own_slice hown4
            have hB4 := (((((hA2.drew.bel hb3).bel hb4).other hBG 0 (.int .i64 V')).other hBG 1 (.slice A3 3 c3)).other hBH 0 (.int .i64 V')).other hBH 1 (.slice A4 3 c4)
            have hG4 := (((((hG2.drew.bel hb3).bel hb4).set 0 (by simp) (.int .i64 V')).set 1 (by simp) (.slice A3 3 c3)).other hGH 0 (.int .i64 V')).other hGH 1 (.slice A4 3 c4)
            have hH4 := (((((hH2.drew.bel hb3).bel hb4).other hHG 0 (.int .i64 V')).other hHG 1 (.slice A3 3 c3)).set 0 (by simp) (.int .i64 V')).set 1 (by simp) (.slice A4 3 c4)
            have hl3 : ∀ p : Nat, p < W.heap.size → (Value.slice A3 3 c3).ownBlock ≠ some p := fun p hp => own_ne hown3 (.inl hp)
            have hl4 : ∀ p : Nat, p < W.heap.size → (Value.slice A4 3 c4).ownBlock ≠ some p := fun p hp => own_ne hown4 (.inl (Nat.lt_of_lt_of_le hp hb3.size))
            have hv3 := ((((((Rd.own hown3).bel hb4).far (p := ⟨G, 0, none⟩) (hl3 _ bl) (.int .i64 V')).far (p := ⟨G, 1, none⟩) (hl3 _ bl) (.slice A3 3 c3)).far (p := ⟨G + 1, 0, none⟩) (hl3 _ dl) (.int .i64 V')).far (p := ⟨G + 1, 1, none⟩) (hl3 _ dl) (.slice A4 3 c4))
            have hv4 := (((((Rd.own hown4).far (p := ⟨G, 0, none⟩) (hl4 _ bl) (.int .i64 V')).far (p := ⟨G, 1, none⟩) (hl4 _ bl) (.slice A3 3 c3)).far (p := ⟨G + 1, 0, none⟩) (hl4 _ dl) (.int .i64 V')).far (p := ⟨G + 1, 1, none⟩) (hl4 _ dl) (.slice A4 3 c4))
            have hx4 : ∀ p : Nat, p = B → (Value.slice A4 3 c4).ownBlock ≠ some p := by rintro p rfl; exact hl4 _ al
            have hbw4 : Bel w ((((w4.setCell ⟨G, 0, none⟩ (.int .i64 V')).setCell ⟨G, 1, none⟩ (.slice A3 3 c3)).setCell ⟨G + 1, 0, none⟩ (.int .i64 V')).setCell ⟨G + 1, 1, none⟩ (.slice A4 3 c4)) := ((((((hb2.drew).trans hb3).trans hb4).setNew hgs2 _).setNew hgs2 _).setNew (Nat.le_succ_of_le hgs2) _).setNew (Nat.le_succ_of_le hgs2) _
            have hA4o := (hA2.drew.bel hb3).bel hb4
            have hG4o := (hG2.drew.bel hb3).bel hb4
            have hH4o := (hH2.drew.bel hb3).bel hb4
            have hA3 := hA2
            have hG3 := hG2
            have hH3 := hH2
            have hR3 := hR2
            have hS3 := hR2
            have hx3 := hx4
            have hbw3 := hbw4
            have hA3o := hA2
            have hG3o := hG2
            have hH3o := hH2
            clear a0 a1 af al b0 b1 bf bl d0 d1 df dl
            have a0 := hA4o.1.2 0 _ rfl
            have a1 := hA4o.1.2 1 _ rfl
            have af := hA4o.2
            have al := hA4o.1.1
            have b0 := hG4o.1.2 0 _ rfl
            have b1 := hG4o.1.2 1 _ rfl
            have bf := hG4o.2
            have bl := hG4o.1.1
            have d0 := hH4o.1.2 0 _ rfl
            have d1 := hH4o.1.2 1 _ rfl
            have df := hH4o.2
            have dl := hH4o.1.1
            go_wp2_with fail
            have hl3 := HL2.out
            refine (sameFair_any V' fs (.slice A3 3 c3) (.slice A4 3 c4) _ (by rw [hl3]; exact hv3) (by rw [hl3]; exact hv4) (by omega)).mono ?_; rintro e w5 ⟨rfl, hb5⟩
            clear hl3
            have hB5 := hB4.bel hb5
            have hG5 := hG4.bel hb5
            have hH5 := hH4.bel hb5
            have hv5 := hv4.bel hb5
            have hbw5 : Bel w w5 := hbw4.trans hb5
            clear a0 a1 af al b0 b1 bf bl d0 d1 df dl hB4 hG4 hH4 hv3 hv4 hbw4 hb5 hA3 hG3 hH3 hR3 hS3 hx3 hbw3 hA2 hG2 hH2 hR2 hA4o hG4o hH4o hA3o hG3o hH3o
            have a0 := hB5.1.2 0 _ rfl
            have a1 := hB5.1.2 1 _ rfl
            have af := hB5.2
            have al := hB5.1.1
            have b0 := hG5.1.2 0 _ rfl
            have b1 := hG5.1.2 1 _ rfl
            have bf := hG5.2
            have bl := hG5.1.1
            have d0 := hH5.1.2 0 _ rfl
            have d1 := hH5.1.2 1 _ rfl
            have df := hH5.2
            have dl := hH5.1.1
            go_wp2
            go_roundw
            case rel =>
              exact ⟨i + 1, V', fs, _, by go_num, by omega, by omega, (hB5.set 0 (by simp) (.int .i64 V')).set 1 (by simp) (.slice A4 3 c4), (hv5.far (p := ⟨B, 0, none⟩) (hx4 _ rfl) (.int .i64 V')).far (p := ⟨B, 1, none⟩) (hx4 _ rfl) (.slice A4 3 c4), HO2, HL2, (hbw5.setNew hbs _).setNew hbs _⟩
            case measure => simp [intOf]; omega
          · have k1' : (k == 1) = false := by simpa using k1
            have HG1 := Lib.hid (fun w' h => fairStamp_any V t c fs (.slice Af 3 cpf) w' h (by rw [HL.out]; omega))
            have HG2 := Lib.hid (fun w' h => refStamp_any V t c fs (.slice Af 3 cpf) w' h (by rw [HL.out]; omega))
            rw [HL.out] at HG1 HG2
            have HO2 := Lib.hid (show fairOk V (stampB V fs t c).1 = true from advB_ok HO.out)
            have HL2 := Lib.hid (show (stampB V fs t c).1.length = 3 by rw [show (stampB V fs t c).1.length = fs.length from advB_len ..]; exact HL.out)
            generalize stampB V fs t c = z at HG1 HG2 HO2 HL2
            obtain ⟨z0, z1, z2⟩ := z
            simp only at HO2 HL2
            clear HO HL
            go_wp2_with fail
            refine (HG1.out _ hR2).mono ?_; rintro e w3 ⟨v3, rfl, hown3, hb3⟩
            obtain ⟨A3, c3, rfl⟩ := own_slice hown3
            have hA3 := ((hA2.bel hb3).other hBG 0 (.int .i64 V)).other hBG 1 (.slice A3 3 c3)
            have hG3 := ((hG2.bel hb3).set 0 (by simp) (.int .i64 V)).set 1 (by simp) (.slice A3 3 c3)
            have hH3 := ((hH2.bel hb3).other hHG 0 (.int .i64 V)).other hHG 1 (.slice A3 3 c3)
            have hR3 := ((hR2.bel hb3).far (p := ⟨G, 0, none⟩) (hAfG _ (by simp)) (.int .i64 V)).far (p := ⟨G, 1, none⟩) (hAfG _ (by simp)) (.slice A3 3 c3)
            have hS3 := ((Rd.own hown3).far (p := ⟨G, 0, none⟩) (own_ne hown3 (.inl bl)) (.int .i64 V)).far (p := ⟨G, 1, none⟩) (own_ne hown3 (.inl bl)) (.slice A3 3 c3)
            have hx3 : ∀ p : Nat, p = G + 1 → (Value.slice A3 3 c3).ownBlock ≠ some p := by rintro p rfl; exact own_ne hown3 (.inl dl)
            have hbw3 : Bel w ((w3.setCell ⟨G, 0, none⟩ (.int .i64 V)).setCell ⟨G, 1, none⟩ (.slice A3 3 c3)) := ((hb2.trans hb3).setNew hgs2 _).setNew hgs2 _
            have hA3o := hA2.bel hb3
            have hG3o := hG2.bel hb3
            have hH3o := hH2.bel hb3
            clear a0 a1 af al b0 b1 bf bl d0 d1 df dl
            have a0 := hA3o.1.2 0 _ rfl
            have a1 := hA3o.1.2 1 _ rfl
            have af := hA3o.2
            have al := hA3o.1.1
            have b0 := hG3o.1.2 0 _ rfl
            have b1 := hG3o.1.2 1 _ rfl
            have bf := hG3o.2
            have bl := hG3o.1.1
            have d0 := hH3o.1.2 0 _ rfl
            have d1 := hH3o.1.2 1 _ rfl
            have df := hH3o.2
            have dl := hH3o.1.1
            go_wp2_with fail
            refine (HG2.out _ hR3).mono ?_; rintro e w4 ⟨v4, rfl, hown4, hb4⟩
            obtain ⟨A4, c4, rfl⟩ := own_slice hown4
            have hB4 := ((hA3.bel hb4).other hBH 0 (.int .i64 V)).other hBH 1 (.slice A4 3 c4)
            have hG4 := ((hG3.bel hb4).other hGH 0 (.int .i64 V)).other hGH 1 (.slice A4 3 c4)
            have hH4 := ((hH3.bel hb4).set 0 (by simp) (.int .i64 V)).set 1 (by simp) (.slice A4 3 c4)
            have hv3 := ((hS3.bel hb4).far (p := ⟨G + 1, 0, none⟩) (hx3 _ (by simp)) (.int .i64 V)).far (p := ⟨G + 1, 1, none⟩) (hx3 _ (by simp)) (.slice A4 3 c4)
            have hv4 := ((Rd.own hown4).far (p := ⟨G + 1, 0, none⟩) (own_ne hown4 (.inl hH3.1.1)) (.int .i64 V)).far (p := ⟨G + 1, 1, none⟩) (own_ne hown4 (.inl hH3.1.1)) (.slice A4 3 c4)
            have hx4 : ∀ p : Nat, p = B → (Value.slice A4 3 c4).ownBlock ≠ some p := by rintro p rfl; exact own_ne hown4 (.inl hA3.1.1)
            have hbw4 : Bel w ((w4.setCell ⟨G + 1, 0, none⟩ (.int .i64 V)).setCell ⟨G + 1, 1, none⟩ (.slice A4 3 c4)) := ((hbw3.trans hb4).setNew (Nat.le_succ_of_le hgs2) _).setNew (Nat.le_succ_of_le hgs2) _
            have hA4o := hA3.bel hb4
            have hG4o := hG3.bel hb4
            have hH4o := hH3.bel hb4
            clear a0 a1 af al b0 b1 bf bl d0 d1 df dl
            have a0 := hA4o.1.2 0 _ rfl
            have a1 := hA4o.1.2 1 _ rfl
            have af := hA4o.2
            have al := hA4o.1.1
            have b0 := hG4o.1.2 0 _ rfl
            have b1 := hG4o.1.2 1 _ rfl
            have bf := hG4o.2
            have bl := hG4o.1.1
            have d0 := hH4o.1.2 0 _ rfl
            have d1 := hH4o.1.2 1 _ rfl
            have df := hH4o.2
            have dl := hH4o.1.1
            go_wp2_with fail
            have hl3 := HL2.out
            refine (sameFair_any V z0 (.slice A3 3 c3) (.slice A4 3 c4) _ (by rw [hl3]; exact hv3) (by rw [hl3]; exact hv4) (by omega)).mono ?_; rintro e w5 ⟨rfl, hb5⟩
            clear hl3
            have hB5 := hB4.bel hb5
            have hG5 := hG4.bel hb5
            have hH5 := hH4.bel hb5
            have hv5 := hv4.bel hb5
            have hbw5 : Bel w w5 := hbw4.trans hb5
            clear a0 a1 af al b0 b1 bf bl d0 d1 df dl hB4 hG4 hH4 hv3 hv4 hbw4 hb5 hA3 hG3 hH3 hR3 hS3 hx3 hbw3 hA2 hG2 hH2 hR2 hA4o hG4o hH4o hA3o hG3o hH3o
            have a0 := hB5.1.2 0 _ rfl
            have a1 := hB5.1.2 1 _ rfl
            have af := hB5.2
            have al := hB5.1.1
            have b0 := hG5.1.2 0 _ rfl
            have b1 := hG5.1.2 1 _ rfl
            have bf := hG5.2
            have bl := hG5.1.1
            have d0 := hH5.1.2 0 _ rfl
            have d1 := hH5.1.2 1 _ rfl
            have df := hH5.2
            have dl := hH5.1.1
            go_wp2
            go_roundw
            case rel =>
              exact ⟨i + 1, V, z0, _, by go_num, by omega, by omega, (hB5.set 0 (by simp) (.int .i64 V)).set 1 (by simp) (.slice A4 3 c4), (hv5.far (p := ⟨B, 0, none⟩) (hx4 _ rfl) (.int .i64 V)).far (p := ⟨B, 1, none⟩) (hx4 _ rfl) (.slice A4 3 c4), HO2, HL2, (hbw5.setNew hbs _).setNew hbs _⟩
            case measure => simp [intOf]; omega
      · have i1 : (i : Int) < (m : Int) := by omega
        have i2 : decide ((i : Int) < 12) = false := by simp; omega
        have i3 : 12 ≤ (i : Int) := by omega
        have a0 := hAr.1.2 0 _ rfl
        have a1 := hAr.1.2 1 _ rfl
        have af := hAr.2
        have al := hAr.1.1
        go_wp2_with fail
        refine (fairValid_any V fs _ _ (by rw [HL.out]; exact hRr)).mono ?_; rw [HO.out]; rintro e w2 ⟨rfl, hb2⟩
        go_wp2_with fail
        refine (awakeFair_any _).mono ?_; rintro e w3 ⟨rfl, hb3⟩
        go_wp2
        go_ret
        exact ⟨rfl, (hbr.trans hb2).trans hb3⟩
    · have i2 : decide ((i : Int) < (m : Int)) = false := by simp; omega
      have i1 : (m : Int) ≤ (i : Int) := by omega
      have a0 := hAr.1.2 0 _ rfl
      have a1 := hAr.1.2 1 _ rfl
      have af := hAr.2
      have al := hAr.1.1
      go_wp2_with fail
      refine (fairValid_any V fs _ _ (by rw [HL.out]; exact hRr)).mono ?_; rw [HO.out]; rintro e w2 ⟨rfl, hb2⟩
      go_wp2_with fail
      refine (awakeFair_any _).mono ?_; rintro e w3 ⟨rfl, hb3⟩
      go_wp2
      go_ret
      exact ⟨rfl, (hbr.trans hb2).trans hb3⟩
end Go.Proofs.Ytacbljfpcchbbaa
