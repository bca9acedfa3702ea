/- The walk of PlugSmall. -/
import Derived.Test.YtbijfmpmgmfpgaaPlL
import Derived.Test.YtbijfmpmgmfpgaaBnsN
import Derived.Test.YtbijfmpmgmfpgaaRAdd
import Derived.Test.YtbijfmpmgmfpgaaRSame
import Derived.Test.YtbijfmpmgmfpgaaRDrn
import Derived.Test.YtbijfmpmgmfpgaaPlJ
namespace Go.Proofs.Ytbijfmpmgmfpgaa
open Go.RowKit Go.Maps
set_option linter.unusedSimpArgs false

theorem ordP_lenR (P : List Bu) : (ordP P).length = P.length := (ordR_ok P P.length (Nat.le_refl _)).olen
theorem plugP_pos {M B : Int} {Q : List Bu} (hq : DkQ Q) (hl : limOk M B = true) {m : Nat} {b : Bu} (hb : Q[m]? = some b) : 0 < (plugP M B Q (m + 1)).length := by
  have hm := (List.getElem?_eq_some_iff.1 hb).1
  have h8 := hq.1
  have hs := plugP_ok hq hl m (by omega)
  rw [plugP_succ hb]
  rcases addP_cases (P := plugP M B Q m) (hq.2 m b hb).ok hl (by have := hs.len; omega) with ⟨i, a, x, y, ha, _, _, he⟩ | he
  · rw [he]
    have := (List.getElem?_eq_some_iff.1 ha).1
    simp
    omega
  · rw [he]
    simp

set_option maxRecDepth 100000 in
set_option maxHeartbeats 24000000 in
theorem plugSmall_walk (a : Int) (v : Value) (zs : List Int) (w : World) (_ : IsInt a) (hz : Ints w v zs) :
    Calls Try.prog 6 #[.int .i64 a, v] w fun e w' => e = .returned (.bool true) ∧ Bel w w' := by
  have HBN := Lib.hid (fun w' (h : Bel w w') => bunchesN_any v zs w' (hz.bel h))
  clear hz
  go_enter Try.func6, Try.ntmps6
  go_wp2_with fail
  refine (limits_any a _).mono ?_; rintro e w1 ⟨rfl, hb1⟩
  obtain ⟨M, HM⟩ : ∃ M, Hid (M = 1 + rnd a 6) := ⟨_, rfl⟩
  obtain ⟨B, HB⟩ : ∃ B, Hid (B = bound a) := ⟨_, rfl⟩
  have HLIM := Lib.hid (lim_ok a)
  rw [← HM.out, ← HB.out] at HLIM ⊢
  have hM := ((AtF.new_at (w := w1) rfl 38 [.int .i64 M, .int .i64 B]).alloc (.cells [.slice none 0 0].toArray 48)).alloc (.cells [.slice none 0 0].toArray 48)
  have hP := (AtF.new_at (w := w1.alloc (.cells [.int .i64 M, .int .i64 B].toArray 38)) (g := w1.heap.size + 1) (by simp) 48 [.slice none 0 0]).alloc (.cells [.slice none 0 0].toArray 48)
  have hQ := AtF.new_at (w := (w1.alloc (.cells [.int .i64 M, .int .i64 B].toArray 38)).alloc (.cells [.slice none 0 0].toArray 48)) (g := w1.heap.size + 2) (by simp) 48 [.slice none 0 0]
  have hbw : Bel w (((w1.alloc (.cells [.int .i64 M, .int .i64 B].toArray 38)).alloc (.cells [.slice none 0 0].toArray 48)).alloc (.cells [.slice none 0 0].toArray 48)) := (by repeat (first | (with_reducible exact Bel.refl _) | (with_reducible assumption) | (with_reducible refine Bel.drewN ?_ _) | (with_reducible refine Bel.drew ?_) | (with_reducible refine Bel.alloc ?_ _) | (with_reducible refine Bel.setNew ?_ ?_ _) | (with_reducible refine Bel.trans ?_ (by assumption)) | (focus (simp; done)) | (focus (simp; omega))))
  have hsz : (((w1.alloc (.cells [.int .i64 M, .int .i64 B].toArray 38)).alloc (.cells [.slice none 0 0].toArray 48)).alloc (.cells [.slice none 0 0].toArray 48)).heap.size = w1.heap.size + 3 := by simp
  simp only [List.toArray] at hM hP hQ hbw hsz
  go_wp2_with fail
  refine (HBN.out _ hbw).mono ?_; rintro e w2 ⟨u, L, rfl, hL, hBN, hb2⟩
  have hM2 := hM.bel hb2
  have hP2 := hP.bel hb2
  have hQ2 := hQ.bel hb2
  have hbw2 := hbw.trans hb2
  have HDK := Lib.hid (bns_dk hL (by omega))
  rw [hsz] at hBN
  have hwR := hb1.size
  clear hM hP hQ hbw hsz hb1 hb2 HBN
  generalize w1.heap.size = R at *
  obtain ⟨A, c, rfl⟩ := own_slice hBN.bo.own
  have hn8 : L.length ≤ 8 := by rw [hL.1]; omega
  obtain ⟨Q, HQ⟩ : ∃ Q, Hid (Q = L.map BM.bu) := ⟨_, rfl⟩
  obtain ⟨n, Hn⟩ : ∃ n, Hid (n = L.length) := ⟨_, rfl⟩
  rw [← HQ.out] at HDK
  have HNQ : Hid (Q.length = n) := by show _ = _; rw [HQ.out, List.length_map]; exact Hn.out.symm
  have HPS : Hid (∀ m ≤ n, PlS M B Q m (plugP M B Q m)) := fun m hm => plugP_ok HDK.out HLIM.out m (by rw [HNQ.out]; exact hm)
  rw [← Hn.out] at hn8 hBN ⊢
  clear hL
  go_wp2
  go_loopw [9] (fun iv wr => ∃ (i : Nat) (v v2 : Value) (L' L2 : List BM), iv = .int .i64 i ∧ i ≤ n ∧ Hid (L'.map BM.bu = plugP M B Q i) ∧ Hid (L2.map BM.bu = plugP M B Q i) ∧ Hid ((v2 = .slice none 0 0 ∧ L2 = []) ∨ 0 < L2.length) ∧ AtF wr R [.int .i64 M, .int .i64 B] ∧ AtF wr (R + 1) [v] ∧ AtF wr (R + 2) [v2] ∧ BN wr (R + 3) v L' ∧ BN wr (R + 3) v2 L2 ∧ BN wr (R + 3) (.slice A n c) L ∧ Bel w wr) (fun iv _ => n - (intOf iv).toNat)
  case atStart => exact ⟨0, _, _, [], [], rfl, by omega, rfl, rfl, .inl ⟨rfl, rfl⟩, hM2, hP2, hQ2, ⟨BO.nil _ _, fun j x hj => by simp at hj⟩, ⟨BO.nil _ _, fun j x hj => by simp at hj⟩, hBN, hbw2⟩
  case round =>
    clear hM2 hP2 hQ2 hBN hbw2
    obtain ⟨i, v, v2, L', L2, rfl, p1, HL, HL2, HV2, hM, hP, hQ, hV, hV2, hU, hbr⟩ := hrel
    obtain ⟨W0, rfl⟩ : ∃ X, X = wr := ⟨_, rfl⟩
    have HLL : Hid (L'.length ≤ 8) := by
      show L'.length ≤ 8
      have h1 := (HPS.out i p1).len
      rw [← HL.out, List.length_map] at h1
      omega
    have HLM : Hid (∀ x ∈ L', x.ms.length ≤ 128 ∧ okU x.bu = true) := fun x hx => by
      have h1 := (HPS.out i p1).each x.bu (by rw [← HL.out]; exact List.mem_map_of_mem hx)
      exact ⟨(ok_small h1.ok).1, h1.ok⟩
    obtain ⟨Av, cv, hvv⟩ := own_slice hV.bo.own
    obtain ⟨lv, Hlv⟩ : ∃ k, Hid (L'.length = k) := ⟨_, rfl⟩
    rw [Hlv.out] at hvv
    subst hvv
    obtain ⟨Av2, cv2, hvv⟩ := own_slice hV2.bo.own
    obtain ⟨lv2, Hlv2⟩ : ∃ k, Hid (L2.length = k) := ⟨_, rfl⟩
    rw [Hlv2.out] at hvv
    subst hvv
    by_cases hlt : i < n
    · have hin : (i : Int) < (n : Int) := by omega
      obtain ⟨x, hx⟩ : ∃ x, L[i]? = some x := ⟨L[i]'(by have := Hn.out; omega), List.getElem?_eq_getElem _⟩
      obtain ⟨g, o, c2, hat⟩ := hU.bo.bl.at hx
      have hQx : Q[i]? = some x.bu := by rw [HQ.out, List.getElem?_map, hx]; rfl
      have hdk := HDK.out.2 i x.bu hQx
      have HADD := Lib.hid (plugP_add HDK.out HLIM.out hQx)
      have hfo := hat.form
      injection hfo with h1 h2 h3
      subst h1
      have hrow := hat.row
      have hmx := hat.mem
      have hgl := hat.lt
      have hx0 : 0 < x.ms.length := by
        obtain ⟨f, l, e1, _⟩ := hdk.head
        have e2 : x.ms = f :: l := e1
        rw [e2]; simp
      have hil : i < L.length := (List.getElem?_eq_some_iff.1 hx).1
      have HXF : Hid (∀ k, (Value.slice x.b.mA x.b.mL x.b.mC).ownBlock = some k → R + 3 ≤ k) := fun k hk => hU.fr i x hil hx hx0 k hk
      have HOKX := Lib.hid hdk.ok
      have HMX := Lib.hid hmx
      have hl28 : L2.length ≤ 8 := by
        have h1 := (HPS.out i p1).len
        rw [← HL2.out, List.length_map] at h1
        omega
      have HAD : Hid (∀ W, Bel W0 W → Calls Try.prog 29 #[.agg #[.int .i64 M, .int .i64 B], .agg #[.slice Av lv cv], .agg #[.int .i64 (x.b).id, .int .i64 (x.b).ten, .int .i64 (x.b).knd, .int .i64 (x.b).sec, .int .i64 (x.b).cnt, .string (x.b).dat, .bool (x.b).fua, .slice (x.b).mA (x.b).mL (x.b).mC, .int .i64 (x.b).tim]] W fun e w' => ∃ v' L', e = .returned (.tuple #[.agg #[v'], .bool true]) ∧ BN w' W.heap.size v' L' ∧ L'.map BM.bu = plugP M B Q (i + 1) ∧ Bel W w') := fun W hb => by
        have := add_any M B (.slice Av lv cv) L' x W (hV.bo.bl.bel hb) (hmx.bel hb) (by have := HLL.out; omega) (fun y hy => by have := (HLM.out y hy).1; omega)
        rw [HL.out, HADD.out] at this
        exact this
      have HRA0 : Hid (∀ W, Bel W0 W → R + 3 ≤ W.heap.size → Calls Try.prog 30 #[.agg #[.int .i64 M, .int .i64 B], .agg #[.slice Av2 lv2 cv2], .agg #[.int .i64 (x.b).id, .int .i64 (x.b).ten, .int .i64 (x.b).knd, .int .i64 (x.b).sec, .int .i64 (x.b).cnt, .string (x.b).dat, .bool (x.b).fua, .slice (x.b).mA (x.b).mL (x.b).mC, .int .i64 (x.b).tim]] W fun e w' => ∃ v' L', e = .returned (.tuple #[.agg #[v'], .bool true]) ∧ BN w' (R + 3) v' L' ∧ L'.map BM.bu = plugP M B Q (i + 1) ∧ NewR W (x :: L2) v' L' ∧ Bel W w') := fun W hb hs => by
        have := refAdd_any M B (.slice Av2 lv2 cv2) L2 x W (R + 3) (hV2.bo.bl.bel hb) (hmx.bel hb) hs hV2.abv HXF.out (by omega) HV2.out HOKX.out HLIM.out
        rw [HL2.out, HADD.out] at this
        exact this
      have HOLD0 : Hid (∀ z ∈ x :: L2, 0 < z.ms.length → ∀ k, (Value.slice z.b.mA z.b.mL z.b.mC).ownBlock = some k → k < W0.heap.size) := fun z hz h0 k hk => by
        rcases List.mem_cons.1 hz with rfl | hz
        · exact HMX.out.rd.own_lt h0 hk
        · exact (hV2.bo.mem z hz).rd.own_lt h0 hk
      obtain ⟨K, HK⟩ : ∃ P : List Bu, Hid (plugP M B Q (i + 1) = P) := ⟨_, rfl⟩
      rw [HK.out] at HAD HRA0
      clear hx hQx h2 h3 hat hmx HADD hdk hil hx0 HXF HOKX hl28
      go_upto_region 7 with fail
      go_cut [10, 11] (fun xv kv wx => ∃ (H : Nat) (v' : Value) (L2 : List BM), xv = .pointer (some ⟨H, 0, none⟩) ∧ kv = .bool true ∧ AtF wx H [v'] ∧ BN wx W0.heap.size v' L2 ∧ L2.map BM.bu = K ∧ Bel W0 wx ∧ W0.heap.size ≤ H)
      case first =>
        have m0 := hM.1.2 0 _ rfl
        have m1 := hM.1.2 1 _ rfl
        have q0 := hP.1.2 0 _ rfl
        have rg0 := fun d os => cell_regrown m0 d os
        have rg1 := fun d os => cell_regrown m1 d os
        have rg2 := fun d os => cell_regrown q0 d os
        obtain ⟨⟨i1, t1, k1, s1, n1, d1, f1, a1, l1, c3, m3⟩, ms1⟩ := x
        simp only at hrow HAD
        have b0 := (hrow).cell 0 rfl
        have b1 := (hrow).cell 1 rfl
        have b2 := (hrow).cell 2 rfl
        have b3 := (hrow).cell 3 rfl
        have b4 := (hrow).cell 4 rfl
        have b5 := (hrow).cell 5 rfl
        have b6 := (hrow).cell 6 rfl
        have b7 := (hrow).cell 7 rfl
        have b8 := (hrow).cell 8 rfl
        rw [Nat.add_zero] at b0
        have r0 := fun d os => cell_regrown b0 d os
        have r1 := fun d os => cell_regrown b1 d os
        have r2 := fun d os => cell_regrown b2 d os
        have r3 := fun d os => cell_regrown b3 d os
        have r4 := fun d os => cell_regrown b4 d os
        have r5 := fun d os => cell_regrown b5 d os
        have r6 := fun d os => cell_regrown b6 d os
        have r7 := fun d os => cell_regrown b7 d os
        have r8 := fun d os => cell_regrown b8 d os
        clear m0 m1 q0 hrow
        clear b0 b1 b2 b3 b4 b5 b6 b7 b8
        refine wp_region_st [6, 10, 11] 12 (by kernel_rfl) (by kernel_rfl) ?_
        with_reducible refine st_sel [0, 1, 2, 3, 4, 5] (by kernel_rfl) (by kernel_rfl) ?_
        simp only [picked, List.getElem?_cons_succ, List.getElem?_cons_zero, Option.toList_some, List.nil_append, List.cons_append, List.append_nil]
        try simp only [Act.put, List.setIfInBounds_toArray, List.set_cons_succ, List.set_cons_zero]
        repeat (go_big_quiet_step (fail))
        with_reducible refine wpQuiet_nil ?_
        refine st_branch [6, 10] (by kernel_rfl) (branch_cons (by simp only [List.getElem?_toArray, List.getElem?_cons_succ, List.getElem?_cons_zero]; rfl) ?_ (branch_cons (by simp only [List.getElem?_toArray, List.getElem?_cons_succ, List.getElem?_cons_zero]; rfl) ?_ branch_nil))
        · skip
          refine eff_call 29 rfl (by simp [go_sem]; rfl) (by repeat (first | (with_reducible exact Bel.refl _) | (with_reducible assumption) | (with_reducible refine Bel.drewN ?_ _) | (with_reducible refine Bel.drew ?_) | (with_reducible refine Bel.alloc ?_ _) | (with_reducible refine Bel.setNew ?_ ?_ _) | (with_reducible refine Bel.trans ?_ (by assumption)) | (focus (simp; done)) | (focus (simp; omega)))) ?_
          refine (HAD.out _ (by repeat (first | (with_reducible exact Bel.refl _) | (with_reducible assumption) | (with_reducible refine Bel.drewN ?_ _) | (with_reducible refine Bel.drew ?_) | (with_reducible refine Bel.alloc ?_ _) | (with_reducible refine Bel.setNew ?_ ?_ _) | (with_reducible refine Bel.trans ?_ (by assumption)) | (focus (simp; done)) | (focus (simp; omega))))).mono ?_; rintro e w6 ⟨v', L', rfl, hBN6, hL6, hb6⟩
          obtain ⟨Av, cv, hvv⟩ := own_slice hBN6.bo.own
          generalize L'.length = lv at hvv
          subst hvv
          refine ⟨_, rfl, hb6, ?_⟩
          try simp only [List.nil_append, List.cons_append, Act.put, List.setIfInBounds_toArray, List.set_cons_succ, List.set_cons_zero]
          with_reducible refine st_sel [7, 8, 9] (by kernel_rfl) (by kernel_rfl) ?_
          simp only [picked, List.getElem?_cons_succ, List.getElem?_cons_zero, Option.toList_some, List.nil_append, List.cons_append, List.append_nil]
          try simp only [Act.put, List.setIfInBounds_toArray, List.set_cons_succ, List.set_cons_zero]
          repeat (go_big_quiet_step (fail))
          with_reducible refine wpQuiet_nil ?_
          refine st_branch [10] (by kernel_rfl) (branch_cons (by simp only [List.getElem?_toArray, List.getElem?_cons_succ, List.getElem?_cons_zero]; rfl) ?_ branch_nil)
          refine eff_made rfl (by simp [go_sem]; exact ⟨rfl, rfl⟩) (by repeat (first | (with_reducible exact Bel.refl _) | (with_reducible assumption) | (with_reducible refine Bel.drewN ?_ _) | (with_reducible refine Bel.drew ?_) | (with_reducible refine Bel.alloc ?_ _) | (with_reducible refine Bel.setNew ?_ ?_ _) | (with_reducible refine Bel.trans ?_ (by assumption)) | (focus (simp; done)) | (focus (simp; omega)))) ?_
          try simp only [List.nil_append, List.cons_append, Act.put, List.setIfInBounds_toArray, List.set_cons_succ, List.set_cons_zero]
          refine st_branch [11] (by kernel_rfl) (branch_cons (by simp only [List.getElem?_toArray, List.getElem?_cons_succ, List.getElem?_cons_zero]; rfl) ?_ branch_nil)
          refine eff_done rfl (by simp [go_sem]; rfl) (by repeat (first | (with_reducible exact Bel.refl _) | (with_reducible assumption) | (with_reducible refine Bel.drewN ?_ _) | (with_reducible refine Bel.drew ?_) | (with_reducible refine Bel.alloc ?_ _) | (with_reducible refine Bel.setNew ?_ ?_ _) | (with_reducible refine Bel.trans ?_ (by assumption)) | (focus (simp; done)) | (focus (simp; omega)))) ?_
          try simp only [List.nil_append, List.cons_append, Act.put, List.setIfInBounds_toArray, List.set_cons_succ, List.set_cons_zero]
          refine st_end (by kernel_rfl) ?_
          simp only [List.drop_succ_cons, List.drop_zero, List.drop_nil]
          have HF1 : Hid (BN w6 W0.heap.size (.slice Av lv cv) L') := hBN6.mono (by try simp only [World.size_alloc, World.size_drew]; omega)
          have hb06 : Bel W0 w6 := by
            refine Bel.trans ?_ hb6
            exact (by repeat (first | (with_reducible exact Bel.refl _) | (with_reducible assumption) | (with_reducible refine Bel.drewN ?_ _) | (with_reducible refine Bel.drew ?_) | (with_reducible refine Bel.alloc ?_ _) | (with_reducible refine Bel.setNew ?_ ?_ _) | (with_reducible refine Bel.trans ?_ (by assumption)) | (focus (simp; done)) | (focus (simp; omega))))
          go_wp2_with fail
          go_meet
          exact ⟨_, _, L', rfl, rfl, AtF.new_at rfl _ _, HF1.out.keep ((Bel.refl _).alloc _), hL6, hb06.alloc _, hb06.size⟩
        · skip
          refine eff_made rfl (by simp [go_sem]; exact ⟨rfl, rfl⟩) (by repeat (first | (with_reducible exact Bel.refl _) | (with_reducible assumption) | (with_reducible refine Bel.drewN ?_ _) | (with_reducible refine Bel.drew ?_) | (with_reducible refine Bel.alloc ?_ _) | (with_reducible refine Bel.setNew ?_ ?_ _) | (with_reducible refine Bel.trans ?_ (by assumption)) | (focus (simp; done)) | (focus (simp; omega)))) ?_
          try simp only [List.nil_append, List.cons_append, Act.put, List.setIfInBounds_toArray, List.set_cons_succ, List.set_cons_zero]
          refine st_branch [6] (by kernel_rfl) (branch_cons (by simp only [List.getElem?_toArray, List.getElem?_cons_succ, List.getElem?_cons_zero]; rfl) ?_ branch_nil)
          refine eff_call 29 rfl (by simp [go_sem]; rfl) (by repeat (first | (with_reducible exact Bel.refl _) | (with_reducible assumption) | (with_reducible refine Bel.drewN ?_ _) | (with_reducible refine Bel.drew ?_) | (with_reducible refine Bel.alloc ?_ _) | (with_reducible refine Bel.setNew ?_ ?_ _) | (with_reducible refine Bel.trans ?_ (by assumption)) | (focus (simp; done)) | (focus (simp; omega)))) ?_
          refine (HAD.out _ (by repeat (first | (with_reducible exact Bel.refl _) | (with_reducible assumption) | (with_reducible refine Bel.drewN ?_ _) | (with_reducible refine Bel.drew ?_) | (with_reducible refine Bel.alloc ?_ _) | (with_reducible refine Bel.setNew ?_ ?_ _) | (with_reducible refine Bel.trans ?_ (by assumption)) | (focus (simp; done)) | (focus (simp; omega))))).mono ?_; rintro e w6 ⟨v', L', rfl, hBN6, hL6, hb6⟩
          obtain ⟨Av, cv, hvv⟩ := own_slice hBN6.bo.own
          generalize L'.length = lv at hvv
          subst hvv
          refine ⟨_, rfl, hb6, ?_⟩
          try simp only [List.nil_append, List.cons_append, Act.put, List.setIfInBounds_toArray, List.set_cons_succ, List.set_cons_zero]
          with_reducible refine st_sel [7, 8, 9] (by kernel_rfl) (by kernel_rfl) ?_
          simp only [picked, List.getElem?_cons_succ, List.getElem?_cons_zero, Option.toList_some, List.nil_append, List.cons_append, List.append_nil]
          try simp only [Act.put, List.setIfInBounds_toArray, List.set_cons_succ, List.set_cons_zero]
          repeat (go_big_quiet_step (fail))
          with_reducible refine wpQuiet_nil ?_
          refine st_branch [11] (by kernel_rfl) (branch_cons (by simp only [List.getElem?_toArray, List.getElem?_cons_succ, List.getElem?_cons_zero]; rfl) ?_ branch_nil)
          have hE : AtF w6 (W0.heap.size) [.slice none 0 0] := (AtF.new_at (w := W0.drew) rfl 48 [.slice none 0 0]).bel hb6
          have hle0 : W0.heap.size ≤ W0.heap.size := by omega
          have hlb : W0.heap.size ≤ W0.heap.size + 1 := by omega
          have hltb : W0.heap.size < W0.heap.size + 1 := by omega
          have hb06 : Bel W0 w6 := by
            refine Bel.trans ?_ hb6
            exact (by repeat (first | (with_reducible exact Bel.refl _) | (with_reducible assumption) | (with_reducible refine Bel.drewN ?_ _) | (with_reducible refine Bel.drew ?_) | (with_reducible refine Bel.alloc ?_ _) | (with_reducible refine Bel.setNew ?_ ?_ _) | (with_reducible refine Bel.trans ?_ (by assumption)) | (focus (simp; done)) | (focus (simp; omega))))
          have hbX := hb06.setNew (p := ⟨W0.heap.size, 0, none⟩) hle0 (.slice Av lv cv)
          have HF := Lib.hid (And.intro (hE.set 0 (by simp) (.slice Av lv cv)) (And.intro ((hBN6.far (p := ⟨W0.heap.size, 0, none⟩) (by first | exact hltb | (simp only [World.size_alloc]; exact hltb) | (simp only [World.size_alloc, World.size_drew]; omega)) (.slice Av lv cv)).mono (by first | exact hlb | (simp only [World.size_alloc]; exact hlb) | (simp only [World.size_alloc, World.size_drew]; omega))) hbX))
          have e0 := hE.1.2 0 _ rfl
          have ef := hE.2 0
          have el := hE.1.1
          refine eff_done rfl (by simp [go_sem, e0, ef]; try rfl) hbX ?_
          try simp only [List.nil_append, List.cons_append, Act.put, List.setIfInBounds_toArray, List.set_cons_succ, List.set_cons_zero]
          clear e0 ef el hE hbX
          refine st_end (by kernel_rfl) ?_
          simp only [List.drop_succ_cons, List.drop_zero, List.drop_nil]
          go_wp2_with fail
          go_meet
          exact ⟨_, _, L', rfl, rfl, HF.out.1, HF.out.2.1, hL6, HF.out.2.2, Nat.le_refl _⟩
      case rest =>
        obtain ⟨H1, v1, L1, rfl, rfl, hH1, hV1, hL1, hb2, hle1⟩ := hcut
        obtain ⟨W5, HW5⟩ : ∃ x, x = wc := ⟨_, rfl⟩
        subst HW5
        have hR3' : R + 3 ≤ W0.heap.size := by have := hQ.1.1; omega
        have hR3 : R + 3 ≤ W5.heap.size := by have := hU.bo.bl; have h1 := (hQ.bel hb2).1.1; omega
        have HRA : Hid (∀ W, Bel W5 W → Calls Try.prog 30 #[.agg #[.int .i64 M, .int .i64 B], .agg #[.slice Av2 lv2 cv2], .agg #[.int .i64 (x.b).id, .int .i64 (x.b).ten, .int .i64 (x.b).knd, .int .i64 (x.b).sec, .int .i64 (x.b).cnt, .string (x.b).dat, .bool (x.b).fua, .slice (x.b).mA (x.b).mL (x.b).mC, .int .i64 (x.b).tim]] W fun e w' => ∃ v' L', e = .returned (.tuple #[.agg #[v'], .bool true]) ∧ BN w' (R + 3) v' L' ∧ L'.map BM.bu = K ∧ NewR W (x :: L2) v' L' ∧ Bel W w') := fun W hb => HRA0.out W (hb2.trans hb) (Nat.le_trans hR3 hb.size)
        have HOLD : Hid (∀ z ∈ x :: L2, 0 < z.ms.length → ∀ k, (Value.slice z.b.mA z.b.mL z.b.mC).ownBlock = some k → k < W5.heap.size) := fun z hz h0 k hk => Nat.lt_of_lt_of_le (HOLD0.out z hz h0 k hk) hb2.size
        have hM5 := hM.bel hb2
        have hP5 := hP.bel hb2
        have hQ5 := hQ.bel hb2
        have hU5 := hU.keep hb2
        have hrow5 := hrow.bel hb2 hgl
        go_upto_region 8 with fail
        go_cut [12, 13] (fun xv kv wx => ∃ (H : Nat) (v' : Value) (L2 : List BM), xv = .pointer (some ⟨H, 0, none⟩) ∧ kv = .bool true ∧ AtF wx H [v'] ∧ BN wx (R + 3) v' L2 ∧ L2.map BM.bu = K ∧ Bel W5 wx ∧ W5.heap.size ≤ H)
        case first =>
          have m0 := hM5.1.2 0 _ rfl
          have m1 := hM5.1.2 1 _ rfl
          have q0 := hQ5.1.2 0 _ rfl
          have rg0 := fun d os => cell_regrown m0 d os
          have rg1 := fun d os => cell_regrown m1 d os
          have rg2 := fun d os => cell_regrown q0 d os
          obtain ⟨⟨i1, t1, k1, s1, n1, d1, f1, a1, l1, c3, m3⟩, ms1⟩ := x
          simp only at hrow5 HRA
          have b0 := (hrow5).cell 0 rfl
          have b1 := (hrow5).cell 1 rfl
          have b2 := (hrow5).cell 2 rfl
          have b3 := (hrow5).cell 3 rfl
          have b4 := (hrow5).cell 4 rfl
          have b5 := (hrow5).cell 5 rfl
          have b6 := (hrow5).cell 6 rfl
          have b7 := (hrow5).cell 7 rfl
          have b8 := (hrow5).cell 8 rfl
          rw [Nat.add_zero] at b0
          have r0 := fun d os => cell_regrown b0 d os
          have r1 := fun d os => cell_regrown b1 d os
          have r2 := fun d os => cell_regrown b2 d os
          have r3 := fun d os => cell_regrown b3 d os
          have r4 := fun d os => cell_regrown b4 d os
          have r5 := fun d os => cell_regrown b5 d os
          have r6 := fun d os => cell_regrown b6 d os
          have r7 := fun d os => cell_regrown b7 d os
          have r8 := fun d os => cell_regrown b8 d os
          clear m0 m1 q0 hrow5
          clear b0 b1 b2 b3 b4 b5 b6 b7 b8
          refine wp_region_st [6, 10, 11] 12 (by kernel_rfl) (by kernel_rfl) ?_
          with_reducible refine st_sel [0, 1, 2, 3, 4, 5] (by kernel_rfl) (by kernel_rfl) ?_
          simp only [picked, List.getElem?_cons_succ, List.getElem?_cons_zero, Option.toList_some, List.nil_append, List.cons_append, List.append_nil]
          try simp only [Act.put, List.setIfInBounds_toArray, List.set_cons_succ, List.set_cons_zero]
          repeat (go_big_quiet_step (fail))
          with_reducible refine wpQuiet_nil ?_
          refine st_branch [6, 10] (by kernel_rfl) (branch_cons (by simp only [List.getElem?_toArray, List.getElem?_cons_succ, List.getElem?_cons_zero]; rfl) ?_ (branch_cons (by simp only [List.getElem?_toArray, List.getElem?_cons_succ, List.getElem?_cons_zero]; rfl) ?_ branch_nil))
          · skip
            refine eff_call 30 rfl (by simp [go_sem]; rfl) (by repeat (first | (with_reducible exact Bel.refl _) | (with_reducible assumption) | (with_reducible refine Bel.drewN ?_ _) | (with_reducible refine Bel.drew ?_) | (with_reducible refine Bel.alloc ?_ _) | (with_reducible refine Bel.setNew ?_ ?_ _) | (with_reducible refine Bel.trans ?_ (by assumption)) | (focus (simp; done)) | (focus (simp; omega)))) ?_
            refine (HRA.out _ (by repeat (first | (with_reducible exact Bel.refl _) | (with_reducible assumption) | (with_reducible refine Bel.drewN ?_ _) | (with_reducible refine Bel.drew ?_) | (with_reducible refine Bel.alloc ?_ _) | (with_reducible refine Bel.setNew ?_ ?_ _) | (with_reducible refine Bel.trans ?_ (by assumption)) | (focus (simp; done)) | (focus (simp; omega))))).mono ?_; rintro e w6 ⟨v', L', rfl, hBN6, hL6, hNR6, hb6⟩
            obtain ⟨Av, cv, hvv⟩ := own_slice hBN6.bo.own
            generalize L'.length = lv at hvv
            subst hvv
            refine ⟨_, rfl, hb6, ?_⟩
            try simp only [List.nil_append, List.cons_append, Act.put, List.setIfInBounds_toArray, List.set_cons_succ, List.set_cons_zero]
            with_reducible refine st_sel [7, 8, 9] (by kernel_rfl) (by kernel_rfl) ?_
            simp only [picked, List.getElem?_cons_succ, List.getElem?_cons_zero, Option.toList_some, List.nil_append, List.cons_append, List.append_nil]
            try simp only [Act.put, List.setIfInBounds_toArray, List.set_cons_succ, List.set_cons_zero]
            repeat (go_big_quiet_step (fail))
            with_reducible refine wpQuiet_nil ?_
            refine st_branch [10] (by kernel_rfl) (branch_cons (by simp only [List.getElem?_toArray, List.getElem?_cons_succ, List.getElem?_cons_zero]; rfl) ?_ branch_nil)
            refine eff_made rfl (by simp [go_sem]; exact ⟨rfl, rfl⟩) (by repeat (first | (with_reducible exact Bel.refl _) | (with_reducible assumption) | (with_reducible refine Bel.drewN ?_ _) | (with_reducible refine Bel.drew ?_) | (with_reducible refine Bel.alloc ?_ _) | (with_reducible refine Bel.setNew ?_ ?_ _) | (with_reducible refine Bel.trans ?_ (by assumption)) | (focus (simp; done)) | (focus (simp; omega)))) ?_
            try simp only [List.nil_append, List.cons_append, Act.put, List.setIfInBounds_toArray, List.set_cons_succ, List.set_cons_zero]
            refine st_branch [11] (by kernel_rfl) (branch_cons (by simp only [List.getElem?_toArray, List.getElem?_cons_succ, List.getElem?_cons_zero]; rfl) ?_ branch_nil)
            refine eff_done rfl (by simp [go_sem]; rfl) (by repeat (first | (with_reducible exact Bel.refl _) | (with_reducible assumption) | (with_reducible refine Bel.drewN ?_ _) | (with_reducible refine Bel.drew ?_) | (with_reducible refine Bel.alloc ?_ _) | (with_reducible refine Bel.setNew ?_ ?_ _) | (with_reducible refine Bel.trans ?_ (by assumption)) | (focus (simp; done)) | (focus (simp; omega)))) ?_
            try simp only [List.nil_append, List.cons_append, Act.put, List.setIfInBounds_toArray, List.set_cons_succ, List.set_cons_zero]
            refine st_end (by kernel_rfl) ?_
            simp only [List.drop_succ_cons, List.drop_zero, List.drop_nil]
            have hb06 : Bel W5 w6 := by
              refine Bel.trans ?_ hb6
              exact (by repeat (first | (with_reducible exact Bel.refl _) | (with_reducible assumption) | (with_reducible refine Bel.drewN ?_ _) | (with_reducible refine Bel.drew ?_) | (with_reducible refine Bel.alloc ?_ _) | (with_reducible refine Bel.setNew ?_ ?_ _) | (with_reducible refine Bel.trans ?_ (by assumption)) | (focus (simp; done)) | (focus (simp; omega))))
            go_wp2_with fail
            go_meet
            exact ⟨_, _, L', rfl, rfl, AtF.new_at rfl _ _, hBN6.keep ((Bel.refl _).alloc _), hL6, hb06.alloc _, hb06.size⟩
          · skip
            refine eff_made rfl (by simp [go_sem]; exact ⟨rfl, rfl⟩) (by repeat (first | (with_reducible exact Bel.refl _) | (with_reducible assumption) | (with_reducible refine Bel.drewN ?_ _) | (with_reducible refine Bel.drew ?_) | (with_reducible refine Bel.alloc ?_ _) | (with_reducible refine Bel.setNew ?_ ?_ _) | (with_reducible refine Bel.trans ?_ (by assumption)) | (focus (simp; done)) | (focus (simp; omega)))) ?_
            try simp only [List.nil_append, List.cons_append, Act.put, List.setIfInBounds_toArray, List.set_cons_succ, List.set_cons_zero]
            refine st_branch [6] (by kernel_rfl) (branch_cons (by simp only [List.getElem?_toArray, List.getElem?_cons_succ, List.getElem?_cons_zero]; rfl) ?_ branch_nil)
            refine eff_call 30 rfl (by simp [go_sem]; rfl) (by repeat (first | (with_reducible exact Bel.refl _) | (with_reducible assumption) | (with_reducible refine Bel.drewN ?_ _) | (with_reducible refine Bel.drew ?_) | (with_reducible refine Bel.alloc ?_ _) | (with_reducible refine Bel.setNew ?_ ?_ _) | (with_reducible refine Bel.trans ?_ (by assumption)) | (focus (simp; done)) | (focus (simp; omega)))) ?_
            refine (HRA.out _ (by repeat (first | (with_reducible exact Bel.refl _) | (with_reducible assumption) | (with_reducible refine Bel.drewN ?_ _) | (with_reducible refine Bel.drew ?_) | (with_reducible refine Bel.alloc ?_ _) | (with_reducible refine Bel.setNew ?_ ?_ _) | (with_reducible refine Bel.trans ?_ (by assumption)) | (focus (simp; done)) | (focus (simp; omega))))).mono ?_; rintro e w6 ⟨v', L', rfl, hBN6, hL6, hNR6, hb6⟩
            obtain ⟨Av, cv, hvv⟩ := own_slice hBN6.bo.own
            generalize L'.length = lv at hvv
            subst hvv
            refine ⟨_, rfl, hb6, ?_⟩
            try simp only [List.nil_append, List.cons_append, Act.put, List.setIfInBounds_toArray, List.set_cons_succ, List.set_cons_zero]
            with_reducible refine st_sel [7, 8, 9] (by kernel_rfl) (by kernel_rfl) ?_
            simp only [picked, List.getElem?_cons_succ, List.getElem?_cons_zero, Option.toList_some, List.nil_append, List.cons_append, List.append_nil]
            try simp only [Act.put, List.setIfInBounds_toArray, List.set_cons_succ, List.set_cons_zero]
            repeat (go_big_quiet_step (fail))
            with_reducible refine wpQuiet_nil ?_
            refine st_branch [11] (by kernel_rfl) (branch_cons (by simp only [List.getElem?_toArray, List.getElem?_cons_succ, List.getElem?_cons_zero]; rfl) ?_ branch_nil)
            have hE : AtF w6 W5.heap.size [.slice none 0 0] := (AtF.new_at (w := W5.drew) rfl 48 [.slice none 0 0]).bel hb6
            have hb06 : Bel W5 w6 := by
              refine Bel.trans ?_ hb6
              exact (by repeat (first | (with_reducible exact Bel.refl _) | (with_reducible assumption) | (with_reducible refine Bel.drewN ?_ _) | (with_reducible refine Bel.drew ?_) | (with_reducible refine Bel.alloc ?_ _) | (with_reducible refine Bel.setNew ?_ ?_ _) | (with_reducible refine Bel.trans ?_ (by assumption)) | (focus (simp; done)) | (focus (simp; omega))))
            have hbX := hb06.setNew (p := ⟨W5.heap.size, 0, none⟩) (Nat.le_refl _) (.slice Av lv cv)
            have HF := Lib.hid (And.intro (hE.set 0 (by simp) (.slice Av lv cv)) (And.intro (hBN6.farP (p := ⟨W5.heap.size, 0, none⟩) (fun e => by have h1 := hNR6.1 _ e; simp only [World.size_alloc, World.size_drew] at h1; omega) (fun z hz h0 e => by
              rcases hNR6.2 z hz h0 _ e with h1 | ⟨y, hy, h2, h3⟩
              · simp only [World.size_alloc, World.size_drew] at h1; omega
              · have h4 := HOLD.out y hy h2 _ h3; have h5 : W5.heap.size < W5.heap.size := h4; omega) (.slice Av lv cv)) hbX))
            have e0 := hE.1.2 0 _ rfl
            have ef := hE.2 0
            have el := hE.1.1
            refine eff_done rfl (by simp [go_sem, e0, ef]; try rfl) hbX ?_
            try simp only [List.nil_append, List.cons_append, Act.put, List.setIfInBounds_toArray, List.set_cons_succ, List.set_cons_zero]
            clear e0 ef el hE hbX
            refine st_end (by kernel_rfl) ?_
            simp only [List.drop_succ_cons, List.drop_zero, List.drop_nil]
            go_wp2_with fail
            go_meet
            exact ⟨_, _, L', rfl, rfl, HF.out.1, HF.out.2.1, hL6, HF.out.2.2, Nat.le_refl _⟩
        case rest =>
          obtain ⟨H2, v3, L3, rfl, rfl, hH2, hV3, hL3, hb3, hle2⟩ := hcut
          obtain ⟨A1, c1, hvv⟩ := own_slice hV1.bo.own
          obtain ⟨l1, Hl1⟩ : ∃ n, Hid (L1.length = n) := ⟨_, rfl⟩
          rw [Hl1.out] at hvv
          subst hvv
          obtain ⟨A3, c3', hvv⟩ := own_slice hV3.bo.own
          obtain ⟨l3, Hl3⟩ : ∃ n, Hid (L3.length = n) := ⟨_, rfl⟩
          rw [Hl3.out] at hvv
          subst hvv
          have HL1 := Lib.hid hL1
          have HL3 := Lib.hid hL3
          have HSB := Lib.hid (fun W (hb : Bel wc W) => refSames_any L1 L3 _ _ W ((hV1.bo.bl.bel hb3).bel hb) (hV3.bo.bl.bel hb) (by rw [HL1.out, HL3.out]))
          have HPOS : Hid ((.slice A3 l3 c3' = Value.slice none 0 0 ∧ L3 = []) ∨ 0 < L3.length) := by
            right
            have hq1 : i + 1 ≤ n := by omega
            have hp := plugP_pos HDK.out HLIM.out (m := i) (List.getElem?_eq_getElem (by rw [HNQ.out]; omega))
            rw [HK.out, ← HL3.out, List.length_map] at hp
            exact hp
          have hx0 := (hH1.bel hb3).1.2 0 _ rfl
          have hy0 := hH2.1.2 0 _ rfl
          have hX6 := hH1.bel hb3
          have hM6 := hM5.bel hb3
          have hP6 := hP5.bel hb3
          have hQ6 := hQ5.bel hb3
          have hU6 := hU5.keep hb3
          have hVa6 := (hV1.mono hR3').keep hb3
          have hbw6 := (hbr.trans hb2).trans hb3
          go_wp2_with fail
          refine (HSB.out _ (by repeat (first | (with_reducible exact Bel.refl _) | (with_reducible assumption) | (with_reducible refine Bel.drewN ?_ _) | (with_reducible refine Bel.drew ?_) | (with_reducible refine Bel.alloc ?_ _) | (with_reducible refine Bel.setNew ?_ ?_ _) | (with_reducible refine Bel.trans ?_ (by assumption)) | (focus (simp; done)) | (focus (simp; omega))))).mono ?_; rintro e W7 ⟨rfl, hb7⟩
          have hX7 := hX6.bel hb7
          have hY7 := hH2.bel hb7
          have hM7 := hM6.bel hb7
          have hP7 := hP6.bel hb7
          have hQ7 := hQ6.bel hb7
          have hU7 := hU6.keep hb7
          have hVa7 := hVa6.keep hb7
          have hVb7 := hV3.keep hb7
          have hbw7 := hbw6.trans hb7
          have one1 : ∀ u ∈ [Value.slice A1 l1 c1], u.oneCell' = true := fun u hu => by simp at hu; subst hu; rfl
          have one3 : ∀ u ∈ [Value.slice A3 l3 c3'], u.oneCell' = true := fun u hu => by simp at hu; subst hu; rfl
          have hi1 : (Try.prog.info? 48).map (·.size) = some 1 := by kernel_rfl
          clear hx0 hy0 hX6 hM6 hP6 hQ6 hU6 hVa6 hbw6 hM5 hP5 hQ5 hU5 hM hP hQ hU hV hV2 hH1 hH2 hV1 hV3 hL1 hL3 hrow hrow5 hbr hb2 hb3 hb7 HSB HRA HRA0 HOLD HOLD0 HAD hgl HMX
          go_wp2_with fail
          have hl1 : R + 3 ≤ H1 := Nat.le_trans hR3' hle1
          have hl2 : R + 3 ≤ H2 := Nat.le_trans hR3 hle2
          let PSS : World → Prop := fun W' => AtF W' H1 [.slice A1 l1 c1] ∧ AtF W' H2 [.slice A3 l3 c3']
          haveI nnS : Nonempty (InS PSS) := ⟨⟨W7, hX7, hY7⟩⟩
          have ra0 := fun (p : InS PSS) => p.h.1.1.2 0 _ rfl
          have rb0 := fun (p : InS PSS) => p.h.2.1.2 0 _ rfl
          refine wp_region_sts PSS [2, 3] 4 (by kernel_rfl) (by kernel_rfl) ?hS0 ?_
          case hS0 => exact ⟨hX7.drew, hY7.drew⟩
          with_reducible refine st_sel [0, 1] (by kernel_rfl) (by kernel_rfl) ?_
          simp only [picked, List.getElem?_cons_succ, List.getElem?_cons_zero, Option.toList_some, List.nil_append, List.cons_append, List.append_nil]
          try simp only [Act.put, List.setIfInBounds_toArray, List.set_cons_succ, List.set_cons_zero]
          repeat (go_big_quiet_step (fail))
          with_reducible refine wpQuiet_nil ?_
          refine st_branch [2] (by kernel_rfl) (branch_cons (by simp only [List.getElem?_toArray, List.getElem?_cons_succ, List.getElem?_cons_zero]; rfl) ?_ branch_nil)
          refine eff_done_s rfl (exec_store_at (vs := [.slice A1 l1 c1]) 48 (.tmp 6) (.tmp 59) rfl rfl rfl hP7.drew rfl one1 hi1) ?hS1 ?_
          case hS1 => exact ⟨(hX7.drew).setRow_other (B := R + 1) (i := 0) [.slice A1 l1 c1] (by omega), (hY7.drew).setRow_other (B := R + 1) (i := 0) [.slice A1 l1 c1] (by omega)⟩
          try simp only [List.nil_append, List.cons_append, Act.put, List.setIfInBounds_toArray, List.set_cons_succ, List.set_cons_zero]
          refine st_branch [3] (by kernel_rfl) (branch_cons (by simp only [List.getElem?_toArray, List.getElem?_cons_succ, List.getElem?_cons_zero]; rfl) ?_ branch_nil)
          have hX8 := hX7.drew.setRow_other (B := R + 1) (i := 0) [.slice A1 l1 c1] (by omega)
          have hY8 := hY7.drew.setRow_other (B := R + 1) (i := 0) [.slice A1 l1 c1] (by omega)
          have hM8 := hM7.drew.setRow_other (B := R + 1) (i := 0) [.slice A1 l1 c1] (by omega)
          have hQ8 := hQ7.drew.setRow_other (B := R + 1) (i := 0) [.slice A1 l1 c1] (by omega)
          have hP8 := hP7.drew.setRow [.slice A1 l1 c1] rfl
          have hU8 := BN.setRow (B := R + 1) (i := 0) [.slice A1 l1 c1] (hU7.keep (Bel.drew (Bel.refl _))) (by omega)
          have hVa8 := BN.setRow (B := R + 1) (i := 0) [.slice A1 l1 c1] (hVa7.keep (Bel.drew (Bel.refl _))) (by omega)
          have hVb8 := BN.setRow (B := R + 1) (i := 0) [.slice A1 l1 c1] (hVb7.keep (Bel.drew (Bel.refl _))) (by omega)
          have hb8 : Bel w (setRow W7.drew (R + 1) 0 [.slice A1 l1 c1]) := Bel.setRow _ hbw7.drew (by omega)
          generalize hW8 : setRow W7.drew (R + 1) 0 [.slice A1 l1 c1] = W8
          rw [hW8] at hX8 hY8 hM8 hQ8 hP8 hU8 hVa8 hVb8 hb8
          clear hW8
          with_reducible refine eff_done_s (w' := setRow W8 (R + 2) 0 [.slice A3 l3 c3']) ?hq1 ?hq2 ?hS1 ?hq3
          case hq1 => rfl
          case hq2 => exact exec_store_at (vs := [.slice A3 l3 c3']) 48 (.tmp 7) (.tmp 60) rfl rfl rfl hQ8 rfl one3 hi1
          case hS1 => exact ⟨hX8.setRow_other (B := R + 2) (i := 0) [.slice A3 l3 c3'] (by omega), hY8.setRow_other (B := R + 2) (i := 0) [.slice A3 l3 c3'] (by omega)⟩
          try simp only [List.nil_append, List.cons_append, Act.put, List.setIfInBounds_toArray, List.set_cons_succ, List.set_cons_zero]
          refine st_end (by kernel_rfl) ?_
          simp only [List.drop_succ_cons, List.drop_zero, List.drop_nil]
          have hM9 := hM8.setRow_other (B := R + 2) (i := 0) [.slice A3 l3 c3'] (by omega)
          have hP9 := hP8.setRow_other (B := R + 2) (i := 0) [.slice A3 l3 c3'] (by omega)
          have hQ9 := hQ8.setRow [.slice A3 l3 c3'] rfl
          have hU9 := BN.setRow (B := R + 2) (i := 0) [.slice A3 l3 c3'] hU8 (by omega)
          have hVa9 := BN.setRow (B := R + 2) (i := 0) [.slice A3 l3 c3'] hVa8 (by omega)
          have hVb9 := BN.setRow (B := R + 2) (i := 0) [.slice A3 l3 c3'] hVb8 (by omega)
          have hb9 : Bel w (setRow W8 (R + 2) 0 [.slice A3 l3 c3']) := Bel.setRow _ hb8 (by omega)
          generalize hW9 : setRow W8 (R + 2) 0 [.slice A3 l3 c3'] = W9
          rw [hW9] at hM9 hP9 hQ9 hU9 hVa9 hVb9 hb9
          clear hW9
          have HEa := Lib.hid (show L1.map BM.bu = plugP M B Q (i + 1) by rw [HL1.out, HK.out])
          have HEb := Lib.hid (show L3.map BM.bu = plugP M B Q (i + 1) by rw [HL3.out, HK.out])
          go_wp2
          go_roundw
          case rel => exact ⟨i + 1, _, _, L1, L3, by go_num, by omega, HEa, HEb, HPOS, hM9, hP9, hQ9, hVa9, hVb9, hU9, hb9⟩
          case measure => simp [intOf]; omega
    · obtain rfl : i = n := by omega
      have hii : decide ((i : Int) < (i : Int)) = false := by simp
      have hl28 : L2.length ≤ 8 := by
        have h1 := (HPS.out i p1).len
        rw [← HL2.out, List.length_map] at h1
        omega
      have HDR := Lib.hid (fun W (hb : Bel W0 W) => drain_any L' (.slice Av lv cv) W (hV.bo.bl.bel hb) (by have := HLL.out; omega) (fun x hx => by have := (HLM.out x hx).1; omega))
      have HDR2 := Lib.hid (fun W (hb : Bel W0 W) => refDrain_any L2 (.slice Av2 lv2 cv2) W (hV2.bo.bl.bel hb) (by omega))
      have HOR := Lib.hid (fun W (hb : Bel W0 W) => order_any L (.slice A i c) W (hU.bo.bl.bel hb) (by have := Hn.out; omega))
      have HOR2 := Lib.hid (fun W (hb : Bel W0 W) => refOrder_any L (.slice A i c) W (hU.bo.bl.bel hb) (by have := Hn.out; omega))
      rw [HL.out] at HDR
      rw [HL2.out] at HDR2
      have HAW := Lib.hid (fun w' => awake26_any w')
      obtain ⟨oo, HOO⟩ : ∃ o, Hid (oI (ordP (L.map BM.bu)) = o) := ⟨_, rfl⟩
      have HOL : Hid (oo.length = L.length) := by
        show _ = _
        rw [← HOO.out]
        unfold oI
        rw [List.length_map, ordP_lenR, List.length_map]
      rw [HOO.out] at HOR HOR2
      have p0 := hP.1.2 0 _ rfl
      have hQW := Lib.hid hQ
      clear hM hP hQ hV hV2 hU HLL HLM HPS
      go_wp2_with fail
      refine (HDR.out _ (Bel.refl _)).mono ?_; rintro e w3 ⟨v4, L4, rfl, hV4, hL4, hb3⟩
      have q0 := ((hQW.out.bel hb3).alloc (.cells [.slice none 0 0].toArray 48)).1.2 0 _ rfl
      have hE := AtF.new_at (w := w3) rfl 48 [.slice none 0 0]
      have hbE : Bel W0 (w3.alloc (.cells [.slice none 0 0].toArray 48)) := hb3.alloc _
      have hV4E := hV4.keep ((Bel.refl w3).alloc (.cells [.slice none 0 0].toArray 48))
      simp only [List.toArray] at q0 hE hbE hV4E
      clear p0
      go_wp2_with fail
      refine (HDR2.out _ hbE).mono ?_; rintro e w4 ⟨v5, L5, rfl, hV5, hL5, hb4⟩
      have hE4 := (hE.bel hb4).alloc (.cells [.slice none 0 0].toArray 48)
      have hV44 := hV4E.keep (hb4.alloc (.cells [.slice none 0 0].toArray 48))
      have hV54 := hV5.bel ((Bel.refl w4).alloc (.cells [.slice none 0 0].toArray 48))
      have hb04 := (hbE.trans hb4).alloc (.cells [.slice none 0 0].toArray 48)
      simp only [List.toArray] at hE4 hV44 hV54 hb04
      clear q0 hE hbE hV4E hb4 hV4 hV5
      go_wp2_with fail
      refine (refSames_any L4 L5 v4 v5 _ hV44.bo.bl hV54 (by rw [hL4, hL5])).mono ?_; rintro e w5 ⟨rfl, hb5⟩
      have hE5 := hE4.bel hb5
      have e50 := hE5.1.2 0 _ rfl
      have hb05 := hb04.trans hb5
      clear hE4 hV44 hV54 hb04 hb5
      go_wp2_with fail
      refine (HOR.out _ hb05).mono ?_; rintro e w6 ⟨va, rfl, hoa, hb6⟩
      have hb06 := hb05.trans hb6
      clear e50 hE5 hb05
      go_wp2_with fail
      refine (HOR2.out _ hb06).mono ?_; rintro e w7 ⟨vb, rfl, hob, hb7⟩
      have hoa7 := own_keep hoa hb7
      have hb07 := hb06.trans hb7
      go_wp2_with fail
      refine (sameInts_eq oo va vb _ (by rw [HOL.out]; exact Rd.own hoa7) (by rw [HOL.out]; exact Rd.own hob)).mono ?_; rintro e w8 ⟨rfl, hb8⟩
      have hb08 := hb07.trans hb8
      clear hoa hoa7 hob hb6 hb06 hb7 hb07 hb8
      go_wp2_with fail
      refine (HAW.out _).mono ?_; rintro e w9 ⟨rfl, hb9⟩
      have hbe : Bel w w9 := (hbr.trans hb08).trans hb9
      go_wp2
      go_ret
      exact ⟨rfl, hbe⟩
end Go.Proofs.Ytbijfmpmgmfpgaa
