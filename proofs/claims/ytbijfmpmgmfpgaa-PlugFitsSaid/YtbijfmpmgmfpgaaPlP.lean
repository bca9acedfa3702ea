/- The walk of PlugFits. -/
import Derived.Test.YtbijfmpmgmfpgaaPlO
import Derived.Test.YtbijfmpmgmfpgaaBnsN
import Derived.Test.YtbijfmpmgmfpgaaLimOk
import Derived.Test.YtbijfmpmgmfpgaaPlJ
namespace Go.Proofs.Ytbijfmpmgmfpgaa
open Go.RowKit Go.Maps
set_option linter.unusedSimpArgs false

set_option maxRecDepth 100000 in
set_option maxHeartbeats 16000000 in
theorem plugFits_walk (a : Int) (v : Value) (zs : List Int) (w : World) (_ : IsInt a) (hz : Ints w v zs) :
    Calls Try.prog 10 #[.int .i64 a, v] w fun e w' => e = .returned (.bool true) ∧ Bel w w' := by
  have HBN := Lib.hid (fun w' (h : Bel w w') => bunchesN_any v zs w' (hz.bel h))
  clear hz
  go_enter Try.func10, Try.ntmps10
  go_wp2_with fail
  refine (limits_any a _).mono ?_; rintro e w1 ⟨rfl, hb1⟩
  obtain ⟨M, HM⟩ : ∃ M, Hid (M = 1 + rnd a 6) := ⟨_, rfl⟩
  obtain ⟨B, HB⟩ : ∃ B, Hid (B = bound a) := ⟨_, rfl⟩
  have HLIM := Lib.hid (lim_ok a)
  rw [← HM.out, ← HB.out] at HLIM ⊢
  have hM := (AtF.new_at (w := w1) rfl 38 [.int .i64 M, .int .i64 B]).alloc (.cells [.slice none 0 0].toArray 48)
  have hP := AtF.new_at (w := w1.alloc (.cells [.int .i64 M, .int .i64 B].toArray 38)) (g := w1.heap.size + 1) (by simp) 48 [.slice none 0 0]
  have hbw : Bel w ((w1.alloc (.cells [.int .i64 M, .int .i64 B].toArray 38)).alloc (.cells [.slice none 0 0].toArray 48)) := (by repeat (first | (with_reducible exact Bel.refl _) | (with_reducible assumption) | (with_reducible refine Bel.drewN ?_ _) | (with_reducible refine Bel.drew ?_) | (with_reducible refine Bel.alloc ?_ _) | (with_reducible refine Bel.setNew ?_ ?_ _) | (with_reducible refine Bel.trans ?_ (by assumption)) | (focus (simp; done)) | (focus (simp; omega))))
  have hsz : ((w1.alloc (.cells [.int .i64 M, .int .i64 B].toArray 38)).alloc (.cells [.slice none 0 0].toArray 48)).heap.size = w1.heap.size + 2 := by simp
  simp only [List.toArray] at hM hP hbw hsz
  go_wp2_with fail
  refine (HBN.out _ hbw).mono ?_; rintro e w2 ⟨u, L, rfl, hL, hBN, hb2⟩
  have hM2 := hM.bel hb2
  have hP2 := hP.bel hb2
  have hbw2 := hbw.trans hb2
  have HDK := Lib.hid (bns_dk hL (by omega))
  rw [hsz] at hBN
  have hwR := hb1.size
  clear hM hP hbw hsz hb1 hb2 HBN
  generalize w1.heap.size = R at *
  obtain ⟨A, c, rfl⟩ := own_slice hBN.bo.own
  have hn8 : L.length ≤ 8 := by rw [hL.1]; omega
  obtain ⟨Q, HQ⟩ : ∃ Q, Hid (Q = L.map BM.bu) := ⟨_, rfl⟩
  obtain ⟨n, Hn⟩ : ∃ n, Hid (n = L.length) := ⟨_, rfl⟩
  rw [← HQ.out] at HDK
  have HNQ : Hid (Q.length = n) := by show _ = _; rw [HQ.out, List.length_map]; exact Hn.out.symm
  have HPS : Hid (∀ m ≤ n, PlS M B Q m (plugP M B Q m)) := fun m hm => plugP_ok HDK.out HLIM.out m (by rw [HNQ.out]; exact hm)
  rw [← Hn.out] at hn8 hBN ⊢
  clear hL
  go_wp2
  go_loopw [8] (fun iv wr => ∃ (i : Nat) (v : Value) (L' : List BM), iv = .int .i64 i ∧ i ≤ n ∧ Hid (L'.map BM.bu = plugP M B Q i) ∧ AtF wr R [.int .i64 M, .int .i64 B] ∧ AtF wr (R + 1) [v] ∧ BN wr (R + 2) v L' ∧ BN wr (R + 2) (.slice A n c) L ∧ Bel w wr) (fun iv _ => n - (intOf iv).toNat)
  case atStart => exact ⟨0, _, [], rfl, by omega, rfl, hM2, hP2, ⟨BO.nil _ _, fun j x hj => by simp at hj⟩, hBN, hbw2⟩
  case round =>
    clear hM2 hP2 hBN hbw2
    obtain ⟨i, v, L', rfl, p1, HL, hM, hP, hV, hU, hbr⟩ := hrel
    obtain ⟨W0, rfl⟩ : ∃ X, X = wr := ⟨_, rfl⟩
    have HLL : Hid (L'.length ≤ 8) := by
      show L'.length ≤ 8
      have h1 := (HPS.out i p1).len
      rw [← HL.out, List.length_map] at h1
      omega
    have HLM : Hid (∀ x ∈ L', x.ms.length ≤ 128 ∧ okU x.bu = true) := fun x hx => by
      have h1 := (HPS.out i p1).each x.bu (by rw [← HL.out]; exact List.mem_map_of_mem hx)
      exact ⟨(ok_small h1.ok).1, h1.ok⟩
    obtain ⟨Av, cv, hvv⟩ := own_slice hV.bo.own
    obtain ⟨lv, Hlv⟩ : ∃ k, Hid (L'.length = k) := ⟨_, rfl⟩
    rw [Hlv.out] at hvv
    subst hvv
    by_cases hlt : i < n
    · have hin : (i : Int) < (n : Int) := by omega
      obtain ⟨x, hx⟩ : ∃ x, L[i]? = some x := ⟨L[i]'(by have := Hn.out; omega), List.getElem?_eq_getElem _⟩
      obtain ⟨g, o, c2, hat⟩ := hU.bo.bl.at hx
      have hQx : Q[i]? = some x.bu := by rw [HQ.out, List.getElem?_map, hx]; rfl
      have HADD := Lib.hid (plugP_add HDK.out HLIM.out hQx)
      have hfo := hat.form
      injection hfo with h1 h2 h3
      subst h1
      have hrow := hat.row
      have hmx := hat.mem
      have HAD : Hid (∀ W, Bel W0 W → Calls Try.prog 29 #[.agg #[.int .i64 M, .int .i64 B], .agg #[.slice Av lv cv], .agg #[.int .i64 (x.b).id, .int .i64 (x.b).ten, .int .i64 (x.b).knd, .int .i64 (x.b).sec, .int .i64 (x.b).cnt, .string (x.b).dat, .bool (x.b).fua, .slice (x.b).mA (x.b).mL (x.b).mC, .int .i64 (x.b).tim]] W fun e w' => ∃ v' L', e = .returned (.tuple #[.agg #[v'], .bool true]) ∧ BN w' W.heap.size v' L' ∧ L'.map BM.bu = plugP M B Q (i + 1) ∧ Bel W w') := fun W hb => by
        have := add_any M B (.slice Av lv cv) L' x W (hV.bo.bl.bel hb) (hmx.bel hb) (by have := HLL.out; omega) (fun y hy => by have := (HLM.out y hy).1; omega)
        rw [HL.out, HADD.out] at this
        exact this
      obtain ⟨K, HK⟩ : ∃ P : List Bu, Hid (plugP M B Q (i + 1) = P) := ⟨_, rfl⟩
      rw [HK.out] at HAD
      clear hx hQx h2 h3 hat hmx HADD
      go_upto_region 7 with fail
      go_cut [9, 10] (fun xv kv wx => ∃ (H : Nat) (v' : Value) (L2 : List BM), xv = .pointer (some ⟨H, 0, none⟩) ∧ kv = .bool true ∧ AtF wx H [v'] ∧ BN wx W0.heap.size v' L2 ∧ L2.map BM.bu = K ∧ Bel W0 wx)
      case first =>
        have m0 := hM.1.2 0 _ rfl
        have m1 := hM.1.2 1 _ rfl
        have q0 := hP.1.2 0 _ rfl
        have rg0 := fun d os => cell_regrown m0 d os
        have rg1 := fun d os => cell_regrown m1 d os
        have rg2 := fun d os => cell_regrown q0 d os
        obtain ⟨⟨i1, t1, k1, s1, n1, d1, f1, a1, l1, c3, m3⟩, ms1⟩ := x
        simp only at hrow HAD
        have b0 := (hrow).cell 0 rfl
        have b1 := (hrow).cell 1 rfl
        have b2 := (hrow).cell 2 rfl
        have b3 := (hrow).cell 3 rfl
        have b4 := (hrow).cell 4 rfl
        have b5 := (hrow).cell 5 rfl
        have b6 := (hrow).cell 6 rfl
        have b7 := (hrow).cell 7 rfl
        have b8 := (hrow).cell 8 rfl
        rw [Nat.add_zero] at b0
        have r0 := fun d os => cell_regrown b0 d os
        have r1 := fun d os => cell_regrown b1 d os
        have r2 := fun d os => cell_regrown b2 d os
        have r3 := fun d os => cell_regrown b3 d os
        have r4 := fun d os => cell_regrown b4 d os
        have r5 := fun d os => cell_regrown b5 d os
        have r6 := fun d os => cell_regrown b6 d os
        have r7 := fun d os => cell_regrown b7 d os
        have r8 := fun d os => cell_regrown b8 d os
        clear m0 m1 q0 hrow
        clear b0 b1 b2 b3 b4 b5 b6 b7 b8
        refine wp_region_st [6, 10, 11] 12 (by kernel_rfl) (by kernel_rfl) ?_
        with_reducible refine st_sel [0, 1, 2, 3, 4, 5] (by kernel_rfl) (by kernel_rfl) ?_
        simp only [picked, List.getElem?_cons_succ, List.getElem?_cons_zero, Option.toList_some, List.nil_append, List.cons_append, List.append_nil]
        try simp only [Act.put, List.setIfInBounds_toArray, List.set_cons_succ, List.set_cons_zero]
        repeat (go_big_quiet_step (fail))
        with_reducible refine wpQuiet_nil ?_
        refine st_branch [6, 10] (by kernel_rfl) (branch_cons (by simp only [List.getElem?_toArray, List.getElem?_cons_succ, List.getElem?_cons_zero]; rfl) ?_ (branch_cons (by simp only [List.getElem?_toArray, List.getElem?_cons_succ, List.getElem?_cons_zero]; rfl) ?_ branch_nil))
        · skip
          refine eff_call 29 rfl (by simp [go_sem]; rfl) (by repeat (first | (with_reducible exact Bel.refl _) | (with_reducible assumption) | (with_reducible refine Bel.drewN ?_ _) | (with_reducible refine Bel.drew ?_) | (with_reducible refine Bel.alloc ?_ _) | (with_reducible refine Bel.setNew ?_ ?_ _) | (with_reducible refine Bel.trans ?_ (by assumption)) | (focus (simp; done)) | (focus (simp; omega)))) ?_
          refine (HAD.out _ (by repeat (first | (with_reducible exact Bel.refl _) | (with_reducible assumption) | (with_reducible refine Bel.drewN ?_ _) | (with_reducible refine Bel.drew ?_) | (with_reducible refine Bel.alloc ?_ _) | (with_reducible refine Bel.setNew ?_ ?_ _) | (with_reducible refine Bel.trans ?_ (by assumption)) | (focus (simp; done)) | (focus (simp; omega))))).mono ?_; rintro e w6 ⟨v', L', rfl, hBN6, hL6, hb6⟩
          obtain ⟨Av, cv, hvv⟩ := own_slice hBN6.bo.own
          generalize L'.length = lv at hvv
          subst hvv
          refine ⟨_, rfl, hb6, ?_⟩
          try simp only [List.nil_append, List.cons_append, Act.put, List.setIfInBounds_toArray, List.set_cons_succ, List.set_cons_zero]
          with_reducible refine st_sel [7, 8, 9] (by kernel_rfl) (by kernel_rfl) ?_
          simp only [picked, List.getElem?_cons_succ, List.getElem?_cons_zero, Option.toList_some, List.nil_append, List.cons_append, List.append_nil]
          try simp only [Act.put, List.setIfInBounds_toArray, List.set_cons_succ, List.set_cons_zero]
          repeat (go_big_quiet_step (fail))
          with_reducible refine wpQuiet_nil ?_
          refine st_branch [10] (by kernel_rfl) (branch_cons (by simp only [List.getElem?_toArray, List.getElem?_cons_succ, List.getElem?_cons_zero]; rfl) ?_ branch_nil)
          refine eff_made rfl (by simp [go_sem]; exact ⟨rfl, rfl⟩) (by repeat (first | (with_reducible exact Bel.refl _) | (with_reducible assumption) | (with_reducible refine Bel.drewN ?_ _) | (with_reducible refine Bel.drew ?_) | (with_reducible refine Bel.alloc ?_ _) | (with_reducible refine Bel.setNew ?_ ?_ _) | (with_reducible refine Bel.trans ?_ (by assumption)) | (focus (simp; done)) | (focus (simp; omega)))) ?_
          try simp only [List.nil_append, List.cons_append, Act.put, List.setIfInBounds_toArray, List.set_cons_succ, List.set_cons_zero]
          refine st_branch [11] (by kernel_rfl) (branch_cons (by simp only [List.getElem?_toArray, List.getElem?_cons_succ, List.getElem?_cons_zero]; rfl) ?_ branch_nil)
          refine eff_done rfl (by simp [go_sem]; rfl) (by repeat (first | (with_reducible exact Bel.refl _) | (with_reducible assumption) | (with_reducible refine Bel.drewN ?_ _) | (with_reducible refine Bel.drew ?_) | (with_reducible refine Bel.alloc ?_ _) | (with_reducible refine Bel.setNew ?_ ?_ _) | (with_reducible refine Bel.trans ?_ (by assumption)) | (focus (simp; done)) | (focus (simp; omega)))) ?_
          try simp only [List.nil_append, List.cons_append, Act.put, List.setIfInBounds_toArray, List.set_cons_succ, List.set_cons_zero]
          refine st_end (by kernel_rfl) ?_
          simp only [List.drop_succ_cons, List.drop_zero, List.drop_nil]
          have HF1 : Hid (BN w6 W0.heap.size (.slice Av lv cv) L') := hBN6.mono (by try simp only [World.size_alloc, World.size_drew]; omega)
          have hb06 : Bel W0 w6 := by
            refine Bel.trans ?_ hb6
            exact (by repeat (first | (with_reducible exact Bel.refl _) | (with_reducible assumption) | (with_reducible refine Bel.drewN ?_ _) | (with_reducible refine Bel.drew ?_) | (with_reducible refine Bel.alloc ?_ _) | (with_reducible refine Bel.setNew ?_ ?_ _) | (with_reducible refine Bel.trans ?_ (by assumption)) | (focus (simp; done)) | (focus (simp; omega))))
          go_wp2_with fail
          go_meet
          exact ⟨_, _, L', rfl, rfl, AtF.new_at rfl _ _, HF1.out.keep ((Bel.refl _).alloc _), hL6, hb06.alloc _⟩
        · skip
          refine eff_made rfl (by simp [go_sem]; exact ⟨rfl, rfl⟩) (by repeat (first | (with_reducible exact Bel.refl _) | (with_reducible assumption) | (with_reducible refine Bel.drewN ?_ _) | (with_reducible refine Bel.drew ?_) | (with_reducible refine Bel.alloc ?_ _) | (with_reducible refine Bel.setNew ?_ ?_ _) | (with_reducible refine Bel.trans ?_ (by assumption)) | (focus (simp; done)) | (focus (simp; omega)))) ?_
          try simp only [List.nil_append, List.cons_append, Act.put, List.setIfInBounds_toArray, List.set_cons_succ, List.set_cons_zero]
          refine st_branch [6] (by kernel_rfl) (branch_cons (by simp only [List.getElem?_toArray, List.getElem?_cons_succ, List.getElem?_cons_zero]; rfl) ?_ branch_nil)
          refine eff_call 29 rfl (by simp [go_sem]; rfl) (by repeat (first | (with_reducible exact Bel.refl _) | (with_reducible assumption) | (with_reducible refine Bel.drewN ?_ _) | (with_reducible refine Bel.drew ?_) | (with_reducible refine Bel.alloc ?_ _) | (with_reducible refine Bel.setNew ?_ ?_ _) | (with_reducible refine Bel.trans ?_ (by assumption)) | (focus (simp; done)) | (focus (simp; omega)))) ?_
          refine (HAD.out _ (by repeat (first | (with_reducible exact Bel.refl _) | (with_reducible assumption) | (with_reducible refine Bel.drewN ?_ _) | (with_reducible refine Bel.drew ?_) | (with_reducible refine Bel.alloc ?_ _) | (with_reducible refine Bel.setNew ?_ ?_ _) | (with_reducible refine Bel.trans ?_ (by assumption)) | (focus (simp; done)) | (focus (simp; omega))))).mono ?_; rintro e w6 ⟨v', L', rfl, hBN6, hL6, hb6⟩
          obtain ⟨Av, cv, hvv⟩ := own_slice hBN6.bo.own
          generalize L'.length = lv at hvv
          subst hvv
          refine ⟨_, rfl, hb6, ?_⟩
          try simp only [List.nil_append, List.cons_append, Act.put, List.setIfInBounds_toArray, List.set_cons_succ, List.set_cons_zero]
          with_reducible refine st_sel [7, 8, 9] (by kernel_rfl) (by kernel_rfl) ?_
          simp only [picked, List.getElem?_cons_succ, List.getElem?_cons_zero, Option.toList_some, List.nil_append, List.cons_append, List.append_nil]
          try simp only [Act.put, List.setIfInBounds_toArray, List.set_cons_succ, List.set_cons_zero]
          repeat (go_big_quiet_step (fail))
          with_reducible refine wpQuiet_nil ?_
          refine st_branch [11] (by kernel_rfl) (branch_cons (by simp only [List.getElem?_toArray, List.getElem?_cons_succ, List.getElem?_cons_zero]; rfl) ?_ branch_nil)
          have hE : AtF w6 (W0.heap.size) [.slice none 0 0] := (AtF.new_at (w := W0.drew) rfl 48 [.slice none 0 0]).bel hb6
          have hle0 : W0.heap.size ≤ W0.heap.size := by omega
          have hlb : W0.heap.size ≤ W0.heap.size + 1 := by omega
          have hltb : W0.heap.size < W0.heap.size + 1 := by omega
          have hb06 : Bel W0 w6 := by
            refine Bel.trans ?_ hb6
            exact (by repeat (first | (with_reducible exact Bel.refl _) | (with_reducible assumption) | (with_reducible refine Bel.drewN ?_ _) | (with_reducible refine Bel.drew ?_) | (with_reducible refine Bel.alloc ?_ _) | (with_reducible refine Bel.setNew ?_ ?_ _) | (with_reducible refine Bel.trans ?_ (by assumption)) | (focus (simp; done)) | (focus (simp; omega))))
          have hbX := hb06.setNew (p := ⟨W0.heap.size, 0, none⟩) hle0 (.slice Av lv cv)
          have HF := Lib.hid (And.intro (hE.set 0 (by simp) (.slice Av lv cv)) (And.intro ((hBN6.far (p := ⟨W0.heap.size, 0, none⟩) (by first | exact hltb | (simp only [World.size_alloc]; exact hltb) | (simp only [World.size_alloc, World.size_drew]; omega)) (.slice Av lv cv)).mono (by first | exact hlb | (simp only [World.size_alloc]; exact hlb) | (simp only [World.size_alloc, World.size_drew]; omega))) hbX))
          have e0 := hE.1.2 0 _ rfl
          have ef := hE.2 0
          have el := hE.1.1
          refine eff_done rfl (by simp [go_sem, e0, ef]; try rfl) hbX ?_
          try simp only [List.nil_append, List.cons_append, Act.put, List.setIfInBounds_toArray, List.set_cons_succ, List.set_cons_zero]
          clear e0 ef el hE hbX
          refine st_end (by kernel_rfl) ?_
          simp only [List.drop_succ_cons, List.drop_zero, List.drop_nil]
          go_wp2_with fail
          go_meet
          exact ⟨_, _, L', rfl, rfl, HF.out.1, HF.out.2.1, hL6, HF.out.2.2⟩
      case rest =>
        obtain ⟨H, v', L2, rfl, rfl, hH, hV2, hL2, hb2⟩ := hcut
        obtain ⟨A2, c2, hvv⟩ := own_slice hV2.bo.own
        obtain ⟨l2, Hl2⟩ : ∃ n, Hid (L2.length = n) := ⟨_, rfl⟩
        rw [Hl2.out] at hvv
        subst hvv
        have hM2 := hM.bel hb2
        have hP2 := hP.bel hb2
        have h0 := hH.1.2 0 _ rfl
        have hW0 : R + 2 ≤ W0.heap.size := by have := hP.1.1; omega
        have hP3 := hP2.set 0 (by simp) (.slice A2 l2 c2)
        have hM3 := hM2.other (C := R + 1) (by omega) 0 (.slice A2 l2 c2)
        have hV3 := (hV2.mono hW0).far (p := ⟨R + 1, 0, none⟩) (by show R + 1 < R + 2; omega) (.slice A2 l2 c2)
        have hb3 : Bel w (wc.setCell ⟨R + 1, 0, none⟩ (.slice A2 l2 c2)) := (hbr.trans hb2).setNew (by show w.heap.size ≤ R + 1; omega) (.slice A2 l2 c2)
        have hbe := hP2.1.2 0 _ rfl
        have hbl := hP2.1.1
        have hbf := hP2.2 0
        have HL2 := Lib.hid hL2
        have hU3 := (hU.keep hb2).far (p := ⟨R + 1, 0, none⟩) (by show R + 1 < R + 2; omega) (.slice A2 l2 c2)
        have HX := Lib.hid (And.intro hM3 (And.intro hP3 (And.intro hV3 (And.intro hU3 hb3))))
        clear hM hP hV hU hM2 hP2 hM3 hP3 hV2 hV3 hU3 hb3 hH hL2 hbr hrow
        go_wp2
        obtain ⟨x1, x2, x3, x4, x5⟩ := HX.out
        have HE := Lib.hid (show L2.map BM.bu = plugP M B Q (i + 1) by rw [HL2.out, HK.out])
        clear HK HL2 HX HAD
        go_roundw
        case rel => exact ⟨i + 1, _, L2, by go_num, by omega, HE, x1, x2, x3, x4, x5⟩
        case measure => simp [intOf]; omega
    · obtain rfl : i = n := by omega
      have HU := Lib.hid hU
      have HV := Lib.hid hV
      have hq0 := hP.1.2 0 _ rfl
      have hPB := hP.1.1
      have HP := Lib.hid hP
      have HMM := Lib.hid hM
      clear hU hV hM hP
      have HLV : Hid (lv ≤ 8) := by show lv ≤ 8; rw [← Hlv.out]; exact HLL.out
      go_wp2
      go_loopw [11] (fun iv wr => ∃ j : Nat, iv = .int .i64 j ∧ j ≤ lv ∧ Bel W0 wr) (fun iv _ => lv - (intOf iv).toNat)
      case atStart => exact ⟨0, rfl, by omega, Bel.refl _⟩
      case round =>
        obtain ⟨r, rfl, q1, hbr1⟩ := hrel
        obtain ⟨W1, rfl⟩ : ∃ X, X = wr := ⟨_, rfl⟩
        have hlv : lv ≤ 8 := HLV.out
        have hq1 : W1.cell? ⟨R + 1, 0, none⟩ = some (.slice Av lv cv) := (hbr1.cellAt _ _ hPB).trans hq0
        by_cases hlt : r < lv
        · have hrl : (r : Int) < (lv : Int) := by omega
          obtain ⟨x, hx⟩ : ∃ x, L'[r]? = some x := ⟨L'[r]'(by have := Hlv.out; omega), List.getElem?_eq_getElem _⟩
          have HPI : Hid (PIn M B Q i x.bu) := (HPS.out i (Nat.le_refl _)).each x.bu (by rw [← HL.out]; exact List.mem_map_of_mem (List.mem_of_getElem? hx))
          have HXL : Hid (x.ms.length ≤ 128) := (HLM.out x (List.mem_of_getElem? hx)).1
          obtain ⟨g, o, c2, hat⟩ := HV.out.bo.bl.at hx
          have hfo := hat.form
          injection hfo with h1 h2 h3
          subst h1
          clear h2 h3 hx
          have hrow := hat.row.bel hbr1 hat.lt
          have hmx := hat.mem.bel hbr1
          clear hat
          obtain ⟨⟨i1, t1, k1, s1, n1, d1, f1, a1, l1, c3, m1⟩, ms1⟩ := x
          obtain ⟨hl, hr, _, _⟩ := hmx
          simp only at hl hr hrow HXL
          subst hl
          have HX := Lib.hid hr
          clear hr
          have b0 := (hrow).cell 0 rfl
          have b1 := (hrow).cell 1 rfl
          have b2 := (hrow).cell 2 rfl
          have b3 := (hrow).cell 3 rfl
          have b4 := (hrow).cell 4 rfl
          have b5 := (hrow).cell 5 rfl
          have b6 := (hrow).cell 6 rfl
          have b7 := (hrow).cell 7 rfl
          have b8 := (hrow).cell 8 rfl
          rw [Nat.add_zero] at b0
          have hX := AtF.new_at (w := W1) rfl 27 [.int .i64 i1, .int .i64 t1, .int .i64 k1, .int .i64 s1, .int .i64 n1, .string d1, .bool f1, .slice a1 ms1.length c3, .int .i64 m1]
          have hbX : Bel W1 (W1.alloc (.cells [.int .i64 i1, .int .i64 t1, .int .i64 k1, .int .i64 s1, .int .i64 n1, .string d1, .bool f1, .slice a1 ms1.length c3, .int .i64 m1].toArray 27)) := (by repeat (first | (with_reducible exact Bel.refl _) | (with_reducible assumption) | (with_reducible refine Bel.drewN ?_ _) | (with_reducible refine Bel.drew ?_) | (with_reducible refine Bel.alloc ?_ _) | (with_reducible refine Bel.setNew ?_ ?_ _) | (with_reducible refine Bel.trans ?_ (by assumption)) | (focus (simp; done)) | (focus (simp; omega))))
          simp only [List.toArray] at hX hbX
          clear hrow
          go_wp2
          clear b0 b1 b2 b3 b4 b5 b6 b7 b8
          clear hq1
          have hW1l := hbr1.size
          generalize W1.heap.size = X at *
          obtain ⟨W2, HW2⟩ : ∃ W, Hid (W = W1.alloc (.cells #[.int .i64 i1, .int .i64 t1, .int .i64 k1, .int .i64 s1, .int .i64 n1, .string d1, .bool f1, .slice a1 ms1.length c3, .int .i64 m1] 27)) := ⟨_, rfl⟩
          rw [← HW2.out] at hX hbX ⊢
          clear HW2
          obtain ⟨ln, Hln⟩ : ∃ k, Hid (ms1.length = k) := ⟨_, rfl⟩
          rw [Hln.out] at hX HXL ⊢
          go_loopw [13, 14] (fun pv kv wk => ∃ k : Nat, kv = .int .i64 k ∧ k ≤ i ∧ pv = .int .i64 (hits ms1 k : Nat) ∧ Bel W2 wk) (fun _ kv _ => i - (intOf kv).toNat)
          case atStart => exact ⟨0, rfl, by omega, rfl, Bel.refl _⟩
          case round =>
            obtain ⟨k, rfl, q2, rfl, hbk⟩ := hrel
            obtain ⟨W3, rfl⟩ : ∃ X, X = wr := ⟨_, rfl⟩
            by_cases hki : k < i
            · have hkl : (k : Int) < (i : Int) := by omega
              obtain ⟨y, hy⟩ : ∃ y, L[k]? = some y := ⟨L[k]'(by have := Hn.out; omega), List.getElem?_eq_getElem _⟩
              obtain ⟨gy, oy, cy, hat⟩ := HU.out.bo.bl.at hy
              have hQy : Q[k]? = some y.bu := by rw [HQ.out, List.getElem?_map, hy]; rfl
              have hdk := HDK.out.2 k y.bu hQy
              have hfo := hat.form
              injection hfo with h1 h2 h3
              subst h1
              clear h2 h3 hy
              have hb03 : Bel W0 W3 := (hbr1.trans hbX).trans hbk
              have hrow := hat.row.bel hb03 hat.lt
              have hmx := hat.mem.bel hb03
              have hgl := Nat.lt_of_lt_of_le hat.lt hb03.size
              clear hat
              obtain ⟨⟨i2, t2, k2, s2, n2, d2, f2, a2, l2, c2, m2⟩, ms2⟩ := y
              obtain ⟨hl, hr, _, _⟩ := hmx
              simp only at hl hr hrow
              subst hl
              have HOWN : Hid (∀ e ∈ ms1, e.id = 2 * (k : Int) → t2 = t1 ∧ k2 = k1 ∧ f2 = f1 ∧ m1 ≤ m2) := fun e he hid => by
                obtain ⟨f, l, hf1, hf2⟩ := hdk.head
                have hfr := HPI.out.own HDK.out he hQy (f := f) (by rw [hf1]; simp) (by rw [hf2, hid])
                exact ⟨hfr.ten, hfr.knd, hfr.fua, hfr.tim⟩
              obtain ⟨f0, ms3, hms, hf0⟩ := hdk.head
              replace hms : ms2 = f0 :: ms3 := hms
              have hl0 : 0 < ms2.length := by rw [hms]; simp
              obtain ⟨bf, of, hba, hlbf, hrf⟩ := mems_at (k := 0) (m := f0) hr (by rw [hms]; rfl)
              subst hba
              rw [Nat.zero_mul, Nat.add_zero] at hrf
              have cf := hrf.cell 0 rfl
              rw [hf0, Nat.add_zero] at cf
              have y0 := (hrow).cell 0 rfl
              have y1 := (hrow).cell 1 rfl
              have y2 := (hrow).cell 2 rfl
              have y3 := (hrow).cell 3 rfl
              have y4 := (hrow).cell 4 rfl
              have y5 := (hrow).cell 5 rfl
              have y6 := (hrow).cell 6 rfl
              have y7 := (hrow).cell 7 rfl
              have y8 := (hrow).cell 8 rfl
              rw [Nat.add_zero] at y0
              clear hrow hrf hr hdk hQy hms hf0
              obtain ⟨lm, Hlm⟩ : ∃ k, Hid (ms2.length = k) := ⟨_, rfl⟩
              rw [Hlm.out] at hl0 y7
              have hX3 := hX.bel hbk
              have HXR := Lib.hid (HX.out.bel (hbX.trans hbk))
              have p0 := (hX3).1.2 0 _ rfl
              have p1 := (hX3).1.2 1 _ rfl
              have p2 := (hX3).1.2 2 _ rfl
              have p3 := (hX3).1.2 3 _ rfl
              have p4 := (hX3).1.2 4 _ rfl
              have p5 := (hX3).1.2 5 _ rfl
              have p6 := (hX3).1.2 6 _ rfl
              have p7 := (hX3).1.2 7 _ rfl
              have p8 := (hX3).1.2 8 _ rfl
              go_wp2
              go_loopw [13, 15] (fun pv jv wj => ∃ j : Nat, jv = .int .i64 j ∧ j ≤ ln ∧ pv = .int .i64 (hits ms1 k + hitK (ms1.take j) k : Nat) ∧ Bel W3 wj) (fun _ jv _ => ln - (intOf jv).toNat)
              case atStart => exact ⟨0, rfl, by omega, rfl, Bel.refl _⟩
              case round =>
                obtain ⟨j, rfl, q3, rfl, hbj⟩ := hrel
                obtain ⟨W4, rfl⟩ : ∃ X, X = wr := ⟨_, rfl⟩
                have v7 := (hbj.cellAt X 7 hX3.1.1).trans p7
                have hln : ln ≤ 128 := HXL.out
                have HHK := Lib.hid (hitK_le (ms1.take j) k)
                have HHL := Lib.hid (hits_le ms1 k)
                have hbd : hits ms1 k + hitK (ms1.take j) k ≤ 2000 := by
                  have h1 := HHK.out
                  have h2 := HHL.out
                  have h3 : (ms1.take j).length ≤ ms1.length := by rw [List.length_take]; omega
                  have h5 := Hln.out
                  have h6 := HXL.out
                  have h4 : k * ms1.length ≤ 8 * 128 := Nat.mul_le_mul (by omega) (by omega)
                  omega
                by_cases hjl : j < ln
                · have hji : (j : Int) < (ln : Int) := by omega
                  obtain ⟨e, he⟩ : ∃ e, ms1[j]? = some e := ⟨ms1[j]'(by have := Hln.out; omega), List.getElem?_eq_getElem _⟩
                  obtain ⟨be, oe, hae, hlbe, hre⟩ := mems_at HXR.out he
                  subst hae
                  have ce := (hre.bel hbj hlbe).cell 0 rfl
                  rw [Nat.add_zero] at ce
                  have cf4 := (hbj.cellAt bf of hlbf).trans cf
                  have u7 := (hbj.cellAt gy _ hgl).trans y7
                  have HTK := Lib.hid (hitK_take (k := k) he)
                  have HEM := Lib.hid (List.mem_of_getElem? he)
                  clear hre he
                  go_wp2_with fail
                  have ru7 := fun d os => cell_regrown u7 d os
                  have rv7 := fun d os => cell_regrown v7 d os
                  have rce := fun d os => cell_regrown ce d os
                  have rcf := fun d os => cell_regrown cf4 d os
                  by_cases hid : e.id = 2 * (k : Int)
                  · have hid' : (e.id == 2 * (k : Int)) = true := by simpa using hid
                    have HT : Hid (hitK (ms1.take (j + 1)) k = hitK (ms1.take j) k + 1) := by
                      have := HTK.out
                      rw [if_pos hid] at this
                      exact this
                    obtain ⟨g1, g2, g3, g4⟩ := HOWN.out e HEM.out hid
                    have z1 : (t2 != t1) = false := by simp [g1]
                    have z2 : (k2 != k1) = false := by simp [g2]
                    have z3 : (f2 == f1) = true := by simp [g3]
                    have z4 : decide (m2 < m1) = false := by simp; omega
                    clear hid g1 g2 g3 g4
                    refine wp_region_lex [] 24 (by kernel_rfl) (by kernel_rfl) ?_
                    simp only [List.take_succ_cons, List.take_zero, List.drop_succ_cons, List.drop_zero]
                    with_reducible refine lex_seg 24 _ _ _ _ (by kernel_rfl) ?_
                    simp only [List.take_succ_cons, List.take_zero, List.drop_succ_cons, List.drop_zero]
                    try simp only [Act.put, List.setIfInBounds_toArray, List.set_cons_succ, List.set_cons_zero]
                    repeat (go_big_quiet_step (fail))
                    with_reducible refine wpQuiet_nil ?_
                    with_reducible refine lex_nil ?_
                    clear ru7 rv7 rce rcf hid' u7 v7 ce cf4
                    have hbd4 : Bel W3 W4.drew := hbj.drew
                    have d1 := (hbd4.cellAt gy _ hgl).trans y1
                    have d2 := (hbd4.cellAt gy _ hgl).trans y2
                    have d6 := (hbd4.cellAt gy _ hgl).trans y6
                    have d8 := (hbd4.cellAt gy _ hgl).trans y8
                    have e1 := (hbd4.cellAt X 1 hX3.1.1).trans p1
                    have e2 := (hbd4.cellAt X 2 hX3.1.1).trans p2
                    have e6 := (hbd4.cellAt X 6 hX3.1.1).trans p6
                    have e8 := (hbd4.cellAt X 8 hX3.1.1).trans p8
                    go_wp2_with fail
                    have rd1 := fun d os => cell_regrown d1 d os
                    have rd2 := fun d os => cell_regrown d2 d os
                    have rd6 := fun d os => cell_regrown d6 d os
                    have rd8 := fun d os => cell_regrown d8 d os
                    have re1 := fun d os => cell_regrown e1 d os
                    have re2 := fun d os => cell_regrown e2 d os
                    have re6 := fun d os => cell_regrown e6 d os
                    have re8 := fun d os => cell_regrown e8 d os
                    refine wp_region_lex [] 38 (by kernel_rfl) (by kernel_rfl) ?_
                    simp only [List.take_succ_cons, List.take_zero, List.drop_succ_cons, List.drop_zero]
                    with_reducible refine lex_seg 38 _ _ _ _ (by kernel_rfl) ?_
                    simp only [List.take_succ_cons, List.take_zero, List.drop_succ_cons, List.drop_zero]
                    try simp only [Act.put, List.setIfInBounds_toArray, List.set_cons_succ, List.set_cons_zero]
                    repeat (go_big_quiet_step (fail))
                    with_reducible refine wpQuiet_nil ?_
                    with_reducible refine lex_nil ?_
                    clear rd1 rd2 rd6 rd8 re1 re2 re6 re8 d1 d2 d6 d8 e1 e2 e6 e8 z1 z2 z3 z4
                    go_wp2
                    have hbf : Bel W3 W4.drew.drew := hbd4.drew
                    have hTT := HT.out
                    go_roundw
                    case rel => exact ⟨j + 1, by go_num, by omega, by rw [hTT]; go_num, hbf⟩
                    case measure => simp [intOf]; omega
                  · have hid' : (e.id == 2 * (k : Int)) = false := by simpa using hid
                    have HT : Hid (hitK (ms1.take (j + 1)) k = hitK (ms1.take j) k) := by
                      have := HTK.out
                      rw [if_neg hid] at this
                      exact this
                    clear hid
                    refine wp_region_lex [] 24 (by kernel_rfl) (by kernel_rfl) ?_
                    simp only [List.take_succ_cons, List.take_zero, List.drop_succ_cons, List.drop_zero]
                    with_reducible refine lex_seg 24 _ _ _ _ (by kernel_rfl) ?_
                    simp only [List.take_succ_cons, List.take_zero, List.drop_succ_cons, List.drop_zero]
                    try simp only [Act.put, List.setIfInBounds_toArray, List.set_cons_succ, List.set_cons_zero]
                    repeat (go_big_quiet_step (fail))
                    with_reducible refine wpQuiet_nil ?_
                    with_reducible refine lex_nil ?_
                    clear ru7 rv7 rce rcf hid' u7 v7 ce cf4
                    go_wp2
                    have hbf : Bel W3 W4.drew := hbj.drew
                    have hTT := HT.out
                    go_roundw
                    case rel => exact ⟨j + 1, by go_num, by omega, by rw [hTT], hbf⟩
                    case measure => simp [intOf]; omega
                · obtain rfl : j = ln := by omega
                  have hjj : decide ((j : Int) < (j : Int)) = false := by simp
                  have HTA : Hid (hits ms1 (k + 1) = hits ms1 k + hitK (ms1.take j) k) := by
                    show _ = _
                    rw [hits_succ, List.take_of_length_le (by have := Hln.out; omega)]
                  clear y0 y1 y2 y3 y4 y5 y6 y7 y8 p0 p1 p2 p3 p4 p5 p6 p7 p8 cf
                  go_wp2
                  have hTT := HTA.out
                  have hb24 : Bel W2 W4 := hbk.trans hbj
                  go_roundw
                  case rel => exact ⟨k + 1, by go_num, by omega, by rw [hTT], hb24⟩
                  case measure => simp [intOf]; omega
            · obtain rfl : k = i := by omega
              have hkk : decide ((k : Int) < (k : Int)) = false := by simp
              have hX3 := hX.bel hbk
              have p3 := hX3.1.2 3 _ rfl
              have p4 := hX3.1.2 4 _ rfl
              have hm0 := (((hbr1.trans hbX).trans hbk).cellAt R 0 HMM.out.1.1).trans (HMM.out.1.2 0 _ rfl)
              have hm1 := (((hbr1.trans hbX).trans hbk).cellAt R 1 HMM.out.1.1).trans (HMM.out.1.2 1 _ rfl)
              have hpos : 1 ≤ hits ms1 k := HPI.out.hits_pos
              have HFI : Hid (hits ms1 k ≠ 1 → fits M B s1 n1 = true) := fun h => HPI.out.hits_fit HDK.out h
              have hn1 : decide ((hits ms1 k : Int) < 1) = false := by simp; omega
              generalize hits ms1 k = hh at *
              have HRF := Lib.hid (fun w' => refFits_any M B s1 n1 w')
              have hb4 : Bel W0 W3 := (hbr1.trans hbX).trans hbk
              by_cases h1 : hh = 1
              · subst h1
                go_wp2
                clear hm0 hm1 p3 p4 hn1
                go_roundw
                case rel => exact ⟨r + 1, by go_num, by omega, hb4⟩
                case measure => simp [intOf]; omega
              · have hn2 : decide ((1 : Int) < (hh : Int)) = true := by simp; omega
                have hft := HFI.out h1
                rw [rfits_eq, hft] at HRF
                go_wp2_with fail
                refine (HRF.out _).mono ?_; rintro e w5 ⟨rfl, hb5⟩
                clear hm0 hm1 p3 p4 hn1 hn2
                have hb45 := hb4.trans hb5
                go_wp2
                go_roundw
                case rel => exact ⟨r + 1, by go_num, by omega, hb45⟩
                case measure => simp [intOf]; omega
        · obtain rfl : r = lv := by omega
          have hrr : decide ((r : Int) < (r : Int)) = false := by simp
          have HAW := Lib.hid (fun w' => awake26_any w')
          have HLN : Hid (r ≤ i) := by
            show r ≤ i
            have h1 := (HPS.out i (Nat.le_refl _)).len
            rw [← HL.out, List.length_map] at h1
            have := Hlv.out
            omega
          have hle : decide ((r : Int) ≤ (i : Int)) = true := by have := HLN.out; simp; omega
          go_wp2_with fail
          refine (HAW.out _).mono ?_; rintro e w5 ⟨rfl, hb5⟩
          have hbe : Bel w w5 := (hbr.trans hbr1).trans hb5
          go_wp2
          go_ret
          exact ⟨rfl, hbe⟩
end Go.Proofs.Ytbijfmpmgmfpgaa
