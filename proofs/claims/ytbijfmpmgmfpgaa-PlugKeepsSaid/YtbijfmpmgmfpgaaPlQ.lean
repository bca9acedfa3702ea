/- The walk of PlugKeeps. -/
import Derived.Test.YtbijfmpmgmfpgaaPlO
import Derived.Test.YtbijfmpmgmfpgaaBnsN
import Derived.Test.YtbijfmpmgmfpgaaRCut
import Derived.Test.YtbijfmpmgmfpgaaPlJ
namespace Go.Proofs.Ytbijfmpmgmfpgaa
open Go.RowKit Go.Maps
set_option linter.unusedSimpArgs false

set_option maxRecDepth 100000 in
set_option maxHeartbeats 16000000 in
theorem plugKeeps_walk (a : Int) (v : Value) (zs : List Int) (w : World) (_ : IsInt a) (hz : Ints w v zs) :
    Calls Try.prog 7 #[.int .i64 a, v] w fun e w' => e = .returned (.bool true) ∧ Bel w w' := by
  have HBN := Lib.hid (fun w' (h : Bel w w') => bunchesN_any v zs w' (hz.bel h))
  clear hz
  obtain ⟨M, HM⟩ : ∃ M, Hid (M = 1 + rnd a 6) := ⟨_, rfl⟩
  obtain ⟨B, HB⟩ : ∃ B, Hid (B = bound a) := ⟨_, rfl⟩
  have HLIM := Lib.hid (lim_ok a)
  have HLI := Lib.hid (fun w' => limits_any a w')
  rw [← HM.out, ← HB.out] at HLIM HLI
  have hP := AtF.new_at (w := w) rfl 48 [.slice none 0 0]
  have hbw : Bel w (w.alloc (.cells [.slice none 0 0].toArray 48)) := (by repeat (first | (with_reducible exact Bel.refl _) | (with_reducible assumption) | (with_reducible refine Bel.drewN ?_ _) | (with_reducible refine Bel.drew ?_) | (with_reducible refine Bel.alloc ?_ _) | (with_reducible refine Bel.setNew ?_ ?_ _) | (with_reducible refine Bel.trans ?_ (by assumption)) | (focus (simp; done)) | (focus (simp; omega))))
  have hsz : (w.alloc (.cells [.slice none 0 0].toArray 48)).heap.size = w.heap.size + 1 := by simp
  simp only [List.toArray] at hP hbw hsz
  go_enter Try.func7, Try.ntmps7
  go_wp2_with fail
  refine (HBN.out _ hbw).mono ?_; rintro e w2 ⟨u, L, rfl, hL, hBN, hb2⟩
  have hP2 := hP.bel hb2
  have hbw2 := hbw.trans hb2
  have HDK := Lib.hid (bns_dk hL (by omega))
  rw [hsz] at hBN
  clear hP hbw hsz hb2 HBN
  obtain ⟨R, HR⟩ : ∃ R, Hid (w.heap.size = R) := ⟨_, rfl⟩
  rw [HR.out] at hP2 hBN ⊢
  have hwR : w.heap.size ≤ R := by rw [HR.out]; exact Nat.le_refl _
  clear HR
  obtain ⟨A, c, rfl⟩ := own_slice hBN.bo.own
  have hn8 : L.length ≤ 8 := by rw [hL.1]; omega
  obtain ⟨Q, HQ⟩ : ∃ Q, Hid (Q = L.map BM.bu) := ⟨_, rfl⟩
  obtain ⟨n, Hn⟩ : ∃ n, Hid (n = L.length) := ⟨_, rfl⟩
  rw [← HQ.out] at HDK
  have HNQ : Hid (Q.length = n) := by show _ = _; rw [HQ.out, List.length_map]; exact Hn.out.symm
  have HPS : Hid (∀ m ≤ n, PlS M B Q m (plugP M B Q m)) := fun m hm => plugP_ok HDK.out HLIM.out m (by rw [HNQ.out]; exact hm)
  rw [← Hn.out] at hn8 hBN ⊢
  clear hL
  go_wp2
  go_loopw [7] (fun iv wr => ∃ (i : Nat) (v : Value) (L' : List BM), iv = .int .i64 i ∧ i ≤ n ∧ Hid (L'.map BM.bu = plugP M B Q i) ∧ AtF wr R [v] ∧ BN wr (R + 1) v L' ∧ BN wr (R + 1) (.slice A n c) L ∧ Bel w wr) (fun iv _ => n - (intOf iv).toNat)
  case atStart => exact ⟨0, _, [], rfl, by omega, rfl, hP2, ⟨BO.nil _ _, fun j x hj => by simp at hj⟩, hBN, hbw2⟩
  case round =>
    clear hP2 hBN hbw2
    obtain ⟨i, v, L', rfl, p1, HL, hP, hV, hU, hbr⟩ := hrel
    obtain ⟨W0, rfl⟩ : ∃ X, X = wr := ⟨_, rfl⟩
    have HLL : Hid (L'.length ≤ 8) := by
      show L'.length ≤ 8
      have h1 := (HPS.out i p1).len
      rw [← HL.out, List.length_map] at h1
      omega
    have HLM : Hid (∀ x ∈ L', x.ms.length ≤ 128 ∧ okU x.bu = true) := fun x hx => by
      have h1 := (HPS.out i p1).each x.bu (by rw [← HL.out]; exact List.mem_map_of_mem hx)
      exact ⟨(ok_small h1.ok).1, h1.ok⟩
    obtain ⟨Av, cv, hvv⟩ := own_slice hV.bo.own
    obtain ⟨lv, Hlv⟩ : ∃ k, Hid (L'.length = k) := ⟨_, rfl⟩
    rw [Hlv.out] at hvv
    subst hvv
    by_cases hlt : i < n
    · skip
      have hin : (i : Int) < (n : Int) := by omega
      obtain ⟨x, hx⟩ : ∃ x, L[i]? = some x := ⟨L[i]'(by have := Hn.out; omega), List.getElem?_eq_getElem _⟩
      obtain ⟨g, o, c2, hat⟩ := hU.bo.bl.at hx
      have hQx : Q[i]? = some x.bu := by rw [HQ.out, List.getElem?_map, hx]; rfl
      have HADD := Lib.hid (plugP_add HDK.out HLIM.out hQx)
      have hfo := hat.form
      injection hfo with h1 h2 h3
      subst h1
      have hrow := hat.row
      have hmx := hat.mem
      have HAD : Hid (∀ W, Bel W0 W → Calls Try.prog 29 #[.agg #[.int .i64 M, .int .i64 B], .agg #[.slice Av lv cv], .agg #[.int .i64 (x.b).id, .int .i64 (x.b).ten, .int .i64 (x.b).knd, .int .i64 (x.b).sec, .int .i64 (x.b).cnt, .string (x.b).dat, .bool (x.b).fua, .slice (x.b).mA (x.b).mL (x.b).mC, .int .i64 (x.b).tim]] W fun e w' => ∃ v' L', e = .returned (.tuple #[.agg #[v'], .bool true]) ∧ BN w' W.heap.size v' L' ∧ L'.map BM.bu = plugP M B Q (i + 1) ∧ Bel W w') := fun W hb => by
        have := add_any M B (.slice Av lv cv) L' x W (hV.bo.bl.bel hb) (hmx.bel hb) (by have := HLL.out; omega) (fun y hy => by have := (HLM.out y hy).1; omega)
        rw [HL.out, HADD.out] at this
        exact this
      obtain ⟨K, HK⟩ : ∃ P : List Bu, Hid (plugP M B Q (i + 1) = P) := ⟨_, rfl⟩
      rw [HK.out] at HAD
      clear hx hQx h2 h3 hat hmx HADD
      go_upto_region 6 with fail
      go_cut [8, 9] (fun xv kv wx => ∃ (H : Nat) (v' : Value) (L2 : List BM), xv = .pointer (some ⟨H, 0, none⟩) ∧ kv = .bool true ∧ AtF wx H [v'] ∧ BN wx W0.heap.size v' L2 ∧ L2.map BM.bu = K ∧ Bel W0 wx)
      case first =>
        have q0 := hP.1.2 0 _ rfl
        have rg2 := fun d os => cell_regrown q0 d os
        obtain ⟨⟨i1, t1, k1, s1, n1, d1, f1, a1, l1, c3, m3⟩, ms1⟩ := x
        simp only at hrow HAD
        have b0 := (hrow).cell 0 rfl
        have b1 := (hrow).cell 1 rfl
        have b2 := (hrow).cell 2 rfl
        have b3 := (hrow).cell 3 rfl
        have b4 := (hrow).cell 4 rfl
        have b5 := (hrow).cell 5 rfl
        have b6 := (hrow).cell 6 rfl
        have b7 := (hrow).cell 7 rfl
        have b8 := (hrow).cell 8 rfl
        rw [Nat.add_zero] at b0
        have r0 := fun d os => cell_regrown b0 d os
        have r1 := fun d os => cell_regrown b1 d os
        have r2 := fun d os => cell_regrown b2 d os
        have r3 := fun d os => cell_regrown b3 d os
        have r4 := fun d os => cell_regrown b4 d os
        have r5 := fun d os => cell_regrown b5 d os
        have r6 := fun d os => cell_regrown b6 d os
        have r7 := fun d os => cell_regrown b7 d os
        have r8 := fun d os => cell_regrown b8 d os
        clear b0 b1 b2 b3 b4 b5 b6 b7 b8
        clear q0 hrow
        refine wp_region_st [1, 7, 11, 12] 13 (by kernel_rfl) (by kernel_rfl) ?_
        with_reducible refine st_sel [0, 2, 3, 4, 5, 6] (by kernel_rfl) (by kernel_rfl) ?_
        simp only [picked, List.getElem?_cons_succ, List.getElem?_cons_zero, Option.toList_some, List.nil_append, List.cons_append, List.append_nil]
        try simp only [Act.put, List.setIfInBounds_toArray, List.set_cons_succ, List.set_cons_zero]
        repeat (go_big_quiet_step (fail))
        with_reducible refine wpQuiet_nil ?_
        refine st_branch [1, 11] (by kernel_rfl) (branch_cons (by simp only [List.getElem?_toArray, List.getElem?_cons_succ, List.getElem?_cons_zero]; rfl) ?_ (branch_cons (by simp only [List.getElem?_toArray, List.getElem?_cons_succ, List.getElem?_cons_zero]; rfl) ?_ branch_nil))
        · skip
          refine eff_call 24 rfl (by simp [go_sem]; rfl) (by repeat (first | (with_reducible exact Bel.refl _) | (with_reducible assumption) | (with_reducible refine Bel.drewN ?_ _) | (with_reducible refine Bel.drew ?_) | (with_reducible refine Bel.alloc ?_ _) | (with_reducible refine Bel.setNew ?_ ?_ _) | (with_reducible refine Bel.trans ?_ (by assumption)) | (focus (simp; done)) | (focus (simp; omega)))) ?_
          refine (HLI.out _).mono ?_; rintro e w4 ⟨rfl, hb4⟩
          refine ⟨_, rfl, hb4, ?_⟩
          try simp only [List.nil_append, List.cons_append, Act.put, List.setIfInBounds_toArray, List.set_cons_succ, List.set_cons_zero]
          refine st_branch [7, 11] (by kernel_rfl) (branch_cons (by simp only [List.getElem?_toArray, List.getElem?_cons_succ, List.getElem?_cons_zero]; rfl) ?_ (branch_cons (by simp only [List.getElem?_toArray, List.getElem?_cons_succ, List.getElem?_cons_zero]; rfl) ?_ branch_nil))
          · skip
            refine eff_call 29 rfl (by simp [go_sem]; rfl) (by repeat (first | (with_reducible exact Bel.refl _) | (with_reducible assumption) | (with_reducible refine Bel.drewN ?_ _) | (with_reducible refine Bel.drew ?_) | (with_reducible refine Bel.alloc ?_ _) | (with_reducible refine Bel.setNew ?_ ?_ _) | (with_reducible refine Bel.trans ?_ (by assumption)) | (focus (simp; done)) | (focus (simp; omega)))) ?_
            refine (HAD.out _ (by repeat (first | (with_reducible exact Bel.refl _) | (with_reducible assumption) | (with_reducible refine Bel.drewN ?_ _) | (with_reducible refine Bel.drew ?_) | (with_reducible refine Bel.alloc ?_ _) | (with_reducible refine Bel.setNew ?_ ?_ _) | (with_reducible refine Bel.trans ?_ (by assumption)) | (focus (simp; done)) | (focus (simp; omega))))).mono ?_; rintro e w6 ⟨v', L', rfl, hBN6, hL6, hb6⟩
            obtain ⟨Av, cv, hvv⟩ := own_slice hBN6.bo.own
            generalize L'.length = lv at hvv
            subst hvv
            refine ⟨_, rfl, hb6, ?_⟩
            try simp only [List.nil_append, List.cons_append, Act.put, List.setIfInBounds_toArray, List.set_cons_succ, List.set_cons_zero]
            with_reducible refine st_sel [8, 9, 10] (by kernel_rfl) (by kernel_rfl) ?_
            simp only [picked, List.getElem?_cons_succ, List.getElem?_cons_zero, Option.toList_some, List.nil_append, List.cons_append, List.append_nil]
            try simp only [Act.put, List.setIfInBounds_toArray, List.set_cons_succ, List.set_cons_zero]
            repeat (go_big_quiet_step (fail))
            with_reducible refine wpQuiet_nil ?_
            refine st_branch [11] (by kernel_rfl) (branch_cons (by simp only [List.getElem?_toArray, List.getElem?_cons_succ, List.getElem?_cons_zero]; rfl) ?_ branch_nil)
            refine eff_made rfl (by simp [go_sem]; exact ⟨rfl, rfl⟩) (by repeat (first | (with_reducible exact Bel.refl _) | (with_reducible assumption) | (with_reducible refine Bel.drewN ?_ _) | (with_reducible refine Bel.drew ?_) | (with_reducible refine Bel.alloc ?_ _) | (with_reducible refine Bel.setNew ?_ ?_ _) | (with_reducible refine Bel.trans ?_ (by assumption)) | (focus (simp; done)) | (focus (simp; omega)))) ?_
            try simp only [List.nil_append, List.cons_append, Act.put, List.setIfInBounds_toArray, List.set_cons_succ, List.set_cons_zero]
            refine st_branch [12] (by kernel_rfl) (branch_cons (by simp only [List.getElem?_toArray, List.getElem?_cons_succ, List.getElem?_cons_zero]; rfl) ?_ branch_nil)
            refine eff_done rfl (by simp [go_sem]; rfl) (by repeat (first | (with_reducible exact Bel.refl _) | (with_reducible assumption) | (with_reducible refine Bel.drewN ?_ _) | (with_reducible refine Bel.drew ?_) | (with_reducible refine Bel.alloc ?_ _) | (with_reducible refine Bel.setNew ?_ ?_ _) | (with_reducible refine Bel.trans ?_ (by assumption)) | (focus (simp; done)) | (focus (simp; omega)))) ?_
            try simp only [List.nil_append, List.cons_append, Act.put, List.setIfInBounds_toArray, List.set_cons_succ, List.set_cons_zero]
            refine st_end (by kernel_rfl) ?_
            simp only [List.drop_succ_cons, List.drop_zero, List.drop_nil]
            have HF1 : Hid (BN w6 W0.heap.size (.slice Av lv cv) L') := hBN6.mono (by have h4 := hb4.size; try simp only [World.size_alloc, World.size_drew] at h4; omega)
            have hb06 : Bel W0 w6 := by
              refine Bel.trans ?_ hb6
              exact (by repeat (first | (with_reducible exact Bel.refl _) | (with_reducible assumption) | (with_reducible refine Bel.drewN ?_ _) | (with_reducible refine Bel.drew ?_) | (with_reducible refine Bel.alloc ?_ _) | (with_reducible refine Bel.setNew ?_ ?_ _) | (with_reducible refine Bel.trans ?_ (by assumption)) | (focus (simp; done)) | (focus (simp; omega))))
            go_wp2_with fail
            go_meet
            exact ⟨_, _, L', rfl, rfl, AtF.new_at rfl _ _, HF1.out.keep ((Bel.refl _).alloc _), hL6, hb06.alloc _⟩
          · skip
            refine eff_made rfl (by simp [go_sem]; exact ⟨rfl, rfl⟩) (by repeat (first | (with_reducible exact Bel.refl _) | (with_reducible assumption) | (with_reducible refine Bel.drewN ?_ _) | (with_reducible refine Bel.drew ?_) | (with_reducible refine Bel.alloc ?_ _) | (with_reducible refine Bel.setNew ?_ ?_ _) | (with_reducible refine Bel.trans ?_ (by assumption)) | (focus (simp; done)) | (focus (simp; omega)))) ?_
            try simp only [List.nil_append, List.cons_append, Act.put, List.setIfInBounds_toArray, List.set_cons_succ, List.set_cons_zero]
            refine st_branch [7] (by kernel_rfl) (branch_cons (by simp only [List.getElem?_toArray, List.getElem?_cons_succ, List.getElem?_cons_zero]; rfl) ?_ branch_nil)
            refine eff_call 29 rfl (by simp [go_sem]; rfl) (by repeat (first | (with_reducible exact Bel.refl _) | (with_reducible assumption) | (with_reducible refine Bel.drewN ?_ _) | (with_reducible refine Bel.drew ?_) | (with_reducible refine Bel.alloc ?_ _) | (with_reducible refine Bel.setNew ?_ ?_ _) | (with_reducible refine Bel.trans ?_ (by assumption)) | (focus (simp; done)) | (focus (simp; omega)))) ?_
            refine (HAD.out _ (by repeat (first | (with_reducible exact Bel.refl _) | (with_reducible assumption) | (with_reducible refine Bel.drewN ?_ _) | (with_reducible refine Bel.drew ?_) | (with_reducible refine Bel.alloc ?_ _) | (with_reducible refine Bel.setNew ?_ ?_ _) | (with_reducible refine Bel.trans ?_ (by assumption)) | (focus (simp; done)) | (focus (simp; omega))))).mono ?_; rintro e w6 ⟨v', L', rfl, hBN6, hL6, hb6⟩
            obtain ⟨Av, cv, hvv⟩ := own_slice hBN6.bo.own
            generalize L'.length = lv at hvv
            subst hvv
            refine ⟨_, rfl, hb6, ?_⟩
            try simp only [List.nil_append, List.cons_append, Act.put, List.setIfInBounds_toArray, List.set_cons_succ, List.set_cons_zero]
            with_reducible refine st_sel [8, 9, 10] (by kernel_rfl) (by kernel_rfl) ?_
            simp only [picked, List.getElem?_cons_succ, List.getElem?_cons_zero, Option.toList_some, List.nil_append, List.cons_append, List.append_nil]
            try simp only [Act.put, List.setIfInBounds_toArray, List.set_cons_succ, List.set_cons_zero]
            repeat (go_big_quiet_step (fail))
            with_reducible refine wpQuiet_nil ?_
            refine st_branch [12] (by kernel_rfl) (branch_cons (by simp only [List.getElem?_toArray, List.getElem?_cons_succ, List.getElem?_cons_zero]; rfl) ?_ branch_nil)
            have hE : AtF w6 (w4.heap.size) [.slice none 0 0] := (AtF.new_at (w := w4) rfl 48 [.slice none 0 0]).bel hb6
            have hle0 : W0.heap.size ≤ w4.heap.size := by (have h4 := hb4.size; try simp only [World.size_alloc, World.size_drew] at h4; omega)
            have hlb : W0.heap.size ≤ w4.heap.size + 1 := by (have h4 := hb4.size; try simp only [World.size_alloc, World.size_drew] at h4; omega)
            have hltb : w4.heap.size < w4.heap.size + 1 := by omega
            have hb06 : Bel W0 w6 := by
              refine Bel.trans ?_ hb6
              exact (by repeat (first | (with_reducible exact Bel.refl _) | (with_reducible assumption) | (with_reducible refine Bel.drewN ?_ _) | (with_reducible refine Bel.drew ?_) | (with_reducible refine Bel.alloc ?_ _) | (with_reducible refine Bel.setNew ?_ ?_ _) | (with_reducible refine Bel.trans ?_ (by assumption)) | (focus (simp; done)) | (focus (simp; omega))))
            have hbX := hb06.setNew (p := ⟨w4.heap.size, 0, none⟩) hle0 (.slice Av lv cv)
            have HF := Lib.hid (And.intro (hE.set 0 (by simp) (.slice Av lv cv)) (And.intro ((hBN6.far (p := ⟨w4.heap.size, 0, none⟩) (by first | exact hltb | (simp only [World.size_alloc]; exact hltb) | (simp only [World.size_alloc, World.size_drew]; omega)) (.slice Av lv cv)).mono (by first | exact hlb | (simp only [World.size_alloc]; exact hlb) | (simp only [World.size_alloc, World.size_drew]; omega))) hbX))
            have e0 := hE.1.2 0 _ rfl
            have ef := hE.2 0
            have el := hE.1.1
            refine eff_done rfl (by simp [go_sem, e0, ef]; try rfl) hbX ?_
            try simp only [List.nil_append, List.cons_append, Act.put, List.setIfInBounds_toArray, List.set_cons_succ, List.set_cons_zero]
            clear e0 ef el hE hbX
            refine st_end (by kernel_rfl) ?_
            simp only [List.drop_succ_cons, List.drop_zero, List.drop_nil]
            go_wp2_with fail
            go_meet
            exact ⟨_, _, L', rfl, rfl, HF.out.1, HF.out.2.1, hL6, HF.out.2.2⟩
        · skip
          refine eff_made rfl (by simp [go_sem]; exact ⟨rfl, rfl⟩) (by repeat (first | (with_reducible exact Bel.refl _) | (with_reducible assumption) | (with_reducible refine Bel.drewN ?_ _) | (with_reducible refine Bel.drew ?_) | (with_reducible refine Bel.alloc ?_ _) | (with_reducible refine Bel.setNew ?_ ?_ _) | (with_reducible refine Bel.trans ?_ (by assumption)) | (focus (simp; done)) | (focus (simp; omega)))) ?_
          try simp only [List.nil_append, List.cons_append, Act.put, List.setIfInBounds_toArray, List.set_cons_succ, List.set_cons_zero]
          refine st_branch [1] (by kernel_rfl) (branch_cons (by simp only [List.getElem?_toArray, List.getElem?_cons_succ, List.getElem?_cons_zero]; rfl) ?_ branch_nil)
          refine eff_call 24 rfl (by simp [go_sem]; rfl) (by repeat (first | (with_reducible exact Bel.refl _) | (with_reducible assumption) | (with_reducible refine Bel.drewN ?_ _) | (with_reducible refine Bel.drew ?_) | (with_reducible refine Bel.alloc ?_ _) | (with_reducible refine Bel.setNew ?_ ?_ _) | (with_reducible refine Bel.trans ?_ (by assumption)) | (focus (simp; done)) | (focus (simp; omega)))) ?_
          refine (HLI.out _).mono ?_; rintro e w4 ⟨rfl, hb4⟩
          refine ⟨_, rfl, hb4, ?_⟩
          try simp only [List.nil_append, List.cons_append, Act.put, List.setIfInBounds_toArray, List.set_cons_succ, List.set_cons_zero]
          refine st_branch [7] (by kernel_rfl) (branch_cons (by simp only [List.getElem?_toArray, List.getElem?_cons_succ, List.getElem?_cons_zero]; rfl) ?_ branch_nil)
          refine eff_call 29 rfl (by simp [go_sem]; rfl) (by repeat (first | (with_reducible exact Bel.refl _) | (with_reducible assumption) | (with_reducible refine Bel.drewN ?_ _) | (with_reducible refine Bel.drew ?_) | (with_reducible refine Bel.alloc ?_ _) | (with_reducible refine Bel.setNew ?_ ?_ _) | (with_reducible refine Bel.trans ?_ (by assumption)) | (focus (simp; done)) | (focus (simp; omega)))) ?_
          refine (HAD.out _ (by repeat (first | (with_reducible exact Bel.refl _) | (with_reducible assumption) | (with_reducible refine Bel.drewN ?_ _) | (with_reducible refine Bel.drew ?_) | (with_reducible refine Bel.alloc ?_ _) | (with_reducible refine Bel.setNew ?_ ?_ _) | (with_reducible refine Bel.trans ?_ (by assumption)) | (focus (simp; done)) | (focus (simp; omega))))).mono ?_; rintro e w6 ⟨v', L', rfl, hBN6, hL6, hb6⟩
          obtain ⟨Av, cv, hvv⟩ := own_slice hBN6.bo.own
          generalize L'.length = lv at hvv
          subst hvv
          refine ⟨_, rfl, hb6, ?_⟩
          try simp only [List.nil_append, List.cons_append, Act.put, List.setIfInBounds_toArray, List.set_cons_succ, List.set_cons_zero]
          with_reducible refine st_sel [8, 9, 10] (by kernel_rfl) (by kernel_rfl) ?_
          simp only [picked, List.getElem?_cons_succ, List.getElem?_cons_zero, Option.toList_some, List.nil_append, List.cons_append, List.append_nil]
          try simp only [Act.put, List.setIfInBounds_toArray, List.set_cons_succ, List.set_cons_zero]
          repeat (go_big_quiet_step (fail))
          with_reducible refine wpQuiet_nil ?_
          refine st_branch [12] (by kernel_rfl) (branch_cons (by simp only [List.getElem?_toArray, List.getElem?_cons_succ, List.getElem?_cons_zero]; rfl) ?_ branch_nil)
          have hE : AtF w6 (W0.heap.size) [.slice none 0 0] := ((AtF.new_at (w := W0.drew) rfl 48 [.slice none 0 0]).bel hb4).bel hb6
          have hle0 : W0.heap.size ≤ W0.heap.size := by (have h4 := hb4.size; try simp only [World.size_alloc, World.size_drew] at h4; omega)
          have hlb : W0.heap.size ≤ w4.heap.size := by (have h4 := hb4.size; try simp only [World.size_alloc, World.size_drew] at h4; omega)
          have hltb : W0.heap.size < w4.heap.size := by (have h4 := hb4.size; try simp only [World.size_alloc, World.size_drew] at h4; omega)
          have hb06 : Bel W0 w6 := by
            refine Bel.trans ?_ hb6
            exact (by repeat (first | (with_reducible exact Bel.refl _) | (with_reducible assumption) | (with_reducible refine Bel.drewN ?_ _) | (with_reducible refine Bel.drew ?_) | (with_reducible refine Bel.alloc ?_ _) | (with_reducible refine Bel.setNew ?_ ?_ _) | (with_reducible refine Bel.trans ?_ (by assumption)) | (focus (simp; done)) | (focus (simp; omega))))
          have hbX := hb06.setNew (p := ⟨W0.heap.size, 0, none⟩) hle0 (.slice Av lv cv)
          have HF := Lib.hid (And.intro (hE.set 0 (by simp) (.slice Av lv cv)) (And.intro ((hBN6.far (p := ⟨W0.heap.size, 0, none⟩) (by first | exact hltb | (simp only [World.size_alloc]; exact hltb) | (simp only [World.size_alloc, World.size_drew]; omega)) (.slice Av lv cv)).mono (by first | exact hlb | (simp only [World.size_alloc]; exact hlb) | (simp only [World.size_alloc, World.size_drew]; omega))) hbX))
          have e0 := hE.1.2 0 _ rfl
          have ef := hE.2 0
          have el := hE.1.1
          refine eff_done rfl (by simp [go_sem, e0, ef]; try rfl) hbX ?_
          try simp only [List.nil_append, List.cons_append, Act.put, List.setIfInBounds_toArray, List.set_cons_succ, List.set_cons_zero]
          clear e0 ef el hE hbX
          refine st_end (by kernel_rfl) ?_
          simp only [List.drop_succ_cons, List.drop_zero, List.drop_nil]
          go_wp2_with fail
          go_meet
          exact ⟨_, _, L', rfl, rfl, HF.out.1, HF.out.2.1, hL6, HF.out.2.2⟩
      case rest =>
        obtain ⟨H, v', L2, rfl, rfl, hH, hV2, hL2, hb2⟩ := hcut
        obtain ⟨A2, c2, hvv⟩ := own_slice hV2.bo.own
        obtain ⟨l2, Hl2⟩ : ∃ n, Hid (L2.length = n) := ⟨_, rfl⟩
        rw [Hl2.out] at hvv
        subst hvv
        have hP2 := hP.bel hb2
        have h0 := hH.1.2 0 _ rfl
        have hW0 : R + 1 ≤ W0.heap.size := by have := hP.1.1; omega
        have hP3 := hP2.set 0 (by simp) (.slice A2 l2 c2)
        have hV3 := (hV2.mono hW0).far (p := ⟨R, 0, none⟩) (by show R < R + 1; omega) (.slice A2 l2 c2)
        have hb3 : Bel w (wc.setCell ⟨R, 0, none⟩ (.slice A2 l2 c2)) := (hbr.trans hb2).setNew (by show w.heap.size ≤ R; omega) (.slice A2 l2 c2)
        have hbe := hP2.1.2 0 _ rfl
        have hbl := hP2.1.1
        have hbf := hP2.2 0
        have HL2 := Lib.hid hL2
        have hU3 := (hU.keep hb2).far (p := ⟨R, 0, none⟩) (by show R < R + 1; omega) (.slice A2 l2 c2)
        have HX := Lib.hid (And.intro hP3 (And.intro hV3 (And.intro hU3 hb3)))
        clear hP hV hU hP2 hP3 hV2 hV3 hU3 hb3 hH hL2 hbr hrow
        go_wp2
        obtain ⟨x2, x3, x4, x5⟩ := HX.out
        have HE := Lib.hid (show L2.map BM.bu = plugP M B Q (i + 1) by rw [HL2.out, HK.out])
        clear HK HL2 HX HAD
        go_roundw
        case rel => exact ⟨i + 1, _, L2, by go_num, by omega, HE, x2, x3, x4, x5⟩
        case measure => simp [intOf]; omega
    · obtain rfl : i = n := by omega
      have HDR := Lib.hid (fun w' (h : Bel W0 w') => drain_any L' _ w' (hV.bo.bl.bel h) (by have := HLL.out; omega) (fun x hx => by have := (HLM.out x hx).1; omega))
      have q0 := hP.1.2 0 _ rfl
      rw [HL.out] at HDR
      have HPL := Lib.hid (HPS.out i (Nat.le_refl _))
      go_wp2_with fail
      refine (HDR.out _ (Bel.refl _)).mono ?_; rintro e w3 ⟨v2, L2, rfl, hBN2, hL2, hb3⟩
      have HD := Lib.hid hL2
      obtain ⟨A2, c2, hvv⟩ := own_slice hBN2.bo.own
      obtain ⟨l2, Hl2⟩ : ∃ n, Hid (L2.length = n) := ⟨_, rfl⟩
      rw [Hl2.out] at hvv
      subst hvv
      have HPI : Hid (∀ x ∈ L2, PIn M B Q i x.bu) := fun x hx => by
        have h1 : x.bu ∈ drainP (plugP M B Q i) := by rw [← HD.out]; exact List.mem_map_of_mem hx
        exact HPL.out.each _ (drain_mem h1)
      have hl28 : l2 ≤ 8 := by
        have h1 := congrArg List.length HD.out
        rw [List.length_map, drainP_len] at h1
        have h2 := HPL.out.len
        have := Hl2.out
        omega
      have HCN : Hid (cntL L2 = cntL L) := by
        show _ = _
        rw [cntL_bu, HD.out, drain_sum, HPL.out.sum, cntL_bu, ← HQ.out, List.take_of_length_le (by rw [HNQ.out]; exact Nat.le_refl _)]
      have HML : Hid (∀ x ∈ L2, x.ms.length ≤ 128) := fun x hx => (ok_small (HPI.out x hx).ok).1
      have HTL : Hid (∀ j, cntL (L2.take j) ≤ 1024) := fun j => by
        have h1 := cntL_le (c := 128) (l := L2.take j) fun x hx => HML.out x (List.mem_of_mem_take hx)
        have h2 : (L2.take j).length ≤ 8 := by rw [List.length_take]; have := Hl2.out; omega
        omega
      have HU := Lib.hid (hU.bo.bl.bel hb3)
      have HV := Lib.hid hBN2.bo.bl
      have hbw3 := hbr.trans hb3
      clear hU hV hP hBN2 hL2 q0 HDR HL HLM HLL hbr hb3
      go_wp2
      obtain ⟨W1, HW1⟩ : ∃ W, Hid (W = w3.alloc (.cells #[.slice none 0 0] 48)) := ⟨_, rfl⟩
      have hbX : Bel w3 W1 := by rw [HW1.out]; exact (Bel.refl _).alloc _
      rw [← HW1.out]
      go_loopw [12, 13] (fun nv iv wr => ∃ r : Nat, iv = .int .i64 r ∧ r ≤ l2 ∧ nv = .int .i64 (cntL (L2.take r) : Nat) ∧ Bel w3 wr) (fun _ iv _ => l2 - (intOf iv).toNat)
      case atStart => exact ⟨0, rfl, by omega, rfl, hbX⟩
      case round =>
        obtain ⟨r, rfl, q1, rfl, hbr1⟩ := hrel
        obtain ⟨W2, rfl⟩ : ∃ X, X = wr := ⟨_, rfl⟩
        have hTr := HTL.out r
        by_cases hlt : r < l2
        · have hrl : (r : Int) < (l2 : Int) := by omega
          obtain ⟨x, hx⟩ : ∃ x, L2[r]? = some x := ⟨L2[r]'(by have := Hl2.out; omega), List.getElem?_eq_getElem _⟩
          have HPX := Lib.hid (HPI.out x (List.mem_of_getElem? hx))
          have HXL := Lib.hid (HML.out x (List.mem_of_getElem? hx))
          have HCT := Lib.hid (cntL_take hx)
          obtain ⟨g, o, cx, hat⟩ := HV.out.at hx
          have hfo := hat.form
          injection hfo with h1 h2 h3
          subst h1
          clear h2 h3 hx
          have hrow := hat.row.bel hbr1 hat.lt
          have hmx := hat.mem.bel hbr1
          have hgl := Nat.lt_of_lt_of_le hat.lt hbr1.size
          clear hat
          obtain ⟨⟨i1, t1, k1, s1, n1, d1, f1, a1, l1, c3, m1⟩, ms1⟩ := x
          have HMX := Lib.hid hmx
          obtain ⟨hl, hr, _, _⟩ := hmx
          simp only at hl hr hrow
          subst hl
          have HR := Lib.hid hr
          obtain ⟨CX, HCX⟩ : ∃ cs, Hid (cutU ⟨i1, t1, k1, s1, n1, d1, f1, ms1, m1⟩ d1 = cs) := ⟨_, rfl⟩
          have HCUX := Lib.hid (fun W (hb : Bel W2 W) => refCut_any ⟨⟨i1, t1, k1, s1, n1, d1, f1, a1, ms1.length, c3, m1⟩, ms1⟩ d1 W (HMX.out.bel hb) (by have := HXL.out; show ms1.length ≤ 1000; have : ms1.length ≤ 128 := this; omega))
          have HCXE : Hid ((k1 = 1 ∧ CX = []) ∨ (k1 = 2 ∧ CX = ms1.map (cutM d1))) := by rw [← HCX.out]; exact cutU_own HPX.out.ok
          have HCX' : Hid (cutU (BM.bu ⟨⟨i1, t1, k1, s1, n1, d1, f1, a1, ms1.length, c3, m1⟩, ms1⟩) d1 = CX) := HCX.out
          rw [HCX'.out] at HCUX
          simp only at HCUX
          clear hr HCX HCX'
          obtain ⟨ln, Hln⟩ : ∃ k, Hid (ms1.length = k) := ⟨_, rfl⟩
          have hln : ln ≤ 128 := by rw [← Hln.out]; exact HXL.out
          have HCT2 : Hid (cntL (L2.take (r + 1)) = cntL (L2.take r) + ln) := by rw [← Hln.out]; exact HCT.out
          have b0 := (hrow).cell 0 rfl
          have b1 := (hrow).cell 1 rfl
          have b2 := (hrow).cell 2 rfl
          have b3 := (hrow).cell 3 rfl
          have b4 := (hrow).cell 4 rfl
          have b5 := (hrow).cell 5 rfl
          have b6 := (hrow).cell 6 rfl
          have b7 := (hrow).cell 7 rfl
          have b8 := (hrow).cell 8 rfl
          rw [Nat.add_zero] at b0
          rw [Hln.out] at b7 HCUX
          clear hrow HCT
          go_wp2
          go_loopw [12, 14] (fun nv kv wk => ∃ k : Nat, kv = .int .i64 k ∧ k ≤ ln ∧ nv = .int .i64 (cntL (L2.take r) + k : Nat) ∧ Bel W2 wk) (fun _ kv _ => ln - (intOf kv).toNat)
          case atStart => exact ⟨0, rfl, by omega, rfl, Bel.refl _⟩
          case round =>
            obtain ⟨k, rfl, q2, rfl, hbk⟩ := hrel
            obtain ⟨W3, rfl⟩ : ∃ X, X = wr := ⟨_, rfl⟩
            have x7 := (hbk.cellAt g _ hgl).trans b7
            by_cases hkl : k < ln
            · have hki : (k : Int) < (ln : Int) := by omega
              obtain ⟨e, he⟩ : ∃ e, ms1[k]? = some e := ⟨ms1[k]'(by have := Hln.out; omega), List.getElem?_eq_getElem _⟩
              obtain ⟨be, oe, hae, hlbe, hre⟩ := mems_at HR.out he
              subst hae
              have hre3 := hre.bel hbk hlbe
              have m0 := hre3.cell 0 rfl
              have m1' := hre3.cell 1 rfl
              have m2 := hre3.cell 2 rfl
              rw [Nat.add_zero] at m0
              have HE := Lib.hid he
              clear hre hre3 he
              obtain ⟨id, off, ct⟩ := e
              have hX := AtF.new_at (w := W3) rfl 59 [.int .i64 id, .int .i64 off, .int .i64 ct]
              have hbm : Bel W3 (W3.alloc (.cells [.int .i64 id, .int .i64 off, .int .i64 ct].toArray 59)) := (by repeat (first | (with_reducible exact Bel.refl _) | (with_reducible assumption) | (with_reducible refine Bel.drewN ?_ _) | (with_reducible refine Bel.drew ?_) | (with_reducible refine Bel.alloc ?_ _) | (with_reducible refine Bel.setNew ?_ ?_ _) | (with_reducible refine Bel.trans ?_ (by assumption)) | (focus (simp; done)) | (focus (simp; omega))))
              simp only [List.toArray] at hX hbm
              go_wp2
              clear x7 m0 m1' m2
              have hXs := hbk.size
              generalize W3.heap.size = X at *
              obtain ⟨W4, HW4⟩ : ∃ W, Hid (W = W3.alloc (.cells #[.int .i64 id, .int .i64 off, .int .i64 ct] 59)) := ⟨_, rfl⟩
              rw [← HW4.out] at hX hbm ⊢
              clear HW4
              have hb24 : Bel w3 W4 := (hbr1.trans hbk).trans hbm
              have HEM := Lib.hid (List.mem_of_getElem? HE.out)
              have HHAS : Hid (hasId id L = true) := HPX.out.hasL HEM.out HQ.out
              go_loopw [16, 17] (fun fv jv wj => ∃ j : Nat, jv = .int .i64 j ∧ j ≤ i ∧ fv = .bool (hasId id (L.take j)) ∧ Bel W4 wj) (fun _ jv _ => i - (intOf jv).toNat)
              case atStart => exact ⟨0, rfl, by omega, rfl, Bel.refl _⟩
              case round =>
                obtain ⟨j, rfl, q3, rfl, hbj⟩ := hrel
                obtain ⟨W5, rfl⟩ : ∃ X, X = wr := ⟨_, rfl⟩
                by_cases hji : j < i
                · have hjk : (j : Int) < (i : Int) := by omega
                  obtain ⟨y, hy⟩ : ∃ y, L[j]? = some y := ⟨L[j]'(by have := Hn.out; omega), List.getElem?_eq_getElem _⟩
                  obtain ⟨gy, oy, cy, hat⟩ := HU.out.at hy
                  have hQy : Q[j]? = some y.bu := by rw [HQ.out, List.getElem?_map, hy]; rfl
                  have hdk := HDK.out.2 j y.bu hQy
                  have HTA := Lib.hid (hasId_take (id := id) hy)
                  have hfo := hat.form
                  injection hfo with h1 h2 h3
                  subst h1
                  clear h2 h3 hy
                  have hb25 := hb24.trans hbj
                  have hrow := hat.row.bel hb25 hat.lt
                  have hmx := hat.mem.bel hb25
                  have hgyl := Nat.lt_of_lt_of_le hat.lt hb25.size
                  clear hat
                  have HMY := Lib.hid hmx
                  have HYK := Lib.hid (okU_knd hdk.ok)
                  have HYO := Lib.hid hdk.ok
                  obtain ⟨CY, HCY⟩ : ∃ cs, Hid (cutU y.bu y.b.dat = cs) := ⟨_, rfl⟩
                  have HCYV := Lib.hid (cutU_own hdk.ok)
                  have HYL : Hid (y.ms.length ≤ 1000) := by show y.ms.length ≤ 1000; have := (ok_small hdk.ok).1; have : y.ms.length ≤ 128 := this; omega
                  obtain ⟨⟨i2, t2, k2, s2, n2, d2, f2, a2, l2', c4, m2⟩, ms2⟩ := y
                  obtain ⟨hl, hr, _, _⟩ := hmx
                  simp only at hl hr hrow
                  subst hl
                  have HRY := Lib.hid hr
                  have HCUT := Lib.hid (fun W (hb : Bel W5 W) => refCut_any ⟨⟨i2, t2, k2, s2, n2, d2, f2, a2, ms2.length, c4, m2⟩, ms2⟩ d2 W (HMY.out.bel hb) HYL.out)
                  simp only at HCUT HCY HCYV
                  have HCYE : Hid ((k2 = 1 ∧ CY = []) ∨ (k2 = 2 ∧ CY = ms2.map (cutM d2))) := by rw [← HCY.out]; exact HCYV.out
                  rw [HCY.out] at HCUT
                  clear HCYV HCY
                  have HOWN : Hid (∀ f ∈ ms2, f.id = id → Fr ⟨i1, t1, k1, s1, n1, d1, f1, ms1, m1⟩ ⟨id, off, ct⟩ ⟨i2, t2, k2, s2, n2, d2, f2, ms2, m2⟩ f) := fun f hf hid => HPX.out.own HDK.out HEM.out hQy hf hid
                  have y0 := (hrow).cell 0 rfl
                  have y1 := (hrow).cell 1 rfl
                  have y2 := (hrow).cell 2 rfl
                  have y3 := (hrow).cell 3 rfl
                  have y4 := (hrow).cell 4 rfl
                  have y5 := (hrow).cell 5 rfl
                  have y6 := (hrow).cell 6 rfl
                  have y7 := (hrow).cell 7 rfl
                  have y8 := (hrow).cell 8 rfl
                  rw [Nat.add_zero] at y0
                  clear hr hrow hdk hQy
                  obtain ⟨lm, Hlm⟩ : ∃ k, Hid (ms2.length = k) := ⟨_, rfl⟩
                  have hlm : lm ≤ 1000 := by rw [← Hlm.out]; exact HYL.out
                  rw [Hlm.out] at y7 HCUT
                  go_wp2
                  go_loopw [16, 18] (fun fv hv wh => ∃ h : Nat, hv = .int .i64 h ∧ h ≤ lm ∧ fv = .bool (hasId id (L.take j) || memId id (ms2.take h)) ∧ Bel W5 wh) (fun _ hv _ => lm - (intOf hv).toNat)
                  case atStart => exact ⟨0, rfl, by omega, by simp [memId], Bel.refl _⟩
                  case round =>
                    obtain ⟨h, rfl, q4, rfl, hbh⟩ := hrel
                    obtain ⟨W6, rfl⟩ : ∃ X, X = wr := ⟨_, rfl⟩
                    obtain ⟨fb, HFB⟩ : ∃ b, Hid ((hasId id (L.take j) || memId id (ms2.take h)) = b) := ⟨_, rfl⟩
                    rw [HFB.out]
                    have z7 := (hbh.cellAt gy _ hgyl).trans y7
                    by_cases hhl : h < lm
                    · have hhi : (h : Int) < (lm : Int) := by omega
                      obtain ⟨f, hf⟩ : ∃ f, ms2[h]? = some f := ⟨ms2[h]'(by have := Hlm.out; omega), List.getElem?_eq_getElem _⟩
                      obtain ⟨bf, of, haf, hlbf, hrf⟩ := mems_at HRY.out hf
                      subst haf
                      have hrf3 := hrf.bel hbh hlbf
                      have w0 := hrf3.cell 0 rfl
                      have w1 := hrf3.cell 1 rfl
                      have w2 := hrf3.cell 2 rfl
                      rw [Nat.add_zero] at w0
                      have HF := Lib.hid hf
                      have HTM := Lib.hid (memId_take (id := id) hf)
                      clear hrf hrf3 hf
                      obtain ⟨fid, fof, fct⟩ := f
                      have hX6 := (hX.bel (hbj.trans hbh)).alloc (.cells [.int .i64 fid, .int .i64 fof, .int .i64 fct].toArray 59)
                      have hY6 := AtF.new_at (w := W6) rfl 59 [.int .i64 fid, .int .i64 fof, .int .i64 fct]
                      have hby : Bel W6 (W6.alloc (.cells [.int .i64 fid, .int .i64 fof, .int .i64 fct].toArray 59)) := (by repeat (first | (with_reducible exact Bel.refl _) | (with_reducible assumption) | (with_reducible refine Bel.drewN ?_ _) | (with_reducible refine Bel.drew ?_) | (with_reducible refine Bel.alloc ?_ _) | (with_reducible refine Bel.setNew ?_ ?_ _) | (with_reducible refine Bel.trans ?_ (by assumption)) | (focus (simp; done)) | (focus (simp; omega))))
                      have hXY : X < W6.heap.size := Nat.lt_of_lt_of_le hX.1.1 (hbj.trans hbh).size
                      simp only [List.toArray] at hX6 hY6 hby
                      have u0 := hX6.1.2 0 _ rfl
                      by_cases hid : fid = id
                      · have hid' : (fid != id) = false := by simp [hid]
                        have hfr := HOWN.out _ (List.mem_of_getElem? HF.out) hid
                        have HT : Hid ((hasId id (L.take j) || memId id (ms2.take (h + 1))) = true) := by
                          show _ = _
                          rw [HTM.out]
                          have : (fid == id) = true := by simp [hid]
                          rw [this, Bool.or_true, Bool.or_true]
                        have r1 := okU_range HYO.out
                        have r2 := okU_mem HYO.out (List.mem_of_getElem? HF.out)
                        have hps : s2 + fof = s1 + off := hfr.pos
                        have r1s : 0 ≤ s2 ∧ s2 < 128 := ⟨r1.1, r1.2.1⟩
                        have r1n : n2 ≤ 128 - s2 := r1.2.2.2
                        have r2a : 0 ≤ fof ∧ 1 ≤ fct ∧ fof + fct ≤ n2 := r2
                        have g0 : IntKind.i64.wrap (s2 + fof) = s2 + fof := IntWalk.i64_in _ (by omega)
                        have g1 : IntKind.i64.wrap (s1 + off) = s2 + fof := by rw [← hps]; exact g0
                        have hct : ct = fct := hfr.cnt
                        have hkn : k2 = k1 := hfr.knd
                        have g2 : (fct == ct) = true := by simp [hct]
                        have g3 : (k2 == k1) = true := by simp [hkn]
                        have HDT : Hid (k1 = 2 → cutM d1 ⟨id, off, ct⟩ = cutM d2 ⟨fid, fof, fct⟩) := hfr.dat
                        have HKN := Lib.hid hkn
                        clear r1 r2 r1s r1n r2a hps hct hkn hfr hid
                        go_wp2_with fail
                        clear w0 w1 w2 u0
                        generalize W6.heap.size = Y at *
                        obtain ⟨W7, HW7⟩ : ∃ W, Hid (W = W6.alloc (.cells #[.int .i64 fid, .int .i64 fof, .int .i64 fct] 59)) := ⟨_, rfl⟩
                        rw [← HW7.out] at hX6 hY6 hby ⊢
                        clear HW7
                        have hb57 := hbh.trans hby
                        have hb27 := (((hbk.trans hbm).trans hbj).trans hb57)
                        have e3 := (hb57.cellAt gy _ hgyl).trans y3
                        have e2 := (hb57.cellAt gy _ hgyl).trans y2
                        have c3' := (hb27.cellAt g _ hgl).trans b3
                        have c2' := (hb27.cellAt g _ hgl).trans b2
                        have x1 := hX6.1.2 1 _ rfl
                        have x2 := hX6.1.2 2 _ rfl
                        have z1 := hY6.1.2 1 _ rfl
                        have z2 := hY6.1.2 2 _ rfl
                        have re3 := fun d os => cell_regrown e3 d os
                        have re2 := fun d os => cell_regrown e2 d os
                        have rc3 := fun d os => cell_regrown c3' d os
                        have rc2 := fun d os => cell_regrown c2' d os
                        have rx1 := fun d os => cell_regrown x1 d os
                        have rx2 := fun d os => cell_regrown x2 d os
                        have rz1 := fun d os => cell_regrown z1 d os
                        have rz2 := fun d os => cell_regrown z2 d os
                        refine wp_region_lex [] 37 (by kernel_rfl) (by kernel_rfl) ?_
                        simp only [List.take_succ_cons, List.take_zero, List.drop_succ_cons, List.drop_zero]
                        with_reducible refine lex_seg 37 _ _ _ _ (by kernel_rfl) ?_
                        simp only [List.take_succ_cons, List.take_zero, List.drop_succ_cons, List.drop_zero]
                        try simp only [Act.put, List.setIfInBounds_toArray, List.set_cons_succ, List.set_cons_zero]
                        repeat (go_big_quiet_step (fail))
                        with_reducible refine wpQuiet_nil ?_
                        with_reducible refine lex_nil ?_
                        clear re3 re2 rc3 rc2 rx1 rx2 rz1 rz2 e3 e2 c3' c2' x1 x2 z1 z2 g0 g1 g2 g3 hid' hX6 hY6
                        go_wp2_with fail
                        have hb58 : Bel W5 W7.drew := hb57.drew
                        have e0 := (hb58.cellAt gy _ hgyl).trans y0
                        have e1 := (hb58.cellAt gy _ hgyl).trans y1
                        have e2 := (hb58.cellAt gy _ hgyl).trans y2
                        have e3 := (hb58.cellAt gy _ hgyl).trans y3
                        have e4 := (hb58.cellAt gy _ hgyl).trans y4
                        have e5 := (hb58.cellAt gy _ hgyl).trans y5
                        have e6 := (hb58.cellAt gy _ hgyl).trans y6
                        have e7 := (hb58.cellAt gy _ hgyl).trans y7
                        have e8 := (hb58.cellAt gy _ hgyl).trans y8
                        have q0 := fun d os => cell_regrown e0 d os
                        have q1 := fun d os => cell_regrown e1 d os
                        have q2 := fun d os => cell_regrown e2 d os
                        have q3 := fun d os => cell_regrown e3 d os
                        have q4 := fun d os => cell_regrown e4 d os
                        have q5 := fun d os => cell_regrown e5 d os
                        have q6 := fun d os => cell_regrown e6 d os
                        have q7 := fun d os => cell_regrown e7 d os
                        have q8 := fun d os => cell_regrown e8 d os
                        refine wp_region_lex [9] 10 (by kernel_rfl) (by kernel_rfl) ?_
                        simp only [List.take_succ_cons, List.take_zero, List.drop_succ_cons, List.drop_zero]
                        with_reducible refine lex_seg 9 _ _ _ _ (by kernel_rfl) ?_
                        simp only [List.take_succ_cons, List.take_zero, List.drop_succ_cons, List.drop_zero]
                        try simp only [Act.put, List.setIfInBounds_toArray, List.set_cons_succ, List.set_cons_zero]
                        repeat (go_big_quiet_step (fail))
                        with_reducible refine wpQuiet_nil ?_
                        refine lex_call 38 rfl rfl (by simp [go_sem]; rfl) ?_
                        refine (HCUT.out _ (by repeat (first | (with_reducible exact Bel.refl _) | (with_reducible assumption) | (with_reducible refine Bel.drewN ?_ _) | (with_reducible refine Bel.drew ?_) | (with_reducible refine Bel.alloc ?_ _) | (with_reducible refine Bel.setNew ?_ ?_ _) | (with_reducible refine Bel.trans ?_ (by assumption)) | (focus (simp; done)) | (focus (simp; omega))))).mono ?_; rintro e w8 ⟨cv, rfl, hown, hb8⟩
                        refine ⟨_, rfl, hb8, ?_⟩
                        with_reducible refine lex_nil ?_
                        clear q0 q1 q2 q3 q4 q5 q6 q7 q8
                        clear e0 e1 e2 e3 e4 e5 e6 e7 e8
                        obtain ⟨Ac, cc, rfl⟩ := own_slice hown
                        have hb68 : Bel W6 w8 := (hby.drew.drew).trans hb8
                        rcases HCYE.out with ⟨hk1, hcy⟩ | ⟨hk2, hcy⟩
                        · subst hcy
                          clear hk1
                          go_wp2
                          have hbf := hbh.trans hb68
                          have hTT := HT.out
                          go_roundw
                          case rel => exact ⟨h + 1, by go_num, by omega, by rw [hTT], hbf⟩
                          case measure => simp [intOf]; omega
                        · have hcl : CY.length = lm := by rw [hcy, List.length_map]; exact Hlm.out
                          have HOC := Lib.hid hown
                          rw [hcl] at hown ⊢
                          have hl0 : 0 < lm := by omega
                          have HCY3 := Lib.hid hcy
                          have hk3 : k1 = 2 := by rw [← HKN.out]; exact hk2
                          have HCXF : Hid (CX = ms1.map (cutM d1)) := by
                            rcases HCXE.out with ⟨g1, _⟩ | ⟨_, g2⟩
                            · omega
                            · exact g2
                          have HSAME := Lib.hid (HDT.out hk3)
                          have hb28 : Bel W2 w8 := (hb27.drew.drew).trans hb8
                          have e0 := (hb28.cellAt g _ hgl).trans b0
                          have e1 := (hb28.cellAt g _ hgl).trans b1
                          have e2 := (hb28.cellAt g _ hgl).trans b2
                          have e3 := (hb28.cellAt g _ hgl).trans b3
                          have e4 := (hb28.cellAt g _ hgl).trans b4
                          have e5 := (hb28.cellAt g _ hgl).trans b5
                          have e6 := (hb28.cellAt g _ hgl).trans b6
                          have e7 := (hb28.cellAt g _ hgl).trans b7
                          have e8 := (hb28.cellAt g _ hgl).trans b8
                          clear hcy hk2 hk3 hown
                          go_wp2_with fail
                          have q0 := fun d os => cell_regrown e0 d os
                          have q1 := fun d os => cell_regrown e1 d os
                          have q2 := fun d os => cell_regrown e2 d os
                          have q3 := fun d os => cell_regrown e3 d os
                          have q4 := fun d os => cell_regrown e4 d os
                          have q5 := fun d os => cell_regrown e5 d os
                          have q6 := fun d os => cell_regrown e6 d os
                          have q7 := fun d os => cell_regrown e7 d os
                          have q8 := fun d os => cell_regrown e8 d os
                          refine wp_region_lex [9] 10 (by kernel_rfl) (by kernel_rfl) ?_
                          simp only [List.take_succ_cons, List.take_zero, List.drop_succ_cons, List.drop_zero]
                          with_reducible refine lex_seg 9 _ _ _ _ (by kernel_rfl) ?_
                          simp only [List.take_succ_cons, List.take_zero, List.drop_succ_cons, List.drop_zero]
                          try simp only [Act.put, List.setIfInBounds_toArray, List.set_cons_succ, List.set_cons_zero]
                          repeat (go_big_quiet_step (fail))
                          with_reducible refine wpQuiet_nil ?_
                          refine lex_call 38 rfl rfl (by simp [go_sem]; rfl) ?_
                          refine (HCUX.out _ (by repeat (first | (with_reducible exact Bel.refl _) | (with_reducible assumption) | (with_reducible refine Bel.drewN ?_ _) | (with_reducible refine Bel.drew ?_) | (with_reducible refine Bel.alloc ?_ _) | (with_reducible refine Bel.setNew ?_ ?_ _) | (with_reducible refine Bel.trans ?_ (by assumption)) | (focus (simp; done)) | (focus (simp; omega))))).mono ?_; rintro e w9 ⟨cx', rfl, hownx, hb9⟩
                          refine ⟨_, rfl, hb9, ?_⟩
                          with_reducible refine lex_nil ?_
                          clear q0 q1 q2 q3 q4 q5 q6 q7 q8
                          clear e0 e1 e2 e3 e4 e5 e6 e7 e8
                          have hcl : CX.length = ln := by rw [HCXF.out, List.length_map]; exact Hln.out
                          have hcl2 : CY.length = lm := by rw [HCY3.out, List.length_map]; exact Hlm.out
                          obtain ⟨gz, cz, hfz, hz2, hz3⟩ := hownx.form (by omega)
                          obtain ⟨gc, cc', hfc, hc2, hc3⟩ := HOC.out.form (by omega)
                          injection hfc with hf1 hf2 hf3
                          subst hf1
                          clear hf2 hf3 hc2 hc3 hz2 hz3
                          subst hfz
                          obtain ⟨cs, HCS⟩ : ∃ s, Hid (s = cutM d2 ⟨fid, fof, fct⟩) := ⟨_, rfl⟩
                          have ez : w9.cell? ⟨gz, k, none⟩ = some (.string cs) := by
                            have h0 := hownx.cellAt (g := gz) k (by omega)
                            rw [h0, HCXF.out, HCS.out, ← HSAME.out]
                            simp [tcells, HE.out]
                          have hb89 : Bel w8 w9 := (Bel.drew (Bel.refl w8)).trans hb9
                          have ey : w9.cell? ⟨gc, h, none⟩ = some (.string cs) := by
                            have h0 := (own_keep HOC.out hb89).cellAt (g := gc) h (by omega)
                            rw [h0, HCY3.out, HCS.out]
                            simp [tcells, HF.out]
                          clear hownx HOC
                          rw [hcl]
                          clear hcl hcl2
                          go_wp2_with fail
                          have rez := fun d os => cell_regrown ez d os
                          have rey := fun d os => cell_regrown ey d os
                          refine wp_region_lex [] 15 (by kernel_rfl) (by kernel_rfl) ?_
                          simp only [List.take_succ_cons, List.take_zero, List.drop_succ_cons, List.drop_zero]
                          with_reducible refine lex_seg 15 _ _ _ _ (by kernel_rfl) ?_
                          simp only [List.take_succ_cons, List.take_zero, List.drop_succ_cons, List.drop_zero]
                          try simp only [Act.put, List.setIfInBounds_toArray, List.set_cons_succ, List.set_cons_zero]
                          repeat (go_big_quiet_step (fail))
                          with_reducible refine wpQuiet_nil ?_
                          with_reducible refine lex_nil ?_
                          clear rez rey ez ey
                          go_wp2
                          have hbf : Bel W5 w9.drew := ((hbh.trans hb68).trans hb89).drew
                          have hTT := HT.out
                          go_roundw
                          case rel => exact ⟨h + 1, by go_num, by omega, by rw [hTT], hbf⟩
                          case measure => simp [intOf]; omega
                      · have hid' : (fid != id) = true := by simp [hid]
                        have HT : Hid ((hasId id (L.take j) || memId id (ms2.take (h + 1))) = fb) := by
                          show _ = _
                          rw [HTM.out, ← HFB.out]
                          have : (fid == id) = false := by simp [hid]
                          rw [this, Bool.or_false]
                        clear hid
                        go_wp2
                        clear w0 w1 w2 z7 u0 hid'
                        have hbf := hbh.trans hby
                        have hTT := HT.out
                        go_roundw
                        case rel => exact ⟨h + 1, by go_num, by omega, by rw [hTT], hbf⟩
                        case measure => simp [intOf]; omega
                    · obtain rfl : h = lm := by omega
                      have hhh : decide ((h : Int) < (h : Int)) = false := by simp
                      have HTT : Hid (hasId id (L.take (j + 1)) = fb) := by
                        show _ = _
                        have e4 : ms2.take h = ms2 := List.take_of_length_le (by rw [Hlm.out]; exact Nat.le_refl _)
                        rw [HTA.out, ← HFB.out, e4]
                      clear y0 y1 y2 y3 y4 y5 y6 y7 y8
                      go_wp2
                      clear z7
                      have hTT := HTT.out
                      have hbf := hbj.trans hbh
                      go_roundw
                      case rel => exact ⟨j + 1, by go_num, by omega, by rw [hTT], hbf⟩
                      case measure => simp [intOf]; omega
                · obtain rfl : j = i := by omega
                  have hjj : decide ((j : Int) < (j : Int)) = false := by simp
                  have hall : hasId id (L.take j) = true := by
                    rw [List.take_of_length_le (by have := Hn.out; omega)]
                    exact HHAS.out
                  rw [hall]
                  clear hall
                  go_wp2
                  have hbf := (hbk.trans hbm).trans hbj
                  go_roundw
                  case rel => exact ⟨k + 1, by go_num, by omega, by go_num, hbf⟩
                  case measure => simp [intOf]; omega
            · obtain rfl : k = ln := by omega
              have hkk : decide ((k : Int) < (k : Int)) = false := by simp
              clear b0 b1 b2 b3 b4 b5 b6 b7 b8
              go_wp2
              clear x7
              have hTT := HCT2.out
              have hbf := hbr1.trans hbk
              go_roundw
              case rel => exact ⟨r + 1, by go_num, by omega, by rw [hTT], hbf⟩
              case measure => simp [intOf]; omega
        · obtain rfl : r = l2 := by omega
          have hrr : decide ((r : Int) < (r : Int)) = false := by simp
          have hcl : cntL (L2.take r) = cntL L := by
            rw [List.take_of_length_le (by have := Hl2.out; omega)]
            exact HCN.out
          rw [hcl] at hTr ⊢
          clear hcl
          have HAW := Lib.hid (fun w' => awake26_any w')
          have HM8 : Hid (∀ x ∈ L, x.ms.length ≤ 128) := fun x hx => by
            obtain ⟨k, hk⟩ := List.mem_iff_getElem?.1 hx
            have := (HDK.out.2 k x.bu (by rw [HQ.out, List.getElem?_map, hk]; rfl)).ok
            exact (ok_small this).1
          go_wp2
          go_loopw [12, 22] (fun nv jv wj => ∃ j : Nat, jv = .int .i64 j ∧ j ≤ i ∧ nv = .int .i64 ((cntL L : Nat) - (cntL (L.take j) : Nat) : Int) ∧ Bel W2 wj) (fun _ jv _ => i - (intOf jv).toNat)
          case atStart => exact ⟨0, rfl, by omega, by simp [cntL], Bel.refl _⟩
          case round =>
            obtain ⟨j, rfl, q2, rfl, hbj⟩ := hrel
            obtain ⟨W3, rfl⟩ : ∃ X, X = wr := ⟨_, rfl⟩
            have hcj : cntL (L.take j) ≤ 1024 := by
              have h1 := cntL_le (c := 128) (l := L.take j) fun x hx => HM8.out x (List.mem_of_mem_take hx)
              have h2 : (L.take j).length ≤ 8 := by rw [List.length_take]; have := Hn.out; omega
              omega
            by_cases hji : j < i
            · have hjk : (j : Int) < (i : Int) := by omega
              obtain ⟨y, hy⟩ : ∃ y, L[j]? = some y := ⟨L[j]'(by have := Hn.out; omega), List.getElem?_eq_getElem _⟩
              obtain ⟨gy, oy, cy, hat⟩ := HU.out.at hy
              have HTA := Lib.hid (cntL_take hy)
              have hm8 : y.ms.length ≤ 128 := HM8.out y (List.mem_of_getElem? hy)
              have hfo := hat.form
              injection hfo with h1 h2 h3
              subst h1
              clear h2 h3 hy
              have hrow := hat.row.bel (hbr1.trans hbj) hat.lt
              have hml := hat.mem.len
              have y7 := hrow.cell 7 rfl
              clear hat hrow
              rw [hml] at y7
              clear hml
              generalize y.ms.length = ly at *
              go_wp2
              clear y7
              have hTT := HTA.out
              go_roundw
              case rel => exact ⟨j + 1, by go_num, by omega, by rw [hTT]; go_num, hbj⟩
              case measure => simp [intOf]; omega
            · obtain rfl : j = i := by omega
              have hjj : decide ((j : Int) < (j : Int)) = false := by simp
              have hcl : cntL (L.take j) = cntL L := by rw [List.take_of_length_le (by have := Hn.out; omega)]
              rw [hcl, Int.sub_self]
              clear hcl
              go_wp2_with fail
              refine (HAW.out _).mono ?_; rintro e w5 ⟨rfl, hb5⟩
              have hbe : Bel w w5 := ((hbw3.trans hbr1).trans hbj).trans hb5
              go_wp2
              go_ret
              exact ⟨rfl, hbe⟩
end Go.Proofs.Ytbijfmpmgmfpgaa
