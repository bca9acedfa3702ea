/- The walk of PlugConflicts. -/
import Derived.Test.YtbijfmpmgmfpgaaPlS
import Derived.Test.YtbijfmpmgmfpgaaBnsN
import Derived.Test.YtbijfmpmgmfpgaaBunchL
import Derived.Test.YtbijfmpmgmfpgaaPlJ
import Derived.Deep.WholeRow
namespace Go.Proofs.Ytbijfmpmgmfpgaa
open Go.RowKit Go.Maps
set_option linter.unusedSimpArgs false

theorem part_str (o : Nat → ByteArray) {i : Nat} (hi : i < 32) (W : World) : (part 9 (ocells o).toArray i).run Try.prog W = .ok (.string (o i)) W := by
  unfold part
  rw [Sem.run_bind, Try.isAgg9]
  simp only [Result.andThen_ok]
  have : (ocells o).toArray[i]? = some (.string (o i)) := by simpa using ocells_at o hi
  simp [this]
set_option maxRecDepth 100000 in
set_option maxHeartbeats 4000000 in
theorem arr_eq (o : Nat → ByteArray) (W : World) : (Op.equalIn 10000 60 (.agg (ocells o).toArray) (.agg (ocells o).toArray)).run Try.prog W = .ok true W := by
  rw [show (10000 : Nat) = 9999 + 1 from rfl, Op.equalIn]
  simp only [Sem.run_bind, run_underlying Try.underlying60, Result.andThen_ok, Try.sizeOf9]
  simp only [Std.Legacy.Range.forIn_eq_forIn_range', Std.Legacy.Range.size, Nat.sub_zero, Nat.add_sub_cancel, Nat.div_one, List.range'_succ, List.range'_zero, List.forIn_cons, List.forIn_nil]
  have hp : ∀ i, i < 32 → ∀ W, (part 9 (ocells o).toArray i).run Try.prog W = .ok (.string (o i)) W := fun i hi W => part_str o hi W
  have hs : ∀ a W, (Op.equalIn 9999 9 (.string a) (.string a)).run Try.prog W = .ok true W := fun a W => by
    rw [show (9999 : Nat) = 9998 + 1 from rfl, run_equalIn_string W 9998 9 a a Try.underlying9]
    simp
  simp only [Nat.zero_add, Nat.reduceAdd, Nat.mul_one, Sem.run_bind, hp, hs, Nat.reduceLT, Result.andThen_ok, Bool.not_true, Bool.false_eq_true, if_false, Sem.run_pure]

set_option maxRecDepth 100000 in
set_option maxHeartbeats 16000000 in
theorem plugConflicts_walk (a : Int) (v : Value) (zs : List Int) (w : World) (_ : IsInt a) (hz : Ints w v zs) :
    Calls Try.prog 8 #[.int .i64 a, v] w fun e w' => e = .returned (.bool true) ∧ Bel w w' := by
  have HBN := Lib.hid (fun w' (h : Bel w w') => bunchesN_any v zs w' (hz.bel h))
  clear hz
  obtain ⟨M, HM⟩ : ∃ M, Hid (M = 1 + rnd a 6) := ⟨_, rfl⟩
  obtain ⟨B, HB⟩ : ∃ B, Hid (B = bound a) := ⟨_, rfl⟩
  have HLIM := Lib.hid (lim_ok a)
  have HLI := Lib.hid (fun w' => limits_any a w')
  rw [← HM.out, ← HB.out] at HLIM HLI
  have hP := AtF.new_at (w := w) rfl 48 [.slice none 0 0]
  have hbw : Bel w (w.alloc (.cells [.slice none 0 0].toArray 48)) := (by repeat (first | (with_reducible exact Bel.refl _) | (with_reducible assumption) | (with_reducible refine Bel.drewN ?_ _) | (with_reducible refine Bel.drew ?_) | (with_reducible refine Bel.alloc ?_ _) | (with_reducible refine Bel.setNew ?_ ?_ _) | (with_reducible refine Bel.trans ?_ (by assumption)) | (focus (simp; done)) | (focus (simp; omega))))
  have hsz : (w.alloc (.cells [.slice none 0 0].toArray 48)).heap.size = w.heap.size + 1 := by simp
  simp only [List.toArray] at hP hbw hsz
  go_enter Try.func8, Try.ntmps8
  go_wp2_with fail
  refine (HBN.out _ hbw).mono ?_; rintro e w2 ⟨u, L, rfl, hL, hBN, hb2⟩
  have hP2 := hP.bel hb2
  have hbw2 := hbw.trans hb2
  have HDK := Lib.hid (bns_dk hL (by omega))
  rw [hsz] at hBN
  clear hP hbw hsz hb2 HBN
  obtain ⟨R, HR⟩ : ∃ R, Hid (w.heap.size = R) := ⟨_, rfl⟩
  rw [HR.out] at hP2 hBN ⊢
  have hwR : w.heap.size ≤ R := by rw [HR.out]; exact Nat.le_refl _
  clear HR
  obtain ⟨A, c, rfl⟩ := own_slice hBN.bo.own
  have hn8 : L.length ≤ 8 := by rw [hL.1]; omega
  obtain ⟨Q, HQ⟩ : ∃ Q, Hid (Q = L.map BM.bu) := ⟨_, rfl⟩
  obtain ⟨n, Hn⟩ : ∃ n, Hid (n = L.length) := ⟨_, rfl⟩
  rw [← HQ.out] at HDK
  have HNQ : Hid (Q.length = n) := by show _ = _; rw [HQ.out, List.length_map]; exact Hn.out.symm
  have HPS : Hid (∀ m ≤ n, PlS M B Q m (plugP M B Q m)) := fun m hm => plugP_ok HDK.out HLIM.out m (by rw [HNQ.out]; exact hm)
  rw [← Hn.out] at hn8 hBN ⊢
  clear hL
  go_wp2
  go_loopw [7] (fun iv wr => ∃ (i : Nat) (v : Value) (L' : List BM), iv = .int .i64 i ∧ i ≤ n ∧ Hid (L'.map BM.bu = plugP M B Q i) ∧ AtF wr R [v] ∧ BN wr (R + 1) v L' ∧ BN wr (R + 1) (.slice A n c) L ∧ Bel w wr) (fun iv _ => n - (intOf iv).toNat)
  case atStart => exact ⟨0, _, [], rfl, by omega, rfl, hP2, ⟨BO.nil _ _, fun j x hj => by simp at hj⟩, hBN, hbw2⟩
  case round =>
    clear hP2 hBN hbw2
    obtain ⟨i, v, L', rfl, p1, HL, hP, hV, hU, hbr⟩ := hrel
    obtain ⟨W0, rfl⟩ : ∃ X, X = wr := ⟨_, rfl⟩
    have HLL : Hid (L'.length ≤ 8) := by
      show L'.length ≤ 8
      have h1 := (HPS.out i p1).len
      rw [← HL.out, List.length_map] at h1
      omega
    have HLM : Hid (∀ x ∈ L', x.ms.length ≤ 128 ∧ okU x.bu = true) := fun x hx => by
      have h1 := (HPS.out i p1).each x.bu (by rw [← HL.out]; exact List.mem_map_of_mem hx)
      exact ⟨(ok_small h1.ok).1, h1.ok⟩
    obtain ⟨Av, cv, hvv⟩ := own_slice hV.bo.own
    obtain ⟨lv, Hlv⟩ : ∃ k, Hid (L'.length = k) := ⟨_, rfl⟩
    rw [Hlv.out] at hvv
    subst hvv
    by_cases hlt : i < n
    · skip
      have hin : (i : Int) < (n : Int) := by omega
      obtain ⟨x, hx⟩ : ∃ x, L[i]? = some x := ⟨L[i]'(by have := Hn.out; omega), List.getElem?_eq_getElem _⟩
      obtain ⟨g, o, c2, hat⟩ := hU.bo.bl.at hx
      have hQx : Q[i]? = some x.bu := by rw [HQ.out, List.getElem?_map, hx]; rfl
      have HADD := Lib.hid (plugP_add HDK.out HLIM.out hQx)
      have hfo := hat.form
      injection hfo with h1 h2 h3
      subst h1
      have hrow := hat.row
      have hmx := hat.mem
      have HAD : Hid (∀ W, Bel W0 W → Calls Try.prog 29 #[.agg #[.int .i64 M, .int .i64 B], .agg #[.slice Av lv cv], .agg #[.int .i64 (x.b).id, .int .i64 (x.b).ten, .int .i64 (x.b).knd, .int .i64 (x.b).sec, .int .i64 (x.b).cnt, .string (x.b).dat, .bool (x.b).fua, .slice (x.b).mA (x.b).mL (x.b).mC, .int .i64 (x.b).tim]] W fun e w' => ∃ v' L', e = .returned (.tuple #[.agg #[v'], .bool true]) ∧ BN w' W.heap.size v' L' ∧ L'.map BM.bu = plugP M B Q (i + 1) ∧ Bel W w') := fun W hb => by
        have := add_any M B (.slice Av lv cv) L' x W (hV.bo.bl.bel hb) (hmx.bel hb) (by have := HLL.out; omega) (fun y hy => by have := (HLM.out y hy).1; omega)
        rw [HL.out, HADD.out] at this
        exact this
      obtain ⟨K, HK⟩ : ∃ P : List Bu, Hid (plugP M B Q (i + 1) = P) := ⟨_, rfl⟩
      rw [HK.out] at HAD
      clear hx hQx h2 h3 hat hmx HADD
      go_upto_region 6 with fail
      go_cut [8, 9] (fun xv kv wx => ∃ (H : Nat) (v' : Value) (L2 : List BM), xv = .pointer (some ⟨H, 0, none⟩) ∧ kv = .bool true ∧ AtF wx H [v'] ∧ BN wx W0.heap.size v' L2 ∧ L2.map BM.bu = K ∧ Bel W0 wx)
      case first =>
        have q0 := hP.1.2 0 _ rfl
        have rg2 := fun d os => cell_regrown q0 d os
        obtain ⟨⟨i1, t1, k1, s1, n1, d1, f1, a1, l1, c3, m3⟩, ms1⟩ := x
        simp only at hrow HAD
        have b0 := (hrow).cell 0 rfl
        have b1 := (hrow).cell 1 rfl
        have b2 := (hrow).cell 2 rfl
        have b3 := (hrow).cell 3 rfl
        have b4 := (hrow).cell 4 rfl
        have b5 := (hrow).cell 5 rfl
        have b6 := (hrow).cell 6 rfl
        have b7 := (hrow).cell 7 rfl
        have b8 := (hrow).cell 8 rfl
        rw [Nat.add_zero] at b0
        have r0 := fun d os => cell_regrown b0 d os
        have r1 := fun d os => cell_regrown b1 d os
        have r2 := fun d os => cell_regrown b2 d os
        have r3 := fun d os => cell_regrown b3 d os
        have r4 := fun d os => cell_regrown b4 d os
        have r5 := fun d os => cell_regrown b5 d os
        have r6 := fun d os => cell_regrown b6 d os
        have r7 := fun d os => cell_regrown b7 d os
        have r8 := fun d os => cell_regrown b8 d os
        clear b0 b1 b2 b3 b4 b5 b6 b7 b8
        clear q0 hrow
        refine wp_region_st [1, 7, 11, 12] 13 (by kernel_rfl) (by kernel_rfl) ?_
        with_reducible refine st_sel [0, 2, 3, 4, 5, 6] (by kernel_rfl) (by kernel_rfl) ?_
        simp only [picked, List.getElem?_cons_succ, List.getElem?_cons_zero, Option.toList_some, List.nil_append, List.cons_append, List.append_nil]
        try simp only [Act.put, List.setIfInBounds_toArray, List.set_cons_succ, List.set_cons_zero]
        repeat (go_big_quiet_step (fail))
        with_reducible refine wpQuiet_nil ?_
        refine st_branch [1, 11] (by kernel_rfl) (branch_cons (by simp only [List.getElem?_toArray, List.getElem?_cons_succ, List.getElem?_cons_zero]; rfl) ?_ (branch_cons (by simp only [List.getElem?_toArray, List.getElem?_cons_succ, List.getElem?_cons_zero]; rfl) ?_ branch_nil))
        · skip
          refine eff_call 24 rfl (by simp [go_sem]; rfl) (by repeat (first | (with_reducible exact Bel.refl _) | (with_reducible assumption) | (with_reducible refine Bel.drewN ?_ _) | (with_reducible refine Bel.drew ?_) | (with_reducible refine Bel.alloc ?_ _) | (with_reducible refine Bel.setNew ?_ ?_ _) | (with_reducible refine Bel.trans ?_ (by assumption)) | (focus (simp; done)) | (focus (simp; omega)))) ?_
          refine (HLI.out _).mono ?_; rintro e w4 ⟨rfl, hb4⟩
          refine ⟨_, rfl, hb4, ?_⟩
          try simp only [List.nil_append, List.cons_append, Act.put, List.setIfInBounds_toArray, List.set_cons_succ, List.set_cons_zero]
          refine st_branch [7, 11] (by kernel_rfl) (branch_cons (by simp only [List.getElem?_toArray, List.getElem?_cons_succ, List.getElem?_cons_zero]; rfl) ?_ (branch_cons (by simp only [List.getElem?_toArray, List.getElem?_cons_succ, List.getElem?_cons_zero]; rfl) ?_ branch_nil))
          · skip
            refine eff_call 29 rfl (by simp [go_sem]; rfl) (by repeat (first | (with_reducible exact Bel.refl _) | (with_reducible assumption) | (with_reducible refine Bel.drewN ?_ _) | (with_reducible refine Bel.drew ?_) | (with_reducible refine Bel.alloc ?_ _) | (with_reducible refine Bel.setNew ?_ ?_ _) | (with_reducible refine Bel.trans ?_ (by assumption)) | (focus (simp; done)) | (focus (simp; omega)))) ?_
            refine (HAD.out _ (by repeat (first | (with_reducible exact Bel.refl _) | (with_reducible assumption) | (with_reducible refine Bel.drewN ?_ _) | (with_reducible refine Bel.drew ?_) | (with_reducible refine Bel.alloc ?_ _) | (with_reducible refine Bel.setNew ?_ ?_ _) | (with_reducible refine Bel.trans ?_ (by assumption)) | (focus (simp; done)) | (focus (simp; omega))))).mono ?_; rintro e w6 ⟨v', L', rfl, hBN6, hL6, hb6⟩
            obtain ⟨Av, cv, hvv⟩ := own_slice hBN6.bo.own
            generalize L'.length = lv at hvv
            subst hvv
            refine ⟨_, rfl, hb6, ?_⟩
            try simp only [List.nil_append, List.cons_append, Act.put, List.setIfInBounds_toArray, List.set_cons_succ, List.set_cons_zero]
            with_reducible refine st_sel [8, 9, 10] (by kernel_rfl) (by kernel_rfl) ?_
            simp only [picked, List.getElem?_cons_succ, List.getElem?_cons_zero, Option.toList_some, List.nil_append, List.cons_append, List.append_nil]
            try simp only [Act.put, List.setIfInBounds_toArray, List.set_cons_succ, List.set_cons_zero]
            repeat (go_big_quiet_step (fail))
            with_reducible refine wpQuiet_nil ?_
            refine st_branch [11] (by kernel_rfl) (branch_cons (by simp only [List.getElem?_toArray, List.getElem?_cons_succ, List.getElem?_cons_zero]; rfl) ?_ branch_nil)
            refine eff_made rfl (by simp [go_sem]; exact ⟨rfl, rfl⟩) (by repeat (first | (with_reducible exact Bel.refl _) | (with_reducible assumption) | (with_reducible refine Bel.drewN ?_ _) | (with_reducible refine Bel.drew ?_) | (with_reducible refine Bel.alloc ?_ _) | (with_reducible refine Bel.setNew ?_ ?_ _) | (with_reducible refine Bel.trans ?_ (by assumption)) | (focus (simp; done)) | (focus (simp; omega)))) ?_
            try simp only [List.nil_append, List.cons_append, Act.put, List.setIfInBounds_toArray, List.set_cons_succ, List.set_cons_zero]
            refine st_branch [12] (by kernel_rfl) (branch_cons (by simp only [List.getElem?_toArray, List.getElem?_cons_succ, List.getElem?_cons_zero]; rfl) ?_ branch_nil)
            refine eff_done rfl (by simp [go_sem]; rfl) (by repeat (first | (with_reducible exact Bel.refl _) | (with_reducible assumption) | (with_reducible refine Bel.drewN ?_ _) | (with_reducible refine Bel.drew ?_) | (with_reducible refine Bel.alloc ?_ _) | (with_reducible refine Bel.setNew ?_ ?_ _) | (with_reducible refine Bel.trans ?_ (by assumption)) | (focus (simp; done)) | (focus (simp; omega)))) ?_
            try simp only [List.nil_append, List.cons_append, Act.put, List.setIfInBounds_toArray, List.set_cons_succ, List.set_cons_zero]
            refine st_end (by kernel_rfl) ?_
            simp only [List.drop_succ_cons, List.drop_zero, List.drop_nil]
            have HF1 : Hid (BN w6 W0.heap.size (.slice Av lv cv) L') := hBN6.mono (by have h4 := hb4.size; try simp only [World.size_alloc, World.size_drew] at h4; omega)
            have hb06 : Bel W0 w6 := by
              refine Bel.trans ?_ hb6
              exact (by repeat (first | (with_reducible exact Bel.refl _) | (with_reducible assumption) | (with_reducible refine Bel.drewN ?_ _) | (with_reducible refine Bel.drew ?_) | (with_reducible refine Bel.alloc ?_ _) | (with_reducible refine Bel.setNew ?_ ?_ _) | (with_reducible refine Bel.trans ?_ (by assumption)) | (focus (simp; done)) | (focus (simp; omega))))
            go_wp2_with fail
            go_meet
            exact ⟨_, _, L', rfl, rfl, AtF.new_at rfl _ _, HF1.out.keep ((Bel.refl _).alloc _), hL6, hb06.alloc _⟩
          · skip
            refine eff_made rfl (by simp [go_sem]; exact ⟨rfl, rfl⟩) (by repeat (first | (with_reducible exact Bel.refl _) | (with_reducible assumption) | (with_reducible refine Bel.drewN ?_ _) | (with_reducible refine Bel.drew ?_) | (with_reducible refine Bel.alloc ?_ _) | (with_reducible refine Bel.setNew ?_ ?_ _) | (with_reducible refine Bel.trans ?_ (by assumption)) | (focus (simp; done)) | (focus (simp; omega)))) ?_
            try simp only [List.nil_append, List.cons_append, Act.put, List.setIfInBounds_toArray, List.set_cons_succ, List.set_cons_zero]
            refine st_branch [7] (by kernel_rfl) (branch_cons (by simp only [List.getElem?_toArray, List.getElem?_cons_succ, List.getElem?_cons_zero]; rfl) ?_ branch_nil)
            refine eff_call 29 rfl (by simp [go_sem]; rfl) (by repeat (first | (with_reducible exact Bel.refl _) | (with_reducible assumption) | (with_reducible refine Bel.drewN ?_ _) | (with_reducible refine Bel.drew ?_) | (with_reducible refine Bel.alloc ?_ _) | (with_reducible refine Bel.setNew ?_ ?_ _) | (with_reducible refine Bel.trans ?_ (by assumption)) | (focus (simp; done)) | (focus (simp; omega)))) ?_
            refine (HAD.out _ (by repeat (first | (with_reducible exact Bel.refl _) | (with_reducible assumption) | (with_reducible refine Bel.drewN ?_ _) | (with_reducible refine Bel.drew ?_) | (with_reducible refine Bel.alloc ?_ _) | (with_reducible refine Bel.setNew ?_ ?_ _) | (with_reducible refine Bel.trans ?_ (by assumption)) | (focus (simp; done)) | (focus (simp; omega))))).mono ?_; rintro e w6 ⟨v', L', rfl, hBN6, hL6, hb6⟩
            obtain ⟨Av, cv, hvv⟩ := own_slice hBN6.bo.own
            generalize L'.length = lv at hvv
            subst hvv
            refine ⟨_, rfl, hb6, ?_⟩
            try simp only [List.nil_append, List.cons_append, Act.put, List.setIfInBounds_toArray, List.set_cons_succ, List.set_cons_zero]
            with_reducible refine st_sel [8, 9, 10] (by kernel_rfl) (by kernel_rfl) ?_
            simp only [picked, List.getElem?_cons_succ, List.getElem?_cons_zero, Option.toList_some, List.nil_append, List.cons_append, List.append_nil]
            try simp only [Act.put, List.setIfInBounds_toArray, List.set_cons_succ, List.set_cons_zero]
            repeat (go_big_quiet_step (fail))
            with_reducible refine wpQuiet_nil ?_
            refine st_branch [12] (by kernel_rfl) (branch_cons (by simp only [List.getElem?_toArray, List.getElem?_cons_succ, List.getElem?_cons_zero]; rfl) ?_ branch_nil)
            have hE : AtF w6 (w4.heap.size) [.slice none 0 0] := (AtF.new_at (w := w4) rfl 48 [.slice none 0 0]).bel hb6
            have hle0 : W0.heap.size ≤ w4.heap.size := by (have h4 := hb4.size; try simp only [World.size_alloc, World.size_drew] at h4; omega)
            have hlb : W0.heap.size ≤ w4.heap.size + 1 := by (have h4 := hb4.size; try simp only [World.size_alloc, World.size_drew] at h4; omega)
            have hltb : w4.heap.size < w4.heap.size + 1 := by omega
            have hb06 : Bel W0 w6 := by
              refine Bel.trans ?_ hb6
              exact (by repeat (first | (with_reducible exact Bel.refl _) | (with_reducible assumption) | (with_reducible refine Bel.drewN ?_ _) | (with_reducible refine Bel.drew ?_) | (with_reducible refine Bel.alloc ?_ _) | (with_reducible refine Bel.setNew ?_ ?_ _) | (with_reducible refine Bel.trans ?_ (by assumption)) | (focus (simp; done)) | (focus (simp; omega))))
            have hbX := hb06.setNew (p := ⟨w4.heap.size, 0, none⟩) hle0 (.slice Av lv cv)
            have HF := Lib.hid (And.intro (hE.set 0 (by simp) (.slice Av lv cv)) (And.intro ((hBN6.far (p := ⟨w4.heap.size, 0, none⟩) (by first | exact hltb | (simp only [World.size_alloc]; exact hltb) | (simp only [World.size_alloc, World.size_drew]; omega)) (.slice Av lv cv)).mono (by first | exact hlb | (simp only [World.size_alloc]; exact hlb) | (simp only [World.size_alloc, World.size_drew]; omega))) hbX))
            have e0 := hE.1.2 0 _ rfl
            have ef := hE.2 0
            have el := hE.1.1
            refine eff_done rfl (by simp [go_sem, e0, ef]; try rfl) hbX ?_
            try simp only [List.nil_append, List.cons_append, Act.put, List.setIfInBounds_toArray, List.set_cons_succ, List.set_cons_zero]
            clear e0 ef el hE hbX
            refine st_end (by kernel_rfl) ?_
            simp only [List.drop_succ_cons, List.drop_zero, List.drop_nil]
            go_wp2_with fail
            go_meet
            exact ⟨_, _, L', rfl, rfl, HF.out.1, HF.out.2.1, hL6, HF.out.2.2⟩
        · skip
          refine eff_made rfl (by simp [go_sem]; exact ⟨rfl, rfl⟩) (by repeat (first | (with_reducible exact Bel.refl _) | (with_reducible assumption) | (with_reducible refine Bel.drewN ?_ _) | (with_reducible refine Bel.drew ?_) | (with_reducible refine Bel.alloc ?_ _) | (with_reducible refine Bel.setNew ?_ ?_ _) | (with_reducible refine Bel.trans ?_ (by assumption)) | (focus (simp; done)) | (focus (simp; omega)))) ?_
          try simp only [List.nil_append, List.cons_append, Act.put, List.setIfInBounds_toArray, List.set_cons_succ, List.set_cons_zero]
          refine st_branch [1] (by kernel_rfl) (branch_cons (by simp only [List.getElem?_toArray, List.getElem?_cons_succ, List.getElem?_cons_zero]; rfl) ?_ branch_nil)
          refine eff_call 24 rfl (by simp [go_sem]; rfl) (by repeat (first | (with_reducible exact Bel.refl _) | (with_reducible assumption) | (with_reducible refine Bel.drewN ?_ _) | (with_reducible refine Bel.drew ?_) | (with_reducible refine Bel.alloc ?_ _) | (with_reducible refine Bel.setNew ?_ ?_ _) | (with_reducible refine Bel.trans ?_ (by assumption)) | (focus (simp; done)) | (focus (simp; omega)))) ?_
          refine (HLI.out _).mono ?_; rintro e w4 ⟨rfl, hb4⟩
          refine ⟨_, rfl, hb4, ?_⟩
          try simp only [List.nil_append, List.cons_append, Act.put, List.setIfInBounds_toArray, List.set_cons_succ, List.set_cons_zero]
          refine st_branch [7] (by kernel_rfl) (branch_cons (by simp only [List.getElem?_toArray, List.getElem?_cons_succ, List.getElem?_cons_zero]; rfl) ?_ branch_nil)
          refine eff_call 29 rfl (by simp [go_sem]; rfl) (by repeat (first | (with_reducible exact Bel.refl _) | (with_reducible assumption) | (with_reducible refine Bel.drewN ?_ _) | (with_reducible refine Bel.drew ?_) | (with_reducible refine Bel.alloc ?_ _) | (with_reducible refine Bel.setNew ?_ ?_ _) | (with_reducible refine Bel.trans ?_ (by assumption)) | (focus (simp; done)) | (focus (simp; omega)))) ?_
          refine (HAD.out _ (by repeat (first | (with_reducible exact Bel.refl _) | (with_reducible assumption) | (with_reducible refine Bel.drewN ?_ _) | (with_reducible refine Bel.drew ?_) | (with_reducible refine Bel.alloc ?_ _) | (with_reducible refine Bel.setNew ?_ ?_ _) | (with_reducible refine Bel.trans ?_ (by assumption)) | (focus (simp; done)) | (focus (simp; omega))))).mono ?_; rintro e w6 ⟨v', L', rfl, hBN6, hL6, hb6⟩
          obtain ⟨Av, cv, hvv⟩ := own_slice hBN6.bo.own
          generalize L'.length = lv at hvv
          subst hvv
          refine ⟨_, rfl, hb6, ?_⟩
          try simp only [List.nil_append, List.cons_append, Act.put, List.setIfInBounds_toArray, List.set_cons_succ, List.set_cons_zero]
          with_reducible refine st_sel [8, 9, 10] (by kernel_rfl) (by kernel_rfl) ?_
          simp only [picked, List.getElem?_cons_succ, List.getElem?_cons_zero, Option.toList_some, List.nil_append, List.cons_append, List.append_nil]
          try simp only [Act.put, List.setIfInBounds_toArray, List.set_cons_succ, List.set_cons_zero]
          repeat (go_big_quiet_step (fail))
          with_reducible refine wpQuiet_nil ?_
          refine st_branch [12] (by kernel_rfl) (branch_cons (by simp only [List.getElem?_toArray, List.getElem?_cons_succ, List.getElem?_cons_zero]; rfl) ?_ branch_nil)
          have hE : AtF w6 (W0.heap.size) [.slice none 0 0] := ((AtF.new_at (w := W0.drew) rfl 48 [.slice none 0 0]).bel hb4).bel hb6
          have hle0 : W0.heap.size ≤ W0.heap.size := by (have h4 := hb4.size; try simp only [World.size_alloc, World.size_drew] at h4; omega)
          have hlb : W0.heap.size ≤ w4.heap.size := by (have h4 := hb4.size; try simp only [World.size_alloc, World.size_drew] at h4; omega)
          have hltb : W0.heap.size < w4.heap.size := by (have h4 := hb4.size; try simp only [World.size_alloc, World.size_drew] at h4; omega)
          have hb06 : Bel W0 w6 := by
            refine Bel.trans ?_ hb6
            exact (by repeat (first | (with_reducible exact Bel.refl _) | (with_reducible assumption) | (with_reducible refine Bel.drewN ?_ _) | (with_reducible refine Bel.drew ?_) | (with_reducible refine Bel.alloc ?_ _) | (with_reducible refine Bel.setNew ?_ ?_ _) | (with_reducible refine Bel.trans ?_ (by assumption)) | (focus (simp; done)) | (focus (simp; omega))))
          have hbX := hb06.setNew (p := ⟨W0.heap.size, 0, none⟩) hle0 (.slice Av lv cv)
          have HF := Lib.hid (And.intro (hE.set 0 (by simp) (.slice Av lv cv)) (And.intro ((hBN6.far (p := ⟨W0.heap.size, 0, none⟩) (by first | exact hltb | (simp only [World.size_alloc]; exact hltb) | (simp only [World.size_alloc, World.size_drew]; omega)) (.slice Av lv cv)).mono (by first | exact hlb | (simp only [World.size_alloc]; exact hlb) | (simp only [World.size_alloc, World.size_drew]; omega))) hbX))
          have e0 := hE.1.2 0 _ rfl
          have ef := hE.2 0
          have el := hE.1.1
          refine eff_done rfl (by simp [go_sem, e0, ef]; try rfl) hbX ?_
          try simp only [List.nil_append, List.cons_append, Act.put, List.setIfInBounds_toArray, List.set_cons_succ, List.set_cons_zero]
          clear e0 ef el hE hbX
          refine st_end (by kernel_rfl) ?_
          simp only [List.drop_succ_cons, List.drop_zero, List.drop_nil]
          go_wp2_with fail
          go_meet
          exact ⟨_, _, L', rfl, rfl, HF.out.1, HF.out.2.1, hL6, HF.out.2.2⟩
      case rest =>
        obtain ⟨H, v', L2, rfl, rfl, hH, hV2, hL2, hb2⟩ := hcut
        obtain ⟨A2, c2, hvv⟩ := own_slice hV2.bo.own
        obtain ⟨l2, Hl2⟩ : ∃ n, Hid (L2.length = n) := ⟨_, rfl⟩
        rw [Hl2.out] at hvv
        subst hvv
        have hP2 := hP.bel hb2
        have h0 := hH.1.2 0 _ rfl
        have hW0 : R + 1 ≤ W0.heap.size := by have := hP.1.1; omega
        have hP3 := hP2.set 0 (by simp) (.slice A2 l2 c2)
        have hV3 := (hV2.mono hW0).far (p := ⟨R, 0, none⟩) (by show R < R + 1; omega) (.slice A2 l2 c2)
        have hb3 : Bel w (wc.setCell ⟨R, 0, none⟩ (.slice A2 l2 c2)) := (hbr.trans hb2).setNew (by show w.heap.size ≤ R; omega) (.slice A2 l2 c2)
        have hbe := hP2.1.2 0 _ rfl
        have hbl := hP2.1.1
        have hbf := hP2.2 0
        have HL2 := Lib.hid hL2
        have hU3 := (hU.keep hb2).far (p := ⟨R, 0, none⟩) (by show R < R + 1; omega) (.slice A2 l2 c2)
        have HX := Lib.hid (And.intro hP3 (And.intro hV3 (And.intro hU3 hb3)))
        clear hP hV hU hP2 hP3 hV2 hV3 hU3 hb3 hH hL2 hbr hrow
        go_wp2
        obtain ⟨x2, x3, x4, x5⟩ := HX.out
        have HE := Lib.hid (show L2.map BM.bu = plugP M B Q (i + 1) by rw [HL2.out, HK.out])
        clear HK HL2 HX HAD
        go_roundw
        case rel => exact ⟨i + 1, _, L2, by go_num, by omega, HE, x2, x3, x4, x5⟩
        case measure => simp [intOf]; omega
    · obtain rfl : i = n := by omega
      have HDR := Lib.hid (fun w' (h : Bel W0 w') => drain_any L' _ w' (hV.bo.bl.bel h) (by have := HLL.out; omega) (fun x hx => by have := (HLM.out x hx).1; omega))
      have q0 := hP.1.2 0 _ rfl
      rw [HL.out] at HDR
      have HPL := Lib.hid (HPS.out i (Nat.le_refl _))
      go_wp2_with fail
      refine (HDR.out _ (Bel.refl _)).mono ?_; rintro e w3 ⟨v2, L2, rfl, hBN2, hL2, hb3⟩
      have HD := Lib.hid hL2
      obtain ⟨A2, c2, hvv⟩ := own_slice hBN2.bo.own
      obtain ⟨l2, Hl2⟩ : ∃ n, Hid (L2.length = n) := ⟨_, rfl⟩
      rw [Hl2.out] at hvv
      subst hvv
      have HPI : Hid (∀ x ∈ L2, PIn M B Q i x.bu) := fun x hx => by
        have h1 : x.bu ∈ drainP (plugP M B Q i) := by rw [← HD.out]; exact List.mem_map_of_mem hx
        exact HPL.out.each _ (drain_mem h1)
      have hl28 : l2 ≤ 8 := by
        have h1 := congrArg List.length HD.out
        rw [List.length_map, drainP_len] at h1
        have h2 := HPL.out.len
        have := Hl2.out
        omega
      have HU := Lib.hid (hU.bo.bl.bel hb3)
      have HV := Lib.hid hBN2.bo.bl
      have hbw3 := hbr.trans hb3
      have HSEND := Lib.hid (send_same HDK.out HLIM.out (A0 (dataB 3 20)))
      have HOKL : Hid (∀ x ∈ L, okU x.bu = true ∧ x.b.sec + x.b.cnt ≤ 20) := fun x hx => by
        obtain ⟨k, hk⟩ := List.mem_iff_getElem?.1 hx
        have hd := HDK.out.2 k x.bu (by rw [HQ.out, List.getElem?_map, hk]; rfl)
        have h1 := hd.sec
        have h2 := hd.cnt
        have h1' : x.b.sec ≤ 13 := h1
        have h2' : x.b.cnt ≤ 3 := h2
        exact ⟨hd.ok, by omega⟩
      have HOK2 : Hid (∀ x ∈ L2, okU x.bu = true ∧ x.b.sec + x.b.cnt ≤ 16) := fun x hx => ⟨(HPI.out x hx).ok, (HPI.out x hx).top⟩
      clear hU hV hP hBN2 hL2 q0 HDR HL HLM HLL hbr hb3
      go_wp2
      obtain ⟨W1, HW1⟩ : ∃ W, Hid (W = w3.alloc (.cells #[.slice none 0 0] 48)) := ⟨_, rfl⟩
      have hbX : Bel w3 W1 := by rw [HW1.out]; exact (Bel.refl _).alloc _
      rw [← HW1.out]
      go_loopw [12] (fun iv wr => ∃ r : Nat, iv = .int .i64 r ∧ r ≤ l2 ∧ Bel w3 wr) (fun iv _ => l2 - (intOf iv).toNat)
      case atStart => exact ⟨0, rfl, by omega, hbX⟩
      case round =>
        obtain ⟨r, rfl, q1, hbr1⟩ := hrel
        obtain ⟨W2, rfl⟩ : ∃ X, X = wr := ⟨_, rfl⟩
        by_cases hlt : r < l2
        · have hrl : (r : Int) < (l2 : Int) := by omega
          obtain ⟨x, hx⟩ : ∃ x, L2[r]? = some x := ⟨L2[r]'(by have := Hl2.out; omega), List.getElem?_eq_getElem _⟩
          obtain ⟨hxo, hxt⟩ := HOK2.out x (List.mem_of_getElem? hx)
          obtain ⟨g, o, cx, hat⟩ := HV.out.at hx
          have hfo := hat.form
          injection hfo with h1 h2 h3
          subst h1
          clear h2 h3 hx
          have hrow := hat.row.bel hbr1 hat.lt
          have hmx := hat.mem.bel hbr1
          clear hat
          obtain ⟨⟨i1, t1, k1, s1, n1, d1, f1, a1, l1, c3, m1⟩, ms1⟩ := x
          have HRG := Lib.hid (okU_range hxo)
          have g1 : 0 ≤ s1 := HRG.out.1
          have g2 : 1 ≤ n1 := HRG.out.2.2.1
          have HRB := Lib.hid (fun W (hb : Bel W2 W) => refBunch_any ⟨i1, t1, k1, s1, n1, d1, f1, a1, l1, c3, m1⟩ ms1 W (hmx.bel hb))
          have hv : validB ⟨i1, t1, k1, s1, n1, d1, f1, a1, l1, c3, m1⟩ ms1 = true := hxo
          rw [hv] at HRB
          simp only at HRB hxt hrow
          have e1 : IntKind.i64.wrap (s1 + n1) = s1 + n1 := IntWalk.i64_in _ (by omega)
          have e2 : decide ((20 : Int) < s1 + n1) = false := by simp; omega
          clear hv hxo hmx hxt
          have b0 := (hrow).cell 0 rfl
          have b1 := (hrow).cell 1 rfl
          have b2 := (hrow).cell 2 rfl
          have b3 := (hrow).cell 3 rfl
          have b4 := (hrow).cell 4 rfl
          have b5 := (hrow).cell 5 rfl
          have b6 := (hrow).cell 6 rfl
          have b7 := (hrow).cell 7 rfl
          have b8 := (hrow).cell 8 rfl
          rw [Nat.add_zero] at b0
          clear hrow
          go_wp2_with fail
          have q0 := fun d os => cell_regrown b0 d os
          have q1 := fun d os => cell_regrown b1 d os
          have q2 := fun d os => cell_regrown b2 d os
          have q3 := fun d os => cell_regrown b3 d os
          have q4 := fun d os => cell_regrown b4 d os
          have q5 := fun d os => cell_regrown b5 d os
          have q6 := fun d os => cell_regrown b6 d os
          have q7 := fun d os => cell_regrown b7 d os
          have q8 := fun d os => cell_regrown b8 d os
          refine wp_region_lex [4] 20 (by kernel_rfl) (by kernel_rfl) ?_
          simp only [List.take_succ_cons, List.take_zero, List.drop_succ_cons, List.drop_zero]
          with_reducible refine lex_seg 4 _ _ _ _ (by kernel_rfl) ?_
          simp only [List.take_succ_cons, List.take_zero, List.drop_succ_cons, List.drop_zero]
          try simp only [Act.put, List.setIfInBounds_toArray, List.set_cons_succ, List.set_cons_zero]
          repeat (go_big_quiet_step (fail))
          with_reducible refine wpQuiet_nil ?_
          refine lex_call 39 rfl rfl (by simp [go_sem]; rfl) ?_
          refine (HRB.out _ (by repeat (first | (with_reducible exact Bel.refl _) | (with_reducible assumption) | (with_reducible refine Bel.drewN ?_ _) | (with_reducible refine Bel.drew ?_) | (with_reducible refine Bel.alloc ?_ _) | (with_reducible refine Bel.setNew ?_ ?_ _) | (with_reducible refine Bel.trans ?_ (by assumption)) | (focus (simp; done)) | (focus (simp; omega))))).mono ?_; rintro e w8 ⟨rfl, hb8⟩
          refine ⟨_, rfl, hb8, ?_⟩
          with_reducible refine lex_seg 15 _ _ _ _ (by kernel_rfl) ?_
          simp only [List.take_succ_cons, List.take_zero, List.drop_succ_cons, List.drop_zero]
          try simp only [Act.put, List.setIfInBounds_toArray, List.set_cons_succ, List.set_cons_zero]
          repeat (go_big_quiet_step (fail))
          with_reducible refine wpQuiet_nil ?_
          with_reducible refine lex_nil ?_
          clear q0 q1 q2 q3 q4 q5 q6 q7 q8
          clear b0 b1 b2 b3 b4 b5 b6 b7 b8
          clear e1 e2
          have hbf : Bel w3 w8 := (hbr1.drew).trans hb8
          go_wp2
          go_roundw
          case rel => exact ⟨r + 1, by go_num, by omega, hbf⟩
          case measure => simp [intOf]; omega
        · obtain rfl : r = l2 := by omega
          have hrr : decide ((r : Int) < (r : Int)) = false := by simp
          have HAW := Lib.hid (fun w' => awake26_any w')
          have HAP := Lib.hid (fun W (hb : Bel w3 W) => apply_any L (.slice A i c) W (HU.out.bel hb) (by have := Hn.out; omega) HOKL.out)
          have HAP2 := Lib.hid (fun W (hb : Bel w3 W) => apply_any L2 (.slice A2 r c2) W (HV.out.bel hb) (by have := Hl2.out; omega) (fun x hx => by have := HOK2.out x hx; exact ⟨this.1, by omega⟩))
          have hEQ : runA (A0 (dataB 3 20)) (L2.map BM.bu) = runA (A0 (dataB 3 20)) (L.map BM.bu) := by
            have := HSEND.out
            rw [HNQ.out] at this
            rw [HD.out, this, HQ.out]
          rw [hEQ] at HAP2
          clear hEQ HSEND
          obtain ⟨im, HIM⟩ : ∃ s, Hid (sl (runA (A0 (dataB 3 20)) (L.map BM.bu)).1 0 160 = s) := ⟨_, rfl⟩
          obtain ⟨oc, HOC⟩ : ∃ s, Hid ((runA (A0 (dataB 3 20)) (L.map BM.bu)).2 = s) := ⟨_, rfl⟩
          rw [HIM.out, HOC.out] at HAP HAP2
          have HEQ := Lib.hid (fun W => arr_eq oc W)
          have HONE : Hid ((ocells oc).toArray.all (·.oneCell') = true) := by
            show _ = true
            rw [Array.all_eq_true_iff_forall_mem]
            intro v hv
            exact ocells_one oc v (by simpa using hv)
          have HSZ : Hid ((ocells oc).toArray.size = 32) := by show _ = _; rw [List.size_toArray, ocells_len]
          have HCL : Hid (ocells oc = (ocells oc).toArray.toList) := rfl
          obtain ⟨arr, HARR⟩ : ∃ x, Hid ((ocells oc).toArray = x) := ⟨_, rfl⟩
          rw [HARR.out] at HAP HAP2 HEQ HONE HSZ HCL
          have hi32 : (Try.prog.info? 60).map (·.size) = some arr.size := by rw [HSZ.out]; kernel_rfl
          have HI := Lib.hid hi32
          have hz : arr.size = 32 := HSZ.out
          clear hi32
          go_wp2_with fail
          refine (HAP.out _ hbr1).mono ?_; rintro e w5 ⟨rfl, hb5⟩
          have hst := run_storeCells_new (P := Try.prog) w5 60 #[.string ⟨#[]⟩, .string ⟨#[]⟩, .string ⟨#[]⟩, .string ⟨#[]⟩, .string ⟨#[]⟩, .string ⟨#[]⟩, .string ⟨#[]⟩, .string ⟨#[]⟩, .string ⟨#[]⟩, .string ⟨#[]⟩, .string ⟨#[]⟩, .string ⟨#[]⟩, .string ⟨#[]⟩, .string ⟨#[]⟩, .string ⟨#[]⟩, .string ⟨#[]⟩, .string ⟨#[]⟩, .string ⟨#[]⟩, .string ⟨#[]⟩, .string ⟨#[]⟩, .string ⟨#[]⟩, .string ⟨#[]⟩, .string ⟨#[]⟩, .string ⟨#[]⟩, .string ⟨#[]⟩, .string ⟨#[]⟩, .string ⟨#[]⟩, .string ⟨#[]⟩, .string ⟨#[]⟩, .string ⟨#[]⟩, .string ⟨#[]⟩, .string ⟨#[]⟩] arr HI.out (by rw [HSZ.out]; rfl) HONE.out
          go_wp2_with fail
          clear hst
          have hA := AtF.new_at (w := w5) rfl 60 (ocells oc)
          rw [HARR.out] at hA
          have hb35 : Bel w3 (w5.alloc (.cells arr 60)) := (hbr1.trans hb5).alloc _
          refine (HAP2.out _ hb35).mono ?_; rintro e w6 ⟨rfl, hb6⟩
          have hst := run_storeCells_new (P := Try.prog) w6 60 #[.string ⟨#[]⟩, .string ⟨#[]⟩, .string ⟨#[]⟩, .string ⟨#[]⟩, .string ⟨#[]⟩, .string ⟨#[]⟩, .string ⟨#[]⟩, .string ⟨#[]⟩, .string ⟨#[]⟩, .string ⟨#[]⟩, .string ⟨#[]⟩, .string ⟨#[]⟩, .string ⟨#[]⟩, .string ⟨#[]⟩, .string ⟨#[]⟩, .string ⟨#[]⟩, .string ⟨#[]⟩, .string ⟨#[]⟩, .string ⟨#[]⟩, .string ⟨#[]⟩, .string ⟨#[]⟩, .string ⟨#[]⟩, .string ⟨#[]⟩, .string ⟨#[]⟩, .string ⟨#[]⟩, .string ⟨#[]⟩, .string ⟨#[]⟩, .string ⟨#[]⟩, .string ⟨#[]⟩, .string ⟨#[]⟩, .string ⟨#[]⟩, .string ⟨#[]⟩] arr HI.out (by rw [HSZ.out]; rfl) HONE.out
          have hA1 := (hA.bel hb6).alloc (.cells arr 60)
          have hA2 := AtF.new_at (w := w6) rfl 60 (ocells oc)
          rw [HARR.out] at hA2
          have hb36 : Bel w3 (w6.alloc (.cells arr 60)) := (hb35.trans hb6).alloc _
          clear hA hb5 hb6 hb35
          go_upto_region 18 with fail
          clear hst
          generalize w5.heap.size = X1 at *
          generalize w6.heap.size = X2 at *
          generalize w6.alloc (.cells arr 60) = W8 at *
          have hi2 : (Try.prog.info? 60).map (·.size) = some (ocells oc).length := by rw [ocells_len]; kernel_rfl
          refine wp_region_lit ?_
          refine wpList_load_at rfl 60 (.tmp 13) rfl rfl hA1 _ Try.underlying60 rfl hi2 ?_
          refine wpList_load_at rfl 60 (.tmp 15) rfl rfl hA2 _ Try.underlying60 rfl hi2 ?_
          clear hA1 hA2 hi2 hz
          rw [HARR.out]
          simp only [Act.put, Act.eval, List.setIfInBounds_toArray, List.set_cons_succ, List.set_cons_zero]
          have heq := HEQ.out
          have hgt : Try.prog.eqGuardType Try.prog.depth 60 = false := by kernel_rfl
          go_wp2_with fail
          refine (HAW.out _).mono ?_; rintro e w9 ⟨rfl, hb9⟩
          have hbe : Bel w w9 := (hbw3.trans hb36).trans hb9
          clear heq hgt
          go_wp2
          go_ret
          exact ⟨rfl, hbe⟩
end Go.Proofs.Ytbijfmpmgmfpgaa
