/- The awake of the law of plug. -/
import Derived.Test.YtbijfmpmgmfpgaaPlI
namespace Go.Proofs.Ytbijfmpmgmfpgaa
open Go.RowKit Go.Maps
set_option linter.unusedSimpArgs false

set_option maxRecDepth 100000 in
set_option maxHeartbeats 16000000 in
theorem awake26_any (w : World) : Calls Try.prog 37 #[] w fun e w' => e = .returned (.bool true) ∧ Bel w w' := by
  have hA := ((AtF.new_at (w := w) rfl 38 [.int .i64 8, .int .i64 0]).alloc (.cells [.slice none 0 0].toArray 48)).alloc (.cells [.int .i64 9, .int .i64 3, .int .i64 4].toArray 3)
  have hB := (AtF.new_at (w := w.alloc (.cells [.int .i64 8, .int .i64 0].toArray 38)) (g := w.heap.size + 1) (by simp) 48 [.slice none 0 0]).alloc (.cells [.int .i64 9, .int .i64 3, .int .i64 4].toArray 3)
  have hC := AtF.new_at (w := (w.alloc (.cells [.int .i64 8, .int .i64 0].toArray 38)).alloc (.cells [.slice none 0 0].toArray 48)) (g := w.heap.size + 2) (by simp) 3 [.int .i64 9, .int .i64 3, .int .i64 4]
  have hbw : Bel w (((w.alloc (.cells [.int .i64 8, .int .i64 0].toArray 38)).alloc (.cells [.slice none 0 0].toArray 48)).alloc (.cells [.int .i64 9, .int .i64 3, .int .i64 4].toArray 3)) := (by repeat (first | (with_reducible exact Bel.refl _) | (with_reducible assumption) | (with_reducible refine Bel.drewN ?_ _) | (with_reducible refine Bel.drew ?_) | (with_reducible refine Bel.alloc ?_ _) | (with_reducible refine Bel.setNew ?_ ?_ _) | (with_reducible refine Bel.trans ?_ (by assumption)) | (focus (simp; done)) | (focus (simp; omega))))
  simp only [List.toArray] at hA hB hC hbw
  go_enter Try.func37, Try.ntmps37
  go_wp2
  generalize hM : w.heap.size = M at *
  have HM := Lib.hid hM
  clear hM
  go_loopw [5, 3] (fun iv kv wr => ∃ (i : Nat) (v : Value) (L : List BM), iv = .int .i64 i ∧ i ≤ 3 ∧ kv = .bool true ∧ Hid (L.map BM.bu = PA i) ∧ AtF wr M [.int .i64 8, .int .i64 0] ∧ AtF wr (M + 1) [v] ∧ AtF wr (M + 2) [.int .i64 9, .int .i64 3, .int .i64 4] ∧ BN wr (M + 3) v L ∧ Bel w wr) (fun iv _ _ => 3 - (intOf iv).toNat)
  case atStart => exact ⟨0, _, [], rfl, by omega, rfl, rfl, hA, hB, hC, ⟨BO.nil _ _, fun j x hj => by simp at hj⟩, hbw⟩
  case round =>
    clear hA hB hC hbw
    obtain ⟨i, v, L, rfl, p1, rfl, HL, hA, hB, hC, hBN, hbr⟩ := hrel
    have HSM := Lib.hid (PA_small i p1)
    have HLL : Hid (L.length ≤ 2) := by show _; have := HSM.out.1; rw [← HL.out, List.length_map] at this; exact this
    have HLM : Hid (∀ x ∈ L, x.ms.length ≤ 1000) := fun x hx => by
      have := HSM.out.2 x.bu (by rw [← HL.out]; exact List.mem_map_of_mem hx)
      have h2 : x.ms.length ≤ 2 := this
      omega
    obtain ⟨W0, rfl⟩ : ∃ X, X = wr := ⟨_, rfl⟩
    by_cases hlt : i < 3
    · have hi3 : (i : Int) < 3 := by omega
      have hCi : W0.cell? ⟨M + 2, i, none⟩ = some (.int .i64 (atI i)) := hC.1.2 i _ (by
        have : i = 0 ∨ i = 1 ∨ i = 2 := by omega
        rcases this with rfl | rfl | rfl <;> rfl)
      have HND := Lib.hid (PA_next i hlt)
      have HD := Lib.hid (fun W => data_any (i : Int) 1 W (by omega) (by omega))
      have HMB := Lib.hid (fun W => memberP_any (i : Int) 0 2 (atI i) (dataB (i : Int) 1) 1 W (by unfold IsInt; omega) (by rw [dataB_size]; unfold maxLen; omega))
      have HAD : Hid (∀ (A : Nat) W, Bel W0 W → Mems W ⟨(i : Int), 0, 2, atI i, 1, dataB (i : Int) 1, false, some ⟨A, 0, none⟩, 1, 1, 0⟩ [⟨(i : Int), 0, 1⟩] → Calls Try.prog 29 #[.agg #[.int .i64 8, .int .i64 0], .agg #[v], .agg #[.int .i64 (i : Int), .int .i64 0, .int .i64 2, .int .i64 (atI i), .int .i64 1, .string (dataB (i : Int) 1), .bool false, .slice (some ⟨A, 0, none⟩) 1 1, .int .i64 0]] W fun e w' => ∃ v' L', e = .returned (.tuple #[.agg #[v'], .bool true]) ∧ BN w' W.heap.size v' L' ∧ L'.map BM.bu = PA (i + 1) ∧ Bel W w') := fun A W hb hm => by
        have := add_any 8 0 v L ⟨⟨(i : Int), 0, 2, atI i, 1, dataB (i : Int) 1, false, some ⟨A, 0, none⟩, 1, 1, 0⟩, [⟨(i : Int), 0, 1⟩]⟩ W (hBN.bo.bl.bel hb) hm (by have := HLL.out; omega) HLM.out
        rw [HL.out, show BM.bu ⟨⟨(i : Int), 0, 2, atI i, 1, dataB (i : Int) 1, false, some ⟨A, 0, none⟩, 1, 1, 0⟩, [⟨(i : Int), 0, 1⟩]⟩ = mP i from rfl, HND.out] at this
        exact this
      obtain ⟨d, HDD⟩ : ∃ d, Hid (d = dataB (i : Int) 1) := ⟨_, rfl⟩
      obtain ⟨z, HZZ⟩ : ∃ d, Hid (d = atI i) := ⟨_, rfl⟩
      rw [← HDD.out] at HD HMB HAD
      rw [← HZZ.out] at HMB HAD hCi
      clear HDD HZZ HSM HLL HLM HND
      obtain ⟨K, HK⟩ : ∃ P : List Bu, Hid (PA (i + 1) = P) := ⟨_, rfl⟩
      rw [HK.out] at HAD
      go_upto_region 8 with fail
      go_cut [6, 7] (fun hv kv wx => ∃ (H : Nat) (v' : Value) (L' : List BM), hv = .pointer (some ⟨H, 0, none⟩) ∧ kv = .bool true ∧ AtF wx H [v'] ∧ BN wx W0.heap.size v' L' ∧ L'.map BM.bu = K ∧ Bel W0 wx)
      case first =>
        have a0 := hA.1.2 0 _ rfl
        have a1 := hA.1.2 1 _ rfl
        have b0 := hB.1.2 0 _ rfl
        have rg0 := fun d os => cell_regrown a0 d os
        have rg1 := fun d os => cell_regrown a1 d os
        have rg2 := fun d os => cell_regrown b0 d os
        have rg3 := fun d os => cell_regrown hCi d os
        clear a0 a1 b0 hCi
        refine wp_region_st [8, 9, 10, 14, 15] 16 (by kernel_rfl) (by kernel_rfl) ?_
        with_reducible refine st_sel [0, 1, 2, 3, 4, 5, 6, 7] (by kernel_rfl) (by kernel_rfl) ?_
        simp only [picked, List.getElem?_cons_succ, List.getElem?_cons_zero, Option.toList_some, List.nil_append, List.cons_append, List.append_nil]
        try simp only [Act.put, List.setIfInBounds_toArray, List.set_cons_succ, List.set_cons_zero]
        repeat (go_big_quiet_step (fail))
        with_reducible refine wpQuiet_nil ?_
        refine st_branch [8, 14] (by kernel_rfl) (branch_cons (by simp only [List.getElem?_toArray, List.getElem?_cons_succ, List.getElem?_cons_zero]; rfl) ?_ (branch_cons (by simp only [List.getElem?_toArray, List.getElem?_cons_succ, List.getElem?_cons_zero]; rfl) ?_ branch_nil))
        · skip
          refine eff_call 15 rfl (by simp [go_sem]; rfl) (by repeat (first | (with_reducible exact Bel.refl _) | (with_reducible assumption) | (with_reducible refine Bel.drewN ?_ _) | (with_reducible refine Bel.drew ?_) | (with_reducible refine Bel.alloc ?_ _) | (with_reducible refine Bel.setNew ?_ ?_ _) | (with_reducible refine Bel.trans ?_ (by assumption)) | (focus (simp; done)) | (focus (simp; omega)))) ?_
          refine (HD.out _).mono ?_; rintro e w4 ⟨rfl, hb4⟩
          refine ⟨_, rfl, hb4, ?_⟩
          try simp only [List.nil_append, List.cons_append, Act.put, List.setIfInBounds_toArray, List.set_cons_succ, List.set_cons_zero]
          refine st_branch [9, 14] (by kernel_rfl) (branch_cons (by simp only [List.getElem?_toArray, List.getElem?_cons_succ, List.getElem?_cons_zero]; rfl) ?_ (branch_cons (by simp only [List.getElem?_toArray, List.getElem?_cons_succ, List.getElem?_cons_zero]; rfl) ?_ branch_nil))
          · skip
            refine eff_call 70 rfl (by simp [go_sem]; rfl) (by repeat (first | (with_reducible exact Bel.refl _) | (with_reducible assumption) | (with_reducible refine Bel.drewN ?_ _) | (with_reducible refine Bel.drew ?_) | (with_reducible refine Bel.alloc ?_ _) | (with_reducible refine Bel.setNew ?_ ?_ _) | (with_reducible refine Bel.trans ?_ (by assumption)) | (focus (simp; done)) | (focus (simp; omega)))) ?_
            refine (HMB.out _).mono ?_; rintro e w5 ⟨A5, rfl, hm5, hb5⟩
            refine ⟨_, rfl, hb5, ?_⟩
            try simp only [List.nil_append, List.cons_append, Act.put, List.setIfInBounds_toArray, List.set_cons_succ, List.set_cons_zero]
            refine st_branch [10, 14] (by kernel_rfl) (branch_cons (by simp only [List.getElem?_toArray, List.getElem?_cons_succ, List.getElem?_cons_zero]; rfl) ?_ (branch_cons (by simp only [List.getElem?_toArray, List.getElem?_cons_succ, List.getElem?_cons_zero]; rfl) ?_ branch_nil))
            · skip
              refine eff_call 29 rfl (by simp [go_sem]; rfl) (by repeat (first | (with_reducible exact Bel.refl _) | (with_reducible assumption) | (with_reducible refine Bel.drewN ?_ _) | (with_reducible refine Bel.drew ?_) | (with_reducible refine Bel.alloc ?_ _) | (with_reducible refine Bel.setNew ?_ ?_ _) | (with_reducible refine Bel.trans ?_ (by assumption)) | (focus (simp; done)) | (focus (simp; omega)))) ?_
              refine (HAD.out A5 _ (by repeat (first | (with_reducible exact Bel.refl _) | (with_reducible assumption) | (with_reducible refine Bel.drewN ?_ _) | (with_reducible refine Bel.drew ?_) | (with_reducible refine Bel.alloc ?_ _) | (with_reducible refine Bel.setNew ?_ ?_ _) | (with_reducible refine Bel.trans ?_ (by assumption)) | (focus (simp; done)) | (focus (simp; omega)))) (by first | exact hm5 | exact hm5.bel ((Bel.refl _).alloc _))).mono ?_; rintro e w6 ⟨v', L', rfl, hBN6, hL6, hb6⟩
              obtain ⟨Av, cv, hvv⟩ := own_slice hBN6.bo.own
              generalize L'.length = lv at hvv
              subst hvv
              refine ⟨_, rfl, hb6, ?_⟩
              try simp only [List.nil_append, List.cons_append, Act.put, List.setIfInBounds_toArray, List.set_cons_succ, List.set_cons_zero]
              with_reducible refine st_sel [11, 12, 13] (by kernel_rfl) (by kernel_rfl) ?_
              simp only [picked, List.getElem?_cons_succ, List.getElem?_cons_zero, Option.toList_some, List.nil_append, List.cons_append, List.append_nil]
              try simp only [Act.put, List.setIfInBounds_toArray, List.set_cons_succ, List.set_cons_zero]
              repeat (go_big_quiet_step (fail))
              with_reducible refine wpQuiet_nil ?_
              refine st_branch [14] (by kernel_rfl) (branch_cons (by simp only [List.getElem?_toArray, List.getElem?_cons_succ, List.getElem?_cons_zero]; rfl) ?_ branch_nil)
              refine eff_made rfl (by simp [go_sem]; exact ⟨rfl, rfl⟩) (by repeat (first | (with_reducible exact Bel.refl _) | (with_reducible assumption) | (with_reducible refine Bel.drewN ?_ _) | (with_reducible refine Bel.drew ?_) | (with_reducible refine Bel.alloc ?_ _) | (with_reducible refine Bel.setNew ?_ ?_ _) | (with_reducible refine Bel.trans ?_ (by assumption)) | (focus (simp; done)) | (focus (simp; omega)))) ?_
              try simp only [List.nil_append, List.cons_append, Act.put, List.setIfInBounds_toArray, List.set_cons_succ, List.set_cons_zero]
              refine st_branch [15] (by kernel_rfl) (branch_cons (by simp only [List.getElem?_toArray, List.getElem?_cons_succ, List.getElem?_cons_zero]; rfl) ?_ branch_nil)
              refine eff_done rfl (by simp [go_sem]; rfl) (by repeat (first | (with_reducible exact Bel.refl _) | (with_reducible assumption) | (with_reducible refine Bel.drewN ?_ _) | (with_reducible refine Bel.drew ?_) | (with_reducible refine Bel.alloc ?_ _) | (with_reducible refine Bel.setNew ?_ ?_ _) | (with_reducible refine Bel.trans ?_ (by assumption)) | (focus (simp; done)) | (focus (simp; omega)))) ?_
              try simp only [List.nil_append, List.cons_append, Act.put, List.setIfInBounds_toArray, List.set_cons_succ, List.set_cons_zero]
              refine st_end (by kernel_rfl) ?_
              simp only [List.drop_succ_cons, List.drop_zero, List.drop_nil]
              have HF1 : Hid (BN w6 W0.heap.size (.slice Av lv cv) L') := hBN6.mono (by have h4 := hb4.size; have h5 := hb5.size; try simp only [World.size_alloc, World.size_drew] at h4 h5; omega)
              have hb06 : Bel W0 w6 := by
                refine Bel.trans ?_ hb6
                exact (by repeat (first | (with_reducible exact Bel.refl _) | (with_reducible assumption) | (with_reducible refine Bel.drewN ?_ _) | (with_reducible refine Bel.drew ?_) | (with_reducible refine Bel.alloc ?_ _) | (with_reducible refine Bel.setNew ?_ ?_ _) | (with_reducible refine Bel.trans ?_ (by assumption)) | (focus (simp; done)) | (focus (simp; omega))))
              go_wp2_with fail
              go_meet
              exact ⟨_, _, L', rfl, rfl, AtF.new_at rfl _ _, HF1.out.keep ((Bel.refl _).alloc _), hL6, hb06.alloc _⟩
            · skip
              refine eff_made rfl (by simp [go_sem]; exact ⟨rfl, rfl⟩) (by repeat (first | (with_reducible exact Bel.refl _) | (with_reducible assumption) | (with_reducible refine Bel.drewN ?_ _) | (with_reducible refine Bel.drew ?_) | (with_reducible refine Bel.alloc ?_ _) | (with_reducible refine Bel.setNew ?_ ?_ _) | (with_reducible refine Bel.trans ?_ (by assumption)) | (focus (simp; done)) | (focus (simp; omega)))) ?_
              try simp only [List.nil_append, List.cons_append, Act.put, List.setIfInBounds_toArray, List.set_cons_succ, List.set_cons_zero]
              refine st_branch [10] (by kernel_rfl) (branch_cons (by simp only [List.getElem?_toArray, List.getElem?_cons_succ, List.getElem?_cons_zero]; rfl) ?_ branch_nil)
              refine eff_call 29 rfl (by simp [go_sem]; rfl) (by repeat (first | (with_reducible exact Bel.refl _) | (with_reducible assumption) | (with_reducible refine Bel.drewN ?_ _) | (with_reducible refine Bel.drew ?_) | (with_reducible refine Bel.alloc ?_ _) | (with_reducible refine Bel.setNew ?_ ?_ _) | (with_reducible refine Bel.trans ?_ (by assumption)) | (focus (simp; done)) | (focus (simp; omega)))) ?_
              refine (HAD.out A5 _ (by repeat (first | (with_reducible exact Bel.refl _) | (with_reducible assumption) | (with_reducible refine Bel.drewN ?_ _) | (with_reducible refine Bel.drew ?_) | (with_reducible refine Bel.alloc ?_ _) | (with_reducible refine Bel.setNew ?_ ?_ _) | (with_reducible refine Bel.trans ?_ (by assumption)) | (focus (simp; done)) | (focus (simp; omega)))) (by first | exact hm5 | exact hm5.bel ((Bel.refl _).alloc _))).mono ?_; rintro e w6 ⟨v', L', rfl, hBN6, hL6, hb6⟩
              obtain ⟨Av, cv, hvv⟩ := own_slice hBN6.bo.own
              generalize L'.length = lv at hvv
              subst hvv
              refine ⟨_, rfl, hb6, ?_⟩
              try simp only [List.nil_append, List.cons_append, Act.put, List.setIfInBounds_toArray, List.set_cons_succ, List.set_cons_zero]
              with_reducible refine st_sel [11, 12, 13] (by kernel_rfl) (by kernel_rfl) ?_
              simp only [picked, List.getElem?_cons_succ, List.getElem?_cons_zero, Option.toList_some, List.nil_append, List.cons_append, List.append_nil]
              try simp only [Act.put, List.setIfInBounds_toArray, List.set_cons_succ, List.set_cons_zero]
              repeat (go_big_quiet_step (fail))
              with_reducible refine wpQuiet_nil ?_
              refine st_branch [15] (by kernel_rfl) (branch_cons (by simp only [List.getElem?_toArray, List.getElem?_cons_succ, List.getElem?_cons_zero]; rfl) ?_ branch_nil)
              have hE : AtF w6 (w5.heap.size) [.slice none 0 0] := (AtF.new_at (w := w5) rfl 48 [.slice none 0 0]).bel hb6
              have hle0 : W0.heap.size ≤ w5.heap.size := by (have h4 := hb4.size; have h5 := hb5.size; try simp only [World.size_alloc, World.size_drew] at h4 h5; omega)
              have hlb : W0.heap.size ≤ w5.heap.size + 1 := by (have h4 := hb4.size; have h5 := hb5.size; try simp only [World.size_alloc, World.size_drew] at h4 h5; omega)
              have hltb : w5.heap.size < w5.heap.size + 1 := by omega
              have hb06 : Bel W0 w6 := by
                refine Bel.trans ?_ hb6
                exact (by repeat (first | (with_reducible exact Bel.refl _) | (with_reducible assumption) | (with_reducible refine Bel.drewN ?_ _) | (with_reducible refine Bel.drew ?_) | (with_reducible refine Bel.alloc ?_ _) | (with_reducible refine Bel.setNew ?_ ?_ _) | (with_reducible refine Bel.trans ?_ (by assumption)) | (focus (simp; done)) | (focus (simp; omega))))
              have hbX := hb06.setNew (p := ⟨w5.heap.size, 0, none⟩) hle0 (.slice Av lv cv)
              have HF := Lib.hid (And.intro (hE.set 0 (by simp) (.slice Av lv cv)) (And.intro ((hBN6.far (p := ⟨w5.heap.size, 0, none⟩) (by first | exact hltb | (simp only [World.size_alloc]; exact hltb)) (.slice Av lv cv)).mono (by first | exact hlb | (simp only [World.size_alloc]; exact hlb))) hbX))
              have e0 := hE.1.2 0 _ rfl
              have ef := hE.2 0
              have el := hE.1.1
              refine eff_done rfl (by simp [go_sem, e0, ef]; try rfl) hbX ?_
              try simp only [List.nil_append, List.cons_append, Act.put, List.setIfInBounds_toArray, List.set_cons_succ, List.set_cons_zero]
              clear e0 ef el hE hbX
              refine st_end (by kernel_rfl) ?_
              simp only [List.drop_succ_cons, List.drop_zero, List.drop_nil]
              go_wp2_with fail
              go_meet
              exact ⟨_, _, L', rfl, rfl, HF.out.1, HF.out.2.1, hL6, HF.out.2.2⟩
          · skip
            refine eff_made rfl (by simp [go_sem]; exact ⟨rfl, rfl⟩) (by repeat (first | (with_reducible exact Bel.refl _) | (with_reducible assumption) | (with_reducible refine Bel.drewN ?_ _) | (with_reducible refine Bel.drew ?_) | (with_reducible refine Bel.alloc ?_ _) | (with_reducible refine Bel.setNew ?_ ?_ _) | (with_reducible refine Bel.trans ?_ (by assumption)) | (focus (simp; done)) | (focus (simp; omega)))) ?_
            try simp only [List.nil_append, List.cons_append, Act.put, List.setIfInBounds_toArray, List.set_cons_succ, List.set_cons_zero]
            refine st_branch [9] (by kernel_rfl) (branch_cons (by simp only [List.getElem?_toArray, List.getElem?_cons_succ, List.getElem?_cons_zero]; rfl) ?_ branch_nil)
            refine eff_call 70 rfl (by simp [go_sem]; rfl) (by repeat (first | (with_reducible exact Bel.refl _) | (with_reducible assumption) | (with_reducible refine Bel.drewN ?_ _) | (with_reducible refine Bel.drew ?_) | (with_reducible refine Bel.alloc ?_ _) | (with_reducible refine Bel.setNew ?_ ?_ _) | (with_reducible refine Bel.trans ?_ (by assumption)) | (focus (simp; done)) | (focus (simp; omega)))) ?_
            refine (HMB.out _).mono ?_; rintro e w5 ⟨A5, rfl, hm5, hb5⟩
            refine ⟨_, rfl, hb5, ?_⟩
            try simp only [List.nil_append, List.cons_append, Act.put, List.setIfInBounds_toArray, List.set_cons_succ, List.set_cons_zero]
            refine st_branch [10] (by kernel_rfl) (branch_cons (by simp only [List.getElem?_toArray, List.getElem?_cons_succ, List.getElem?_cons_zero]; rfl) ?_ branch_nil)
            refine eff_call 29 rfl (by simp [go_sem]; rfl) (by repeat (first | (with_reducible exact Bel.refl _) | (with_reducible assumption) | (with_reducible refine Bel.drewN ?_ _) | (with_reducible refine Bel.drew ?_) | (with_reducible refine Bel.alloc ?_ _) | (with_reducible refine Bel.setNew ?_ ?_ _) | (with_reducible refine Bel.trans ?_ (by assumption)) | (focus (simp; done)) | (focus (simp; omega)))) ?_
            refine (HAD.out A5 _ (by repeat (first | (with_reducible exact Bel.refl _) | (with_reducible assumption) | (with_reducible refine Bel.drewN ?_ _) | (with_reducible refine Bel.drew ?_) | (with_reducible refine Bel.alloc ?_ _) | (with_reducible refine Bel.setNew ?_ ?_ _) | (with_reducible refine Bel.trans ?_ (by assumption)) | (focus (simp; done)) | (focus (simp; omega)))) (by first | exact hm5 | exact hm5.bel ((Bel.refl _).alloc _))).mono ?_; rintro e w6 ⟨v', L', rfl, hBN6, hL6, hb6⟩
            obtain ⟨Av, cv, hvv⟩ := own_slice hBN6.bo.own
            generalize L'.length = lv at hvv
            subst hvv
            refine ⟨_, rfl, hb6, ?_⟩
            try simp only [List.nil_append, List.cons_append, Act.put, List.setIfInBounds_toArray, List.set_cons_succ, List.set_cons_zero]
            with_reducible refine st_sel [11, 12, 13] (by kernel_rfl) (by kernel_rfl) ?_
            simp only [picked, List.getElem?_cons_succ, List.getElem?_cons_zero, Option.toList_some, List.nil_append, List.cons_append, List.append_nil]
            try simp only [Act.put, List.setIfInBounds_toArray, List.set_cons_succ, List.set_cons_zero]
            repeat (go_big_quiet_step (fail))
            with_reducible refine wpQuiet_nil ?_
            refine st_branch [15] (by kernel_rfl) (branch_cons (by simp only [List.getElem?_toArray, List.getElem?_cons_succ, List.getElem?_cons_zero]; rfl) ?_ branch_nil)
            have hE : AtF w6 (w4.heap.size) [.slice none 0 0] := ((AtF.new_at (w := w4) rfl 48 [.slice none 0 0]).bel hb5).bel hb6
            have hle0 : W0.heap.size ≤ w4.heap.size := by (have h4 := hb4.size; have h5 := hb5.size; try simp only [World.size_alloc, World.size_drew] at h4 h5; omega)
            have hlb : W0.heap.size ≤ w5.heap.size := by (have h4 := hb4.size; have h5 := hb5.size; try simp only [World.size_alloc, World.size_drew] at h4 h5; omega)
            have hltb : w4.heap.size < w5.heap.size := by (have h4 := hb4.size; have h5 := hb5.size; try simp only [World.size_alloc, World.size_drew] at h4 h5; omega)
            have hb06 : Bel W0 w6 := by
              refine Bel.trans ?_ hb6
              exact (by repeat (first | (with_reducible exact Bel.refl _) | (with_reducible assumption) | (with_reducible refine Bel.drewN ?_ _) | (with_reducible refine Bel.drew ?_) | (with_reducible refine Bel.alloc ?_ _) | (with_reducible refine Bel.setNew ?_ ?_ _) | (with_reducible refine Bel.trans ?_ (by assumption)) | (focus (simp; done)) | (focus (simp; omega))))
            have hbX := hb06.setNew (p := ⟨w4.heap.size, 0, none⟩) hle0 (.slice Av lv cv)
            have HF := Lib.hid (And.intro (hE.set 0 (by simp) (.slice Av lv cv)) (And.intro ((hBN6.far (p := ⟨w4.heap.size, 0, none⟩) (by first | exact hltb | (simp only [World.size_alloc]; exact hltb)) (.slice Av lv cv)).mono (by first | exact hlb | (simp only [World.size_alloc]; exact hlb))) hbX))
            have e0 := hE.1.2 0 _ rfl
            have ef := hE.2 0
            have el := hE.1.1
            refine eff_done rfl (by simp [go_sem, e0, ef]; try rfl) hbX ?_
            try simp only [List.nil_append, List.cons_append, Act.put, List.setIfInBounds_toArray, List.set_cons_succ, List.set_cons_zero]
            clear e0 ef el hE hbX
            refine st_end (by kernel_rfl) ?_
            simp only [List.drop_succ_cons, List.drop_zero, List.drop_nil]
            go_wp2_with fail
            go_meet
            exact ⟨_, _, L', rfl, rfl, HF.out.1, HF.out.2.1, hL6, HF.out.2.2⟩
        · skip
          refine eff_made rfl (by simp [go_sem]; exact ⟨rfl, rfl⟩) (by repeat (first | (with_reducible exact Bel.refl _) | (with_reducible assumption) | (with_reducible refine Bel.drewN ?_ _) | (with_reducible refine Bel.drew ?_) | (with_reducible refine Bel.alloc ?_ _) | (with_reducible refine Bel.setNew ?_ ?_ _) | (with_reducible refine Bel.trans ?_ (by assumption)) | (focus (simp; done)) | (focus (simp; omega)))) ?_
          try simp only [List.nil_append, List.cons_append, Act.put, List.setIfInBounds_toArray, List.set_cons_succ, List.set_cons_zero]
          refine st_branch [8] (by kernel_rfl) (branch_cons (by simp only [List.getElem?_toArray, List.getElem?_cons_succ, List.getElem?_cons_zero]; rfl) ?_ branch_nil)
          refine eff_call 15 rfl (by simp [go_sem]; rfl) (by repeat (first | (with_reducible exact Bel.refl _) | (with_reducible assumption) | (with_reducible refine Bel.drewN ?_ _) | (with_reducible refine Bel.drew ?_) | (with_reducible refine Bel.alloc ?_ _) | (with_reducible refine Bel.setNew ?_ ?_ _) | (with_reducible refine Bel.trans ?_ (by assumption)) | (focus (simp; done)) | (focus (simp; omega)))) ?_
          refine (HD.out _).mono ?_; rintro e w4 ⟨rfl, hb4⟩
          refine ⟨_, rfl, hb4, ?_⟩
          try simp only [List.nil_append, List.cons_append, Act.put, List.setIfInBounds_toArray, List.set_cons_succ, List.set_cons_zero]
          refine st_branch [9] (by kernel_rfl) (branch_cons (by simp only [List.getElem?_toArray, List.getElem?_cons_succ, List.getElem?_cons_zero]; rfl) ?_ branch_nil)
          refine eff_call 70 rfl (by simp [go_sem]; rfl) (by repeat (first | (with_reducible exact Bel.refl _) | (with_reducible assumption) | (with_reducible refine Bel.drewN ?_ _) | (with_reducible refine Bel.drew ?_) | (with_reducible refine Bel.alloc ?_ _) | (with_reducible refine Bel.setNew ?_ ?_ _) | (with_reducible refine Bel.trans ?_ (by assumption)) | (focus (simp; done)) | (focus (simp; omega)))) ?_
          refine (HMB.out _).mono ?_; rintro e w5 ⟨A5, rfl, hm5, hb5⟩
          refine ⟨_, rfl, hb5, ?_⟩
          try simp only [List.nil_append, List.cons_append, Act.put, List.setIfInBounds_toArray, List.set_cons_succ, List.set_cons_zero]
          refine st_branch [10] (by kernel_rfl) (branch_cons (by simp only [List.getElem?_toArray, List.getElem?_cons_succ, List.getElem?_cons_zero]; rfl) ?_ branch_nil)
          refine eff_call 29 rfl (by simp [go_sem]; rfl) (by repeat (first | (with_reducible exact Bel.refl _) | (with_reducible assumption) | (with_reducible refine Bel.drewN ?_ _) | (with_reducible refine Bel.drew ?_) | (with_reducible refine Bel.alloc ?_ _) | (with_reducible refine Bel.setNew ?_ ?_ _) | (with_reducible refine Bel.trans ?_ (by assumption)) | (focus (simp; done)) | (focus (simp; omega)))) ?_
          refine (HAD.out A5 _ (by repeat (first | (with_reducible exact Bel.refl _) | (with_reducible assumption) | (with_reducible refine Bel.drewN ?_ _) | (with_reducible refine Bel.drew ?_) | (with_reducible refine Bel.alloc ?_ _) | (with_reducible refine Bel.setNew ?_ ?_ _) | (with_reducible refine Bel.trans ?_ (by assumption)) | (focus (simp; done)) | (focus (simp; omega)))) (by first | exact hm5 | exact hm5.bel ((Bel.refl _).alloc _))).mono ?_; rintro e w6 ⟨v', L', rfl, hBN6, hL6, hb6⟩
          obtain ⟨Av, cv, hvv⟩ := own_slice hBN6.bo.own
          generalize L'.length = lv at hvv
          subst hvv
          refine ⟨_, rfl, hb6, ?_⟩
          try simp only [List.nil_append, List.cons_append, Act.put, List.setIfInBounds_toArray, List.set_cons_succ, List.set_cons_zero]
          with_reducible refine st_sel [11, 12, 13] (by kernel_rfl) (by kernel_rfl) ?_
          simp only [picked, List.getElem?_cons_succ, List.getElem?_cons_zero, Option.toList_some, List.nil_append, List.cons_append, List.append_nil]
          try simp only [Act.put, List.setIfInBounds_toArray, List.set_cons_succ, List.set_cons_zero]
          repeat (go_big_quiet_step (fail))
          with_reducible refine wpQuiet_nil ?_
          refine st_branch [15] (by kernel_rfl) (branch_cons (by simp only [List.getElem?_toArray, List.getElem?_cons_succ, List.getElem?_cons_zero]; rfl) ?_ branch_nil)
          have hE : AtF w6 (W0.heap.size) [.slice none 0 0] := (((AtF.new_at (w := W0.drew) rfl 48 [.slice none 0 0]).bel hb4).bel hb5).bel hb6
          have hle0 : W0.heap.size ≤ W0.heap.size := by (have h4 := hb4.size; have h5 := hb5.size; try simp only [World.size_alloc, World.size_drew] at h4 h5; omega)
          have hlb : W0.heap.size ≤ w5.heap.size := by (have h4 := hb4.size; have h5 := hb5.size; try simp only [World.size_alloc, World.size_drew] at h4 h5; omega)
          have hltb : W0.heap.size < w5.heap.size := by (have h4 := hb4.size; have h5 := hb5.size; try simp only [World.size_alloc, World.size_drew] at h4 h5; omega)
          have hb06 : Bel W0 w6 := by
            refine Bel.trans ?_ hb6
            exact (by repeat (first | (with_reducible exact Bel.refl _) | (with_reducible assumption) | (with_reducible refine Bel.drewN ?_ _) | (with_reducible refine Bel.drew ?_) | (with_reducible refine Bel.alloc ?_ _) | (with_reducible refine Bel.setNew ?_ ?_ _) | (with_reducible refine Bel.trans ?_ (by assumption)) | (focus (simp; done)) | (focus (simp; omega))))
          have hbX := hb06.setNew (p := ⟨W0.heap.size, 0, none⟩) hle0 (.slice Av lv cv)
          have HF := Lib.hid (And.intro (hE.set 0 (by simp) (.slice Av lv cv)) (And.intro ((hBN6.far (p := ⟨W0.heap.size, 0, none⟩) (by first | exact hltb | (simp only [World.size_alloc]; exact hltb)) (.slice Av lv cv)).mono (by first | exact hlb | (simp only [World.size_alloc]; exact hlb))) hbX))
          have e0 := hE.1.2 0 _ rfl
          have ef := hE.2 0
          have el := hE.1.1
          refine eff_done rfl (by simp [go_sem, e0, ef]; try rfl) hbX ?_
          try simp only [List.nil_append, List.cons_append, Act.put, List.setIfInBounds_toArray, List.set_cons_succ, List.set_cons_zero]
          clear e0 ef el hE hbX
          refine st_end (by kernel_rfl) ?_
          simp only [List.drop_succ_cons, List.drop_zero, List.drop_nil]
          go_wp2_with fail
          go_meet
          exact ⟨_, _, L', rfl, rfl, HF.out.1, HF.out.2.1, hL6, HF.out.2.2⟩
      case rest =>
        obtain ⟨H, v', L', rfl, rfl, hH, hBN2, hL2, hb2⟩ := hcut
        obtain ⟨Av, cv, hvv⟩ := own_slice hBN2.bo.own
        obtain ⟨lv, HLV⟩ : ∃ n, Hid (L'.length = n) := ⟨_, rfl⟩
        rw [HLV.out] at hvv
        subst hvv
        have hA2 := hA.bel hb2
        have hC2 := hC.bel hb2
        have hB2 := hB.bel hb2
        have h0 := hH.1.2 0 _ rfl
        have hW0 : M + 3 ≤ W0.heap.size := by have := hC.1.1; omega
        have hB3 := hB2.set 0 (by simp) (.slice Av lv cv)
        have hA3 := hA2.other (C := M + 1) (by omega) 0 (.slice Av lv cv)
        have hC3 := hC2.other (C := M + 1) (by omega) 0 (.slice Av lv cv)
        have hBN3 := (hBN2.mono hW0).far (p := ⟨M + 1, 0, none⟩) (by show M + 1 < M + 3; omega) (.slice Av lv cv)
        have hb3 : Bel w (wc.setCell ⟨M + 1, 0, none⟩ (.slice Av lv cv)) := (hbr.trans hb2).setNew (by have := HM.out; show w.heap.size ≤ M + 1; omega) (.slice Av lv cv)
        have hbe := hB2.1.2 0 _ rfl
        have hbl := hB2.1.1
        have hbf := hB2.2 0
        have HX := Lib.hid (And.intro hA3 (And.intro hB3 (And.intro hC3 (And.intro hBN3 hb3))))
        have HL2 := Lib.hid hL2
        clear hA hB hC hA2 hB2 hC2 hA3 hB3 hC3 hBN hBN2 hBN3 hb3 hH hL2 hbr
        go_wp2
        obtain ⟨x1, x2, x3, x4, x5⟩ := HX.out
        have HE := Lib.hid (show L'.map BM.bu = PA (i + 1) by rw [HL2.out, HK.out])
        clear HK HL2 HX HD HMB HAD
        go_roundw
        case rel => exact ⟨i + 1, _, L', by go_num, by omega, rfl, HE, x1, x2, x3, x4, x5⟩
        case measure => simp [intOf]; omega
    · obtain rfl : i = 3 := by omega
      have hbe := hB.1.2 0 _ rfl
      have HDR := Lib.hid (drain_any L v W0 (hBN.bo.bl) (by have := HLL.out; omega) HLM.out)
      rw [HL.out, PA_drain] at HDR
      obtain ⟨Av, cv, hvv⟩ := own_slice hBN.bo.own
      generalize L.length = lv at hvv
      subst hvv
      go_wp2_with fail
      refine HDR.out.mono ?_; rintro e w2 ⟨v2, L2, rfl, hBN2, hL2, hb2⟩
      have hbl2 := hBN2.bo.bl
      have hlen : L2.length = 2 := by have := congrArg List.length hL2; simpa using this
      obtain ⟨y0, y1, hL2e⟩ : ∃ a b, L2 = [a, b] := by
        match L2, hlen with
        | [a, b], _ => exact ⟨a, b, rfl⟩
      subst hL2e
      simp only [List.map_cons, List.map_nil, List.cons.injEq, and_true] at hL2
      obtain ⟨e0, e1⟩ := hL2
      obtain ⟨g, of, c2, hat0⟩ := hbl2.at (k := 0) (x := y0) rfl
      obtain ⟨g', of', c2', hat1⟩ := hbl2.at (k := 1) (x := y1) rfl
      have f0 := hat0.form
      have f1 := hat1.form
      rw [f0] at f1
      injection f1 with f1 _ _
      injection f1 with f1
      injection f1 with f1 f2
      subst f1; subst f2
      have s0 := hat0.row.cell 3 rfl
      have n0 := hat0.row.cell 4 rfl
      have s1 := hat1.row.cell 3 rfl
      have gl := hat0.lt
      rw [PA_J] at e0
      have q0 : y0.b.sec = 3 := congrArg Bu.sec e0
      have q1 : y0.b.cnt = 2 := congrArg Bu.cnt e0
      have q2 : y1.b.sec = 9 := congrArg Bu.sec e1
      rw [q0] at s0
      rw [q1] at n0
      rw [q2] at s1
      subst f0
      simp only [List.length_cons, List.length_nil, Nat.reduceAdd, Nat.zero_mul, Nat.one_mul, Nat.add_zero, Nat.add_assoc] at s0 n0 s1 ⊢
      clear hA hB hC hBN hBN2 hbl2 hlen e0 e1 hat0 hat1 q0 q1 q2 hbe HDR HLM HLL HL HSM
      go_wp2
      go_ret
      exact ⟨rfl, (by repeat (first | (with_reducible exact Bel.refl _) | (with_reducible assumption) | (with_reducible refine Bel.drewN ?_ _) | (with_reducible refine Bel.drew ?_) | (with_reducible refine Bel.alloc ?_ _) | (with_reducible refine Bel.setNew ?_ ?_ _) | (with_reducible refine Bel.trans ?_ (by assumption)) | (focus (simp; done)) | (focus (simp; omega))))⟩
end Go.Proofs.Ytbijfmpmgmfpgaa
