/- plug.Order. -/
import Derived.Test.YtbijfmpmgmfpgaaPlF
import Derived.Test.YtbijfmpmgmfpgaaTmE
import Derived.Deep.OwnRows
namespace Go.Proofs.Ytbijfmpmgmfpgaa
open Go.RowKit Go.Maps
set_option linter.unusedSimpArgs false

theorem Try.infoBoolP : (Try.prog.info? 4).map (fun i => (i.zero, i.size, i.bytes)) = some (some (.bool false), 1, 1) := by kernel_rfl
/-- The order as numbers. -/
def oI (o : List Nat) : List Int := o.map (fun i : Nat => (i : Int))
theorem AtF.rdBools {w : World} {R : Nat} {T : List Bool} {n : Nat} (h : AtF w R (bcells T)) (hn : T.length = n) (hm : n ≤ maxLen) : Rd w (.slice (some ⟨R, 0, none⟩) n n) 1 T.length (bcells T) :=
  ⟨by simp [bcells], some ⟨R, 0, none⟩, n, by rw [hn], by omega, hm, fun _ => ⟨R, 0, rfl, h.1.1, fun j u hu => by rw [Nat.zero_add]; exact h.1.2 j u hu⟩⟩

set_option maxRecDepth 100000 in
set_option maxHeartbeats 16000000 in
theorem order_any (L : List BM) (v : Value) (w : World) (h : BL w v L) (hn : L.length ≤ 100) :
    Calls Try.prog 35 #[v] w fun e w' => ∃ v', e = .returned v' ∧ w'.ownsRow w.heap.size 3 1 v' L.length (icells (oI (ordP (L.map BM.bu)))) ∧ Bel w w' := by
  obtain ⟨A, c, rfl, _, _⟩ := h.form
  obtain ⟨P, HP⟩ : ∃ P, Hid (P = L.map BM.bu) := ⟨_, rfl⟩
  obtain ⟨n, Hn⟩ : ∃ n, Hid (n = L.length) := ⟨_, rfl⟩
  have HAT := Lib.hid (fun k m (hk : L[k]? = some m) => h.at hk)
  have HBL := Lib.hid h
  rw [← HP.out]
  rw [← Hn.out] at hn HAT ⊢
  have HNP : Hid (P.length = n) := by show _ = _; rw [HP.out, List.length_map]; exact Hn.out.symm
  have hE : ∀ args w, (callFunc 68 args).run Try.prog w = .ok (.enter 68 args) w := enters_of Try.func68 (by kernel_rfl) rfl
  obtain ⟨i0, hi0, hz0, hz1, hz2⟩ := info_parts Try.infoInt
  obtain ⟨N, HN⟩ : ∃ N, Hid (N = w.heap.size) := ⟨_, rfl⟩
  have hmk : ∀ w, (Instr.makeSlice 64 (.int .i64 (n : Int)) (.int .i64 (n : Int))).run Try.prog w = .ok (.slice (some ⟨w.heap.size, 0, none⟩) n n) (w.alloc (.cells (bcells (List.replicate n false)).toArray 4)) := by
    intro w
    have h1 := run_make_row' (P := Try.prog) 64 4 (.bool false) 1 Try.underlying64 Try.infoBoolP rfl .i64 .i64 n (by omega) (by omega) w
    have h2 : madeCells #[.bool false] n = (bcells (List.replicate n false)).toArray := by
      apply Array.toList_inj.1
      rw [toList_madeCells_one]; simp [bcells]
    rw [h2] at h1
    exact h1
  have hA := ((AtF.new_at (w := w) rfl 46 [.slice A n c]).alloc (.cells (bcells (List.replicate n false)).toArray 4)).alloc (.cells [.slice (some ⟨w.heap.size + 1, 0, none⟩) n n].toArray 64)
  have hR := (AtF.new_at (w := w.alloc (.cells [.slice A n c].toArray 46)) (g := w.heap.size + 1) (by simp) 4 (bcells (List.replicate n false))).alloc (.cells [.slice (some ⟨w.heap.size + 1, 0, none⟩) n n].toArray 64)
  have hC := AtF.new_at (w := (w.alloc (.cells [.slice A n c].toArray 46)).alloc (.cells (bcells (List.replicate n false)).toArray 4)) (g := w.heap.size + 2) (by simp) 64 [.slice (some ⟨w.heap.size + 1, 0, none⟩) n n]
  have hbw : Bel w (((w.alloc (.cells [.slice A n c].toArray 46)).alloc (.cells (bcells (List.replicate n false)).toArray 4)).alloc (.cells [.slice (some ⟨w.heap.size + 1, 0, none⟩) n n].toArray 64)) := (by repeat (first | (with_reducible exact Bel.refl _) | (with_reducible assumption) | (with_reducible refine Bel.drewN ?_ _) | (with_reducible refine Bel.drew ?_) | (with_reducible refine Bel.alloc ?_ _) | (with_reducible refine Bel.setNew ?_ ?_ _) | (with_reducible refine Bel.trans ?_ (by assumption)) | (focus (simp; done)) | (focus (simp; omega))))
  have hsz : (((w.alloc (.cells [.slice A n c].toArray 46)).alloc (.cells (bcells (List.replicate n false)).toArray 4)).alloc (.cells [.slice (some ⟨w.heap.size + 1, 0, none⟩) n n].toArray 64)).heap.size = w.heap.size + 3 := by simp
  simp only [List.toArray] at hA hR hC hbw hsz
  clear h
  go_enter Try.func35, Try.ntmps35
  go_wp2
  clear hmk
  generalize hM : w.heap.size = M at *
  obtain ⟨w0, HW0⟩ : ∃ W, Hid (W = (((w.alloc (.cells #[.slice A n c] 46)).alloc (.cells (bcells (List.replicate n false)).toArray 4)).alloc (.cells #[.slice (some ⟨M + 1, 0, none⟩) n n] 64))) := ⟨_, rfl⟩
  have HM := Lib.hid hM
  clear hM
  go_loopw [14, 5] (fun iv ov wr => ∃ (r : Nat) (T : List Bool) (o : List Nat), iv = .int .i64 r ∧ r ≤ n ∧ Hid (ordR P r = (T, o)) ∧ AtF wr M [.slice A n c] ∧ AtF wr (M + 1) (bcells T) ∧ AtF wr (M + 2) [.slice (some ⟨M + 1, 0, none⟩) n n] ∧ wr.ownsRow (M + 3) 3 1 ov r (icells (oI o)) ∧ Bel w wr) (fun iv _ _ => n - (intOf iv).toNat)
  case atStart => exact ⟨0, _, [], rfl, by omega, by show ordR P 0 = _; rw [ordR, HNP.out], hA, hR, hC, ⟨rfl, Or.inl ⟨rfl, rfl⟩⟩, hbw⟩
  case round =>
    clear hA hR hC hbw hsz
    obtain ⟨r, T, o, rfl, p1, HO, hA, hR, hC, hown, hbr⟩ := hrel
    obtain ⟨W1, rfl⟩ : ∃ X, X = wr := ⟨_, rfl⟩
    by_cases hrn : r < n
    · have hri : (r : Int) < (n : Int) := by omega
      have HOK := Lib.hid (ordR_ok P r (by rw [HNP.out]; omega))
      rw [HO.out] at HOK
      have HTL : Hid (T.length = n) := by show _ = _; rw [HOK.out.len, HNP.out]
      have HW : Hid (∀ W (i : Nat), Bel W1 W → i < n → Calls Try.prog 68 #[.int .i64 (i : Int), .pointer (some ⟨M + 2, 0, none⟩), .pointer (some ⟨M, 0, none⟩)] W fun e w' => e = .returned (.bool (waitsP P T i)) ∧ Bel W w') := fun W i hb hi => by
        have hA' := hA.bel hb
        have hC' := hC.bel hb
        have hTl : T.length = L.length := by rw [HTL.out, Hn.out]
        rw [Hn.out] at hi hA' hC'
        have := waits_any L T _ i (M + 2) M (M + 1) W (HBL.out.bel (hbr.trans hb)) hi (by have := Hn.out; omega) hTl ((hR.bel hb).rdBools hTl (by have := Hn.out; unfold maxLen; omega)) hC' hA'
        rw [← HP.out] at this
        exact this
      obtain ⟨y0, hy0⟩ : ∃ y, L[0]? = some y := ⟨L[0]'(by have := Hn.out; omega), List.getElem?_eq_getElem _⟩
      obtain ⟨g, of, c2, hat0⟩ := HAT.out 0 y0 hy0
      have hf := hat0.form
      injection hf with hf1 hf2 hf3
      subst hf1
      have gl : g < w.heap.size := hat0.lt
      have HSC : Hid (∀ k x, L[k]? = some x → w.cell? ⟨g, of + k * 9 + 3, none⟩ = some (.int .i64 x.b.sec) ∧ secI P k = x.b.sec) := fun k x hx => by
        obtain ⟨g', o', c4, hat⟩ := HAT.out k x hx
        have hf := hat.form
        injection hf with hf1 hf7 hf8
        injection hf1 with hf4
        injection hf4 with hf5 hf6
        subst hf5; subst hf6
        refine ⟨hat.row.cell 3 rfl, ?_⟩
        unfold secI
        rw [HP.out, List.getElem?_map, hx]
        rfl
      have a0 := hA.1.2 0 _ rfl
      have al := hA.1.1
      clear hy0 hat0 hf2 hf3
      go_wp2
      clear a0 al
      go_loopw [18, 6] (fun iv bv wi => ∃ (i : Nat) (ob : Option Nat), iv = .int .i64 i ∧ i ≤ n ∧ bv = .int .i64 (bestI ob) ∧ Hid (pickO P T i = ob) ∧ Bel W1 wi) (fun iv _ _ => n - (intOf iv).toNat)
      case atStart => exact ⟨0, none, rfl, by omega, rfl, rfl, Bel.refl _⟩
      case round =>
        obtain ⟨i, ob, rfl, q1, rfl, HB, hbi⟩ := hrel
        by_cases hlt : i < n
        · have hin : (i : Int) < (n : Int) := by omega
          obtain ⟨x, hx⟩ : ∃ y, L[i]? = some y := ⟨L[i]'(by have := Hn.out; omega), List.getElem?_eq_getElem _⟩
          obtain ⟨hs1, hs2⟩ := HSC.out i x hx
          obtain ⟨tb, htb⟩ : ∃ b, T[i]? = some b := ⟨T[i]'(by have := HTL.out; omega), List.getElem?_eq_getElem _⟩
          have HTB := Lib.hid htb
          have hAi := hA.bel hbi
          have hRi := hR.bel hbi
          have hCi := hC.bel hbi
          have c0 := hCi.1.2 0 _ rfl
          have t0 := hRi.1.2 i _ (bcells_at htb)
          have rc := fun d os => cell_regrown c0 d os
          have rt := fun d os => cell_regrown t0 d os
          clear hx htb c0 t0
          cases tb
          · have a0 := hAi.1.2 0 _ rfl
            have ra := fun d os => cell_regrown a0 d os
            have s0 : wr.cell? ⟨g, of + i * 9 + 3, none⟩ = some (.int .i64 x.b.sec) := by rw [(hbr.trans hbi).cellAt g _ gl]; exact hs1
            have rs := fun d os => cell_regrown s0 d os
            have HOFF : Hid (offB T i = true) := offB_iff.2 HTB.out
            clear a0 s0 hs1 hAi hRi hCi
            obtain ⟨wt, HWT⟩ : ∃ b, Hid (waitsP P T i = b) := ⟨_, rfl⟩
            have HFR : Hid (freeP P T i = !wt) := by show _ = _; unfold freeP; rw [HOFF.out, HWT.out]; rfl
            cases ob with
            | none =>
              simp only [bestI]
              cases wt
              · have HS : Hid (pickO P T (i + 1) = some i) := by show _ = _; rw [pickO, HB.out]; simp only [HFR.out]; rfl
                go_wp2_with fail
                refine wp_region_lex [25] 28 (by kernel_rfl) (by kernel_rfl) ?_
                simp only [List.take_succ_cons, List.take_zero, List.drop_succ_cons, List.drop_zero]
                with_reducible refine lex_seg 25 _ _ _ _ (by kernel_rfl) ?_
                simp only [List.take_succ_cons, List.take_zero, List.drop_succ_cons, List.drop_zero]
                try simp only [Act.put, List.setIfInBounds_toArray, List.set_cons_succ, List.set_cons_zero]
                repeat (go_big_quiet_step (fail))
                with_reducible refine wpQuiet_nil ?_
                refine lex_call 68 rfl rfl (by simp [go_sem]; rfl) ?_
                refine (HW.out _ i (by repeat (first | (with_reducible exact Bel.refl _) | (with_reducible assumption) | (with_reducible refine Bel.drewN ?_ _) | (with_reducible refine Bel.drew ?_) | (with_reducible refine Bel.alloc ?_ _) | (with_reducible refine Bel.setNew ?_ ?_ _) | (with_reducible refine Bel.trans ?_ (by assumption)) | (focus (simp; done)) | (focus (simp; omega)))) hlt).mono ?_; rw [HWT.out]; rintro e w3 ⟨rfl, hb3⟩
                refine ⟨_, rfl, hb3, ?_⟩
                with_reducible refine lex_seg 2 _ _ _ _ (by kernel_rfl) ?_
                simp only [List.take_succ_cons, List.take_zero, List.drop_succ_cons, List.drop_zero]
                try simp only [Act.put, List.setIfInBounds_toArray, List.set_cons_succ, List.set_cons_zero]
                repeat (go_big_quiet_step (fail))
                with_reducible refine wpQuiet_nil ?_
                with_reducible refine lex_nil ?_
                clear rc rt ra rs
                go_wp2
                go_roundw
                case rel => exact ⟨i + 1, some i, by go_num, by omega, rfl, HS, (by repeat (first | (with_reducible exact Bel.refl _) | (with_reducible assumption) | (with_reducible refine Bel.drewN ?_ _) | (with_reducible refine Bel.drew ?_) | (with_reducible refine Bel.alloc ?_ _) | (with_reducible refine Bel.setNew ?_ ?_ _) | (with_reducible refine Bel.trans ?_ (by assumption)) | (focus (simp; done)) | (focus (simp; omega))))⟩
                case measure => simp [intOf]; omega
              · have HS : Hid (pickO P T (i + 1) = none) := by show _ = _; rw [pickO, HB.out]; simp only [HFR.out]; rfl
                go_wp2_with fail
                refine wp_region_lex [25] 28 (by kernel_rfl) (by kernel_rfl) ?_
                simp only [List.take_succ_cons, List.take_zero, List.drop_succ_cons, List.drop_zero]
                with_reducible refine lex_seg 25 _ _ _ _ (by kernel_rfl) ?_
                simp only [List.take_succ_cons, List.take_zero, List.drop_succ_cons, List.drop_zero]
                try simp only [Act.put, List.setIfInBounds_toArray, List.set_cons_succ, List.set_cons_zero]
                repeat (go_big_quiet_step (fail))
                with_reducible refine wpQuiet_nil ?_
                refine lex_call 68 rfl rfl (by simp [go_sem]; rfl) ?_
                refine (HW.out _ i (by repeat (first | (with_reducible exact Bel.refl _) | (with_reducible assumption) | (with_reducible refine Bel.drewN ?_ _) | (with_reducible refine Bel.drew ?_) | (with_reducible refine Bel.alloc ?_ _) | (with_reducible refine Bel.setNew ?_ ?_ _) | (with_reducible refine Bel.trans ?_ (by assumption)) | (focus (simp; done)) | (focus (simp; omega)))) hlt).mono ?_; rw [HWT.out]; rintro e w3 ⟨rfl, hb3⟩
                refine ⟨_, rfl, hb3, ?_⟩
                with_reducible refine lex_seg 2 _ _ _ _ (by kernel_rfl) ?_
                simp only [List.take_succ_cons, List.take_zero, List.drop_succ_cons, List.drop_zero]
                try simp only [Act.put, List.setIfInBounds_toArray, List.set_cons_succ, List.set_cons_zero]
                repeat (go_big_quiet_step (fail))
                with_reducible refine wpQuiet_nil ?_
                with_reducible refine lex_nil ?_
                clear rc rt ra rs
                go_wp2
                go_roundw
                case rel => exact ⟨i + 1, none, by go_num, by omega, rfl, HS, (by repeat (first | (with_reducible exact Bel.refl _) | (with_reducible assumption) | (with_reducible refine Bel.drewN ?_ _) | (with_reducible refine Bel.drew ?_) | (with_reducible refine Bel.alloc ?_ _) | (with_reducible refine Bel.setNew ?_ ?_ _) | (with_reducible refine Bel.trans ?_ (by assumption)) | (focus (simp; done)) | (focus (simp; omega))))⟩
                case measure => simp [intOf]; omega
            | some b =>
              have hbn : b < n := (pickO_some HB.out).1 |> fun h => by omega
              have hbi2 : (b : Int) < (n : Int) := by omega
              have hb0 : decide ((b : Int) < 0) = false := by simp
              obtain ⟨z, hz⟩ : ∃ y, L[b]? = some y := ⟨L[b]'(by have := Hn.out; omega), List.getElem?_eq_getElem _⟩
              obtain ⟨hz1, hz2⟩ := HSC.out b z hz
              have z0 : wr.cell? ⟨g, of + b * 9 + 3, none⟩ = some (.int .i64 z.b.sec) := by rw [(hbr.trans hbi).cellAt g _ gl]; exact hz1
              have rz := fun d os => cell_regrown z0 d os
              have HSE := Lib.hid (And.intro hs2 hz2)
              clear z0 hz1 hz hs2 hz2
              simp only [bestI]
              by_cases hlt2 : x.b.sec < z.b.sec
              · have hld : decide (x.b.sec < z.b.sec) = true := decide_eq_true hlt2
                cases wt
                · have HS : Hid (pickO P T (i + 1) = some i) := by
                    show _ = _; rw [pickO, HB.out]; simp only [HFR.out]; rw [HSE.out.1, HSE.out.2, decide_eq_true hlt2]; rfl
                  go_wp2_with fail
                  refine wp_region_lex [25] 28 (by kernel_rfl) (by kernel_rfl) ?_
                  simp only [List.take_succ_cons, List.take_zero, List.drop_succ_cons, List.drop_zero]
                  with_reducible refine lex_seg 25 _ _ _ _ (by kernel_rfl) ?_
                  simp only [List.take_succ_cons, List.take_zero, List.drop_succ_cons, List.drop_zero]
                  try simp only [Act.put, List.setIfInBounds_toArray, List.set_cons_succ, List.set_cons_zero]
                  repeat (go_big_quiet_step (fail))
                  with_reducible refine wpQuiet_nil ?_
                  refine lex_call 68 rfl rfl (by simp [go_sem]; rfl) ?_
                  refine (HW.out _ i (by repeat (first | (with_reducible exact Bel.refl _) | (with_reducible assumption) | (with_reducible refine Bel.drewN ?_ _) | (with_reducible refine Bel.drew ?_) | (with_reducible refine Bel.alloc ?_ _) | (with_reducible refine Bel.setNew ?_ ?_ _) | (with_reducible refine Bel.trans ?_ (by assumption)) | (focus (simp; done)) | (focus (simp; omega)))) hlt).mono ?_; rw [HWT.out]; rintro e w3 ⟨rfl, hb3⟩
                  refine ⟨_, rfl, hb3, ?_⟩
                  with_reducible refine lex_seg 2 _ _ _ _ (by kernel_rfl) ?_
                  simp only [List.take_succ_cons, List.take_zero, List.drop_succ_cons, List.drop_zero]
                  try simp only [Act.put, List.setIfInBounds_toArray, List.set_cons_succ, List.set_cons_zero]
                  repeat (go_big_quiet_step (fail))
                  with_reducible refine wpQuiet_nil ?_
                  with_reducible refine lex_nil ?_
                  clear rc rt ra rs rz
                  go_wp2
                  go_roundw
                  case rel => exact ⟨i + 1, some i, by go_num, by omega, rfl, HS, (by repeat (first | (with_reducible exact Bel.refl _) | (with_reducible assumption) | (with_reducible refine Bel.drewN ?_ _) | (with_reducible refine Bel.drew ?_) | (with_reducible refine Bel.alloc ?_ _) | (with_reducible refine Bel.setNew ?_ ?_ _) | (with_reducible refine Bel.trans ?_ (by assumption)) | (focus (simp; done)) | (focus (simp; omega))))⟩
                  case measure => simp [intOf]; omega
                · have HS : Hid (pickO P T (i + 1) = some b) := by
                    show _ = _; rw [pickO, HB.out]; simp only [HFR.out]; rfl
                  go_wp2_with fail
                  refine wp_region_lex [25] 28 (by kernel_rfl) (by kernel_rfl) ?_
                  simp only [List.take_succ_cons, List.take_zero, List.drop_succ_cons, List.drop_zero]
                  with_reducible refine lex_seg 25 _ _ _ _ (by kernel_rfl) ?_
                  simp only [List.take_succ_cons, List.take_zero, List.drop_succ_cons, List.drop_zero]
                  try simp only [Act.put, List.setIfInBounds_toArray, List.set_cons_succ, List.set_cons_zero]
                  repeat (go_big_quiet_step (fail))
                  with_reducible refine wpQuiet_nil ?_
                  refine lex_call 68 rfl rfl (by simp [go_sem]; rfl) ?_
                  refine (HW.out _ i (by repeat (first | (with_reducible exact Bel.refl _) | (with_reducible assumption) | (with_reducible refine Bel.drewN ?_ _) | (with_reducible refine Bel.drew ?_) | (with_reducible refine Bel.alloc ?_ _) | (with_reducible refine Bel.setNew ?_ ?_ _) | (with_reducible refine Bel.trans ?_ (by assumption)) | (focus (simp; done)) | (focus (simp; omega)))) hlt).mono ?_; rw [HWT.out]; rintro e w3 ⟨rfl, hb3⟩
                  refine ⟨_, rfl, hb3, ?_⟩
                  with_reducible refine lex_seg 2 _ _ _ _ (by kernel_rfl) ?_
                  simp only [List.take_succ_cons, List.take_zero, List.drop_succ_cons, List.drop_zero]
                  try simp only [Act.put, List.setIfInBounds_toArray, List.set_cons_succ, List.set_cons_zero]
                  repeat (go_big_quiet_step (fail))
                  with_reducible refine wpQuiet_nil ?_
                  with_reducible refine lex_nil ?_
                  clear rc rt ra rs rz
                  go_wp2
                  go_roundw
                  case rel => exact ⟨i + 1, some b, by go_num, by omega, rfl, HS, (by repeat (first | (with_reducible exact Bel.refl _) | (with_reducible assumption) | (with_reducible refine Bel.drewN ?_ _) | (with_reducible refine Bel.drew ?_) | (with_reducible refine Bel.alloc ?_ _) | (with_reducible refine Bel.setNew ?_ ?_ _) | (with_reducible refine Bel.trans ?_ (by assumption)) | (focus (simp; done)) | (focus (simp; omega))))⟩
                  case measure => simp [intOf]; omega
              · have hld : decide (x.b.sec < z.b.sec) = false := decide_eq_false hlt2
                have HS : Hid (pickO P T (i + 1) = some b) := by
                  show _ = _; rw [pickO, HB.out]; simp only; rw [HSE.out.1, HSE.out.2, decide_eq_false hlt2, Bool.and_false]; rfl
                go_wp2_with fail
                refine wp_region_lex [25] 28 (by kernel_rfl) (by kernel_rfl) ?_
                simp only [List.take_succ_cons, List.take_zero, List.drop_succ_cons, List.drop_zero]
                with_reducible refine lex_seg 25 _ _ _ _ (by kernel_rfl) ?_
                simp only [List.take_succ_cons, List.take_zero, List.drop_succ_cons, List.drop_zero]
                try simp only [Act.put, List.setIfInBounds_toArray, List.set_cons_succ, List.set_cons_zero]
                repeat (go_big_quiet_step (fail))
                with_reducible refine wpQuiet_nil ?_
                with_reducible refine lex_skip (by kernel_rfl) ?_
                try simp only [Act.put, List.setIfInBounds_toArray, List.set_cons_succ, List.set_cons_zero]
                with_reducible refine lex_seg 2 _ _ _ _ (by kernel_rfl) ?_
                simp only [List.take_succ_cons, List.take_zero, List.drop_succ_cons, List.drop_zero]
                try simp only [Act.put, List.setIfInBounds_toArray, List.set_cons_succ, List.set_cons_zero]
                repeat (go_big_quiet_step (fail))
                with_reducible refine wpQuiet_nil ?_
                with_reducible refine lex_nil ?_
                clear rc rt ra rs rz
                go_wp2
                go_roundw
                case rel => exact ⟨i + 1, some b, by go_num, by omega, rfl, HS, (by repeat (first | (with_reducible exact Bel.refl _) | (with_reducible assumption) | (with_reducible refine Bel.drewN ?_ _) | (with_reducible refine Bel.drew ?_) | (with_reducible refine Bel.alloc ?_ _) | (with_reducible refine Bel.setNew ?_ ?_ _) | (with_reducible refine Bel.trans ?_ (by assumption)) | (focus (simp; done)) | (focus (simp; omega))))⟩
                case measure => simp [intOf]; omega
          · have HS : Hid (pickO P T (i + 1) = ob) := by
              show _ = _
              have : freeP P T i = false := by unfold freeP offB; rw [HTB.out]; rfl
              rw [pickO, HB.out]
              cases ob with
              | none => simp only [this]; rfl
              | some b => simp only [this]; rfl
            go_wp2_with fail
            refine wp_region_lex [25] 28 (by kernel_rfl) (by kernel_rfl) ?_
            simp only [List.take_succ_cons, List.take_zero, List.drop_succ_cons, List.drop_zero]
            with_reducible refine lex_seg 25 _ _ _ _ (by kernel_rfl) ?_
            simp only [List.take_succ_cons, List.take_zero, List.drop_succ_cons, List.drop_zero]
            try simp only [Act.put, List.setIfInBounds_toArray, List.set_cons_succ, List.set_cons_zero]
            repeat (go_big_quiet_step (fail))
            with_reducible refine wpQuiet_nil ?_
            with_reducible refine lex_skip (by kernel_rfl) ?_
            try simp only [Act.put, List.setIfInBounds_toArray, List.set_cons_succ, List.set_cons_zero]
            with_reducible refine lex_seg 2 _ _ _ _ (by kernel_rfl) ?_
            simp only [List.take_succ_cons, List.take_zero, List.drop_succ_cons, List.drop_zero]
            try simp only [Act.put, List.setIfInBounds_toArray, List.set_cons_succ, List.set_cons_zero]
            repeat (go_big_quiet_step (fail))
            with_reducible refine wpQuiet_nil ?_
            with_reducible refine lex_nil ?_
            clear rc rt
            go_wp2
            go_roundw
            case rel => exact ⟨i + 1, ob, by go_num, by omega, rfl, HS, (by repeat (first | (with_reducible exact Bel.refl _) | (with_reducible assumption) | (with_reducible refine Bel.drewN ?_ _) | (with_reducible refine Bel.drew ?_) | (with_reducible refine Bel.alloc ?_ _) | (with_reducible refine Bel.setNew ?_ ?_ _) | (with_reducible refine Bel.trans ?_ (by assumption)) | (focus (simp; done)) | (focus (simp; omega))))⟩
            case measure => simp [intOf]; omega
        · obtain rfl : i = n := by omega
          have jk : decide ((i : Int) < (i : Int)) = false := by simp
          obtain ⟨b, e1, e2, e3, e4⟩ := ordR_succ (P := P) (r := r) (by rw [HNP.out]; exact hrn)
          rw [HO.out] at e1 e3 e4
          simp only at e1 e3 e4
          rw [HNP.out, HB.out] at e1
          subst e1
          have HN1 := Lib.hid e4
          have hbi2 : b < i := by rw [HNP.out] at e2; exact e2
          have hb2 : (b : Int) < (i : Int) := by omega
          have hAi := hA.bel hbi
          have hRi := hR.bel hbi
          have hCi := hC.bel hbi
          have howni := own_keep hown hbi
          have hbri := hbr.trans hbi
          have c0 := hCi.1.2 0 _ rfl
          have t0 := hRi.1.2 b _ (bcells_at e3)
          have tf := hRi.2 b
          have tl := hRi.1.1
          have hR2 := hRi.set b (by simp [bcells]; rw [HTL.out]; exact hbi2) (.bool true)
          rw [bcells_setP] at hR2
          have hA2 := hAi.other (C := M + 1) (by omega) b (.bool true)
          have hC2 := hCi.other (C := M + 1) (by omega) b (.bool true)
          have hown2 := own_other howni (p := ⟨M + 1, b, none⟩) (by show M + 1 < _; omega) (.bool true)
          have hbr2 := hbri.setNew (p := ⟨M + 1, b, none⟩) (by have := HM.out; show w.heap.size ≤ M + 1; omega) (.bool true)
          clear hA hR hC hown hbr hAi hRi hCi howni hbri e2 e3 e4 hbi
          simp only [bestI]
          obtain ⟨Ao, co, rfl⟩ := own_slice hown2
          have hsz3 : wr.heap.size = wr.heap.size := rfl
          go_wp2_with (at_builtin; go_must (refine wpList_append_own_at _ rfl _ _ 45 rfl (M + 3) 3 i0 _ 1 8 Try.underlying45 hi0 hz0 hz1 hz2 rfl (by omega) (.slice Ao r co) _ _ rfl (hown2.alloc _) ⟨wr.heap.size, 0, none⟩ 1 1 [.int .i64 (b : Int)] rfl rfl (World.news_of_block (cs := #[.int .i64 (b : Int)]) (t := 3) (fr := (0, 0)) (heap_new_at (by simp))) (fun u hu => by simp at hu; subst hu; rfl) (by unfold maxLen; omega) (by omega) (by simp; omega) ?_); intro v' w3 hown' hg' _ hloc; obtain ⟨gn, cn, hvn, _, _⟩ := hown'.form (by omega); subst hvn)
          have hne0 := own_ne hown2 (k := M) (.inl (by omega))
          have hne1 := own_ne hown2 (k := M + 1) (.inl (by omega))
          have hne2 := own_ne hown2 (k := M + 2) (.inl (by omega))
          have hA3 := (hA2.alloc _).grown hg' (Ne.symm hne0)
          have hR3 := (hR2.alloc _).grown hg' (Ne.symm hne1)
          have hC3 := (hC2.alloc _).grown hg' (Ne.symm hne2)
          have hbr3 := bel_own (hbr2.alloc _) (hown2.alloc _) hg' (by have := HM.out; omega)
          have hoo : icells (oI (o ++ [b])) = icells (oI o) ++ [.int .i64 (b : Int)] := by simp [icells, oI]
          rw [← hoo] at hown'
          go_roundw
          case rel => exact ⟨r + 1, T.set b true, o ++ [b], by go_num, by omega, HN1, hA3, hR3, hC3, hown', hbr3⟩
          case measure => simp [intOf]; omega
    · obtain rfl : r = n := by omega
      have jk : decide ((r : Int) < (r : Int)) = false := by simp
      have HF : Hid (o = ordP P) := by show _ = _; unfold ordP; rw [HNP.out, HO.out]
      have HOW := Lib.hid (own_mono hown (show w.heap.size ≤ M + 3 by have := HM.out; omega))
      rw [HF.out] at HOW
      obtain ⟨Ao, co, rfl⟩ := own_slice hown
      clear hA hR hC hown
      go_wp2
      go_ret
      exact ⟨_, rfl, HOW.out, hbr⟩
end Go.Proofs.Ytbijfmpmgmfpgaa
