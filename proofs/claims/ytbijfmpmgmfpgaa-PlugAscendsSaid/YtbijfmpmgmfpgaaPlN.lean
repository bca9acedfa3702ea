/- The walk of PlugAscends. -/
import Derived.Test.YtbijfmpmgmfpgaaPlK
import Derived.Test.YtbijfmpmgmfpgaaPlain
import Derived.Test.YtbijfmpmgmfpgaaPlJ
namespace Go.Proofs.Ytbijfmpmgmfpgaa
open Go.RowKit Go.Maps
set_option linter.unusedSimpArgs false

set_option maxRecDepth 100000 in
set_option maxHeartbeats 16000000 in
theorem plugAscends_walk (v : Value) (zs : List Int) (w : World) (hz : Ints w v zs) :
    Calls Try.prog 9 #[v] w fun e w' => e = .returned (.bool true) ∧ Bel w w' := by
  have HP := Lib.hid (plain_any v zs 3 w hz (by omega) (by omega))
  clear hz
  go_enter Try.func9, Try.ntmps9
  go_wp2_with fail
  refine HP.out.mono ?_; rintro e w1 ⟨u, L, rfl, hL, hBL, hb1⟩
  clear HP
  have HL := Lib.hid hL
  obtain ⟨P, HPP⟩ : ∃ P, Hid (P = L.map BM.bu) := ⟨_, rfl⟩
  obtain ⟨A, c, rfl, _, _⟩ := hBL.form
  have hn24 : L.length ≤ 24 := by rw [hL.1]; omega
  obtain ⟨n, Hn⟩ : ∃ n, Hid (n = L.length) := ⟨_, rfl⟩
  have HO := Lib.hid (order_any L _ w1 hBL (by omega))
  have HAT := Lib.hid (fun k m (hk : L[k]? = some m) => hBL.at hk)
  rw [← HPP.out] at HO
  rw [← Hn.out] at HO HAT hn24 ⊢
  have HNP : Hid (P.length = n) := by show _ = _; rw [HPP.out, List.length_map]; exact Hn.out.symm
  have HASC : Hid (∀ j a b, (ordP P)[j]? = some a → (ordP P)[j + 1]? = some b → secI P a ≤ secI P b) := fun j a b h1 h2 => ordP_asc (reads_free (by rw [HPP.out]; exact plok_reads HL.out)) h1 h2
  have HLO : Hid ((ordP P).length = n) := by show _ = _; rw [ordP_len, HNP.out]
  have hmk : ∀ w, (Instr.makeSlice 64 (.int .i64 (n : Int)) (.int .i64 (n : Int))).run Try.prog w = .ok (.slice (some ⟨w.heap.size, 0, none⟩) n n) (w.alloc (.cells (bcells (List.replicate n false)).toArray 4)) := by
    intro w
    have h1 := run_make_row' (P := Try.prog) 64 4 (.bool false) 1 Try.underlying64 Try.infoBoolP rfl .i64 .i64 n (by omega) (by omega) w
    have h2 : madeCells #[.bool false] n = (bcells (List.replicate n false)).toArray := by
      apply Array.toList_inj.1
      rw [toList_madeCells_one]; simp [bcells]
    rw [h2] at h1
    exact h1
  clear hL hBL
  go_wp2_with fail
  refine HO.out.mono ?_; rintro e w2 ⟨v', rfl, hown, hb2⟩
  clear HO
  obtain ⟨Ao, co, rfl⟩ := own_slice hown
  have hne : ((n : Int) != (n : Int)) = false := by simp
  have hR := AtF.new_at (w := w2) rfl 4 (bcells (List.replicate n false))
  have hbw : Bel w2 (w2.alloc (.cells (bcells (List.replicate n false)).toArray 4)) := (by repeat (first | (with_reducible exact Bel.refl _) | (with_reducible assumption) | (with_reducible refine Bel.drewN ?_ _) | (with_reducible refine Bel.drew ?_) | (with_reducible refine Bel.alloc ?_ _) | (with_reducible refine Bel.setNew ?_ ?_ _) | (with_reducible refine Bel.trans ?_ (by assumption)) | (focus (simp; done)) | (focus (simp; omega))))
  have HI := Lib.hid hown
  obtain ⟨R, HR⟩ : ∃ R, Hid (R = w2.heap.size) := ⟨_, rfl⟩
  rw [← HR.out] at hR
  clear hown
  go_wp2
  clear hmk
  rw [← HR.out]
  go_loopw [6] (fun iv wr => ∃ (i : Nat), iv = .int .i64 i ∧ i ≤ n ∧ AtF wr R (bcells (ordR P i).1) ∧ Bel w2 wr) (fun iv _ => n - (intOf iv).toNat)
  case atStart => exact ⟨0, rfl, by omega, by rw [ordR, HNP.out]; exact hR, hbw⟩
  case round =>
    clear hR hbw
    obtain ⟨i, rfl, p1, hR, hbr⟩ := hrel
    by_cases hlt : i < n
    · have hin : (i : Int) < (n : Int) := by omega
      obtain ⟨b, HB1, HB2, HB3, HB4⟩ : ∃ b, Hid ((ordP P)[i]? = some b) ∧ b < n ∧ Hid ((ordR P i).1[b]? = some false) ∧ Hid ((ordR P (i + 1)).1 = (ordR P i).1.set b true) := by
        obtain ⟨b, g1, g2, g3, g4⟩ := ord_at (P := P) (i := i) (by rw [HNP.out]; exact hlt)
        exact ⟨b, g1, by rw [← HNP.out]; exact g2, g3, g4⟩
      have hbi : (b : Int) < (n : Int) := by omega
      have hb0 : decide ((b : Int) < 0) = false := by simp
      have hbn : decide (n ≤ b) = false := by simp; omega
      obtain ⟨gi, ci', hfi, _, _⟩ := HI.out.form (by omega)
      injection hfi with hf1 hf2 hf3
      subst hf1
      clear hf2 hf3
      have hcell : ∀ (k q : Nat), (ordP P)[k]? = some q → wr.cell? ⟨gi, k, none⟩ = some (.int .i64 (q : Int)) := fun k q hq => by
        have hk : k < n := by rw [← HLO.out]; exact (List.getElem?_eq_some_iff.1 hq).1
        have h0 := (own_keep HI.out hbr).cellAt (g := gi) k (by omega)
        rw [h0]
        simp [icells, oI, hq]
      have HC := Lib.hid hcell
      have e0 := hcell i b HB1.out
      have re := fun d os => cell_regrown e0 d os
      obtain ⟨y0, hy0⟩ : ∃ y, L[0]? = some y := ⟨L[0]'(by have := Hn.out; omega), List.getElem?_eq_getElem _⟩
      obtain ⟨g, of, c2, hat0⟩ := HAT.out 0 y0 hy0
      have hf := hat0.form
      injection hf with hf1 hf4 hf5
      subst hf1
      have gl : g < w1.heap.size := hat0.lt
      have HSC : Hid (∀ k x, L[k]? = some x → wr.cell? ⟨g, of + k * 9 + 3, none⟩ = some (.int .i64 x.b.sec) ∧ secI P k = x.b.sec) := fun k x hx => by
        obtain ⟨g', o', c4, hat⟩ := HAT.out k x hx
        have hf := hat.form
        injection hf with hf1 hf7 hf8
        injection hf1 with hf4
        injection hf4 with hf5 hf6
        subst hf5; subst hf6
        refine ⟨?_, ?_⟩
        · rw [(hb2.trans hbr).cellAt g _ gl]; exact hat.row.cell 3 rfl
        · unfold secI
          rw [HPP.out, List.getElem?_map, hx]
          rfl
      have t0 := hR.1.2 b _ (bcells_at HB3.out)
      have rt := fun d os => cell_regrown t0 d os
      clear hcell hy0 hat0 hf4 hf5 e0 t0
      by_cases hi0 : i = 0
      · subst hi0
        go_wp2_with fail
        refine wp_region_lex [] 47 (by kernel_rfl) (by kernel_rfl) ?_
        simp only [List.take_succ_cons, List.take_zero, List.drop_succ_cons, List.drop_zero]
        with_reducible refine lex_seg 47 _ _ _ _ (by kernel_rfl) ?_
        simp only [List.take_succ_cons, List.take_zero, List.drop_succ_cons, List.drop_zero]
        try simp only [Act.put, List.setIfInBounds_toArray, List.set_cons_succ, List.set_cons_zero]
        repeat (go_big_quiet_step (fail))
        with_reducible refine wpQuiet_nil ?_
        with_reducible refine lex_nil ?_
        clear rt re hb0 hbn
        have hR2 := hR.drew
        have e0 := HC.out (0) b HB1.out
        have c0 := hR2.1.2 b _ (bcells_at HB3.out)
        have c1 := hR2.2 b
        have c2 := hR2.1.1
        have hbl : b < (bcells (ordR P (0)).1).length := by unfold bcells; rw [List.length_map]; exact (List.getElem?_eq_some_iff.1 HB3.out).1
        have hS := hR2.set b hbl (.bool true)
        rw [bcells_setP, ← HB4.out] at hS
        have HS := Lib.hid hS
        have hbS : Bel w2 (wr.drew.setCell ⟨R, b, none⟩ (.bool true)) := hbr.drew.setNew (by have := HR.out; show w2.heap.size ≤ R; omega) _
        have HBS := Lib.hid hbS
        clear hS hbS hR hR2
        go_wp2
        clear e0 c0 c1 c2 hbl
        have HSS := HS.out
        have HBB := HBS.out
        go_roundw
        case rel => exact ⟨0 + 1, by go_num, by omega, HSS, HBB⟩
        case measure => simp [intOf]; omega
      · obtain ⟨j, rfl⟩ : ∃ j, i = j + 1 := ⟨i - 1, by omega⟩
        obtain ⟨a, ha⟩ : ∃ a, (ordP P)[j]? = some a := ⟨(ordP P)[j]'(by have := HLO.out; omega), List.getElem?_eq_getElem _⟩
        have hle := HASC.out j a b ha HB1.out
        have hab : a < n := by
          obtain ⟨a', g1, g2, _⟩ := ord_at (P := P) (i := j) (by rw [HNP.out]; omega)
          rw [ha] at g1
          injection g1 with g1
          subst g1
          rw [← HNP.out]; exact g2
        have hai : (a : Int) < (n : Int) := by omega
        have f0 := HC.out j a ha
        have rf := fun d os => cell_regrown f0 d os
        obtain ⟨xa, hxa⟩ : ∃ y, L[a]? = some y := ⟨L[a]'(by have := Hn.out; omega), List.getElem?_eq_getElem _⟩
        obtain ⟨xb, hxb⟩ : ∃ y, L[b]? = some y := ⟨L[b]'(by have := Hn.out; omega), List.getElem?_eq_getElem _⟩
        obtain ⟨sa, sa2⟩ := HSC.out a xa hxa
        obtain ⟨sb, sb2⟩ := HSC.out b xb hxb
        rw [sa2, sb2] at hle
        have hsl : decide (xb.b.sec < xa.b.sec) = false := by simp; omega
        have rsa := fun d os => cell_regrown sa d os
        have rsb := fun d os => cell_regrown sb d os
        have hgt : decide ((0 : Int) < (j : Int) + 1) = true := by simp
        have hsub : IntKind.i64.wrap ((j : Int) + 1 - 1) = (j : Int) := by rw [IntWalk.i64_in _ (by omega)]; omega
        clear ha f0 hxa hxb sa sb sa2 sb2 hle
        go_wp2_with fail
        refine wp_region_lex [] 47 (by kernel_rfl) (by kernel_rfl) ?_
        simp only [List.take_succ_cons, List.take_zero, List.drop_succ_cons, List.drop_zero]
        with_reducible refine lex_seg 47 _ _ _ _ (by kernel_rfl) ?_
        simp only [List.take_succ_cons, List.take_zero, List.drop_succ_cons, List.drop_zero]
        try simp only [Act.put, List.setIfInBounds_toArray, List.set_cons_succ, List.set_cons_zero]
        repeat (go_big_quiet_step (fail))
        with_reducible refine wpQuiet_nil ?_
        with_reducible refine lex_nil ?_
        clear rt re hb0 hbn
        clear rsa rsb rf hsl hgt hsub
        have hR2 := hR.drew
        have e0 := HC.out (j + 1) b HB1.out
        have c0 := hR2.1.2 b _ (bcells_at HB3.out)
        have c1 := hR2.2 b
        have c2 := hR2.1.1
        have hbl : b < (bcells (ordR P (j + 1)).1).length := by unfold bcells; rw [List.length_map]; exact (List.getElem?_eq_some_iff.1 HB3.out).1
        have hS := hR2.set b hbl (.bool true)
        rw [bcells_setP, ← HB4.out] at hS
        have HS := Lib.hid hS
        have hbS : Bel w2 (wr.drew.setCell ⟨R, b, none⟩ (.bool true)) := hbr.drew.setNew (by have := HR.out; show w2.heap.size ≤ R; omega) _
        have HBS := Lib.hid hbS
        clear hS hbS hR hR2
        go_wp2
        clear e0 c0 c1 c2 hbl
        have HSS := HS.out
        have HBB := HBS.out
        go_roundw
        case rel => exact ⟨j + 1 + 1, by go_num, by omega, HSS, HBB⟩
        case measure => simp [intOf]; omega
    · obtain rfl : i = n := by omega
      have hbd : ¬ (i : Int) < (i : Int) := by omega
      go_wp2_with fail
      refine (awake26_any _).mono ?_; rintro e w9 ⟨rfl, hb9⟩
      go_wp2
      go_ret
      exact ⟨rfl, (by repeat (first | (with_reducible exact Bel.refl _) | (with_reducible assumption) | (with_reducible refine Bel.drewN ?_ _) | (with_reducible refine Bel.drew ?_) | (with_reducible refine Bel.alloc ?_ _) | (with_reducible refine Bel.setNew ?_ ?_ _) | (with_reducible refine Bel.trans ?_ (by assumption)) | (focus (simp; done)) | (focus (simp; omega))))⟩
end Go.Proofs.Ytbijfmpmgmfpgaa
