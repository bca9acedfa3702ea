/- ref27.watches, Start; the law's made. -/
import Derived.Test.YtbijfmpmgmfpgaaTmE
import Derived.Deep.DeepCutAuto
namespace Go.Proofs.Ytbijfmpmgmfpgaa
open Go.RowKit
set_option linter.unusedSimpArgs false

set_option maxRecDepth 100000 in
set_option maxHeartbeats 4000000 in
theorem watches_any (L s : Int) (v : Value) (ms : List Wt) (w : World) (h : Rd w v 2 ms.length (wcells ms)) (hn : ms.length ≤ 1000) :
    Calls Try.prog 77 #[.agg #[.int .i64 L, v, .int .i64 s]] w fun e w' => ∃ v', e = .returned (.agg #[.int .i64 L, v', .int .i64 s]) ∧ w'.ownsRow w.heap.size 96 2 v' ms.length (wcells ms) ∧ Bel w w' := by
  obtain ⟨i0, hi, hz0, hz1, hz2⟩ := info_parts Try.infoWt
  obtain ⟨hl, A, c, rfl, hc1, hc2, hr⟩ := h
  have HR := Lib.hid hr
  have HONE := Lib.hid (wcells_one ms)
  clear hr
  obtain ⟨n, Hn⟩ : ∃ n, Hid (n = ms.length) := ⟨_, rfl⟩
  rw [← Hn.out] at hl hc1 hn HR ⊢
  obtain ⟨cs, Hcs⟩ : ∃ cs, Hid (cs = wcells ms) := ⟨_, rfl⟩
  rw [← Hcs.out] at hl HR HONE ⊢
  cases A with
  | none =>
    obtain rfl : n = 0 := by
      rcases Nat.eq_zero_or_pos n with h0 | h0
      · exact h0
      · obtain ⟨b, o, hA, _⟩ := HR.out h0; cases hA
    obtain rfl : cs = [] := by simpa using hl
    go_enter Try.func77, Try.ntmps77
    go_wp2
    exact bodyPost_ret (v := .agg #[.int .i64 L, .slice none 0 0, .int .i64 s]) (by simp [results, Try.results77, go_sem]) rfl ⟨_, rfl, ⟨by simp, Or.inl ⟨rfl, rfl⟩⟩, (by repeat (first | (with_reducible exact Bel.refl _) | (with_reducible assumption) | (with_reducible refine Bel.drewN ?_ _) | (with_reducible refine Bel.drew ?_) | (with_reducible refine Bel.alloc ?_ _) | (with_reducible refine Bel.setNew ?_ ?_ _) | (with_reducible refine Bel.trans ?_ (by assumption)) | (focus (simp; done)) | (focus (simp; omega))))⟩
  | some p =>
    have hX := (AtF.new_at (w := w) rfl 68 [.int .i64 L, .slice (some p) n c, .int .i64 s]).alloc (.cells [.int .i64 0, .slice none 0 0, .int .i64 0].toArray 68)
    have hY := AtF.new_at (w := w.alloc (.cells [.int .i64 L, .slice (some p) n c, .int .i64 s].toArray 68)) (g := w.heap.size + 1) (by simp) 68 [.int .i64 0, .slice none 0 0, .int .i64 0]
    simp only [List.toArray] at hX hY
    have hq : ∀ j u, cs[j]? = some u → ((w.alloc (.cells #[.int .i64 L, .slice (some p) n c, .int .i64 s] 68)).alloc (.cells #[.int .i64 0, .slice none 0 0, .int .i64 0] 68)).cell? (p.add j) = some u := by
      intro j u hj
      have hjn := (List.getElem?_eq_some_iff.1 hj).1
      obtain ⟨b, o, hA, hlb, hcell⟩ := HR.out (by omega)
      cases hA
      rw [Addr.add_lit]
      exact Lib.cell?_alloc_some _ (Lib.cell?_alloc_some _ (hcell j u hj))
    have hbw : Bel w ((w.alloc (.cells #[.int .i64 L, .slice (some p) n c, .int .i64 s] 68)).alloc (.cells #[.int .i64 0, .slice none 0 0, .int .i64 0] 68)) := (by repeat (first | (with_reducible exact Bel.refl _) | (with_reducible assumption) | (with_reducible refine Bel.drewN ?_ _) | (with_reducible refine Bel.drew ?_) | (with_reducible refine Bel.alloc ?_ _) | (with_reducible refine Bel.setNew ?_ ?_ _) | (with_reducible refine Bel.trans ?_ (by assumption)) | (focus (simp; done)) | (focus (simp; omega))))
    go_enter Try.func77, Try.ntmps77
    go_wp2_with (at_builtin; go_must (refine wpList_append_own_at _ rfl _ _ 66 rfl (w.heap.size + 1 + 1) 96 i0 _ 2 16 Try.underlying66 hi hz0 hz1 hz2 rfl (by omega) (.slice none 0 0) 0 [] rfl ⟨rfl, Or.inl ⟨rfl, rfl⟩⟩ p n c cs rfl hl hq HONE.out (by unfold maxLen; omega) (by omega) (by simp) ?_); intro v' w7 hown' hg' _ hloc; obtain ⟨gn, cn, hvn⟩ := own_slice hown'; subst hvn; have hA7 := hX.grown hg' (by simp [Value.ownBlock]); have hR7 := hY.grown hg' (by simp [Value.ownBlock]); simp only [Nat.zero_add, List.nil_append] at hown'; have a0 := hA7.1.2 0 _ rfl; have a1 := hA7.1.2 1 _ rfl; have a2 := hA7.1.2 2 _ rfl; have af := hA7.2; have al := hA7.1.1; have r0 := hR7.1.2 0 _ rfl; have r1 := hR7.1.2 1 _ rfl; have r2 := hR7.1.2 2 _ rfl; have rf := hR7.2; have rl := hR7.1.1)
    have hb7 := bel_own hbw (base := w.heap.size + 1 + 1) (e := 96) (size := 2) (v := .slice none 0 0) (n := 0) (xs := []) ⟨rfl, Or.inl ⟨rfl, rfl⟩⟩ hg' (by omega)
    have hR8 := hR7.other (C := w.heap.size) (by omega) 1 (.slice gn n cn)
    have hO8 := own_far hown' (p := ⟨w.heap.size, 1, none⟩) (own_ne hown' (.inl (by simp; omega))) (.slice gn n cn)
    have hb8 := hb7.setNew (p := ⟨w.heap.size, 1, none⟩) (by simp) (.slice gn n cn)
    have hR2 := hR8.setRow [.int .i64 L, .slice gn n cn, .int .i64 s] rfl
    have hO2 := setRow_own (B := w.heap.size + 1) (i := 0) [.int .i64 L, .slice gn n cn, .int .i64 s] hO8 (own_ne hO8 (.inl (by omega)))
    have HO2 := Lib.hid (own_mono hO2 (show w.heap.size ≤ w.heap.size + 1 + 1 by omega))
    clear hO2
    clear r0 r1 r2
    have r0 := hR2.1.2 0 _ rfl
    have r1 := hR2.1.2 1 _ rfl
    have r2 := hR2.1.2 2 _ rfl
    exact bodyPost_ret (v := .agg #[.int .i64 L, .slice gn n cn, .int .i64 s]) (by simp only [setRow] at r0 r1 r2; simp [results, Try.results77, go_sem, r0, r1, r2]) rfl ⟨_, rfl, HO2.out, Bel.setRow (B := w.heap.size + 1) (i := 0) [.int .i64 L, .slice gn n cn, .int .i64 s] hb8 (by omega)⟩

set_option maxRecDepth 100000 in
set_option maxHeartbeats 4000000 in
theorem refStart_any (L s id now : Int) (v : Value) (ms : List Wt) (w : World) (h : Rd w v 2 ms.length (wcells ms)) (hn : ms.length ≤ 1000) :
    Calls Try.prog 44 #[.agg #[.int .i64 L, v, .int .i64 s], .int .i64 id, .int .i64 now] w fun e w' => ∃ v', e = .returned (.tuple #[.agg #[.int .i64 L, v', .int .i64 s], .bool (stB L ms id now)]) ∧ w'.ownsRow w.heap.size 96 2 v' (stW L ms id now).length (wcells (stW L ms id now)) ∧ Bel w w' := by
  obtain ⟨i0, hi, hz0, hz1, hz2⟩ := info_parts Try.infoWt
  have HB : Hid (stB L ms id now = (limB L && sncB now && !(ms.any fun x => x.id == id))) := Lib.hid rfl
  have HW : Hid (stW L ms id now = if stB L ms id now then ms ++ [⟨id, now⟩] else ms) := Lib.hid rfl
  have HC := Lib.hid (fun w' (hb : Bel w w') => watches_any L s v ms w' (h.bel hb) hn)
  obtain ⟨A, c, rfl, hc1, hc2⟩ := h.form
  obtain ⟨n, Hn⟩ : ∃ n, Hid (n = ms.length) := ⟨_, rfl⟩
  rw [← Hn.out] at HC hn ⊢
  clear h hc1 hc2
  generalize stW L ms id now = sw at *
  obtain ⟨sb, Hsb⟩ : ∃ b, Hid (b = stB L ms id now) := ⟨_, rfl⟩
  rw [← Hsb.out] at HB HW ⊢
  obtain ⟨hl, Hhl⟩ : ∃ b, Hid (b = limB L) := ⟨_, rfl⟩
  obtain ⟨hs, Hhs⟩ : ∃ b, Hid (b = sncB now) := ⟨_, rfl⟩
  rw [← Hhl.out, ← Hhs.out] at HB
  cases hl
  · have HF : Hid (sb = false ∧ sw = ms) := by
      have e : sb = false := by rw [HB.out]; rfl
      exact Lib.hid ⟨e, by rw [HW.out, e]; rfl⟩
    go_enter Try.func44, Try.ntmps44
    go_wp2_with fail
    refine (HC.out _ (by repeat (first | (with_reducible exact Bel.refl _) | (with_reducible assumption) | (with_reducible refine Bel.drewN ?_ _) | (with_reducible refine Bel.drew ?_) | (with_reducible refine Bel.alloc ?_ _) | (with_reducible refine Bel.setNew ?_ ?_ _) | (with_reducible refine Bel.trans ?_ (by assumption)) | (focus (simp; done)) | (focus (simp; omega))))).mono ?_; rintro e w1 ⟨v', rfl, hown, hb1⟩
    obtain ⟨A', c', rfl⟩ := own_slice hown
    have hA : AtF w1 w.heap.size [.int .i64 L, .slice A n c, .int .i64 s] := AtF.bel ((AtF.new_at rfl _ _).alloc _) hb1
    have hR : AtF w1 (w.heap.size + 1) [.int .i64 0, .slice none 0 0, .int .i64 0] := AtF.bel (AtF.new_at (by simp) _ _) hb1
    have hbw : Bel w w1 := (by repeat (first | (with_reducible exact Bel.refl _) | (with_reducible assumption) | (with_reducible refine Bel.drewN ?_ _) | (with_reducible refine Bel.drew ?_) | (with_reducible refine Bel.alloc ?_ _) | (with_reducible refine Bel.setNew ?_ ?_ _) | (with_reducible refine Bel.trans ?_ (by assumption)) | (focus (simp; done)) | (focus (simp; omega))))
    clear hb1
    have a0 := hA.1.2 0 _ rfl
    have a1 := hA.1.2 1 _ rfl
    have a2 := hA.1.2 2 _ rfl
    have af := hA.2
    have al := hA.1.1
    have hA3 := hA.setRow [.int .i64 L, .slice A' n c', .int .i64 s] rfl
    have hR3 := hR.setRow_other (B := w.heap.size) (i := 0) [.int .i64 L, .slice A' n c', .int .i64 s] (by omega)
    have hO3 := setRow_own (B := w.heap.size) (i := 0) [.int .i64 L, .slice A' n c', .int .i64 s] hown (own_ne hown (.inl (by simp; try omega)))
    have hb3 := Bel.setRow (B := w.heap.size) (i := 0) [.int .i64 L, .slice A' n c', .int .i64 s] hbw (Nat.le_refl _)
    have HX3 := Lib.hid (And.intro hA3 (And.intro hR3 (And.intro hO3 hb3)))
    clear hA3 hR3 hO3 hb3 hA hR hown hbw
    go_upto_region 2 with fail
    have HX4 := HX3.out
    simp only [setRow] at HX4
    generalize World.setCell _ _ _ = w3 at HX4 ⊢
    obtain ⟨hA3, hR3, hO3, hb3⟩ := HX4
    simp only [World.size_alloc] at hO3
    clear HX3 a0 a1 a2 af al
    have a0 := hA3.1.2 0 _ rfl
    have a1 := hA3.1.2 1 _ rfl
    have a2 := hA3.1.2 2 _ rfl
    go_wp2_with fail
    refine (refLimit_any L s _ _).mono ?_; rw [← Hhl.out]; rintro e w4 ⟨rfl, hb4'⟩
    have hA4 := hA3.bel hb4'
    have hR4 := hR3.bel hb4'
    have hO4 := own_keep hO3 hb4'
    have hb4 := hb3.trans hb4'
    clear a0 a1 a2 hA3 hR3 hO3 hb3 hb4'
    try clear a0 a1 a2 af al r0 r1 r2 rf rl
    have a0 := hA4.1.2 0 _ rfl
    have a1 := hA4.1.2 1 _ rfl
    have a2 := hA4.1.2 2 _ rfl
    have af := hA4.2
    have al := hA4.1.1
    have r0 := hR4.1.2 0 _ rfl
    have r1 := hR4.1.2 1 _ rfl
    have r2 := hR4.1.2 2 _ rfl
    have rf := hR4.2
    have rl := hR4.1.1
    go_wp2
    have hR2 := hR4.setRow [.int .i64 L, .slice A' n c', .int .i64 s] rfl
    have hO2 := setRow_own (B := w.heap.size + 1) (i := 0) [.int .i64 L, .slice A' n c', .int .i64 s] hO4 (own_ne hO4 (.inl (by omega)))
    have HO2 := Lib.hid (own_mono hO2 (show w.heap.size ≤ w.heap.size + 1 + 1 by omega))
    clear hO2
    clear r0 r1 r2
    have r0 := hR2.1.2 0 _ rfl
    have r1 := hR2.1.2 1 _ rfl
    have r2 := hR2.1.2 2 _ rfl
    exact bodyPost_ret (v := .tuple #[.agg #[.int .i64 L, .slice A' n c', .int .i64 s], .bool false]) (by simp only [setRow] at r0 r1 r2; simp [results, Try.results44, go_sem, r0, r1, r2]) rfl ⟨_, by rw [HF.out.1], by rw [HF.out.2, ← Hn.out]; exact HO2.out, Bel.setRow (B := w.heap.size + 1) (i := 0) [.int .i64 L, .slice A' n c', .int .i64 s] hb4 (by omega)⟩
  · cases hs
    · have HF : Hid (sb = false ∧ sw = ms) := by
        have e : sb = false := by rw [HB.out]; rfl
        exact Lib.hid ⟨e, by rw [HW.out, e]; rfl⟩
      go_enter Try.func44, Try.ntmps44
      go_wp2_with fail
      refine (HC.out _ (by repeat (first | (with_reducible exact Bel.refl _) | (with_reducible assumption) | (with_reducible refine Bel.drewN ?_ _) | (with_reducible refine Bel.drew ?_) | (with_reducible refine Bel.alloc ?_ _) | (with_reducible refine Bel.setNew ?_ ?_ _) | (with_reducible refine Bel.trans ?_ (by assumption)) | (focus (simp; done)) | (focus (simp; omega))))).mono ?_; rintro e w1 ⟨v', rfl, hown, hb1⟩
      obtain ⟨A', c', rfl⟩ := own_slice hown
      have hA : AtF w1 w.heap.size [.int .i64 L, .slice A n c, .int .i64 s] := AtF.bel ((AtF.new_at rfl _ _).alloc _) hb1
      have hR : AtF w1 (w.heap.size + 1) [.int .i64 0, .slice none 0 0, .int .i64 0] := AtF.bel (AtF.new_at (by simp) _ _) hb1
      have hbw : Bel w w1 := (by repeat (first | (with_reducible exact Bel.refl _) | (with_reducible assumption) | (with_reducible refine Bel.drewN ?_ _) | (with_reducible refine Bel.drew ?_) | (with_reducible refine Bel.alloc ?_ _) | (with_reducible refine Bel.setNew ?_ ?_ _) | (with_reducible refine Bel.trans ?_ (by assumption)) | (focus (simp; done)) | (focus (simp; omega))))
      clear hb1
      have a0 := hA.1.2 0 _ rfl
      have a1 := hA.1.2 1 _ rfl
      have a2 := hA.1.2 2 _ rfl
      have af := hA.2
      have al := hA.1.1
      have hA3 := hA.setRow [.int .i64 L, .slice A' n c', .int .i64 s] rfl
      have hR3 := hR.setRow_other (B := w.heap.size) (i := 0) [.int .i64 L, .slice A' n c', .int .i64 s] (by omega)
      have hO3 := setRow_own (B := w.heap.size) (i := 0) [.int .i64 L, .slice A' n c', .int .i64 s] hown (own_ne hown (.inl (by simp; try omega)))
      have hb3 := Bel.setRow (B := w.heap.size) (i := 0) [.int .i64 L, .slice A' n c', .int .i64 s] hbw (Nat.le_refl _)
      have HX3 := Lib.hid (And.intro hA3 (And.intro hR3 (And.intro hO3 hb3)))
      clear hA3 hR3 hO3 hb3 hA hR hown hbw
      go_upto_region 2 with fail
      have HX4 := HX3.out
      simp only [setRow] at HX4
      generalize World.setCell _ _ _ = w3 at HX4 ⊢
      obtain ⟨hA3, hR3, hO3, hb3⟩ := HX4
      simp only [World.size_alloc] at hO3
      clear HX3 a0 a1 a2 af al
      have a0 := hA3.1.2 0 _ rfl
      have a1 := hA3.1.2 1 _ rfl
      have a2 := hA3.1.2 2 _ rfl
      go_wp2_with fail
      refine (refLimit_any L s _ _).mono ?_; rw [← Hhl.out]; rintro e w4 ⟨rfl, hb4'⟩
      have hA4 := hA3.bel hb4'
      have hR4 := hR3.bel hb4'
      have hO4 := own_keep hO3 hb4'
      have hb4 := hb3.trans hb4'
      clear a0 a1 a2 hA3 hR3 hO3 hb3 hb4'
      try clear a0 a1 a2 af al r0 r1 r2 rf rl
      have a0 := hA4.1.2 0 _ rfl
      have a1 := hA4.1.2 1 _ rfl
      have a2 := hA4.1.2 2 _ rfl
      have af := hA4.2
      have al := hA4.1.1
      have r0 := hR4.1.2 0 _ rfl
      have r1 := hR4.1.2 1 _ rfl
      have r2 := hR4.1.2 2 _ rfl
      have rf := hR4.2
      have rl := hR4.1.1
      go_wp2_with fail
      refine (early_any now _).mono ?_; rw [← Hhs.out]; rintro e w5 ⟨rfl, rfl⟩
      go_wp2
      have hR2 := hR4.setRow [.int .i64 L, .slice A' n c', .int .i64 s] rfl
      have hO2 := setRow_own (B := w.heap.size + 1) (i := 0) [.int .i64 L, .slice A' n c', .int .i64 s] hO4 (own_ne hO4 (.inl (by omega)))
      have HO2 := Lib.hid (own_mono hO2 (show w.heap.size ≤ w.heap.size + 1 + 1 by omega))
      clear hO2
      clear r0 r1 r2
      have r0 := hR2.1.2 0 _ rfl
      have r1 := hR2.1.2 1 _ rfl
      have r2 := hR2.1.2 2 _ rfl
      exact bodyPost_ret (v := .tuple #[.agg #[.int .i64 L, .slice A' n c', .int .i64 s], .bool false]) (by simp only [setRow] at r0 r1 r2; simp [results, Try.results44, go_sem, r0, r1, r2]) rfl ⟨_, by rw [HF.out.1], by rw [HF.out.2, ← Hn.out]; exact HO2.out, Bel.setRow (B := w.heap.size + 1) (i := 0) [.int .i64 L, .slice A' n c', .int .i64 s] hb4 (by omega)⟩
    · skip
      go_enter Try.func44, Try.ntmps44
      go_wp2_with fail
      refine (HC.out _ (by repeat (first | (with_reducible exact Bel.refl _) | (with_reducible assumption) | (with_reducible refine Bel.drewN ?_ _) | (with_reducible refine Bel.drew ?_) | (with_reducible refine Bel.alloc ?_ _) | (with_reducible refine Bel.setNew ?_ ?_ _) | (with_reducible refine Bel.trans ?_ (by assumption)) | (focus (simp; done)) | (focus (simp; omega))))).mono ?_; rintro e w1 ⟨v', rfl, hown, hb1⟩
      obtain ⟨A', c', rfl⟩ := own_slice hown
      have hA : AtF w1 w.heap.size [.int .i64 L, .slice A n c, .int .i64 s] := AtF.bel ((AtF.new_at rfl _ _).alloc _) hb1
      have hR : AtF w1 (w.heap.size + 1) [.int .i64 0, .slice none 0 0, .int .i64 0] := AtF.bel (AtF.new_at (by simp) _ _) hb1
      have hbw : Bel w w1 := (by repeat (first | (with_reducible exact Bel.refl _) | (with_reducible assumption) | (with_reducible refine Bel.drewN ?_ _) | (with_reducible refine Bel.drew ?_) | (with_reducible refine Bel.alloc ?_ _) | (with_reducible refine Bel.setNew ?_ ?_ _) | (with_reducible refine Bel.trans ?_ (by assumption)) | (focus (simp; done)) | (focus (simp; omega))))
      clear hb1
      have a0 := hA.1.2 0 _ rfl
      have a1 := hA.1.2 1 _ rfl
      have a2 := hA.1.2 2 _ rfl
      have af := hA.2
      have al := hA.1.1
      have hA3 := hA.setRow [.int .i64 L, .slice A' n c', .int .i64 s] rfl
      have hR3 := hR.setRow_other (B := w.heap.size) (i := 0) [.int .i64 L, .slice A' n c', .int .i64 s] (by omega)
      have hO3 := setRow_own (B := w.heap.size) (i := 0) [.int .i64 L, .slice A' n c', .int .i64 s] hown (own_ne hown (.inl (by simp; try omega)))
      have hb3 := Bel.setRow (B := w.heap.size) (i := 0) [.int .i64 L, .slice A' n c', .int .i64 s] hbw (Nat.le_refl _)
      have HX3 := Lib.hid (And.intro hA3 (And.intro hR3 (And.intro hO3 hb3)))
      clear hA3 hR3 hO3 hb3 hA hR hown hbw
      go_upto_region 2 with fail
      have HX4 := HX3.out
      simp only [setRow] at HX4
      generalize World.setCell _ _ _ = w3 at HX4 ⊢
      obtain ⟨hA3, hR3, hO3, hb3⟩ := HX4
      simp only [World.size_alloc] at hO3
      clear HX3 a0 a1 a2 af al
      have a0 := hA3.1.2 0 _ rfl
      have a1 := hA3.1.2 1 _ rfl
      have a2 := hA3.1.2 2 _ rfl
      go_wp2_with fail
      refine (refLimit_any L s _ _).mono ?_; rw [← Hhl.out]; rintro e w4 ⟨rfl, hb4'⟩
      have hA4 := hA3.bel hb4'
      have hR4 := hR3.bel hb4'
      have hO4 := own_keep hO3 hb4'
      have hb4 := hb3.trans hb4'
      clear a0 a1 a2 hA3 hR3 hO3 hb3 hb4'
      try clear a0 a1 a2 af al r0 r1 r2 rf rl
      have a0 := hA4.1.2 0 _ rfl
      have a1 := hA4.1.2 1 _ rfl
      have a2 := hA4.1.2 2 _ rfl
      have af := hA4.2
      have al := hA4.1.1
      have r0 := hR4.1.2 0 _ rfl
      have r1 := hR4.1.2 1 _ rfl
      have r2 := hR4.1.2 2 _ rfl
      have rf := hR4.2
      have rl := hR4.1.1
      go_wp2_with fail
      refine (early_any now _).mono ?_; rw [← Hhs.out]; rintro e w5 ⟨rfl, rfl⟩
      go_wp2
      clear a0 a1 a2 af al r0 r1 r2 rf rl
      have HAT := Lib.hid (fun k m (hk : ms[k]? = some m) => wts_at (c := c') (A := A') (by rw [← Hn.out]; exact Rd.own hO4) hk)
      go_loopw [8] (fun iv wr => ∃ i : Nat, iv = .int .i64 i ∧ i ≤ n ∧ Hid ((ms.take i).any (fun x => x.id == id) = false) ∧ Bel w4 wr) (fun iv _ => n - (intOf iv).toNat)
      case atStart => exact ⟨0, rfl, by omega, by simp [Hid], Bel.refl _⟩
      case round =>
        obtain ⟨i, rfl, p1, HAN, hbr⟩ := hrel
        replace hR4 := hR4.bel hbr
        replace hA4 := hA4.bel hbr
        replace hO4 := own_keep hO4 hbr
        replace hb4 := hb4.trans hbr
        try clear a0 a1 a2 af al r0 r1 r2 rf rl
        have a0 := hA4.1.2 0 _ rfl
        have a1 := hA4.1.2 1 _ rfl
        have a2 := hA4.1.2 2 _ rfl
        have af := hA4.2
        have al := hA4.1.1
        have r0 := hR4.1.2 0 _ rfl
        have r1 := hR4.1.2 1 _ rfl
        have r2 := hR4.1.2 2 _ rfl
        have rf := hR4.2
        have rl := hR4.1.1
        by_cases hlt : i < n
        · have i1 : (i : Int) < (n : Int) := by omega
          obtain ⟨x, hx⟩ : ∃ x, ms[i]? = some x := ⟨ms[i]'(by have := Hn.out; omega), List.getElem?_eq_getElem _⟩
          obtain ⟨b, o, rfl, hlb, hrow⟩ := HAT.out i x hx
          have hrow := hrow.bel hbr hlb
          have d0 := hrow.cell 0 rfl
          rw [Nat.add_zero] at d0
          have HX := Lib.hid hx
          have HS := Lib.hid (any_take_succ' (p := fun x => x.id == id) hx)
          clear hx hrow
          by_cases hid' : x.id = id
          · have hib : (x.id == id) = true := by simpa using hid'
            have HF : Hid (sb = false ∧ sw = ms) := by
              have e : sb = false := by
                rw [HB.out]
                have : (ms.any fun x => x.id == id) = true := List.any_eq_true.2 ⟨x, List.mem_of_getElem? HX.out, hib⟩
                rw [this]; rfl
              exact Lib.hid ⟨e, by rw [HW.out, e]; rfl⟩
            clear hid'
            go_wp2
            have hR2 := hR4.setRow [.int .i64 L, .slice (some ⟨b, o, none⟩) n c', .int .i64 s] rfl
            have hO2 := setRow_own (B := w.heap.size + 1) (i := 0) [.int .i64 L, .slice (some ⟨b, o, none⟩) n c', .int .i64 s] hO4 (own_ne hO4 (.inl (by omega)))
            have HO2 := Lib.hid (own_mono hO2 (show w.heap.size ≤ w.heap.size + 1 + 1 by omega))
            clear hO2
            clear r0 r1 r2
            have r0 := hR2.1.2 0 _ rfl
            have r1 := hR2.1.2 1 _ rfl
            have r2 := hR2.1.2 2 _ rfl
            exact bodyPost_ret (v := .tuple #[.agg #[.int .i64 L, .slice (some ⟨b, o, none⟩) n c', .int .i64 s], .bool false]) (by simp only [setRow] at r0 r1 r2; simp [results, Try.results44, go_sem, r0, r1, r2]) rfl ⟨_, by rw [HF.out.1], by rw [HF.out.2, ← Hn.out]; exact HO2.out, Bel.setRow (B := w.heap.size + 1) (i := 0) [.int .i64 L, .slice (some ⟨b, o, none⟩) n c', .int .i64 s] hb4 (by omega)⟩
          · have hib : (x.id == id) = false := by simpa using hid'
            have HA2 : Hid ((ms.take (i + 1)).any (fun x => x.id == id) = false) := by show _ = _; rw [HS.out, HAN.out, hib]; rfl
            clear hid'
            go_wp2
            go_roundw
            case rel => exact ⟨i + 1, by go_num, by omega, HA2, hbr⟩
            case measure => simp [intOf]; omega
        · obtain rfl : i = n := by omega
          have jk : decide ((i : Int) < (i : Int)) = false := by simp
          have HF : Hid (sb = true ∧ sw = ms ++ [⟨id, now⟩]) := by
            have e4 : ms.take i = ms := List.take_of_length_le (by rw [← Hn.out]; exact Nat.le_refl _)
            have e : sb = true := by
              rw [HB.out]
              have := HAN.out
              rw [e4] at this
              rw [this]; rfl
            exact Lib.hid ⟨e, by rw [HW.out, e]; rfl⟩
          have hne := own_ne hO4 (k := w.heap.size) (.inl (by omega))
          have hneR := own_ne hO4 (k := w.heap.size + 1) (.inl (by omega))
          have hsz := hR4.1.1
          go_wp2_with (at_builtin; go_must (refine wpList_append_own_at _ rfl _ _ 66 rfl (w.heap.size + 1 + 1) 96 i0 _ 2 16 Try.underlying66 hi hz0 hz1 hz2 rfl (by omega) (.slice A' i c') _ _ rfl (hO4.alloc _) ⟨wr.heap.size, 0, none⟩ 1 1 (Wt.cells ⟨id, now⟩) rfl rfl (World.news_of_block (cs := #[.int .i64 id, .int .i64 now]) (t := 96) (fr := (0, 0)) (heap_new_at rfl)) (fun u hu => by simp [Wt.cells] at hu; rcases hu with rfl | rfl <;> rfl) (by unfold maxLen; omega) (by omega) (by simp; omega) ?_); intro v' w7 hown' hg' _ hloc; obtain ⟨gn, cn, hvn, _, _⟩ := hown'.form (by omega); subst hvn; have hA7 := (hA4.alloc _).grown hg' (Ne.symm hne); have hR7 := (hR4.alloc _).grown hg' (Ne.symm hneR); clear a0 a1 a2 af al r0 r1 r2 rf rl; have a0 := hA7.1.2 0 _ rfl; have a1 := hA7.1.2 1 _ rfl; have a2 := hA7.1.2 2 _ rfl; have af := hA7.2; have al := hA7.1.1; have r0 := hR7.1.2 0 _ rfl; have r1 := hR7.1.2 1 _ rfl; have r2 := hR7.1.2 2 _ rfl; have rf := hR7.2; have rl := hR7.1.1)
          have hb7 := bel_own (hb4.alloc _) (hO4.alloc _) hg' (by omega)
          have hR8 := hR7.other (C := w.heap.size) (by omega) 1 (.slice (some ⟨gn, 0, none⟩) (i + 1) cn)
          have hO8 := own_far hown' (p := ⟨w.heap.size, 1, none⟩) (own_ne hown' (.inl (by simp; omega))) (.slice (some ⟨gn, 0, none⟩) (i + 1) cn)
          have hb8 := hb7.setNew (p := ⟨w.heap.size, 1, none⟩) (by simp) (.slice (some ⟨gn, 0, none⟩) (i + 1) cn)
          have hR2 := hR8.setRow [.int .i64 L, .slice (some ⟨gn, 0, none⟩) (i + 1) cn, .int .i64 s] rfl
          have hO2 := setRow_own (B := w.heap.size + 1) (i := 0) [.int .i64 L, .slice (some ⟨gn, 0, none⟩) (i + 1) cn, .int .i64 s] hO8 (own_ne hO8 (.inl (by omega)))
          have HO2 := Lib.hid (own_mono hO2 (show w.heap.size ≤ w.heap.size + 1 + 1 by omega))
          have HE : Hid (wcells ms ++ Wt.cells ⟨id, now⟩ = wcells (ms ++ [⟨id, now⟩])) := Lib.hid (by rw [wcells_app]; simp [wcells])
          clear hO2
          clear r0 r1 r2
          have r0 := hR2.1.2 0 _ rfl
          have r1 := hR2.1.2 1 _ rfl
          have r2 := hR2.1.2 2 _ rfl
          exact bodyPost_ret (v := .tuple #[.agg #[.int .i64 L, .slice (some ⟨gn, 0, none⟩) (i + 1) cn, .int .i64 s], .bool true]) (by simp only [setRow] at r0 r1 r2; simp [results, Try.results44, go_sem, r0, r1, r2]) rfl ⟨_, by rw [HF.out.1], by rw [HF.out.2, List.length_append, ← Hn.out, ← HE.out]; exact HO2.out, Bel.setRow (B := w.heap.size + 1) (i := 0) [.int .i64 L, .slice (some ⟨gn, 0, none⟩) (i + 1) cn, .int .i64 s] hb8 (by omega)⟩
end Go.Proofs.Ytbijfmpmgmfpgaa
