/- timeout.Calm, Strike, Start: over guards with any list. -/
import Derived.Test.YtbijfmpmgmfpgaaTmA
import Derived.Test.YtbijfmpmgmfpgaaSetRow
import Derived.Deep.DeepCutAuto
namespace Go.Proofs.Ytbijfmpmgmfpgaa
open Go.RowKit
set_option linter.unusedSimpArgs false

set_option maxHeartbeats 2000000 in
theorem calm_any (L s : Int) (v : Value) (ms : List Wt) (w : World) (h : Rd w v 2 ms.length (wcells ms)) (hn : ms.length ≤ 1000) :
    Calls Try.prog 53 #[.agg #[.int .i64 L, v, .int .i64 s]] w fun e w' => ∃ v', e = .returned (.agg #[.int .i64 L, v', .int .i64 0]) ∧ w'.ownsRow w.heap.size 96 2 v' ms.length (wcells ms) ∧ Bel w w' := by
  obtain ⟨A, c, rfl, hc1, hc2⟩ := h.form
  have HC := Lib.hid (fun w' (hb : Bel w w') => cloneWt_any _ _ _ w' (h.bel hb) (wcells_one ms) hn)
  obtain ⟨n, Hn⟩ : ∃ n, Hid (n = ms.length) := ⟨_, rfl⟩
  rw [← Hn.out] at HC ⊢
  clear h hn hc1 hc2
  go_enter Try.func53, Try.ntmps53
  go_wp2_with fail
  refine (HC.out _ (by repeat (first | (with_reducible exact Bel.refl _) | (with_reducible assumption) | (with_reducible refine Bel.drewN ?_ _) | (with_reducible refine Bel.drew ?_) | (with_reducible refine Bel.alloc ?_ _) | (with_reducible refine Bel.setNew ?_ ?_ _) | (with_reducible refine Bel.trans ?_ (by assumption)) | (focus (simp; done)) | (focus (simp; omega))))).mono ?_; rintro e w1 ⟨v', rfl, hown, hb1⟩
  obtain ⟨A', c', rfl⟩ := own_slice hown
  have hA : AtF w1 (w.heap.size) [.int .i64 L, .slice A n c, .int .i64 s] := by
    refine AtF.bel ?_ hb1
    first | exact (AtF.new_at (by simp) _ _).alloc _ | exact ((AtF.new_at (by simp) _ _).alloc _).alloc _
  have hR : AtF w1 (w.heap.size + 1) [.int .i64 0, .slice none 0 0, .int .i64 0] := by
    refine AtF.bel ?_ hb1
    first | exact AtF.new_at (by simp) _ _ | exact (AtF.new_at (by simp) _ _).alloc _
  have hbw : Bel w w1 := (by repeat (first | (with_reducible exact Bel.refl _) | (with_reducible assumption) | (with_reducible refine Bel.drewN ?_ _) | (with_reducible refine Bel.drew ?_) | (with_reducible refine Bel.alloc ?_ _) | (with_reducible refine Bel.setNew ?_ ?_ _) | (with_reducible refine Bel.trans ?_ (by assumption)) | (focus (simp; done)) | (focus (simp; omega))))
  try have hI : AtF w1 (w.heap.size + 1) [.int .i64 id] := (AtF.bel ((AtF.new_at (by simp) _ _).alloc _) hb1)
  clear hb1
  have a0 := hA.1.2 0 _ rfl
  have a1 := hA.1.2 1 _ rfl
  have a2 := hA.1.2 2 _ rfl
  have af := hA.2
  have al := hA.1.1
  have r0 := hR.1.2 0 _ rfl
  have r1 := hR.1.2 1 _ rfl
  have r2 := hR.1.2 2 _ rfl
  have rf := hR.2
  have rl := hR.1.1
  go_wp2
  have hR2 := ((hR.other (C := w.heap.size) (by omega) 1 (.slice A' n c')).other (C := w.heap.size) (by omega) 2 (.int .i64 0)).setRow [.int .i64 L, .slice A' n c', .int .i64 0] rfl
  have hO2 := setRow_own (B := w.heap.size + 1) (i := 0) [.int .i64 L, .slice A' n c', .int .i64 0] (own_far (own_far hown (p := ⟨w.heap.size, 1, none⟩) (own_ne hown (.inl (by first | (simp; done) | (simp; omega)))) (.slice A' n c')) (p := ⟨w.heap.size, 2, none⟩) (own_ne hown (.inl (by first | (simp; done) | (simp; omega)))) (.int .i64 0)) (own_ne hown (.inl (by first | (simp; done) | (simp; omega))))
  clear r0 r1 r2
  have r0 := hR2.1.2 0 _ rfl
  have r1 := hR2.1.2 1 _ rfl
  have r2 := hR2.1.2 2 _ rfl
  exact bodyPost_ret (v := .agg #[.int .i64 L, .slice A' n c', .int .i64 0]) (by simp only [setRow] at r0 r1 r2; simp [results, Try.results53, go_sem, r0, r1, r2]) rfl ⟨_, rfl, own_mono hO2 (by simp; omega), Bel.setRow (B := w.heap.size + 1) (i := 0) [.int .i64 L, .slice A' n c', .int .i64 0] ((hbw.setNew (by simp) _).setNew (by simp) _) (by simp)⟩

/-- What Strike leaves. -/
def strN (s : Int) : Int := if 1 ≤ max s 0 then 0 else max s 0 + 1
def strB (s : Int) : Bool := decide (1 ≤ max s 0)
set_option maxHeartbeats 2000000 in
theorem strike_any (L s : Int) (v : Value) (ms : List Wt) (w : World) (h : Rd w v 2 ms.length (wcells ms)) (hn : ms.length ≤ 1000) :
    Calls Try.prog 54 #[.agg #[.int .i64 L, v, .int .i64 s]] w fun e w' => ∃ v', e = .returned (.tuple #[.agg #[.int .i64 L, v', .int .i64 (strN s)], .bool (strB s)]) ∧ w'.ownsRow w.heap.size 96 2 v' ms.length (wcells ms) ∧ Bel w w' := by
  obtain ⟨A, c, rfl, hc1, hc2⟩ := h.form
  have HC := Lib.hid (fun w' (hb : Bel w w') => cloneWt_any _ _ _ w' (h.bel hb) (wcells_one ms) hn)
  obtain ⟨n, Hn⟩ : ∃ n, Hid (n = ms.length) := ⟨_, rfl⟩
  rw [← Hn.out] at HC ⊢
  clear h hn hc1 hc2
  by_cases h1 : 1 ≤ s
  · have HF := Lib.hid (show strN s = 0 ∧ strB s = true from ⟨by unfold strN; rw [if_pos (by omega)], by unfold strB; exact decide_eq_true (by omega)⟩)
    rw [HF.out.1, HF.out.2]
    go_enter Try.func54, Try.ntmps54
    go_wp2_with fail
    refine (HC.out _ (by repeat (first | (with_reducible exact Bel.refl _) | (with_reducible assumption) | (with_reducible refine Bel.drewN ?_ _) | (with_reducible refine Bel.drew ?_) | (with_reducible refine Bel.alloc ?_ _) | (with_reducible refine Bel.setNew ?_ ?_ _) | (with_reducible refine Bel.trans ?_ (by assumption)) | (focus (simp; done)) | (focus (simp; omega))))).mono ?_; rintro e w1 ⟨v', rfl, hown, hb1⟩
    obtain ⟨A', c', rfl⟩ := own_slice hown
    have hA : AtF w1 (w.heap.size) [.int .i64 L, .slice A n c, .int .i64 s] := by
      refine AtF.bel ?_ hb1
      first | exact (AtF.new_at (by simp) _ _).alloc _ | exact ((AtF.new_at (by simp) _ _).alloc _).alloc _
    have hR : AtF w1 (w.heap.size + 1) [.int .i64 0, .slice none 0 0, .int .i64 0] := by
      refine AtF.bel ?_ hb1
      first | exact AtF.new_at (by simp) _ _ | exact (AtF.new_at (by simp) _ _).alloc _
    have hbw : Bel w w1 := (by repeat (first | (with_reducible exact Bel.refl _) | (with_reducible assumption) | (with_reducible refine Bel.drewN ?_ _) | (with_reducible refine Bel.drew ?_) | (with_reducible refine Bel.alloc ?_ _) | (with_reducible refine Bel.setNew ?_ ?_ _) | (with_reducible refine Bel.trans ?_ (by assumption)) | (focus (simp; done)) | (focus (simp; omega))))
    try have hI : AtF w1 (w.heap.size + 1) [.int .i64 id] := (AtF.bel ((AtF.new_at (by simp) _ _).alloc _) hb1)
    clear hb1
    have a0 := hA.1.2 0 _ rfl
    have a1 := hA.1.2 1 _ rfl
    have a2 := hA.1.2 2 _ rfl
    have af := hA.2
    have al := hA.1.1
    have r0 := hR.1.2 0 _ rfl
    have r1 := hR.1.2 1 _ rfl
    have r2 := hR.1.2 2 _ rfl
    have rf := hR.2
    have rl := hR.1.1
    have hmx : (if s < 0 then 0 else s) = s := if_neg (by omega)
    go_upto_region 3 with fail
    have hA3 := (hA.set 1 (by simp) (.slice A' n c')).set 2 (by simp) (.int .i64 s)
    have hR3 := (hR.other (C := w.heap.size) (by omega) 1 (.slice A' n c')).other (C := w.heap.size) (by omega) 2 (.int .i64 s)
    have hO3 := own_far (own_far hown (p := ⟨w.heap.size, 1, none⟩) (own_ne hown (.inl (by first | (simp; done) | (simp; omega)))) (.slice A' n c')) (p := ⟨w.heap.size, 2, none⟩) (own_ne hown (.inl (by first | (simp; done) | (simp; omega)))) (.int .i64 s)
    have hb3 := (hbw.setNew (p := ⟨w.heap.size, 1, none⟩) (by simp) (.slice A' n c')).setNew (p := ⟨w.heap.size, 2, none⟩) (by simp) (.int .i64 s)
    replace hO3 : ((w1.setCell ⟨w.heap.size, 1, none⟩ (.slice A' n c')).setCell ⟨w.heap.size, 2, none⟩ (.int .i64 s)).ownsRow (w.heap.size + 1 + 1) 96 2 (.slice A' n c') n (wcells ms) := by simpa using hO3
    clear a0 a1 a2 af al r0 r1 r2 rf rl hA hR hown hbw
    generalize (w1.setCell ⟨w.heap.size, 1, none⟩ (.slice A' n c')).setCell ⟨w.heap.size, 2, none⟩ (.int .i64 s) = w3 at *
    have a0 := hA3.1.2 0 _ rfl
    have a1 := hA3.1.2 1 _ rfl
    have a2 := hA3.1.2 2 _ rfl
    have af := hA3.2
    have al := hA3.1.1
    have r0 := hR3.1.2 0 _ rfl
    have r1 := hR3.1.2 1 _ rfl
    have r2 := hR3.1.2 2 _ rfl
    have rf := hR3.2
    have rl := hR3.1.1
    go_wp2
    have hR2 := (hR3.other (C := w.heap.size) (by omega) 2 (.int .i64 0)).setRow [.int .i64 L, .slice A' n c', .int .i64 0] rfl
    have hO2 := setRow_own (B := w.heap.size + 1) (i := 0) [.int .i64 L, .slice A' n c', .int .i64 0] (own_far hO3 (p := ⟨w.heap.size, 2, none⟩) (own_ne hO3 (.inl (by simp; try omega))) (.int .i64 0)) (own_ne hO3 (.inl (by simp; try omega)))
    clear r0 r1 r2
    have r0 := hR2.1.2 0 _ rfl
    have r1 := hR2.1.2 1 _ rfl
    have r2 := hR2.1.2 2 _ rfl
    exact bodyPost_ret (v := .tuple #[.agg #[.int .i64 L, .slice A' n c', .int .i64 0], .bool true]) (by simp only [setRow] at r0 r1 r2; simp [results, Try.results54, go_sem, r0, r1, r2]) rfl ⟨_, rfl, own_mono hO2 (by omega), Bel.setRow (B := w.heap.size + 1) (i := 0) [.int .i64 L, .slice A' n c', .int .i64 0] (hb3.setNew (by simp) _) (by simp)⟩
  · have HF := Lib.hid (show strN s = 1 ∧ strB s = false from ⟨by unfold strN; rw [if_neg (by omega), show max s 0 = 0 by omega]; rfl, by unfold strB; exact decide_eq_false (by omega)⟩)
    rw [HF.out.1, HF.out.2]
    go_enter Try.func54, Try.ntmps54
    go_wp2_with fail
    refine (HC.out _ (by repeat (first | (with_reducible exact Bel.refl _) | (with_reducible assumption) | (with_reducible refine Bel.drewN ?_ _) | (with_reducible refine Bel.drew ?_) | (with_reducible refine Bel.alloc ?_ _) | (with_reducible refine Bel.setNew ?_ ?_ _) | (with_reducible refine Bel.trans ?_ (by assumption)) | (focus (simp; done)) | (focus (simp; omega))))).mono ?_; rintro e w1 ⟨v', rfl, hown, hb1⟩
    obtain ⟨A', c', rfl⟩ := own_slice hown
    have hA : AtF w1 (w.heap.size) [.int .i64 L, .slice A n c, .int .i64 s] := by
      refine AtF.bel ?_ hb1
      first | exact (AtF.new_at (by simp) _ _).alloc _ | exact ((AtF.new_at (by simp) _ _).alloc _).alloc _
    have hR : AtF w1 (w.heap.size + 1) [.int .i64 0, .slice none 0 0, .int .i64 0] := by
      refine AtF.bel ?_ hb1
      first | exact AtF.new_at (by simp) _ _ | exact (AtF.new_at (by simp) _ _).alloc _
    have hbw : Bel w w1 := (by repeat (first | (with_reducible exact Bel.refl _) | (with_reducible assumption) | (with_reducible refine Bel.drewN ?_ _) | (with_reducible refine Bel.drew ?_) | (with_reducible refine Bel.alloc ?_ _) | (with_reducible refine Bel.setNew ?_ ?_ _) | (with_reducible refine Bel.trans ?_ (by assumption)) | (focus (simp; done)) | (focus (simp; omega))))
    try have hI : AtF w1 (w.heap.size + 1) [.int .i64 id] := (AtF.bel ((AtF.new_at (by simp) _ _).alloc _) hb1)
    clear hb1
    have a0 := hA.1.2 0 _ rfl
    have a1 := hA.1.2 1 _ rfl
    have a2 := hA.1.2 2 _ rfl
    have af := hA.2
    have al := hA.1.1
    have r0 := hR.1.2 0 _ rfl
    have r1 := hR.1.2 1 _ rfl
    have r2 := hR.1.2 2 _ rfl
    have rf := hR.2
    have rl := hR.1.1
    have hmx : (if s < 0 then 0 else s) = 0 := by split <;> omega
    go_upto_region 3 with fail
    have hA3 := (hA.set 1 (by simp) (.slice A' n c')).set 2 (by simp) (.int .i64 0)
    have hR3 := (hR.other (C := w.heap.size) (by omega) 1 (.slice A' n c')).other (C := w.heap.size) (by omega) 2 (.int .i64 0)
    have hO3 := own_far (own_far hown (p := ⟨w.heap.size, 1, none⟩) (own_ne hown (.inl (by first | (simp; done) | (simp; omega)))) (.slice A' n c')) (p := ⟨w.heap.size, 2, none⟩) (own_ne hown (.inl (by first | (simp; done) | (simp; omega)))) (.int .i64 0)
    have hb3 := (hbw.setNew (p := ⟨w.heap.size, 1, none⟩) (by simp) (.slice A' n c')).setNew (p := ⟨w.heap.size, 2, none⟩) (by simp) (.int .i64 0)
    replace hO3 : ((w1.setCell ⟨w.heap.size, 1, none⟩ (.slice A' n c')).setCell ⟨w.heap.size, 2, none⟩ (.int .i64 0)).ownsRow (w.heap.size + 1 + 1) 96 2 (.slice A' n c') n (wcells ms) := by simpa using hO3
    clear a0 a1 a2 af al r0 r1 r2 rf rl hA hR hown hbw
    generalize (w1.setCell ⟨w.heap.size, 1, none⟩ (.slice A' n c')).setCell ⟨w.heap.size, 2, none⟩ (.int .i64 0) = w3 at *
    have a0 := hA3.1.2 0 _ rfl
    have a1 := hA3.1.2 1 _ rfl
    have a2 := hA3.1.2 2 _ rfl
    have af := hA3.2
    have al := hA3.1.1
    have r0 := hR3.1.2 0 _ rfl
    have r1 := hR3.1.2 1 _ rfl
    have r2 := hR3.1.2 2 _ rfl
    have rf := hR3.2
    have rl := hR3.1.1
    go_wp2
    have hR2 := (hR3.other (C := w.heap.size) (by omega) 2 (.int .i64 1)).setRow [.int .i64 L, .slice A' n c', .int .i64 1] rfl
    have hO2 := setRow_own (B := w.heap.size + 1) (i := 0) [.int .i64 L, .slice A' n c', .int .i64 1] (own_far hO3 (p := ⟨w.heap.size, 2, none⟩) (own_ne hO3 (.inl (by simp; try omega))) (.int .i64 1)) (own_ne hO3 (.inl (by simp; try omega)))
    clear r0 r1 r2
    have r0 := hR2.1.2 0 _ rfl
    have r1 := hR2.1.2 1 _ rfl
    have r2 := hR2.1.2 2 _ rfl
    exact bodyPost_ret (v := .tuple #[.agg #[.int .i64 L, .slice A' n c', .int .i64 1], .bool false]) (by simp only [setRow] at r0 r1 r2; simp [results, Try.results54, go_sem, r0, r1, r2]) rfl ⟨_, rfl, own_mono hO2 (by omega), Bel.setRow (B := w.heap.size + 1) (i := 0) [.int .i64 L, .slice A' n c', .int .i64 1] (hb3.setNew (by simp) _) (by simp)⟩
end Go.Proofs.Ytbijfmpmgmfpgaa
