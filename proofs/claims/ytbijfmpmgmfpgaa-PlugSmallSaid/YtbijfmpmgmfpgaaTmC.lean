/- timeout.Start. -/
import Derived.Test.YtbijfmpmgmfpgaaTmB
namespace Go.Proofs.Ytbijfmpmgmfpgaa
open Go.RowKit
set_option linter.unusedSimpArgs false

def stB (L : Int) (ms : List Wt) (id now : Int) : Bool := limB L && sncB now && !(ms.any fun x => x.id == id)
def stW (L : Int) (ms : List Wt) (id now : Int) : List Wt := if stB L ms id now then ms ++ [⟨id, now⟩] else ms

set_option maxHeartbeats 1000000 in
theorem start1_any (x : Wt) (id : Int) (B : Nat) (w : World) (h : w.cell? ⟨B, 0, none⟩ = some (.int .i64 id)) :
    Calls Try.prog 76 #[.agg #[.int .i64 x.id, .int .i64 x.at_], .pointer (some ⟨B, 0, none⟩)] w fun e w' => e = .returned (.bool (x.id == id)) ∧ Bel w w' := by
  have hlt := World.block_lt_of_cell? _ _ h
  go_enter Try.func76, Try.ntmps76
  go_wp2
  go_ret
  exact ⟨rfl, (by repeat (first | (with_reducible exact Bel.refl _) | (with_reducible assumption) | (with_reducible refine Bel.drewN ?_ _) | (with_reducible refine Bel.drew ?_) | (with_reducible refine Bel.alloc ?_ _) | (with_reducible refine Bel.setNew ?_ ?_ _) | (with_reducible refine Bel.trans ?_ (by assumption)) | (focus (simp; done)) | (focus (simp; omega))))⟩

set_option maxRecDepth 100000 in
set_option maxHeartbeats 4000000 in
theorem start_any (L s id now : Int) (v : Value) (ms : List Wt) (w : World) (h : Rd w v 2 ms.length (wcells ms)) (hn : ms.length ≤ 1000) :
    Calls Try.prog 43 #[.agg #[.int .i64 L, v, .int .i64 s], .int .i64 id, .int .i64 now] w fun e w' => ∃ v', e = .returned (.tuple #[.agg #[.int .i64 L, v', .int .i64 s], .bool (stB L ms id now)]) ∧ w'.ownsRow w.heap.size 96 2 v' (stW L ms id now).length (wcells (stW L ms id now)) ∧ Bel w w' := by
  obtain ⟨i0, hi, hz0, hz1, hz2⟩ := info_parts Try.infoWt
  have eg := enters_of Try.func76 (by kernel_rfl) rfl
  have HCT := Lib.hid (fun (v' : Value) (W : World) (B : Nat) (hR : Rd W v' 2 ms.length (wcells ms)) (hB : W.cell? ⟨B, 0, none⟩ = some (.int .i64 id)) =>
    containsWt_any ms v' 76 #[.pointer (some ⟨B, 0, none⟩)] (fun x => x.id == id) W hR eg (fun W' x hW _ => start1_any x id B W' ((hW.cellAt _ _ (World.block_lt_of_cell? _ _ hB)).trans hB)))
  have HB : Hid (stB L ms id now = (limB L && sncB now && !(ms.any fun x => x.id == id))) := Lib.hid rfl
  have HW : Hid (stW L ms id now = if stB L ms id now then ms ++ [⟨id, now⟩] else ms) := Lib.hid rfl
  have hn2 := hn
  obtain ⟨A, c, rfl, hc1, hc2⟩ := h.form
  have HC := Lib.hid (fun w' (hb : Bel w w') => cloneWt_any _ _ _ w' (h.bel hb) (wcells_one ms) hn)
  obtain ⟨n, Hn⟩ : ∃ n, Hid (n = ms.length) := ⟨_, rfl⟩
  rw [← Hn.out] at HC ⊢
  clear h hn hc1 hc2
  rw [← Hn.out] at HCT hn2
  generalize stW L ms id now = sw at *
  obtain ⟨sb, Hsb⟩ : ∃ b, Hid (b = stB L ms id now) := ⟨_, rfl⟩
  rw [← Hsb.out] at HB HW ⊢
  obtain ⟨hl, Hhl⟩ : ∃ b, Hid (b = limB L) := ⟨_, rfl⟩
  obtain ⟨hs, Hhs⟩ : ∃ b, Hid (b = sncB now) := ⟨_, rfl⟩
  rw [← Hhl.out, ← Hhs.out] at HB
  generalize (ms.any fun x => x.id == id) = an at *
  clear eg
  cases hl
  · have HF : Hid (sb = false ∧ sw = ms) := by
      have e : sb = false := by rw [HB.out]; rfl
      exact Lib.hid ⟨e, by rw [HW.out, e]; rfl⟩
    go_enter Try.func43, Try.ntmps43
    go_wp2_with fail
    refine (HC.out _ (by repeat (first | (with_reducible exact Bel.refl _) | (with_reducible assumption) | (with_reducible refine Bel.drewN ?_ _) | (with_reducible refine Bel.drew ?_) | (with_reducible refine Bel.alloc ?_ _) | (with_reducible refine Bel.setNew ?_ ?_ _) | (with_reducible refine Bel.trans ?_ (by assumption)) | (focus (simp; done)) | (focus (simp; omega))))).mono ?_; rintro e w1 ⟨v', rfl, hown, hb1⟩
    obtain ⟨A', c', rfl⟩ := own_slice hown
    have hA : AtF w1 (w.heap.size) [.int .i64 L, .slice A n c, .int .i64 s] := by
      refine AtF.bel ?_ hb1
      first | exact (AtF.new_at (by simp) _ _).alloc _ | exact ((AtF.new_at (by simp) _ _).alloc _).alloc _
    have hR : AtF w1 (w.heap.size + 1 + 1) [.int .i64 0, .slice none 0 0, .int .i64 0] := by
      refine AtF.bel ?_ hb1
      first | exact AtF.new_at (by simp) _ _ | exact (AtF.new_at (by simp) _ _).alloc _
    have hbw : Bel w w1 := (by repeat (first | (with_reducible exact Bel.refl _) | (with_reducible assumption) | (with_reducible refine Bel.drewN ?_ _) | (with_reducible refine Bel.drew ?_) | (with_reducible refine Bel.alloc ?_ _) | (with_reducible refine Bel.setNew ?_ ?_ _) | (with_reducible refine Bel.trans ?_ (by assumption)) | (focus (simp; done)) | (focus (simp; omega))))
    try have hI : AtF w1 (w.heap.size + 1) [.int .i64 id] := (AtF.bel ((AtF.new_at (by simp) _ _).alloc _) hb1)
    clear hb1
    have a0 := hA.1.2 0 _ rfl
    have a1 := hA.1.2 1 _ rfl
    have a2 := hA.1.2 2 _ rfl
    have af := hA.2
    have al := hA.1.1
    have r0 := hR.1.2 0 _ rfl
    have r1 := hR.1.2 1 _ rfl
    have r2 := hR.1.2 2 _ rfl
    have rf := hR.2
    have rl := hR.1.1
    go_upto_region 2 with fail
    have hA3 := hA.set 1 (by simp) (.slice A' n c')
    have hR3 := hR.other (C := w.heap.size) (by omega) 1 (.slice A' n c')
    have hI3 : AtF (w1.setCell ⟨w.heap.size, 1, none⟩ (.slice A' n c')) (w.heap.size + 1) [.int .i64 id] := by
      refine AtF.other ?_ (by omega) _ _
      exact hI
    have hO3 := own_far hown (p := ⟨w.heap.size, 1, none⟩) (own_ne hown (.inl (by simp; omega))) (.slice A' n c')
    replace hO3 : (w1.setCell ⟨w.heap.size, 1, none⟩ (.slice A' n c')).ownsRow (w.heap.size + 1 + 1 + 1) 96 2 (.slice A' n c') n (wcells ms) := by simpa using hO3
    have hb3 := hbw.setNew (p := ⟨w.heap.size, 1, none⟩) (by simp) (.slice A' n c')
    clear a0 a1 a2 af al r0 r1 r2 rf rl hA hR hown hbw hI
    generalize w1.setCell ⟨w.heap.size, 1, none⟩ (.slice A' n c') = w3 at *
    have a0 := hA3.1.2 0 _ rfl
    have a1 := hA3.1.2 1 _ rfl
    have a2 := hA3.1.2 2 _ rfl
    go_wp2_with fail
    refine (tmLimit_any L s _ _).mono ?_; rw [← Hhl.out]; rintro e w4 ⟨rfl, hb4'⟩
    have hA4 := hA3.bel hb4'
    have hR4 := hR3.bel hb4'
    have hI4 := hI3.bel hb4'
    have hO4 := own_keep hO3 hb4'
    have hb4 := hb3.trans hb4'
    clear a0 a1 a2 hA3 hR3 hI3 hO3 hb3 hb4'
    try clear a0 a1 a2 af al r0 r1 r2 rf rl
    have a0 := hA4.1.2 0 _ rfl
    have a1 := hA4.1.2 1 _ rfl
    have a2 := hA4.1.2 2 _ rfl
    have af := hA4.2
    have al := hA4.1.1
    have r0 := hR4.1.2 0 _ rfl
    have r1 := hR4.1.2 1 _ rfl
    have r2 := hR4.1.2 2 _ rfl
    have rf := hR4.2
    have rl := hR4.1.1
    go_wp2
    have hR2 := hR4.setRow [.int .i64 L, .slice A' n c', .int .i64 s] rfl
    have hO2 := setRow_own (B := w.heap.size + 1 + 1) (i := 0) [.int .i64 L, .slice A' n c', .int .i64 s] hO4 (own_ne hO4 (.inl (by omega)))
    have HO2 := Lib.hid (own_mono hO2 (show w.heap.size ≤ w.heap.size + 1 + 1 + 1 by omega))
    clear hO2
    clear r0 r1 r2
    have r0 := hR2.1.2 0 _ rfl
    have r1 := hR2.1.2 1 _ rfl
    have r2 := hR2.1.2 2 _ rfl
    exact bodyPost_ret (v := .tuple #[.agg #[.int .i64 L, .slice A' n c', .int .i64 s], .bool false]) (by simp only [setRow] at r0 r1 r2; simp [results, Try.results43, go_sem, r0, r1, r2]) rfl ⟨_, by rw [HF.out.1], by rw [HF.out.2, ← Hn.out]; exact HO2.out, Bel.setRow (B := w.heap.size + 1 + 1) (i := 0) [.int .i64 L, .slice A' n c', .int .i64 s] hb4 (by omega)⟩
  · cases hs
    · have HF : Hid (sb = false ∧ sw = ms) := by
        have e : sb = false := by rw [HB.out]; rfl
        exact Lib.hid ⟨e, by rw [HW.out, e]; rfl⟩
      go_enter Try.func43, Try.ntmps43
      go_wp2_with fail
      refine (HC.out _ (by repeat (first | (with_reducible exact Bel.refl _) | (with_reducible assumption) | (with_reducible refine Bel.drewN ?_ _) | (with_reducible refine Bel.drew ?_) | (with_reducible refine Bel.alloc ?_ _) | (with_reducible refine Bel.setNew ?_ ?_ _) | (with_reducible refine Bel.trans ?_ (by assumption)) | (focus (simp; done)) | (focus (simp; omega))))).mono ?_; rintro e w1 ⟨v', rfl, hown, hb1⟩
      obtain ⟨A', c', rfl⟩ := own_slice hown
      have hA : AtF w1 (w.heap.size) [.int .i64 L, .slice A n c, .int .i64 s] := by
        refine AtF.bel ?_ hb1
        first | exact (AtF.new_at (by simp) _ _).alloc _ | exact ((AtF.new_at (by simp) _ _).alloc _).alloc _
      have hR : AtF w1 (w.heap.size + 1 + 1) [.int .i64 0, .slice none 0 0, .int .i64 0] := by
        refine AtF.bel ?_ hb1
        first | exact AtF.new_at (by simp) _ _ | exact (AtF.new_at (by simp) _ _).alloc _
      have hbw : Bel w w1 := (by repeat (first | (with_reducible exact Bel.refl _) | (with_reducible assumption) | (with_reducible refine Bel.drewN ?_ _) | (with_reducible refine Bel.drew ?_) | (with_reducible refine Bel.alloc ?_ _) | (with_reducible refine Bel.setNew ?_ ?_ _) | (with_reducible refine Bel.trans ?_ (by assumption)) | (focus (simp; done)) | (focus (simp; omega))))
      try have hI : AtF w1 (w.heap.size + 1) [.int .i64 id] := (AtF.bel ((AtF.new_at (by simp) _ _).alloc _) hb1)
      clear hb1
      have a0 := hA.1.2 0 _ rfl
      have a1 := hA.1.2 1 _ rfl
      have a2 := hA.1.2 2 _ rfl
      have af := hA.2
      have al := hA.1.1
      have r0 := hR.1.2 0 _ rfl
      have r1 := hR.1.2 1 _ rfl
      have r2 := hR.1.2 2 _ rfl
      have rf := hR.2
      have rl := hR.1.1
      go_upto_region 2 with fail
      have hA3 := hA.set 1 (by simp) (.slice A' n c')
      have hR3 := hR.other (C := w.heap.size) (by omega) 1 (.slice A' n c')
      have hI3 : AtF (w1.setCell ⟨w.heap.size, 1, none⟩ (.slice A' n c')) (w.heap.size + 1) [.int .i64 id] := by
        refine AtF.other ?_ (by omega) _ _
        exact hI
      have hO3 := own_far hown (p := ⟨w.heap.size, 1, none⟩) (own_ne hown (.inl (by simp; omega))) (.slice A' n c')
      replace hO3 : (w1.setCell ⟨w.heap.size, 1, none⟩ (.slice A' n c')).ownsRow (w.heap.size + 1 + 1 + 1) 96 2 (.slice A' n c') n (wcells ms) := by simpa using hO3
      have hb3 := hbw.setNew (p := ⟨w.heap.size, 1, none⟩) (by simp) (.slice A' n c')
      clear a0 a1 a2 af al r0 r1 r2 rf rl hA hR hown hbw hI
      generalize w1.setCell ⟨w.heap.size, 1, none⟩ (.slice A' n c') = w3 at *
      have a0 := hA3.1.2 0 _ rfl
      have a1 := hA3.1.2 1 _ rfl
      have a2 := hA3.1.2 2 _ rfl
      go_wp2_with fail
      refine (tmLimit_any L s _ _).mono ?_; rw [← Hhl.out]; rintro e w4 ⟨rfl, hb4'⟩
      have hA4 := hA3.bel hb4'
      have hR4 := hR3.bel hb4'
      have hI4 := hI3.bel hb4'
      have hO4 := own_keep hO3 hb4'
      have hb4 := hb3.trans hb4'
      clear a0 a1 a2 hA3 hR3 hI3 hO3 hb3 hb4'
      try clear a0 a1 a2 af al r0 r1 r2 rf rl
      have a0 := hA4.1.2 0 _ rfl
      have a1 := hA4.1.2 1 _ rfl
      have a2 := hA4.1.2 2 _ rfl
      have af := hA4.2
      have al := hA4.1.1
      have r0 := hR4.1.2 0 _ rfl
      have r1 := hR4.1.2 1 _ rfl
      have r2 := hR4.1.2 2 _ rfl
      have rf := hR4.2
      have rl := hR4.1.1
      go_wp2_with fail
      refine (since_any now _).mono ?_; rw [← Hhs.out]; rintro e w5 ⟨rfl, rfl⟩
      go_wp2
      have hR2 := hR4.setRow [.int .i64 L, .slice A' n c', .int .i64 s] rfl
      have hO2 := setRow_own (B := w.heap.size + 1 + 1) (i := 0) [.int .i64 L, .slice A' n c', .int .i64 s] hO4 (own_ne hO4 (.inl (by omega)))
      have HO2 := Lib.hid (own_mono hO2 (show w.heap.size ≤ w.heap.size + 1 + 1 + 1 by omega))
      clear hO2
      clear r0 r1 r2
      have r0 := hR2.1.2 0 _ rfl
      have r1 := hR2.1.2 1 _ rfl
      have r2 := hR2.1.2 2 _ rfl
      exact bodyPost_ret (v := .tuple #[.agg #[.int .i64 L, .slice A' n c', .int .i64 s], .bool false]) (by simp only [setRow] at r0 r1 r2; simp [results, Try.results43, go_sem, r0, r1, r2]) rfl ⟨_, by rw [HF.out.1], by rw [HF.out.2, ← Hn.out]; exact HO2.out, Bel.setRow (B := w.heap.size + 1 + 1) (i := 0) [.int .i64 L, .slice A' n c', .int .i64 s] hb4 (by omega)⟩
    · cases an
      · have HF : Hid (sb = true ∧ sw = ms ++ [⟨id, now⟩]) := by
          have e : sb = true := by rw [HB.out]; rfl
          exact Lib.hid ⟨e, by rw [HW.out, e]; rfl⟩
        go_enter Try.func43, Try.ntmps43
        go_wp2_with fail
        refine (HC.out _ (by repeat (first | (with_reducible exact Bel.refl _) | (with_reducible assumption) | (with_reducible refine Bel.drewN ?_ _) | (with_reducible refine Bel.drew ?_) | (with_reducible refine Bel.alloc ?_ _) | (with_reducible refine Bel.setNew ?_ ?_ _) | (with_reducible refine Bel.trans ?_ (by assumption)) | (focus (simp; done)) | (focus (simp; omega))))).mono ?_; rintro e w1 ⟨v', rfl, hown, hb1⟩
        obtain ⟨A', c', rfl⟩ := own_slice hown
        have hA : AtF w1 (w.heap.size) [.int .i64 L, .slice A n c, .int .i64 s] := by
          refine AtF.bel ?_ hb1
          first | exact (AtF.new_at (by simp) _ _).alloc _ | exact ((AtF.new_at (by simp) _ _).alloc _).alloc _
        have hR : AtF w1 (w.heap.size + 1 + 1) [.int .i64 0, .slice none 0 0, .int .i64 0] := by
          refine AtF.bel ?_ hb1
          first | exact AtF.new_at (by simp) _ _ | exact (AtF.new_at (by simp) _ _).alloc _
        have hbw : Bel w w1 := (by repeat (first | (with_reducible exact Bel.refl _) | (with_reducible assumption) | (with_reducible refine Bel.drewN ?_ _) | (with_reducible refine Bel.drew ?_) | (with_reducible refine Bel.alloc ?_ _) | (with_reducible refine Bel.setNew ?_ ?_ _) | (with_reducible refine Bel.trans ?_ (by assumption)) | (focus (simp; done)) | (focus (simp; omega))))
        try have hI : AtF w1 (w.heap.size + 1) [.int .i64 id] := (AtF.bel ((AtF.new_at (by simp) _ _).alloc _) hb1)
        clear hb1
        have a0 := hA.1.2 0 _ rfl
        have a1 := hA.1.2 1 _ rfl
        have a2 := hA.1.2 2 _ rfl
        have af := hA.2
        have al := hA.1.1
        have r0 := hR.1.2 0 _ rfl
        have r1 := hR.1.2 1 _ rfl
        have r2 := hR.1.2 2 _ rfl
        have rf := hR.2
        have rl := hR.1.1
        go_upto_region 2 with fail
        have hA3 := hA.set 1 (by simp) (.slice A' n c')
        have hR3 := hR.other (C := w.heap.size) (by omega) 1 (.slice A' n c')
        have hI3 : AtF (w1.setCell ⟨w.heap.size, 1, none⟩ (.slice A' n c')) (w.heap.size + 1) [.int .i64 id] := by
          refine AtF.other ?_ (by omega) _ _
          exact hI
        have hO3 := own_far hown (p := ⟨w.heap.size, 1, none⟩) (own_ne hown (.inl (by simp; omega))) (.slice A' n c')
        replace hO3 : (w1.setCell ⟨w.heap.size, 1, none⟩ (.slice A' n c')).ownsRow (w.heap.size + 1 + 1 + 1) 96 2 (.slice A' n c') n (wcells ms) := by simpa using hO3
        have hb3 := hbw.setNew (p := ⟨w.heap.size, 1, none⟩) (by simp) (.slice A' n c')
        clear a0 a1 a2 af al r0 r1 r2 rf rl hA hR hown hbw hI
        generalize w1.setCell ⟨w.heap.size, 1, none⟩ (.slice A' n c') = w3 at *
        have a0 := hA3.1.2 0 _ rfl
        have a1 := hA3.1.2 1 _ rfl
        have a2 := hA3.1.2 2 _ rfl
        go_wp2_with fail
        refine (tmLimit_any L s _ _).mono ?_; rw [← Hhl.out]; rintro e w4 ⟨rfl, hb4'⟩
        have hA4 := hA3.bel hb4'
        have hR4 := hR3.bel hb4'
        have hI4 := hI3.bel hb4'
        have hO4 := own_keep hO3 hb4'
        have hb4 := hb3.trans hb4'
        clear a0 a1 a2 hA3 hR3 hI3 hO3 hb3 hb4'
        try clear a0 a1 a2 af al r0 r1 r2 rf rl
        have a0 := hA4.1.2 0 _ rfl
        have a1 := hA4.1.2 1 _ rfl
        have a2 := hA4.1.2 2 _ rfl
        have af := hA4.2
        have al := hA4.1.1
        have r0 := hR4.1.2 0 _ rfl
        have r1 := hR4.1.2 1 _ rfl
        have r2 := hR4.1.2 2 _ rfl
        have rf := hR4.2
        have rl := hR4.1.1
        go_wp2_with fail
        refine (since_any now _).mono ?_; rw [← Hhs.out]; rintro e w5 ⟨rfl, rfl⟩
        go_wp2_with fail
        refine (HCT.out _ _ _ (Rd.own hO4) (hI4.1.2 0 _ rfl)).mono ?_; rintro e w6 ⟨rfl, hb6⟩
        replace hR4 := hR4.bel hb6
        replace hA4 := hA4.bel hb6
        replace hO4 := own_keep hO4 hb6
        replace hb4 := hb4.trans hb6
        try clear a0 a1 a2 af al r0 r1 r2 rf rl
        have a0 := hA4.1.2 0 _ rfl
        have a1 := hA4.1.2 1 _ rfl
        have a2 := hA4.1.2 2 _ rfl
        have af := hA4.2
        have al := hA4.1.1
        have r0 := hR4.1.2 0 _ rfl
        have r1 := hR4.1.2 1 _ rfl
        have r2 := hR4.1.2 2 _ rfl
        have rf := hR4.2
        have rl := hR4.1.1
        have hI6 := hI4.bel hb6
        have ii := hI6.1.2 0 _ rfl
        have il := hI6.1.1
        have hsz := hR4.1.1
        have hne := own_ne hO4 (k := w.heap.size) (.inl (by omega))
        have hneR := own_ne hO4 (k := w.heap.size + 1 + 1) (.inl (by omega))
        go_wp2_with (at_builtin; go_must (refine wpList_append_own_at _ rfl _ _ 66 rfl (w.heap.size + 1 + 1 + 1) 96 i0 _ 2 16 Try.underlying66 hi hz0 hz1 hz2 rfl (by omega) (.slice A' n c') _ _ rfl (hO4.alloc _) ⟨w6.heap.size, 0, none⟩ 1 1 (Wt.cells ⟨id, now⟩) rfl rfl (World.news_of_block (cs := #[.int .i64 id, .int .i64 now]) (t := 96) (fr := (0, 0)) (heap_new_at rfl)) (fun u hu => by simp [Wt.cells] at hu; rcases hu with rfl | rfl <;> rfl) (by unfold maxLen; omega) (by omega) (by simp; omega) ?_); intro v' w7 hown' hg' _ hloc; obtain ⟨gn, cn, hvn, _, _⟩ := hown'.form (by omega); subst hvn; have hA7 := (hA4.alloc _).grown hg' (Ne.symm hne); have hR7 := (hR4.alloc _).grown hg' (Ne.symm hneR); clear a0 a1 a2 af al r0 r1 r2 rf rl; have a0 := hA7.1.2 0 _ rfl; have a1 := hA7.1.2 1 _ rfl; have a2 := hA7.1.2 2 _ rfl; have af := hA7.2; have al := hA7.1.1; have r0 := hR7.1.2 0 _ rfl; have r1 := hR7.1.2 1 _ rfl; have r2 := hR7.1.2 2 _ rfl; have rf := hR7.2; have rl := hR7.1.1)
        have hb7 := bel_own (hb4.alloc _) (hO4.alloc _) hg' (by omega)
        have hR8 := hR7.other (C := w.heap.size) (by omega) 1 (.slice (some ⟨gn, 0, none⟩) (n + 1) cn)
        have hO8 := own_far hown' (p := ⟨w.heap.size, 1, none⟩) (own_ne hown' (.inl (by simp; omega))) (.slice (some ⟨gn, 0, none⟩) (n + 1) cn)
        have hb8 := hb7.setNew (p := ⟨w.heap.size, 1, none⟩) (by simp) (.slice (some ⟨gn, 0, none⟩) (n + 1) cn)
        have hR2 := hR8.setRow [.int .i64 L, .slice (some ⟨gn, 0, none⟩) (n + 1) cn, .int .i64 s] rfl
        have hO2 := setRow_own (B := w.heap.size + 1 + 1) (i := 0) [.int .i64 L, .slice (some ⟨gn, 0, none⟩) (n + 1) cn, .int .i64 s] hO8 (own_ne hO8 (.inl (by omega)))
        have HO2 := Lib.hid (own_mono hO2 (show w.heap.size ≤ w.heap.size + 1 + 1 + 1 by omega))
        have HE : Hid (wcells ms ++ Wt.cells ⟨id, now⟩ = wcells (ms ++ [⟨id, now⟩])) := Lib.hid (by rw [wcells_app]; simp [wcells])
        clear hO2
        clear r0 r1 r2
        have r0 := hR2.1.2 0 _ rfl
        have r1 := hR2.1.2 1 _ rfl
        have r2 := hR2.1.2 2 _ rfl
        exact bodyPost_ret (v := .tuple #[.agg #[.int .i64 L, .slice (some ⟨gn, 0, none⟩) (n + 1) cn, .int .i64 s], .bool true]) (by simp only [setRow] at r0 r1 r2; simp [results, Try.results43, go_sem, r0, r1, r2]) rfl ⟨_, by rw [HF.out.1], by rw [HF.out.2, List.length_append, ← Hn.out, ← HE.out]; exact HO2.out, Bel.setRow (B := w.heap.size + 1 + 1) (i := 0) [.int .i64 L, .slice (some ⟨gn, 0, none⟩) (n + 1) cn, .int .i64 s] hb8 (by omega)⟩
      · have HF : Hid (sb = false ∧ sw = ms) := by
          have e : sb = false := by rw [HB.out]; rfl
          exact Lib.hid ⟨e, by rw [HW.out, e]; rfl⟩
        go_enter Try.func43, Try.ntmps43
        go_wp2_with fail
        refine (HC.out _ (by repeat (first | (with_reducible exact Bel.refl _) | (with_reducible assumption) | (with_reducible refine Bel.drewN ?_ _) | (with_reducible refine Bel.drew ?_) | (with_reducible refine Bel.alloc ?_ _) | (with_reducible refine Bel.setNew ?_ ?_ _) | (with_reducible refine Bel.trans ?_ (by assumption)) | (focus (simp; done)) | (focus (simp; omega))))).mono ?_; rintro e w1 ⟨v', rfl, hown, hb1⟩
        obtain ⟨A', c', rfl⟩ := own_slice hown
        have hA : AtF w1 (w.heap.size) [.int .i64 L, .slice A n c, .int .i64 s] := by
          refine AtF.bel ?_ hb1
          first | exact (AtF.new_at (by simp) _ _).alloc _ | exact ((AtF.new_at (by simp) _ _).alloc _).alloc _
        have hR : AtF w1 (w.heap.size + 1 + 1) [.int .i64 0, .slice none 0 0, .int .i64 0] := by
          refine AtF.bel ?_ hb1
          first | exact AtF.new_at (by simp) _ _ | exact (AtF.new_at (by simp) _ _).alloc _
        have hbw : Bel w w1 := (by repeat (first | (with_reducible exact Bel.refl _) | (with_reducible assumption) | (with_reducible refine Bel.drewN ?_ _) | (with_reducible refine Bel.drew ?_) | (with_reducible refine Bel.alloc ?_ _) | (with_reducible refine Bel.setNew ?_ ?_ _) | (with_reducible refine Bel.trans ?_ (by assumption)) | (focus (simp; done)) | (focus (simp; omega))))
        try have hI : AtF w1 (w.heap.size + 1) [.int .i64 id] := (AtF.bel ((AtF.new_at (by simp) _ _).alloc _) hb1)
        clear hb1
        have a0 := hA.1.2 0 _ rfl
        have a1 := hA.1.2 1 _ rfl
        have a2 := hA.1.2 2 _ rfl
        have af := hA.2
        have al := hA.1.1
        have r0 := hR.1.2 0 _ rfl
        have r1 := hR.1.2 1 _ rfl
        have r2 := hR.1.2 2 _ rfl
        have rf := hR.2
        have rl := hR.1.1
        go_upto_region 2 with fail
        have hA3 := hA.set 1 (by simp) (.slice A' n c')
        have hR3 := hR.other (C := w.heap.size) (by omega) 1 (.slice A' n c')
        have hI3 : AtF (w1.setCell ⟨w.heap.size, 1, none⟩ (.slice A' n c')) (w.heap.size + 1) [.int .i64 id] := by
          refine AtF.other ?_ (by omega) _ _
          exact hI
        have hO3 := own_far hown (p := ⟨w.heap.size, 1, none⟩) (own_ne hown (.inl (by simp; omega))) (.slice A' n c')
        replace hO3 : (w1.setCell ⟨w.heap.size, 1, none⟩ (.slice A' n c')).ownsRow (w.heap.size + 1 + 1 + 1) 96 2 (.slice A' n c') n (wcells ms) := by simpa using hO3
        have hb3 := hbw.setNew (p := ⟨w.heap.size, 1, none⟩) (by simp) (.slice A' n c')
        clear a0 a1 a2 af al r0 r1 r2 rf rl hA hR hown hbw hI
        generalize w1.setCell ⟨w.heap.size, 1, none⟩ (.slice A' n c') = w3 at *
        have a0 := hA3.1.2 0 _ rfl
        have a1 := hA3.1.2 1 _ rfl
        have a2 := hA3.1.2 2 _ rfl
        go_wp2_with fail
        refine (tmLimit_any L s _ _).mono ?_; rw [← Hhl.out]; rintro e w4 ⟨rfl, hb4'⟩
        have hA4 := hA3.bel hb4'
        have hR4 := hR3.bel hb4'
        have hI4 := hI3.bel hb4'
        have hO4 := own_keep hO3 hb4'
        have hb4 := hb3.trans hb4'
        clear a0 a1 a2 hA3 hR3 hI3 hO3 hb3 hb4'
        try clear a0 a1 a2 af al r0 r1 r2 rf rl
        have a0 := hA4.1.2 0 _ rfl
        have a1 := hA4.1.2 1 _ rfl
        have a2 := hA4.1.2 2 _ rfl
        have af := hA4.2
        have al := hA4.1.1
        have r0 := hR4.1.2 0 _ rfl
        have r1 := hR4.1.2 1 _ rfl
        have r2 := hR4.1.2 2 _ rfl
        have rf := hR4.2
        have rl := hR4.1.1
        go_wp2_with fail
        refine (since_any now _).mono ?_; rw [← Hhs.out]; rintro e w5 ⟨rfl, rfl⟩
        go_wp2_with fail
        refine (HCT.out _ _ _ (Rd.own hO4) (hI4.1.2 0 _ rfl)).mono ?_; rintro e w6 ⟨rfl, hb6⟩
        replace hR4 := hR4.bel hb6
        replace hA4 := hA4.bel hb6
        replace hO4 := own_keep hO4 hb6
        replace hb4 := hb4.trans hb6
        try clear a0 a1 a2 af al r0 r1 r2 rf rl
        have a0 := hA4.1.2 0 _ rfl
        have a1 := hA4.1.2 1 _ rfl
        have a2 := hA4.1.2 2 _ rfl
        have af := hA4.2
        have al := hA4.1.1
        have r0 := hR4.1.2 0 _ rfl
        have r1 := hR4.1.2 1 _ rfl
        have r2 := hR4.1.2 2 _ rfl
        have rf := hR4.2
        have rl := hR4.1.1
        go_wp2
        have hR2 := hR4.setRow [.int .i64 L, .slice A' n c', .int .i64 s] rfl
        have hO2 := setRow_own (B := w.heap.size + 1 + 1) (i := 0) [.int .i64 L, .slice A' n c', .int .i64 s] hO4 (own_ne hO4 (.inl (by omega)))
        have HO2 := Lib.hid (own_mono hO2 (show w.heap.size ≤ w.heap.size + 1 + 1 + 1 by omega))
        clear hO2
        clear r0 r1 r2
        have r0 := hR2.1.2 0 _ rfl
        have r1 := hR2.1.2 1 _ rfl
        have r2 := hR2.1.2 2 _ rfl
        exact bodyPost_ret (v := .tuple #[.agg #[.int .i64 L, .slice A' n c', .int .i64 s], .bool false]) (by simp only [setRow] at r0 r1 r2; simp [results, Try.results43, go_sem, r0, r1, r2]) rfl ⟨_, by rw [HF.out.1], by rw [HF.out.2, ← Hn.out]; exact HO2.out, Bel.setRow (B := w.heap.size + 1 + 1) (i := 0) [.int .i64 L, .slice A' n c', .int .i64 s] hb4 (by omega)⟩
end Go.Proofs.Ytbijfmpmgmfpgaa
