/- The reference's Bunch. -/
import Derived.Test.YtbijfmpmgmfpgaaValL
import Derived.Test.YtbijfmpmgmfpgaaLex
namespace Go.Proofs.Ytbijfmpmgmfpgaa
open Go.RowKit Go.Maps
set_option linter.unusedSimpArgs false

set_option maxRecDepth 100000 in
set_option maxHeartbeats 4000000 in
theorem refBunch_no (b : Bun) (w : World) (h : ¬ (0 ≤ b.sec ∧ b.sec < 128 ∧ 1 ≤ b.cnt ∧ b.cnt ≤ 128 - b.sec)) :
    Calls Try.prog 39 #[.agg #[.int .i64 (b).id, .int .i64 (b).ten, .int .i64 (b).knd, .int .i64 (b).sec, .int .i64 (b).cnt, .string (b).dat, .bool (b).fua, .slice (b).mA (b).mL (b).mC, .int .i64 (b).tim]] w fun e w' => e = .returned (.bool false) ∧ Bel w w' := by
  obtain ⟨id, ten, knd, sec, cnt, dat, fua, mA, mL, mC, tim⟩ := b
  simp only at h ⊢
  have kk : ((knd == 1) = true ∧ (knd == 2) = false ∧ (knd != 1) = false ∧ (knd != 2) = true) ∨ ((knd == 1) = false ∧ (knd == 2) = true ∧ (knd != 1) = true ∧ (knd != 2) = false) ∨ ((knd == 1) = false ∧ (knd == 2) = false ∧ (knd != 1) = true ∧ (knd != 2) = true) := by
    by_cases k1 : knd = 1
    · subst k1; simp
    · by_cases k2 : knd = 2
      · subst k2; simp
      · simp [k1, k2]
  rcases kk with ⟨k1, k2, k3, k4⟩ | ⟨k1, k2, k3, k4⟩ | ⟨k1, k2, k3, k4⟩
  all_goals
    by_cases h1 : sec < 0
    · have h1' := h1
      go_enter Try.func39, Try.ntmps39
      go_wp2
      go_ret
      exact ⟨rfl, (by repeat (first | (with_reducible exact Bel.refl _) | (with_reducible assumption) | (with_reducible refine Bel.drewN ?_ _) | (with_reducible refine Bel.drew ?_) | (with_reducible refine Bel.alloc ?_ _) | (with_reducible refine Bel.setNew ?_ ?_ _) | (with_reducible refine Bel.trans ?_ (by assumption)) | (focus (simp; done)) | (focus (simp; omega))))⟩
    · by_cases h2 : sec < 128
      · by_cases h3 : cnt < 1
        · go_enter Try.func39, Try.ntmps39
          go_wp2
          go_ret
          exact ⟨rfl, (by repeat (first | (with_reducible exact Bel.refl _) | (with_reducible assumption) | (with_reducible refine Bel.drewN ?_ _) | (with_reducible refine Bel.drew ?_) | (with_reducible refine Bel.alloc ?_ _) | (with_reducible refine Bel.setNew ?_ ?_ _) | (with_reducible refine Bel.trans ?_ (by assumption)) | (focus (simp; done)) | (focus (simp; omega))))⟩
        · have h4 : 128 - sec < cnt := by omega
          clear h
          go_enter Try.func39, Try.ntmps39
          go_wp2
          go_ret
          exact ⟨rfl, (by repeat (first | (with_reducible exact Bel.refl _) | (with_reducible assumption) | (with_reducible refine Bel.drewN ?_ _) | (with_reducible refine Bel.drew ?_) | (with_reducible refine Bel.alloc ?_ _) | (with_reducible refine Bel.setNew ?_ ?_ _) | (with_reducible refine Bel.trans ?_ (by assumption)) | (focus (simp; done)) | (focus (simp; omega))))⟩
      · go_enter Try.func39, Try.ntmps39
        go_wp2
        go_ret
        exact ⟨rfl, (by repeat (first | (with_reducible exact Bel.refl _) | (with_reducible assumption) | (with_reducible refine Bel.drewN ?_ _) | (with_reducible refine Bel.drew ?_) | (with_reducible refine Bel.alloc ?_ _) | (with_reducible refine Bel.setNew ?_ ?_ _) | (with_reducible refine Bel.trans ?_ (by assumption)) | (focus (simp; done)) | (focus (simp; omega))))⟩

set_option maxRecDepth 100000 in
set_option maxHeartbeats 4000000 in
theorem refBunch_nodata (b : Bun) (w : World) (h : 0 ≤ b.sec ∧ b.sec < 128 ∧ 1 ≤ b.cnt ∧ b.cnt ≤ 128 - b.sec) (hd : dataOk b = false) (hl : b.dat.size ≤ maxLen) :
    Calls Try.prog 39 #[.agg #[.int .i64 (b).id, .int .i64 (b).ten, .int .i64 (b).knd, .int .i64 (b).sec, .int .i64 (b).cnt, .string (b).dat, .bool (b).fua, .slice (b).mA (b).mL (b).mC, .int .i64 (b).tim]] w fun e w' => e = .returned (.bool false) ∧ Bel w w' := by
  obtain ⟨id, ten, knd, sec, cnt, dat, fua, mA, mL, mC, tim⟩ := b
  simp only at h ⊢
  obtain ⟨h1, h2, h3, h4⟩ := h
  unfold dataOk at hd
  unfold maxLen at hl
  simp only at hd hl
  by_cases k1 : knd = 1
  · subst k1
    have hd2 : ((dat.size : Int) != 0) = true := by simp only [if_true, decide_eq_false_iff_not] at hd; simpa using (show ¬ (dat.size : Int) = 0 by omega)
    clear hd
    go_enter Try.func39, Try.ntmps39
    go_wp2
    go_ret
    exact ⟨rfl, (by repeat (first | (with_reducible exact Bel.refl _) | (with_reducible assumption) | (with_reducible refine Bel.drewN ?_ _) | (with_reducible refine Bel.drew ?_) | (with_reducible refine Bel.alloc ?_ _) | (with_reducible refine Bel.setNew ?_ ?_ _) | (with_reducible refine Bel.trans ?_ (by assumption)) | (focus (simp; done)) | (focus (simp; omega))))⟩
  · rw [if_neg k1] at hd
    have k1' : (knd == 1) = false := by simpa using k1
    have k3 : (knd != 1) = true := by simpa using k1
    have HK := Lib.hid k1
    clear k1
    by_cases k2 : knd = 2
    · subst k2
      simp only [if_true] at hd
      have hd2 : ((dat.size : Int) != cnt * 8) = true := by simpa using hd
      clear hd
      go_enter Try.func39, Try.ntmps39
      go_wp2
      go_ret
      exact ⟨rfl, (by repeat (first | (with_reducible exact Bel.refl _) | (with_reducible assumption) | (with_reducible refine Bel.drewN ?_ _) | (with_reducible refine Bel.drew ?_) | (with_reducible refine Bel.alloc ?_ _) | (with_reducible refine Bel.setNew ?_ ?_ _) | (with_reducible refine Bel.trans ?_ (by assumption)) | (focus (simp; done)) | (focus (simp; omega))))⟩
    · have k2' : (knd == 2) = false := by simpa using k2
      have k4 : (knd != 2) = true := by simpa using k2
      have HK2 := Lib.hid k2
      clear k2 hd
      go_enter Try.func39, Try.ntmps39
      go_wp2
      go_ret
      exact ⟨rfl, (by repeat (first | (with_reducible exact Bel.refl _) | (with_reducible assumption) | (with_reducible refine Bel.drewN ?_ _) | (with_reducible refine Bel.drew ?_) | (with_reducible refine Bel.alloc ?_ _) | (with_reducible refine Bel.setNew ?_ ?_ _) | (with_reducible refine Bel.trans ?_ (by assumption)) | (focus (simp; done)) | (focus (simp; omega))))⟩
end Go.Proofs.Ytbijfmpmgmfpgaa
