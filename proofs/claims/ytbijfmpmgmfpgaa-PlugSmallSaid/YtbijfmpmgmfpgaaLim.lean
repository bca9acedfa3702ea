/- dock.Limits; both Fits are the same. -/
import Derived.Test.YtbijfmpmgmfpgaaSplitW
namespace Go.Proofs.Ytbijfmpmgmfpgaa
open Go.RowKit
set_option linter.unusedSimpArgs false

theorem ediv_shift {B s c : Int} (hB : 0 < B) : (s / B = (s + c - 1) / B) ↔ (0 ≤ s % B + c - 1 ∧ s % B + c - 1 < B) := by
  have h1 := Int.mul_ediv_add_emod s B
  have h2 := Int.emod_nonneg s (show B ≠ 0 by omega)
  have h3 := Int.emod_lt_of_pos s hB
  have h4 : s + c - 1 = (s % B + c - 1) + B * (s / B) := by omega
  rw [h4, Int.add_mul_ediv_left _ _ (show B ≠ 0 by omega)]
  constructor
  · intro h
    have h5 : (s % B + c - 1) / B = 0 := by omega
    have h6 := Int.mul_ediv_add_emod (s % B + c - 1) B
    have h7 := Int.emod_nonneg (s % B + c - 1) (show B ≠ 0 by omega)
    have h8 := Int.emod_lt_of_pos (s % B + c - 1) hB
    rw [h5] at h6
    omega
  · rintro ⟨h5, h6⟩
    rw [Int.ediv_eq_zero_of_lt h5 h6]
    omega

theorem rfits_eq (M B s c : Int) : rfits M B s c = fits M B s c := by
  unfold rfits fits
  cases h : limOk M B
  · simp
  · obtain ⟨a1, a2, a3, a4⟩ : 1 ≤ M ∧ M ≤ 128 ∧ 0 ≤ B ∧ B ≤ 128 := by simpa [limOk] using h
    rw [Bool.eq_iff_iff]
    simp only [Bool.true_and, Bool.and_eq_true, decide_eq_true_eq]
    unfold room
    by_cases h0 : B = 0
    · simp [h0]
    · rw [if_neg h0, ediv_shift (by omega)]
      have h2 := Int.emod_nonneg s h0
      have h3 := Int.emod_lt_of_pos s (show 0 < B by omega)
      simp only [h0, false_or]
      omega

def bound (n : Int) : Int := [0, 0, 2, 4, 8].getD (rnd (n / 16) 5).toNat 0

set_option maxHeartbeats 1000000 in
theorem limits_any (n : Int) (w : World) :
    Calls Try.prog 24 #[.int .i64 n] w fun e w' => e = .returned (.agg #[.int .i64 (1 + rnd n 6), .int .i64 (bound n)]) ∧ Bel w w' := by
  have l1 := rnd_lo n 6
  have l2 := rnd_hi n 6 (by omega)
  have l3 := rnd_lo (n / 16) 5
  have l4 := rnd_hi (n / 16) 5 (by omega)
  have h5 : rnd (n / 16) 5 = 0 ∨ rnd (n / 16) 5 = 1 ∨ rnd (n / 16) 5 = 2 ∨ rnd (n / 16) 5 = 3 ∨ rnd (n / 16) 5 = 4 := by omega
  clear l3 l4
  rcases h5 with h5 | h5 | h5 | h5 | h5
  all_goals
    have HR := Lib.hid h5
    clear h5
    go_enter Try.func24, Try.ntmps24
    go_wp2_with fail
    refine (round_any _ _ _ (by omega)).mono ?_; rintro e w1 ⟨rfl, rfl⟩
    go_wp2_with fail
    refine (round_any _ _ _ (by omega)).mono ?_; rw [HR.out]; rintro e w1 ⟨rfl, rfl⟩
    go_wp2
    exact bodyPost_ret (v := .agg #[.int .i64 (1 + rnd n 6), .int .i64 (bound n)]) (by simp [results, Try.results24, go_sem, bound, HR.out]) rfl ⟨rfl, (by repeat (first | (with_reducible exact Bel.refl _) | (with_reducible assumption) | (with_reducible refine Bel.drewN ?_ _) | (with_reducible refine Bel.drew ?_) | (with_reducible refine Bel.alloc ?_ _) | (with_reducible refine Bel.setNew ?_ ?_ _) | (with_reducible refine Bel.trans ?_ (by assumption)) | (focus (simp; done)) | (focus (simp; omega))))⟩
end Go.Proofs.Ytbijfmpmgmfpgaa
