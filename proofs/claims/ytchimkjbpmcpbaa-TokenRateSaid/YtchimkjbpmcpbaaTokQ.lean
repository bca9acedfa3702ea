/- The plain laws of the buckets of tokens. -/
import Derived.Test.YtchimkjbpmcpbaaTokX
namespace Go.Proofs.Ytchimkjbpmcpbaa
open Go.RowKit

theorem refill_level (r u l t now : Int) : (refill ⟨r, u, l, t⟩ now).level = if bkOk ⟨r, u, l, t⟩ && tickB now && decide (t < now) then min (1000 * u) (l + r * (now - t)) else l := by
  unfold refill; split <;> rfl
theorem refill_last (r u l t now : Int) : (refill ⟨r, u, l, t⟩ now).last = if bkOk ⟨r, u, l, t⟩ && tickB now && decide (t < now) then now else t := by
  unfold refill; split <;> rfl
theorem refill_eq (r u l t now : Int) : refill ⟨r, u, l, t⟩ now = ⟨r, u, (refill ⟨r, u, l, t⟩ now).level, (refill ⟨r, u, l, t⟩ now).last⟩ := by
  unfold refill; split <;> rfl

theorem take_yes {r u l t now c : Int} : (takeB ⟨r, u, l, t⟩ now c).2 = true ↔ rightB ⟨r, u, l, t⟩ now c = true ∧ (r = 0 ∨ 1000 * c ≤ (refill ⟨r, u, l, t⟩ now).level) := by
  unfold takeB
  cases hr : rightB ⟨r, u, l, t⟩ now c
  · simp
  · by_cases h0 : r = 0
    · simp [h0]
    · simp only [if_true, h0, if_false, false_or, true_and]
      by_cases hL : (refill ⟨r, u, l, t⟩ now).level < 1000 * c
      · rw [if_pos hL]; simp; omega
      · rw [if_neg hL]; simp; omega

theorem right_iff {r u l t now c : Int} : rightB ⟨r, u, l, t⟩ now c = true ↔ bkOk ⟨r, u, l, t⟩ = true ∧ tickB now = true ∧ 0 ≤ c ∧ c ≤ 128 := by
  simp only [rightB, Bool.and_eq_true, decide_eq_true_eq]
  constructor
  · rintro ⟨⟨h1, h2⟩, h3⟩; exact ⟨h1, h2, h3⟩
  · rintro ⟨h1, h2, h3⟩; exact ⟨⟨h1, h2⟩, h3⟩

theorem when_no {r u l t now c : Int} (h : rightB ⟨r, u, l, t⟩ now c = true) (ht : t ≤ 1000) (hw : (whenB ⟨r, u, l, t⟩ now c).2 = false) : r ≠ 0 ∧ u < c ∧ ∀ n', (takeB ⟨r, u, l, t⟩ n' c).2 = false := by
  have hx : r ≠ 0 ∧ u < c := by
    by_cases hx : r ≠ 0 ∧ u < c
    · exact hx
    · exfalso
      have hW : whenB ⟨r, u, l, t⟩ now c = if r = 0 ∨ 1000 * c ≤ (refill ⟨r, u, l, t⟩ now).level then (now, true) else if tickB (t + (1000 * c - l + r - 1) / r) then (t + (1000 * c - l + r - 1) / r, true) else (0, false) := by
        simp only [whenB, h, Bool.true_and]
        rw [if_pos (by simp; omega)]
      rw [hW] at hw
      by_cases h1 : r = 0 ∨ 1000 * c ≤ (refill ⟨r, u, l, t⟩ now).level
      · rw [if_pos h1] at hw; cases hw
      · rw [if_neg h1] at hw
        obtain ⟨k1, k2, k3, k4⟩ := when_facts h (by omega) (by omega) (by omega)
        have hb := right_iff.1 h
        have hb2 := bkOk_iff.1 hb.1
        rw [if_pos (tickB_iff.2 ⟨by omega, by omega⟩)] at hw
        cases hw
  refine ⟨hx.1, hx.2, fun n' => ?_⟩
  rw [Bool.eq_false_iff]
  intro hy
  obtain ⟨hr, h2⟩ := take_yes.1 hy
  have hb := right_iff.1 h
  have f := refill_ok (now := n') hb.1
  omega

theorem when_yes {r u l t now c : Int} (h : rightB ⟨r, u, l, t⟩ now c = true) (hw : (whenB ⟨r, u, l, t⟩ now c).2 = true) :
    now ≤ (whenB ⟨r, u, l, t⟩ now c).1 ∧ (whenB ⟨r, u, l, t⟩ now c).1 ≤ 1099511627776 ∧ (takeB ⟨r, u, l, t⟩ (whenB ⟨r, u, l, t⟩ now c).1 c).2 = true ∧ ((whenB ⟨r, u, l, t⟩ now c).1 = now ∨ (takeB ⟨r, u, l, t⟩ ((whenB ⟨r, u, l, t⟩ now c).1 - 1) c).2 = false) := by
  obtain ⟨hb, hn, c1, c2⟩ := right_iff.1 h
  have hb2 := bkOk_iff.1 hb
  have hn2 := tickB_iff.1 hn
  have hx : ¬ (r ≠ 0 ∧ u < c) := by
    intro hx
    simp [whenB, hx] at hw
  have hW : whenB ⟨r, u, l, t⟩ now c = if r = 0 ∨ 1000 * c ≤ (refill ⟨r, u, l, t⟩ now).level then (now, true) else if tickB (t + (1000 * c - l + r - 1) / r) then (t + (1000 * c - l + r - 1) / r, true) else (0, false) := by
    simp only [whenB, h, Bool.true_and]
    rw [if_pos (by simp; omega)]
  rw [hW] at hw ⊢
  by_cases h1 : r = 0 ∨ 1000 * c ≤ (refill ⟨r, u, l, t⟩ now).level
  · rw [if_pos h1]
    exact ⟨Int.le_refl _, hn2.2, take_yes.2 ⟨h, h1⟩, .inl rfl⟩
  · rw [if_neg h1] at hw ⊢
    have h0 : r ≠ 0 := by omega
    obtain ⟨k1, k2, k3, k4⟩ := when_facts h h0 (by omega) (by omega)
    cases hk : tickB (t + (1000 * c - l + r - 1) / r)
    · rw [hk] at hw; simp at hw
    · have hk2 := tickB_iff.1 hk
      have hrp : 0 < r := by omega
      have e1 := Int.mul_ediv_add_emod (1000 * c - l + r - 1) r
      have e2 := Int.emod_nonneg (1000 * c - l + r - 1) h0
      have e3 := Int.emod_lt_of_pos (1000 * c - l + r - 1) hrp
      simp only [if_true]
      generalize hq : (1000 * c - l + r - 1) / r = q at *
      have hll : l < 1000 * c := by
        have h2 : ¬ 1000 * c ≤ (refill ⟨r, u, l, t⟩ now).level := fun h9 => h1 (.inr h9)
        rw [refill_level] at h2
        split at h2
        · rename_i hc
          simp only [hb, hn, Bool.true_and, decide_eq_true_eq] at hc
          have m1 := Int.mul_nonneg hb2.1.1 (show 0 ≤ now - t by omega)
          omega
        · omega
      have hq1 : 1 ≤ q := by
        rcases Int.lt_or_le q 1 with h9 | h9
        · have : q = 0 := by omega
          subst this
          omega
        · exact h9
      refine ⟨k1, hk2.2, take_yes.2 ⟨right_iff.2 ⟨hb, hk, c1, c2⟩, .inr ?_⟩, .inr ?_⟩
      · rw [refill_level, if_pos (by simp [hb, hk]; omega), show t + q - t = q by omega]
        omega
      · rw [Bool.eq_false_iff]
        intro hy
        obtain ⟨hr, h2⟩ := take_yes.1 hy
        rcases h2 with h2 | h2
        · exact h0 h2
        · rw [refill_level] at h2
          split at h2
          · rw [show t + q - 1 - t = q - 1 by omega, Int.mul_sub, Int.mul_one] at h2
            omega
          · omega

theorem refill_twice {r u l t p q : Int} (hb : bkOk ⟨r, u, l, t⟩ = true) (hp : tickB p = true) (hq : tickB q = true) :
    refill (refill ⟨r, u, l, t⟩ p) q = refill ⟨r, u, l, t⟩ (max p q) := by
  have hb2 := bkOk_iff.1 hb
  have hm : tickB (max p q) = true := by have := tickB_iff.1 hp; have := tickB_iff.1 hq; exact tickB_iff.2 ⟨by omega, by omega⟩
  have f := refill_ok (now := p) hb
  have hb' : bkOk ⟨r, u, (refill ⟨r, u, l, t⟩ p).level, (refill ⟨r, u, l, t⟩ p).last⟩ = true := bkOk_iff.2 ⟨⟨hb2.1.1, hb2.1.2.1, hb2.1.2.2.1, hb2.1.2.2.2.1, f.1, f.2.1⟩, f.2.2⟩
  have e1 := refill_eq r u l t p
  have e3 := refill_eq r u l t (max p q)
  rw [e1]
  have e2 := refill_eq r u (refill ⟨r, u, l, t⟩ p).level (refill ⟨r, u, l, t⟩ p).last q
  rw [e2, e3]
  congr 1
  · rw [refill_level r u _ _ q, refill_level r u l t (max p q), refill_level r u l t p, refill_last r u l t p]
    rw [refill_level, refill_last] at hb'
    simp only [hb, hp, hq, hm, Bool.true_and, decide_eq_true_eq] at hb' ⊢
    by_cases h1 : t < p
    · simp only [if_pos h1] at hb' ⊢
      simp only [hb', Bool.true_and, decide_eq_true_eq]
      by_cases h2 : p < q
      · rw [if_pos h2, if_pos (by omega), show max p q = q by omega]
        have e : r * (q - t) = r * (p - t) + r * (q - p) := by rw [← Int.mul_add]; congr 1; omega
        have m1 := Int.mul_nonneg hb2.1.1 (show 0 ≤ q - p by omega)
        omega
      · rw [if_neg h2, if_pos (by omega), show max p q = p by omega]
    · simp only [if_neg h1] at hb' ⊢
      simp only [hb, Bool.true_and, decide_eq_true_eq]
      by_cases h2 : t < q
      · rw [if_pos h2, if_pos (by omega), show max p q = q by omega]
      · rw [if_neg h2, if_neg (by omega)]
  · rw [refill_last r u _ _ q, refill_last r u l t (max p q), refill_level r u l t p, refill_last r u l t p]
    rw [refill_level, refill_last] at hb'
    simp only [hb, hp, hq, hm, Bool.true_and, decide_eq_true_eq] at hb' ⊢
    by_cases h1 : t < p
    · simp only [if_pos h1] at hb' ⊢
      simp only [hb', Bool.true_and, decide_eq_true_eq]
      by_cases h2 : p < q
      · rw [if_pos h2, if_pos (by omega)]; omega
      · rw [if_neg h2, if_pos (by omega)]; omega
    · simp only [if_neg h1] at hb' ⊢
      simp only [hb, Bool.true_and, decide_eq_true_eq]
      by_cases h2 : t < q
      · rw [if_pos h2, if_pos (by omega)]; omega
      · rw [if_neg h2, if_neg (by omega)]
theorem refill_more {r u l t p : Int} (hb : bkOk ⟨r, u, l, t⟩ = true) : l ≤ (refill ⟨r, u, l, t⟩ p).level := by
  have hb2 := bkOk_iff.1 hb
  rw [refill_level]
  split
  · rename_i hc
    simp only [hb, Bool.true_and, Bool.and_eq_true, decide_eq_true_eq] at hc
    have m1 := Int.mul_nonneg hb2.1.1 (show 0 ≤ p - t by omega)
    omega
  · omega
end Go.Proofs.Ytchimkjbpmcpbaa
