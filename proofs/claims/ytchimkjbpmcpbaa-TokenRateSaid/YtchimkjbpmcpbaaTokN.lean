/- The contracts of When, of the program and of the reference; awake, made. -/
import Derived.Test.YtchimkjbpmcpbaaTokT
namespace Go.Proofs.Ytchimkjbpmcpbaa
open Go.RowKit

def whenB (b : Bk) (now n : Int) : Int × Bool :=
  if rightB b now n && !(decide (b.rate ≠ 0 ∧ b.burst < n)) then
    if b.rate = 0 ∨ 1000 * n ≤ (refill b now).level then (now, true)
    else if tickB (b.last + (1000 * n - b.level + b.rate - 1) / b.rate) then (b.last + (1000 * n - b.level + b.rate - 1) / b.rate, true)
    else (0, false)
  else (0, false)

/-- What the time comes to: not ahead of now, and no overflow. -/
theorem when_facts {r u l t now n : Int} (hr : rightB ⟨r, u, l, t⟩ now n = true) (h0 : r ≠ 0) (hn : n ≤ u) (hL : (refill ⟨r, u, l, t⟩ now).level < 1000 * n) :
    now ≤ t + (1000 * n - l + r - 1) / r ∧ 0 ≤ 1000 * n - l + r - 1 ∧ 0 ≤ (1000 * n - l + r - 1) / r ∧ (1000 * n - l + r - 1) / r ≤ 228000 := by
  simp only [rightB, Bool.and_eq_true, decide_eq_true_eq] at hr
  obtain ⟨⟨hv, ht⟩, n1, n2⟩ := hr
  obtain ⟨⟨b1, b2, b3, b4, b5, b6⟩, b7, b8⟩ := bkOk_iff.1 hv
  have hrp : 0 < r := by omega
  have e1 := Int.mul_ediv_add_emod (1000 * n - l + r - 1) r
  have e2 := Int.emod_nonneg (1000 * n - l + r - 1) h0
  have e3 := Int.emod_lt_of_pos (1000 * n - l + r - 1) hrp
  generalize hq : (1000 * n - l + r - 1) / r = q at *
  have hll : l < 1000 * n := by
    unfold refill at hL
    split at hL
    · rename_i hc
      simp only [hv, Bool.true_and, Bool.and_eq_true, decide_eq_true_eq] at hc
      have m1 := Int.mul_nonneg b1 (show 0 ≤ now - t by omega)
      simp only at hL
      omega
    · simpa using hL
  have q0 : 0 ≤ q := by rw [← hq]; exact Int.ediv_nonneg (by omega) (by omega)
  have q1 : q ≤ 228000 := by
    have : q ≤ r * q := by
      have := Int.mul_le_mul_of_nonneg_right (show (1 : Int) ≤ r by omega) q0
      omega
    omega
  refine ⟨?_, by omega, q0, q1⟩
  by_cases hlt : t < now
  · unfold refill at hL
    rw [if_pos (by simp [hv, ht, hlt])] at hL
    simp only at hL
    have hL2 : l + r * (now - t) < 1000 * n := by omega
    have h3 : now - t ≤ q := by
      rcases Int.lt_or_le q (now - t) with h | h
      · have h4 := Int.mul_le_mul_of_nonneg_left (show q + 1 ≤ now - t by omega) (Int.le_of_lt hrp)
        rw [Int.mul_add] at h4
        omega
      · exact h
    omega
  · omega

set_option maxHeartbeats 2000000 in
theorem tokWhen_any (r u l t now n : Int) (w : World) :
    Calls Try.prog 26 #[.agg #[.int .i64 r, .int .i64 u, .int .i64 l, .int .i64 t], .int .i64 now, .int .i64 n] w fun e w' =>
      e = .returned (.tuple #[.int .i64 (whenB ⟨r, u, l, t⟩ now n).1, .bool (whenB ⟨r, u, l, t⟩ now n).2]) ∧ Bel w w' := by
  have H1 := Lib.hid (tokRight_any r u l t now n)
  cases hr : rightB ⟨r, u, l, t⟩ now n
  · have HF := Lib.hid (show whenB ⟨r, u, l, t⟩ now n = (0, false) by simp [whenB, hr])
    rw [HF.out]
    go_enter Try.func26, Try.ntmps26
    go_wp2_with (go_at_call 35; refine (H1.out _).mono ?_; rw [hr]; rintro e w1 ⟨rfl, hb1⟩; have hc1 := hb1.cellAt)
    go_ret2
    exact ⟨rfl, (by repeat (first | (with_reducible exact Bel.refl _) | (with_reducible assumption) | (with_reducible refine Bel.drewN ?_ _) | (with_reducible refine Bel.drew ?_) | (with_reducible refine Bel.alloc ?_ _) | (with_reducible refine Bel.setNew ?_ ?_ _) | (with_reducible refine Bel.trans ?_ (by assumption)) | (focus (simp; done)) | (focus (simp; omega))))⟩
  · have hr2 := hr
    simp only [rightB, Bool.and_eq_true, decide_eq_true_eq] at hr2
    obtain ⟨⟨hv, ht⟩, n1, n2⟩ := hr2
    obtain ⟨⟨b1, b2, b3, b4, b5, b6⟩, b7, b8⟩ := bkOk_iff.1 hv
    by_cases hx : r ≠ 0 ∧ u < n
    · have HF := Lib.hid (show whenB ⟨r, u, l, t⟩ now n = (0, false) by simp [whenB, hr, hx])
      obtain ⟨hx1, hx2⟩ := hx
      have h0 : (r != 0) = true := by simpa using hx1
      clear hx1
      rw [HF.out]
      go_enter Try.func26, Try.ntmps26
      go_wp2_with (go_at_call 35; refine (H1.out _).mono ?_; rw [hr]; rintro e w1 ⟨rfl, hb1⟩; have hc1 := hb1.cellAt)
      go_ret2
      exact ⟨rfl, (by repeat (first | (with_reducible exact Bel.refl _) | (with_reducible assumption) | (with_reducible refine Bel.drewN ?_ _) | (with_reducible refine Bel.drew ?_) | (with_reducible refine Bel.alloc ?_ _) | (with_reducible refine Bel.setNew ?_ ?_ _) | (with_reducible refine Bel.trans ?_ (by assumption)) | (focus (simp; done)) | (focus (simp; omega))))⟩
    · have hW : whenB ⟨r, u, l, t⟩ now n = if r = 0 ∨ 1000 * n ≤ (refill ⟨r, u, l, t⟩ now).level then (now, true) else if tickB (t + (1000 * n - l + r - 1) / r) then (t + (1000 * n - l + r - 1) / r, true) else (0, false) := by
        simp only [whenB, hr, Bool.true_and]
        rw [if_pos (by simp; omega)]
      have HT := Lib.hid (tokTake_any r u l t now n)
      by_cases h0 : r = 0
      · subst h0
        have hT : takeB ⟨0, u, l, t⟩ now n = (⟨0, u, l, t⟩, true) := by simp [takeB, hr]
        rw [hW, if_pos (.inl rfl)]
        have HT' := Lib.hid hT
        clear hW hT hx
        go_enter Try.func26, Try.ntmps26
        go_wp2_with (first
          | (go_at_call 35; refine (H1.out _).mono ?_; rw [hr]; rintro e w1 ⟨rfl, hb1⟩; have hc1 := hb1.cellAt)
          | (go_at_call 24; refine (HT.out _).mono ?_; rw [HT'.out]; unfold bv; rintro e w2 ⟨rfl, hb2⟩))
        go_ret2
        exact ⟨rfl, (by repeat (first | (with_reducible exact Bel.refl _) | (with_reducible assumption) | (with_reducible refine Bel.drewN ?_ _) | (with_reducible refine Bel.drew ?_) | (with_reducible refine Bel.alloc ?_ _) | (with_reducible refine Bel.setNew ?_ ?_ _) | (with_reducible refine Bel.trans ?_ (by assumption)) | (focus (simp; done)) | (focus (simp; omega))))⟩
      · have hnu : n ≤ u := by omega
        have h0b : (r != 0) = true := by simpa using h0
        by_cases hL : (refill ⟨r, u, l, t⟩ now).level < 1000 * n
        · have hT : takeB ⟨r, u, l, t⟩ now n = (⟨r, u, l, t⟩, false) := by simp [takeB, hr, h0, hL]
          obtain ⟨k1, k2, k3, k4⟩ := when_facts hr h0 hnu hL
          rw [hW, if_neg (by omega)]
          have HT' := Lib.hid hT
          have H2 := Lib.hid (tokTick_any (t + (1000 * n - l + r - 1) / r))
          have hrp : 0 < r := by omega
          clear hW hT hx hL h0
          cases hk : tickB (t + (1000 * n - l + r - 1) / r)
          all_goals
            simp only [Bool.false_eq_true, if_false, if_true]
            go_enter Try.func26, Try.ntmps26
            go_wp2_with (first
              | (go_at_call 35; refine (H1.out _).mono ?_; rw [hr]; rintro e w1 ⟨rfl, hb1⟩; have hc1 := hb1.cellAt; have hs2 : w.heap.size < w1.heap.size := (by have := hb1.size; simp at this; omega))
              | (go_at_call 24; refine (HT.out _).mono ?_; rw [HT'.out]; unfold bv; rintro e w2 ⟨rfl, hb2⟩; have hc2 := hb2.cellAt; have hs3 : w.heap.size < w2.heap.size := (by have := hb2.size; omega)))
            go_quiet (fail)
            go_wp2_with (go_at_call 37; refine (H2.out _).mono ?_; rw [hk]; rintro e w3 ⟨rfl, rfl⟩)
            go_ret2
            exact ⟨rfl, (by repeat (first | (with_reducible exact Bel.refl _) | (with_reducible assumption) | (with_reducible refine Bel.drewN ?_ _) | (with_reducible refine Bel.drew ?_) | (with_reducible refine Bel.alloc ?_ _) | (with_reducible refine Bel.setNew ?_ ?_ _) | (with_reducible refine Bel.trans ?_ (by assumption)) | (focus (simp; done)) | (focus (simp; omega))))⟩
        · have hT : takeB ⟨r, u, l, t⟩ now n = (⟨r, u, (refill ⟨r, u, l, t⟩ now).level - 1000 * n, (refill ⟨r, u, l, t⟩ now).last⟩, true) := by simp [takeB, hr, h0, hL]
          rw [hW, if_pos (.inr (by omega))]
          have HT' := Lib.hid hT
          clear hW hT hx hL h0
          go_enter Try.func26, Try.ntmps26
          go_wp2_with (first
            | (go_at_call 35; refine (H1.out _).mono ?_; rw [hr]; rintro e w1 ⟨rfl, hb1⟩; have hc1 := hb1.cellAt)
            | (go_at_call 24; refine (HT.out _).mono ?_; rw [HT'.out]; unfold bv; rintro e w2 ⟨rfl, hb2⟩))
          go_ret2
          exact ⟨rfl, (by repeat (first | (with_reducible exact Bel.refl _) | (with_reducible assumption) | (with_reducible refine Bel.drewN ?_ _) | (with_reducible refine Bel.drew ?_) | (with_reducible refine Bel.alloc ?_ _) | (with_reducible refine Bel.setNew ?_ ?_ _) | (with_reducible refine Bel.trans ?_ (by assumption)) | (focus (simp; done)) | (focus (simp; omega))))⟩

@[local go_sem] theorem field_bk2 (a b c d : Int) (w : World) : (Instr.field 37 (.agg #[.int .i64 a, .int .i64 b, .int .i64 c, .int .i64 d]) 2).run Try.prog w = .ok (.int .i64 c) w := by kernel_rfl

set_option maxHeartbeats 2000000 in
theorem refWhen_any (r u l t now n : Int) (w : World) :
    Calls Try.prog 27 #[.agg #[.int .i64 r, .int .i64 u, .int .i64 l, .int .i64 t], .int .i64 now, .int .i64 n] w fun e w' =>
      e = .returned (.tuple #[.int .i64 (whenB ⟨r, u, l, t⟩ now n).1, .bool (whenB ⟨r, u, l, t⟩ now n).2]) ∧ Bel w w' := by
  have H1 := Lib.hid (refBucket_any r u l t)
  have H2 := Lib.hid (refEarly_any now)
  cases hr : rightB ⟨r, u, l, t⟩ now n
  · have HF := Lib.hid (show whenB ⟨r, u, l, t⟩ now n = (0, false) by simp [whenB, hr])
    rw [HF.out]
    have hr2 := hr
    simp only [rightB, Bool.and_eq_false_iff, decide_eq_false_iff_not] at hr2
    cases hv : bkOk ⟨r, u, l, t⟩
    · go_enter Try.func27, Try.ntmps27
      go_wp2_with (first
          | (go_at_call 29; refine (H1.out _).mono ?_; rw [hv]; rintro e w1 ⟨rfl, hb1⟩; have hc1 := hb1.cellAt; have hs2 : w.heap.size < w1.heap.size := (by have := hb1.size; simp at this; omega))
          | (go_at_call 36; refine (H2.out _).mono ?_; rw [ht]; rintro e w2 ⟨rfl, rfl⟩))
      go_ret2
      exact ⟨rfl, (by repeat (first | (with_reducible exact Bel.refl _) | (with_reducible assumption) | (with_reducible refine Bel.drewN ?_ _) | (with_reducible refine Bel.drew ?_) | (with_reducible refine Bel.alloc ?_ _) | (with_reducible refine Bel.setNew ?_ ?_ _) | (with_reducible refine Bel.trans ?_ (by assumption)) | (focus (simp; done)) | (focus (simp; omega))))⟩
    · cases ht : tickB now
      · go_enter Try.func27, Try.ntmps27
        go_wp2_with (first
          | (go_at_call 29; refine (H1.out _).mono ?_; rw [hv]; rintro e w1 ⟨rfl, hb1⟩; have hc1 := hb1.cellAt; have hs2 : w.heap.size < w1.heap.size := (by have := hb1.size; simp at this; omega))
          | (go_at_call 36; refine (H2.out _).mono ?_; rw [ht]; rintro e w2 ⟨rfl, rfl⟩))
        go_ret2
        exact ⟨rfl, (by repeat (first | (with_reducible exact Bel.refl _) | (with_reducible assumption) | (with_reducible refine Bel.drewN ?_ _) | (with_reducible refine Bel.drew ?_) | (with_reducible refine Bel.alloc ?_ _) | (with_reducible refine Bel.setNew ?_ ?_ _) | (with_reducible refine Bel.trans ?_ (by assumption)) | (focus (simp; done)) | (focus (simp; omega))))⟩
      · have hn : n < 0 ∨ 0 ≤ n ∧ 128 < n := by rw [hv, ht] at hr2; simp at hr2; omega
        clear hr2
        rcases hn with hn | ⟨hn, hn2⟩
        all_goals
          go_enter Try.func27, Try.ntmps27
          go_wp2_with (first
          | (go_at_call 29; refine (H1.out _).mono ?_; rw [hv]; rintro e w1 ⟨rfl, hb1⟩; have hc1 := hb1.cellAt; have hs2 : w.heap.size < w1.heap.size := (by have := hb1.size; simp at this; omega))
          | (go_at_call 36; refine (H2.out _).mono ?_; rw [ht]; rintro e w2 ⟨rfl, rfl⟩))
          go_ret2
          exact ⟨rfl, (by repeat (first | (with_reducible exact Bel.refl _) | (with_reducible assumption) | (with_reducible refine Bel.drewN ?_ _) | (with_reducible refine Bel.drew ?_) | (with_reducible refine Bel.alloc ?_ _) | (with_reducible refine Bel.setNew ?_ ?_ _) | (with_reducible refine Bel.trans ?_ (by assumption)) | (focus (simp; done)) | (focus (simp; omega))))⟩
  · have hr2 := hr
    simp only [rightB, Bool.and_eq_true, decide_eq_true_eq] at hr2
    obtain ⟨⟨hv, ht⟩, n1, n2⟩ := hr2
    obtain ⟨⟨b1, b2, b3, b4, b5, b6⟩, b7, b8⟩ := bkOk_iff.1 hv
    by_cases hx : r ≠ 0 ∧ u < n
    · have HF := Lib.hid (show whenB ⟨r, u, l, t⟩ now n = (0, false) by simp [whenB, hr, hx])
      obtain ⟨hx1, hx2⟩ := hx
      have h0 : (r != 0) = true := by simpa using hx1
      clear hx1
      rw [HF.out]
      go_enter Try.func27, Try.ntmps27
      go_wp2_with (first
          | (go_at_call 29; refine (H1.out _).mono ?_; rw [hv]; rintro e w1 ⟨rfl, hb1⟩; have hc1 := hb1.cellAt; have hs2 : w.heap.size < w1.heap.size := (by have := hb1.size; simp at this; omega))
          | (go_at_call 36; refine (H2.out _).mono ?_; rw [ht]; rintro e w2 ⟨rfl, rfl⟩))
      go_ret2
      exact ⟨rfl, (by repeat (first | (with_reducible exact Bel.refl _) | (with_reducible assumption) | (with_reducible refine Bel.drewN ?_ _) | (with_reducible refine Bel.drew ?_) | (with_reducible refine Bel.alloc ?_ _) | (with_reducible refine Bel.setNew ?_ ?_ _) | (with_reducible refine Bel.trans ?_ (by assumption)) | (focus (simp; done)) | (focus (simp; omega))))⟩
    · have hW : whenB ⟨r, u, l, t⟩ now n = if r = 0 ∨ 1000 * n ≤ (refill ⟨r, u, l, t⟩ now).level then (now, true) else if tickB (t + (1000 * n - l + r - 1) / r) then (t + (1000 * n - l + r - 1) / r, true) else (0, false) := by
        simp only [whenB, hr, Bool.true_and]
        rw [if_pos (by simp; omega)]
      by_cases h0 : r = 0
      · subst h0
        rw [hW, if_pos (.inl rfl)]
        clear hW hx
        go_enter Try.func27, Try.ntmps27
        go_wp2_with (first
          | (go_at_call 29; refine (H1.out _).mono ?_; rw [hv]; rintro e w1 ⟨rfl, hb1⟩; have hc1 := hb1.cellAt; have hs2 : w.heap.size < w1.heap.size := (by have := hb1.size; simp at this; omega))
          | (go_at_call 36; refine (H2.out _).mono ?_; rw [ht]; rintro e w2 ⟨rfl, rfl⟩))
        go_ret2
        exact ⟨rfl, (by repeat (first | (with_reducible exact Bel.refl _) | (with_reducible assumption) | (with_reducible refine Bel.drewN ?_ _) | (with_reducible refine Bel.drew ?_) | (with_reducible refine Bel.alloc ?_ _) | (with_reducible refine Bel.setNew ?_ ?_ _) | (with_reducible refine Bel.trans ?_ (by assumption)) | (focus (simp; done)) | (focus (simp; omega))))⟩
      · have hnu : n ≤ u := by omega
        have h0b : (r != 0) = true := by simpa using h0
        have h0c : (r == 0) = false := by simpa using h0
        have hR := refRefill_any r u l t now
        simp only [refill_rate, refill_burst] at hR
        by_cases hL : (refill ⟨r, u, l, t⟩ now).level < 1000 * n
        · obtain ⟨k1, k2, k3, k4⟩ := when_facts hr h0 hnu hL
          rw [hW, if_neg (by omega)]
          have H3 := Lib.hid (refEarly_any (t + (1000 * n - l + r - 1) / r))
          have hrp : 0 < r := by omega
          generalize (refill ⟨r, u, l, t⟩ now).level = L at hR hL
          generalize (refill ⟨r, u, l, t⟩ now).last = T at hR
          have HR := Lib.hid hR
          clear hW hx h0 hR
          cases hk : tickB (t + (1000 * n - l + r - 1) / r)
          all_goals
            simp only [Bool.false_eq_true, if_false, if_true]
            go_enter Try.func27, Try.ntmps27
            go_wp2_with (first
          | (go_at_call 29; refine (H1.out _).mono ?_; rw [hv]; rintro e w1 ⟨rfl, hb1⟩; have hc1 := hb1.cellAt; have hs2 : w.heap.size < w1.heap.size := (by have := hb1.size; simp at this; omega))
          | (go_at_call 36; refine (H2.out _).mono ?_; rw [ht]; rintro e w2 ⟨rfl, rfl⟩)
              | (go_at_call 31; refine (HR.out _).mono ?_; unfold bv; rintro e w3 ⟨rfl, hb3⟩; have hc3 := hb3.cellAt; have hs3 : w.heap.size < w3.heap.size := (by have := hb3.size; omega)))
            go_quiet (fail)
            go_wp2_with (go_at_call 36; go_must (rw [show (if now < t + (1000 * n - l + r - 1) / r then t + (1000 * n - l + r - 1) / r else now) = t + (1000 * n - l + r - 1) / r by split <;> omega]; refine (H3.out _).mono ?_; rw [hk]; rintro e w4 ⟨rfl, rfl⟩))
            go_ret2
            exact ⟨rfl, (by repeat (first | (with_reducible exact Bel.refl _) | (with_reducible assumption) | (with_reducible refine Bel.drewN ?_ _) | (with_reducible refine Bel.drew ?_) | (with_reducible refine Bel.alloc ?_ _) | (with_reducible refine Bel.setNew ?_ ?_ _) | (with_reducible refine Bel.trans ?_ (by assumption)) | (focus (simp; done)) | (focus (simp; omega))))⟩
        · rw [hW, if_pos (.inr (by omega))]
          generalize (refill ⟨r, u, l, t⟩ now).level = L at hR hL
          generalize (refill ⟨r, u, l, t⟩ now).last = T at hR
          have HR := Lib.hid hR
          clear hW hx h0 hR
          go_enter Try.func27, Try.ntmps27
          go_wp2_with (first
          | (go_at_call 29; refine (H1.out _).mono ?_; rw [hv]; rintro e w1 ⟨rfl, hb1⟩; have hc1 := hb1.cellAt; have hs2 : w.heap.size < w1.heap.size := (by have := hb1.size; simp at this; omega))
          | (go_at_call 36; refine (H2.out _).mono ?_; rw [ht]; rintro e w2 ⟨rfl, rfl⟩)
            | (go_at_call 31; refine (HR.out _).mono ?_; unfold bv; rintro e w3 ⟨rfl, hb3⟩; have hc3 := hb3.cellAt; have hs3 : w.heap.size < w3.heap.size := (by have := hb3.size; omega)))
          go_ret2
          exact ⟨rfl, (by repeat (first | (with_reducible exact Bel.refl _) | (with_reducible assumption) | (with_reducible refine Bel.drewN ?_ _) | (with_reducible refine Bel.drew ?_) | (with_reducible refine Bel.alloc ?_ _) | (with_reducible refine Bel.setNew ?_ ?_ _) | (with_reducible refine Bel.trans ?_ (by assumption)) | (focus (simp; done)) | (focus (simp; omega))))⟩
end Go.Proofs.Ytchimkjbpmcpbaa
