/- The contracts of the token package and of its reference. -/
import Derived.Test.YtchimkjbpmcpbaaLex
namespace Go.Proofs.Ytchimkjbpmcpbaa
open Go.RowKit

structure Bk where
  rate : Int
  burst : Int
  level : Int
  last : Int

/-- A bucket as a value. -/
def bv (r u l t : Int) : Value := .agg #[.int .i64 r, .int .i64 u, .int .i64 l, .int .i64 t]
def tickB (n : Int) : Bool := decide (0 ≤ n ∧ n ≤ 1099511627776)
def bkOk (b : Bk) : Bool := decide (0 ≤ b.rate ∧ b.rate ≤ 100000 ∧ 1 ≤ b.burst ∧ b.burst ≤ 128 ∧ 0 ≤ b.level ∧ b.level ≤ 1000 * b.burst) && tickB b.last

theorem tickB_iff {n : Int} : tickB n = true ↔ 0 ≤ n ∧ n ≤ 1099511627776 := by simp [tickB]
theorem bkOk_iff {r u l t : Int} : bkOk ⟨r, u, l, t⟩ = true ↔ (0 ≤ r ∧ r ≤ 100000 ∧ 1 ≤ u ∧ u ≤ 128 ∧ 0 ≤ l ∧ l ≤ 1000 * u) ∧ 0 ≤ t ∧ t ≤ 1099511627776 := by
  simp [bkOk, tickB]

set_option maxHeartbeats 400000 in
theorem tokTick_any (n : Int) (w : World) :
    Calls Try.prog 37 #[.int .i64 n] w fun e w' => e = .returned (.bool (tickB n)) ∧ w = w' := by
  go_enter Try.func37, Try.ntmps37
  go_wp2
  all_goals
    go_ret
    exact ⟨ret_bool (by first | (simp [tickB, *]; done) | (simp [tickB, *]; omega) | (simp [tickB]; omega) | (rw [Bool.eq_iff_iff]; simp [tickB, *]; omega)), rfl⟩
set_option maxHeartbeats 400000 in
theorem refEarly_any (n : Int) (w : World) :
    Calls Try.prog 36 #[.int .i64 n] w fun e w' => e = .returned (.bool (tickB n)) ∧ w = w' := by
  go_enter Try.func36, Try.ntmps36
  go_wp2
  all_goals
    go_ret
    exact ⟨ret_bool (by first | (simp [tickB, *]; done) | (simp [tickB, *]; omega) | (simp [tickB]; omega) | (rw [Bool.eq_iff_iff]; simp [tickB, *]; omega)), rfl⟩

set_option maxHeartbeats 1000000 in
theorem tokValid_any (r u l t : Int) (w : World) :
    Calls Try.prog 28 #[.agg #[.int .i64 r, .int .i64 u, .int .i64 l, .int .i64 t]] w fun e w' => e = .returned (.bool (bkOk ⟨r, u, l, t⟩)) ∧ Bel w w' := by
  have H1 := Lib.hid (tokTick_any t)
  go_enter Try.func28, Try.ntmps28
  go_wp2_with (go_at_call 37; refine (H1.out _).mono ?_; rintro e w1 ⟨rfl, rfl⟩)
  all_goals
    go_ret
    exact ⟨ret_bool (by first | (simp [bkOk, *]; done) | (simp [bkOk, *]; omega) | (simp [bkOk]; omega) | (rw [Bool.eq_iff_iff]; simp [bkOk, *]; omega)), (by repeat (first | (with_reducible exact Bel.refl _) | (with_reducible assumption) | (with_reducible refine Bel.drewN ?_ _) | (with_reducible refine Bel.drew ?_) | (with_reducible refine Bel.alloc ?_ _) | (with_reducible refine Bel.setNew ?_ ?_ _) | (with_reducible refine Bel.trans ?_ (by assumption)) | (focus (simp; done)) | (focus (simp; omega))))⟩
set_option maxHeartbeats 1000000 in
theorem refBucket_any (r u l t : Int) (w : World) :
    Calls Try.prog 29 #[.agg #[.int .i64 r, .int .i64 u, .int .i64 l, .int .i64 t]] w fun e w' => e = .returned (.bool (bkOk ⟨r, u, l, t⟩)) ∧ Bel w w' := by
  have H1 := Lib.hid (refEarly_any t)
  go_enter Try.func29, Try.ntmps29
  go_wp2_with (go_at_call 36; refine (H1.out _).mono ?_; rintro e w1 ⟨rfl, rfl⟩)
  all_goals
    go_ret
    exact ⟨ret_bool (by first | (simp [bkOk, *]; done) | (simp [bkOk, *]; omega) | (simp [bkOk]; omega) | (rw [Bool.eq_iff_iff]; simp [bkOk, *]; omega)), (by repeat (first | (with_reducible exact Bel.refl _) | (with_reducible assumption) | (with_reducible refine Bel.drewN ?_ _) | (with_reducible refine Bel.drew ?_) | (with_reducible refine Bel.alloc ?_ _) | (with_reducible refine Bel.setNew ?_ ?_ _) | (with_reducible refine Bel.trans ?_ (by assumption)) | (focus (simp; done)) | (focus (simp; omega))))⟩

def refill (b : Bk) (now : Int) : Bk :=
  if bkOk b && tickB now && decide (b.last < now) then ⟨b.rate, b.burst, min (1000 * b.burst) (b.level + b.rate * (now - b.last)), now⟩ else b

theorem mul_fit {r d : Int} (h1 : 0 ≤ r) (h2 : r ≤ 100000) (h3 : 0 ≤ d) (h4 : d ≤ 1099511627776) : 0 ≤ r * d ∧ r * d ≤ 109951162777600000 := by
  refine ⟨Int.mul_nonneg h1 h3, ?_⟩
  have e1 : r * d ≤ 100000 * d := Int.mul_le_mul_of_nonneg_right h2 h3
  have e2 : (100000 : Int) * d ≤ 100000 * 1099511627776 := Int.mul_le_mul_of_nonneg_left h4 (by omega)
  exact Int.le_trans e1 (Int.le_trans e2 (by decide))

set_option maxHeartbeats 2000000 in
theorem tokRefill_any (r u l t now : Int) (w : World) :
    Calls Try.prog 30 #[.agg #[.int .i64 r, .int .i64 u, .int .i64 l, .int .i64 t], .int .i64 now] w fun e w' => e = .returned (bv (refill ⟨r, u, l, t⟩ now).rate (refill ⟨r, u, l, t⟩ now).burst (refill ⟨r, u, l, t⟩ now).level (refill ⟨r, u, l, t⟩ now).last) ∧ Bel w w' := by
  have H1 := Lib.hid (tokValid_any r u l t)
  have H2 := Lib.hid (tokTick_any now)
  cases hv : bkOk ⟨r, u, l, t⟩
  · have HF := Lib.hid (show refill ⟨r, u, l, t⟩ now = ⟨r, u, l, t⟩ by simp [refill, hv])
    rw [HF.out]
    go_enter Try.func30, Try.ntmps30
    go_wp2_with (go_at_call 28; refine (H1.out _).mono ?_; rw [hv]; rintro e w1 ⟨rfl, hb1⟩; have hc1 := hb1.cellAt; have hf1 := hb1.frozenAt)
    exact bodyPost_ret (v := bv r u l t) (by simp [results, Try.results30, go_sem, bv, hc1]) rfl ⟨rfl, (by repeat (first | (with_reducible exact Bel.refl _) | (with_reducible assumption) | (with_reducible refine Bel.drewN ?_ _) | (with_reducible refine Bel.drew ?_) | (with_reducible refine Bel.alloc ?_ _) | (with_reducible refine Bel.setNew ?_ ?_ _) | (with_reducible refine Bel.trans ?_ (by assumption)) | (focus (simp; done)) | (focus (simp; omega))))⟩
  · obtain ⟨⟨b1, b2, b3, b4, b5, b6⟩, b7, b8⟩ := bkOk_iff.1 hv
    cases ht : tickB now
    · have HF := Lib.hid (show refill ⟨r, u, l, t⟩ now = ⟨r, u, l, t⟩ by simp [refill, ht])
      rw [HF.out]
      go_enter Try.func30, Try.ntmps30
      go_wp2_with (first
        | (go_at_call 28; refine (H1.out _).mono ?_; rw [hv]; rintro e w1 ⟨rfl, hb1⟩; have hc1 := hb1.cellAt; have hf1 := hb1.frozenAt)
        | (go_at_call 37; refine (H2.out _).mono ?_; rw [ht]; rintro e w2 ⟨rfl, rfl⟩))
      exact bodyPost_ret (v := bv r u l t) (by simp [results, Try.results30, go_sem, bv, hc1]) rfl ⟨rfl, (by repeat (first | (with_reducible exact Bel.refl _) | (with_reducible assumption) | (with_reducible refine Bel.drewN ?_ _) | (with_reducible refine Bel.drew ?_) | (with_reducible refine Bel.alloc ?_ _) | (with_reducible refine Bel.setNew ?_ ?_ _) | (with_reducible refine Bel.trans ?_ (by assumption)) | (focus (simp; done)) | (focus (simp; omega))))⟩
    · obtain ⟨n1, n2⟩ := tickB_iff.1 ht
      by_cases hlt : t < now
      · have HF := Lib.hid (show refill ⟨r, u, l, t⟩ now = ⟨r, u, min (1000 * u) (l + r * (now - t)), now⟩ by simp [refill, hv, ht, hlt])
        rw [HF.out]
        obtain ⟨m1, m2⟩ := mul_fit b1 b2 (show 0 ≤ now - t by omega) (show now - t ≤ 1099511627776 by omega)
        go_enter Try.func30, Try.ntmps30
        go_wp2_with fail
        refine (H1.out _).mono ?_; rw [hv]; rintro e w1 ⟨rfl, hb1⟩
        have hc1 := hb1.cellAt
        have hf1 := hb1.frozenAt
        have c0a : w1.cell? ⟨w.heap.size, 0, none⟩ = some (.int .i64 r) := by rw [hb1.cellAt _ _ (by first | (simp; done) | (simp; omega))]; simp [go_sem]
        have c1a : w1.cell? ⟨w.heap.size, 1, none⟩ = some (.int .i64 u) := by rw [hb1.cellAt _ _ (by first | (simp; done) | (simp; omega))]; simp [go_sem]
        have c2a : w1.cell? ⟨w.heap.size, 2, none⟩ = some (.int .i64 l) := by rw [hb1.cellAt _ _ (by first | (simp; done) | (simp; omega))]; simp [go_sem]
        have c3a : w1.cell? ⟨w.heap.size, 3, none⟩ = some (.int .i64 t) := by rw [hb1.cellAt _ _ (by first | (simp; done) | (simp; omega))]; simp [go_sem]
        go_wp2_with (go_at_call 37; refine (H2.out _).mono ?_; rw [ht]; rintro e w2 ⟨rfl, rfl⟩)
        all_goals
          first
          | (rw [show min (1000 * u) (l + r * (now - t)) = 1000 * u by omega]
             exact bodyPost_ret (v := bv r u (1000 * u) now) (by simp [results, Try.results30, go_sem, bv, hc1]) rfl ⟨rfl, (by repeat (first | (with_reducible exact Bel.refl _) | (with_reducible assumption) | (with_reducible refine Bel.drewN ?_ _) | (with_reducible refine Bel.drew ?_) | (with_reducible refine Bel.alloc ?_ _) | (with_reducible refine Bel.setNew ?_ ?_ _) | (with_reducible refine Bel.trans ?_ (by assumption)) | (focus (simp; done)) | (focus (simp; omega))))⟩)
          | (rw [show min (1000 * u) (l + r * (now - t)) = l + r * (now - t) by omega]
             exact bodyPost_ret (v := bv r u (l + r * (now - t)) now) (by simp [results, Try.results30, go_sem, bv, hc1]) rfl ⟨rfl, (by repeat (first | (with_reducible exact Bel.refl _) | (with_reducible assumption) | (with_reducible refine Bel.drewN ?_ _) | (with_reducible refine Bel.drew ?_) | (with_reducible refine Bel.alloc ?_ _) | (with_reducible refine Bel.setNew ?_ ?_ _) | (with_reducible refine Bel.trans ?_ (by assumption)) | (focus (simp; done)) | (focus (simp; omega))))⟩)
      · have HF := Lib.hid (show refill ⟨r, u, l, t⟩ now = ⟨r, u, l, t⟩ by simp [refill, hlt])
        rw [HF.out]
        go_enter Try.func30, Try.ntmps30
        go_wp2_with (first
          | (go_at_call 28; refine (H1.out _).mono ?_; rw [hv]; rintro e w1 ⟨rfl, hb1⟩; have hc1 := hb1.cellAt; have hf1 := hb1.frozenAt)
          | (go_at_call 37; refine (H2.out _).mono ?_; rw [ht]; rintro e w2 ⟨rfl, rfl⟩))
        exact bodyPost_ret (v := bv r u l t) (by simp [results, Try.results30, go_sem, bv, hc1]) rfl ⟨rfl, (by repeat (first | (with_reducible exact Bel.refl _) | (with_reducible assumption) | (with_reducible refine Bel.drewN ?_ _) | (with_reducible refine Bel.drew ?_) | (with_reducible refine Bel.alloc ?_ _) | (with_reducible refine Bel.setNew ?_ ?_ _) | (with_reducible refine Bel.trans ?_ (by assumption)) | (focus (simp; done)) | (focus (simp; omega))))⟩

set_option maxHeartbeats 2000000 in
theorem refRefill_any (r u l t now : Int) (w : World) :
    Calls Try.prog 31 #[.agg #[.int .i64 r, .int .i64 u, .int .i64 l, .int .i64 t], .int .i64 now] w fun e w' => e = .returned (bv (refill ⟨r, u, l, t⟩ now).rate (refill ⟨r, u, l, t⟩ now).burst (refill ⟨r, u, l, t⟩ now).level (refill ⟨r, u, l, t⟩ now).last) ∧ Bel w w' := by
  have H1 := Lib.hid (refBucket_any r u l t)
  have H2 := Lib.hid (refEarly_any now)
  cases hv : bkOk ⟨r, u, l, t⟩
  · have HF := Lib.hid (show refill ⟨r, u, l, t⟩ now = ⟨r, u, l, t⟩ by simp [refill, hv])
    rw [HF.out]
    go_enter Try.func31, Try.ntmps31
    go_wp2_with (go_at_call 29; refine (H1.out _).mono ?_; rw [hv]; rintro e w1 ⟨rfl, hb1⟩; have hc1 := hb1.cellAt; have hf1 := hb1.frozenAt)
    exact bodyPost_ret (v := bv r u l t) (by simp [results, Try.results31, go_sem, bv, hc1]) rfl ⟨rfl, (by repeat (first | (with_reducible exact Bel.refl _) | (with_reducible assumption) | (with_reducible refine Bel.drewN ?_ _) | (with_reducible refine Bel.drew ?_) | (with_reducible refine Bel.alloc ?_ _) | (with_reducible refine Bel.setNew ?_ ?_ _) | (with_reducible refine Bel.trans ?_ (by assumption)) | (focus (simp; done)) | (focus (simp; omega))))⟩
  · obtain ⟨⟨b1, b2, b3, b4, b5, b6⟩, b7, b8⟩ := bkOk_iff.1 hv
    cases ht : tickB now
    · have HF := Lib.hid (show refill ⟨r, u, l, t⟩ now = ⟨r, u, l, t⟩ by simp [refill, ht])
      rw [HF.out]
      go_enter Try.func31, Try.ntmps31
      go_wp2_with (first
        | (go_at_call 29; refine (H1.out _).mono ?_; rw [hv]; rintro e w1 ⟨rfl, hb1⟩; have hc1 := hb1.cellAt; have hf1 := hb1.frozenAt)
        | (go_at_call 36; refine (H2.out _).mono ?_; rw [ht]; rintro e w2 ⟨rfl, rfl⟩))
      exact bodyPost_ret (v := bv r u l t) (by simp [results, Try.results31, go_sem, bv, hc1]) rfl ⟨rfl, (by repeat (first | (with_reducible exact Bel.refl _) | (with_reducible assumption) | (with_reducible refine Bel.drewN ?_ _) | (with_reducible refine Bel.drew ?_) | (with_reducible refine Bel.alloc ?_ _) | (with_reducible refine Bel.setNew ?_ ?_ _) | (with_reducible refine Bel.trans ?_ (by assumption)) | (focus (simp; done)) | (focus (simp; omega))))⟩
    · obtain ⟨n1, n2⟩ := tickB_iff.1 ht
      by_cases hlt : t < now
      · have HF := Lib.hid (show refill ⟨r, u, l, t⟩ now = ⟨r, u, min (1000 * u) (l + r * (now - t)), now⟩ by simp [refill, hv, ht, hlt])
        rw [HF.out]
        obtain ⟨m1, m2⟩ := mul_fit b1 b2 (show 0 ≤ now - t by omega) (show now - t ≤ 1099511627776 by omega)
        go_enter Try.func31, Try.ntmps31
        go_wp2_with fail
        refine (H1.out _).mono ?_; rw [hv]; rintro e w1 ⟨rfl, hb1⟩
        have hc1 := hb1.cellAt
        have hf1 := hb1.frozenAt
        have c0a : w1.cell? ⟨w.heap.size, 0, none⟩ = some (.int .i64 r) := by rw [hb1.cellAt _ _ (by first | (simp; done) | (simp; omega))]; simp [go_sem]
        have c1a : w1.cell? ⟨w.heap.size, 1, none⟩ = some (.int .i64 u) := by rw [hb1.cellAt _ _ (by first | (simp; done) | (simp; omega))]; simp [go_sem]
        have c2a : w1.cell? ⟨w.heap.size, 2, none⟩ = some (.int .i64 l) := by rw [hb1.cellAt _ _ (by first | (simp; done) | (simp; omega))]; simp [go_sem]
        have c3a : w1.cell? ⟨w.heap.size, 3, none⟩ = some (.int .i64 t) := by rw [hb1.cellAt _ _ (by first | (simp; done) | (simp; omega))]; simp [go_sem]
        go_wp2_with (go_at_call 36; refine (H2.out _).mono ?_; rw [ht]; rintro e w2 ⟨rfl, rfl⟩)
        all_goals
          first
          | (rw [show min (1000 * u) (l + r * (now - t)) = 1000 * u by omega]
             exact bodyPost_ret (v := bv r u (1000 * u) now) (by simp [results, Try.results31, go_sem, bv, hc1]) rfl ⟨rfl, (by repeat (first | (with_reducible exact Bel.refl _) | (with_reducible assumption) | (with_reducible refine Bel.drewN ?_ _) | (with_reducible refine Bel.drew ?_) | (with_reducible refine Bel.alloc ?_ _) | (with_reducible refine Bel.setNew ?_ ?_ _) | (with_reducible refine Bel.trans ?_ (by assumption)) | (focus (simp; done)) | (focus (simp; omega))))⟩)
          | (rw [show min (1000 * u) (l + r * (now - t)) = l + r * (now - t) by omega]
             exact bodyPost_ret (v := bv r u (l + r * (now - t)) now) (by simp [results, Try.results31, go_sem, bv, hc1]) rfl ⟨rfl, (by repeat (first | (with_reducible exact Bel.refl _) | (with_reducible assumption) | (with_reducible refine Bel.drewN ?_ _) | (with_reducible refine Bel.drew ?_) | (with_reducible refine Bel.alloc ?_ _) | (with_reducible refine Bel.setNew ?_ ?_ _) | (with_reducible refine Bel.trans ?_ (by assumption)) | (focus (simp; done)) | (focus (simp; omega))))⟩)
      · have HF := Lib.hid (show refill ⟨r, u, l, t⟩ now = ⟨r, u, l, t⟩ by simp [refill, hlt])
        rw [HF.out]
        go_enter Try.func31, Try.ntmps31
        go_wp2_with (first
          | (go_at_call 29; refine (H1.out _).mono ?_; rw [hv]; rintro e w1 ⟨rfl, hb1⟩; have hc1 := hb1.cellAt; have hf1 := hb1.frozenAt)
          | (go_at_call 36; refine (H2.out _).mono ?_; rw [ht]; rintro e w2 ⟨rfl, rfl⟩))
        exact bodyPost_ret (v := bv r u l t) (by simp [results, Try.results31, go_sem, bv, hc1]) rfl ⟨rfl, (by repeat (first | (with_reducible exact Bel.refl _) | (with_reducible assumption) | (with_reducible refine Bel.drewN ?_ _) | (with_reducible refine Bel.drew ?_) | (with_reducible refine Bel.alloc ?_ _) | (with_reducible refine Bel.setNew ?_ ?_ _) | (with_reducible refine Bel.trans ?_ (by assumption)) | (focus (simp; done)) | (focus (simp; omega))))⟩
end Go.Proofs.Ytchimkjbpmcpbaa
