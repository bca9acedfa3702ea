/- The contracts of Take and When, of the program and of the reference. -/
import Derived.Test.YtchimkjbpmcpbaaTok
namespace Go.Proofs.Ytchimkjbpmcpbaa
open Go.RowKit

def rightB (b : Bk) (now n : Int) : Bool := bkOk b && tickB now && decide (0 ≤ n ∧ n ≤ 128)
def takeB (b : Bk) (now n : Int) : Bk × Bool :=
  if rightB b now n then
    if b.rate = 0 then (b, true)
    else if (refill b now).level < 1000 * n then (b, false)
    else (⟨b.rate, b.burst, (refill b now).level - 1000 * n, (refill b now).last⟩, true)
  else (b, false)

theorem refill_rate (b : Bk) (now : Int) : (refill b now).rate = b.rate := by unfold refill; split <;> rfl
theorem refill_burst (b : Bk) (now : Int) : (refill b now).burst = b.burst := by unfold refill; split <;> rfl
theorem refill_ok {r u l t now : Int} (h : bkOk ⟨r, u, l, t⟩ = true) : 0 ≤ (refill ⟨r, u, l, t⟩ now).level ∧ (refill ⟨r, u, l, t⟩ now).level ≤ 1000 * u ∧ 0 ≤ (refill ⟨r, u, l, t⟩ now).last ∧ (refill ⟨r, u, l, t⟩ now).last ≤ 1099511627776 := by
  obtain ⟨⟨b1, b2, b3, b4, b5, b6⟩, b7, b8⟩ := bkOk_iff.1 h
  unfold refill
  split
  · rename_i hc
    simp only [h, Bool.true_and, Bool.and_eq_true, decide_eq_true_eq] at hc
    obtain ⟨n1, n2⟩ := tickB_iff.1 hc.1
    have m1 := Int.mul_nonneg b1 (show 0 ≤ now - t by omega)
    simp only
    omega
  · simp only; omega

set_option maxHeartbeats 1000000 in
theorem tokRight_any (r u l t now n : Int) (w : World) :
    Calls Try.prog 35 #[.agg #[.int .i64 r, .int .i64 u, .int .i64 l, .int .i64 t], .int .i64 now, .int .i64 n] w fun e w' => e = .returned (.bool (rightB ⟨r, u, l, t⟩ now n)) ∧ Bel w w' := by
  have H1 := Lib.hid (tokValid_any r u l t)
  have H2 := Lib.hid (tokTick_any now)
  cases hv : bkOk ⟨r, u, l, t⟩ <;> cases ht : tickB now
  all_goals
    go_enter Try.func35, Try.ntmps35
    go_wp2_with (first
      | (go_at_call 28; refine (H1.out _).mono ?_; rw [hv]; rintro e w1 ⟨rfl, hb1⟩; have hc1 := hb1.cellAt)
      | (go_at_call 37; refine (H2.out _).mono ?_; rw [ht]; rintro e w2 ⟨rfl, rfl⟩))
    all_goals
      go_ret
      exact ⟨ret_bool (by first | (simp [rightB, *]; done) | (simp [rightB, *]; omega) | (simp [rightB]; omega) | (rw [Bool.eq_iff_iff]; simp [rightB, *]; omega)), (by repeat (first | (with_reducible exact Bel.refl _) | (with_reducible assumption) | (with_reducible refine Bel.drewN ?_ _) | (with_reducible refine Bel.drew ?_) | (with_reducible refine Bel.alloc ?_ _) | (with_reducible refine Bel.setNew ?_ ?_ _) | (with_reducible refine Bel.trans ?_ (by assumption)) | (focus (simp; done)) | (focus (simp; omega))))⟩

set_option maxHeartbeats 2000000 in
theorem tokTake_any (r u l t now n : Int) (w : World) :
    Calls Try.prog 24 #[.agg #[.int .i64 r, .int .i64 u, .int .i64 l, .int .i64 t], .int .i64 now, .int .i64 n] w fun e w' =>
      e = .returned (.tuple #[bv (takeB ⟨r, u, l, t⟩ now n).1.rate (takeB ⟨r, u, l, t⟩ now n).1.burst (takeB ⟨r, u, l, t⟩ now n).1.level (takeB ⟨r, u, l, t⟩ now n).1.last, .bool (takeB ⟨r, u, l, t⟩ now n).2]) ∧ Bel w w' := by
  have H1 := Lib.hid (tokRight_any r u l t now n)
  cases hr : rightB ⟨r, u, l, t⟩ now n
  · have HF := Lib.hid (show takeB ⟨r, u, l, t⟩ now n = (⟨r, u, l, t⟩, false) by simp [takeB, hr])
    rw [HF.out]
    go_enter Try.func24, Try.ntmps24
    go_wp2_with (first
        | (go_at_call 35; refine (H1.out _).mono ?_; rw [hr]; rintro e w1 ⟨rfl, hb1⟩; have hc1 := hb1.cellAt; have hf1 := hb1.frozenAt; have hs1 : w.heap.size + 1 < w1.heap.size := (by have := hb1.size; simp at this; omega); have hs2 : w.heap.size < w1.heap.size := (by omega)))
    exact bodyPost_ret (v := .tuple #[bv r u l t, .bool false]) (by simp [results, Try.results24, go_sem, bv, hc1]) rfl ⟨rfl, (by repeat (first | (with_reducible exact Bel.refl _) | (with_reducible assumption) | (with_reducible refine Bel.drewN ?_ _) | (with_reducible refine Bel.drew ?_) | (with_reducible refine Bel.alloc ?_ _) | (with_reducible refine Bel.setNew ?_ ?_ _) | (with_reducible refine Bel.trans ?_ (by assumption)) | (focus (simp; done)) | (focus (simp; omega))))⟩
  · have hr2 := hr
    simp only [rightB, Bool.and_eq_true, decide_eq_true_eq] at hr2
    obtain ⟨⟨hv, ht⟩, n1, n2⟩ := hr2
    obtain ⟨⟨b1, b2, b3, b4, b5, b6⟩, b7, b8⟩ := bkOk_iff.1 hv
    by_cases h0 : r = 0
    · subst h0
      have HF := Lib.hid (show takeB ⟨0, u, l, t⟩ now n = (⟨0, u, l, t⟩, true) by simp [takeB, hr])
      rw [HF.out]
      go_enter Try.func24, Try.ntmps24
      go_wp2_with (first
        | (go_at_call 35; refine (H1.out _).mono ?_; rw [hr]; rintro e w1 ⟨rfl, hb1⟩; have hc1 := hb1.cellAt; have hf1 := hb1.frozenAt; have hs1 : w.heap.size + 1 < w1.heap.size := (by have := hb1.size; simp at this; omega); have hs2 : w.heap.size < w1.heap.size := (by omega)))
      exact bodyPost_ret (v := .tuple #[bv 0 u l t, .bool true]) (by simp [results, Try.results24, go_sem, bv, hc1]) rfl ⟨rfl, (by repeat (first | (with_reducible exact Bel.refl _) | (with_reducible assumption) | (with_reducible refine Bel.drewN ?_ _) | (with_reducible refine Bel.drew ?_) | (with_reducible refine Bel.alloc ?_ _) | (with_reducible refine Bel.setNew ?_ ?_ _) | (with_reducible refine Bel.trans ?_ (by assumption)) | (focus (simp; done)) | (focus (simp; omega))))⟩
    · have h0' : (r == 0) = false := by simpa using h0
      have H0 := Lib.hid h0
      clear h0
      have hR := tokRefill_any r u l t now
      obtain ⟨f1, f2, f3, f4⟩ := refill_ok (now := now) hv
      have hT : takeB ⟨r, u, l, t⟩ now n = if (refill ⟨r, u, l, t⟩ now).level < 1000 * n then (⟨r, u, l, t⟩, false) else (⟨r, u, (refill ⟨r, u, l, t⟩ now).level - 1000 * n, (refill ⟨r, u, l, t⟩ now).last⟩, true) := by simp [takeB, hr, H0.out]
      simp only [refill_rate, refill_burst] at hR
      generalize (refill ⟨r, u, l, t⟩ now).level = L at hR hT f1 f2
      generalize (refill ⟨r, u, l, t⟩ now).last = T at hR hT f3 f4
      have HR := Lib.hid hR
      clear hR
      by_cases hL : L < 1000 * n
      · rw [if_pos hL] at hT
        rw [hT]
        clear hT
        go_enter Try.func24, Try.ntmps24
        go_wp2_with (first
        | (go_at_call 35; refine (H1.out _).mono ?_; rw [hr]; rintro e w1 ⟨rfl, hb1⟩; have hc1 := hb1.cellAt; have hf1 := hb1.frozenAt; have hs1 : w.heap.size + 1 < w1.heap.size := (by have := hb1.size; simp at this; omega); have hs2 : w.heap.size < w1.heap.size := (by omega))
          | (go_at_call 30; refine (HR.out _).mono ?_; rintro e w3 ⟨rfl, hb3⟩; unfold bv; have hc3 := hb3.cellAt; have hf3 := hb3.frozenAt; have hs3 := hb3.size; have hs4 : w.heap.size < w3.heap.size := (by omega); have hs5 : w.heap.size + 1 < w3.heap.size := (by omega)))
        exact bodyPost_ret (v := .tuple #[bv r u l t, .bool false]) (by simp [results, Try.results24, go_sem, bv, hc1, hc3, hs1, hs5]) rfl ⟨rfl, (by repeat (first | (with_reducible exact Bel.refl _) | (with_reducible assumption) | (with_reducible refine Bel.drewN ?_ _) | (with_reducible refine Bel.drew ?_) | (with_reducible refine Bel.alloc ?_ _) | (with_reducible refine Bel.setNew ?_ ?_ _) | (with_reducible refine Bel.trans ?_ (by assumption)) | (focus (simp; done)) | (focus (simp; omega))))⟩
      · rw [if_neg hL] at hT
        rw [hT]
        clear hT
        go_enter Try.func24, Try.ntmps24
        go_wp2_with (first
        | (go_at_call 35; refine (H1.out _).mono ?_; rw [hr]; rintro e w1 ⟨rfl, hb1⟩; have hc1 := hb1.cellAt; have hf1 := hb1.frozenAt; have hs1 : w.heap.size + 1 < w1.heap.size := (by have := hb1.size; simp at this; omega); have hs2 : w.heap.size < w1.heap.size := (by omega))
          | (go_at_call 30; refine (HR.out _).mono ?_; rintro e w3 ⟨rfl, hb3⟩; unfold bv; have hc3 := hb3.cellAt; have hf3 := hb3.frozenAt; have hs3 := hb3.size; have hs4 : w.heap.size < w3.heap.size := (by omega); have hs5 : w.heap.size + 1 < w3.heap.size := (by omega)))
        exact bodyPost_ret (v := .tuple #[bv r u (L - 1000 * n) T, .bool true]) (by simp [results, Try.results24, go_sem, bv, hc1, hc3, hs1, hs5]) rfl ⟨rfl, (by repeat (first | (with_reducible exact Bel.refl _) | (with_reducible assumption) | (with_reducible refine Bel.drewN ?_ _) | (with_reducible refine Bel.drew ?_) | (with_reducible refine Bel.alloc ?_ _) | (with_reducible refine Bel.setNew ?_ ?_ _) | (with_reducible refine Bel.trans ?_ (by assumption)) | (focus (simp; done)) | (focus (simp; omega))))⟩

set_option maxHeartbeats 2000000 in
theorem refTake_any (r u l t now n : Int) (w : World) :
    Calls Try.prog 25 #[.agg #[.int .i64 r, .int .i64 u, .int .i64 l, .int .i64 t], .int .i64 now, .int .i64 n] w fun e w' =>
      e = .returned (.tuple #[bv (takeB ⟨r, u, l, t⟩ now n).1.rate (takeB ⟨r, u, l, t⟩ now n).1.burst (takeB ⟨r, u, l, t⟩ now n).1.level (takeB ⟨r, u, l, t⟩ now n).1.last, .bool (takeB ⟨r, u, l, t⟩ now n).2]) ∧ Bel w w' := by
  have H1 := Lib.hid (refBucket_any r u l t)
  have H2 := Lib.hid (refEarly_any now)
  cases hr : rightB ⟨r, u, l, t⟩ now n
  · have HF := Lib.hid (show takeB ⟨r, u, l, t⟩ now n = (⟨r, u, l, t⟩, false) by simp [takeB, hr])
    rw [HF.out]
    have hr2 := hr
    simp only [rightB, Bool.and_eq_false_iff, decide_eq_false_iff_not] at hr2
    cases hv : bkOk ⟨r, u, l, t⟩
    · go_enter Try.func25, Try.ntmps25
      go_wp2_with (first
        | (go_at_call 29; refine (H1.out _).mono ?_; rw [hv]; rintro e w1 ⟨rfl, hb1⟩; have hc1 := hb1.cellAt; have hf1 := hb1.frozenAt; have hs1 : w.heap.size + 1 < w1.heap.size := (by have := hb1.size; simp at this; omega); have hs2 : w.heap.size < w1.heap.size := (by omega))
        | (go_at_call 36; refine (H2.out _).mono ?_; rw [ht]; rintro e w2 ⟨rfl, rfl⟩))
      exact bodyPost_ret (v := .tuple #[bv r u l t, .bool false]) (by simp [results, Try.results25, go_sem, bv, hc1]) rfl ⟨rfl, (by repeat (first | (with_reducible exact Bel.refl _) | (with_reducible assumption) | (with_reducible refine Bel.drewN ?_ _) | (with_reducible refine Bel.drew ?_) | (with_reducible refine Bel.alloc ?_ _) | (with_reducible refine Bel.setNew ?_ ?_ _) | (with_reducible refine Bel.trans ?_ (by assumption)) | (focus (simp; done)) | (focus (simp; omega))))⟩
    · cases ht : tickB now
      · go_enter Try.func25, Try.ntmps25
        go_wp2_with (first
        | (go_at_call 29; refine (H1.out _).mono ?_; rw [hv]; rintro e w1 ⟨rfl, hb1⟩; have hc1 := hb1.cellAt; have hf1 := hb1.frozenAt; have hs1 : w.heap.size + 1 < w1.heap.size := (by have := hb1.size; simp at this; omega); have hs2 : w.heap.size < w1.heap.size := (by omega))
        | (go_at_call 36; refine (H2.out _).mono ?_; rw [ht]; rintro e w2 ⟨rfl, rfl⟩))
        exact bodyPost_ret (v := .tuple #[bv r u l t, .bool false]) (by simp [results, Try.results25, go_sem, bv, hc1]) rfl ⟨rfl, (by repeat (first | (with_reducible exact Bel.refl _) | (with_reducible assumption) | (with_reducible refine Bel.drewN ?_ _) | (with_reducible refine Bel.drew ?_) | (with_reducible refine Bel.alloc ?_ _) | (with_reducible refine Bel.setNew ?_ ?_ _) | (with_reducible refine Bel.trans ?_ (by assumption)) | (focus (simp; done)) | (focus (simp; omega))))⟩
      · have hn : n < 0 ∨ 0 ≤ n ∧ 128 < n := by rw [hv, ht] at hr2; simp at hr2; omega
        clear hr2
        rcases hn with hn | ⟨hn, hn2⟩
        all_goals
          go_enter Try.func25, Try.ntmps25
          go_wp2_with (first
        | (go_at_call 29; refine (H1.out _).mono ?_; rw [hv]; rintro e w1 ⟨rfl, hb1⟩; have hc1 := hb1.cellAt; have hf1 := hb1.frozenAt; have hs1 : w.heap.size + 1 < w1.heap.size := (by have := hb1.size; simp at this; omega); have hs2 : w.heap.size < w1.heap.size := (by omega))
        | (go_at_call 36; refine (H2.out _).mono ?_; rw [ht]; rintro e w2 ⟨rfl, rfl⟩))
          exact bodyPost_ret (v := .tuple #[bv r u l t, .bool false]) (by simp [results, Try.results25, go_sem, bv, hc1]) rfl ⟨rfl, (by repeat (first | (with_reducible exact Bel.refl _) | (with_reducible assumption) | (with_reducible refine Bel.drewN ?_ _) | (with_reducible refine Bel.drew ?_) | (with_reducible refine Bel.alloc ?_ _) | (with_reducible refine Bel.setNew ?_ ?_ _) | (with_reducible refine Bel.trans ?_ (by assumption)) | (focus (simp; done)) | (focus (simp; omega))))⟩
  · have hr2 := hr
    simp only [rightB, Bool.and_eq_true, decide_eq_true_eq] at hr2
    obtain ⟨⟨hv, ht⟩, n1, n2⟩ := hr2
    obtain ⟨⟨b1, b2, b3, b4, b5, b6⟩, b7, b8⟩ := bkOk_iff.1 hv
    by_cases h0 : r = 0
    · subst h0
      have HF := Lib.hid (show takeB ⟨0, u, l, t⟩ now n = (⟨0, u, l, t⟩, true) by simp [takeB, hr])
      rw [HF.out]
      go_enter Try.func25, Try.ntmps25
      go_wp2_with (first
        | (go_at_call 29; refine (H1.out _).mono ?_; rw [hv]; rintro e w1 ⟨rfl, hb1⟩; have hc1 := hb1.cellAt; have hf1 := hb1.frozenAt; have hs1 : w.heap.size + 1 < w1.heap.size := (by have := hb1.size; simp at this; omega); have hs2 : w.heap.size < w1.heap.size := (by omega))
        | (go_at_call 36; refine (H2.out _).mono ?_; rw [ht]; rintro e w2 ⟨rfl, rfl⟩))
      exact bodyPost_ret (v := .tuple #[bv 0 u l t, .bool true]) (by simp [results, Try.results25, go_sem, bv, hc1]) rfl ⟨rfl, (by repeat (first | (with_reducible exact Bel.refl _) | (with_reducible assumption) | (with_reducible refine Bel.drewN ?_ _) | (with_reducible refine Bel.drew ?_) | (with_reducible refine Bel.alloc ?_ _) | (with_reducible refine Bel.setNew ?_ ?_ _) | (with_reducible refine Bel.trans ?_ (by assumption)) | (focus (simp; done)) | (focus (simp; omega))))⟩
    · have h0' : (r == 0) = false := by simpa using h0
      have H0 := Lib.hid h0
      clear h0
      have hR := refRefill_any r u l t now
      obtain ⟨f1, f2, f3, f4⟩ := refill_ok (now := now) hv
      have hT : takeB ⟨r, u, l, t⟩ now n = if (refill ⟨r, u, l, t⟩ now).level < 1000 * n then (⟨r, u, l, t⟩, false) else (⟨r, u, (refill ⟨r, u, l, t⟩ now).level - 1000 * n, (refill ⟨r, u, l, t⟩ now).last⟩, true) := by simp [takeB, hr, H0.out]
      simp only [refill_rate, refill_burst] at hR
      generalize (refill ⟨r, u, l, t⟩ now).level = L at hR hT f1 f2
      generalize (refill ⟨r, u, l, t⟩ now).last = T at hR hT f3 f4
      have HR := Lib.hid hR
      clear hR
      by_cases hL : L < 1000 * n
      · rw [if_pos hL] at hT
        rw [hT]
        clear hT
        go_enter Try.func25, Try.ntmps25
        go_wp2_with (first
        | (go_at_call 29; refine (H1.out _).mono ?_; rw [hv]; rintro e w1 ⟨rfl, hb1⟩; have hc1 := hb1.cellAt; have hf1 := hb1.frozenAt; have hs1 : w.heap.size + 1 < w1.heap.size := (by have := hb1.size; simp at this; omega); have hs2 : w.heap.size < w1.heap.size := (by omega))
        | (go_at_call 36; refine (H2.out _).mono ?_; rw [ht]; rintro e w2 ⟨rfl, rfl⟩)
          | (go_at_call 31; refine (HR.out _).mono ?_; rintro e w3 ⟨rfl, hb3⟩; unfold bv; have hc3 := hb3.cellAt; have hf3 := hb3.frozenAt; have hs3 := hb3.size; have hs4 : w.heap.size < w3.heap.size := (by omega); have hs5 : w.heap.size + 1 < w3.heap.size := (by omega)))
        exact bodyPost_ret (v := .tuple #[bv r u l t, .bool false]) (by simp [results, Try.results25, go_sem, bv, hc1, hc3, hs1, hs5]) rfl ⟨rfl, (by repeat (first | (with_reducible exact Bel.refl _) | (with_reducible assumption) | (with_reducible refine Bel.drewN ?_ _) | (with_reducible refine Bel.drew ?_) | (with_reducible refine Bel.alloc ?_ _) | (with_reducible refine Bel.setNew ?_ ?_ _) | (with_reducible refine Bel.trans ?_ (by assumption)) | (focus (simp; done)) | (focus (simp; omega))))⟩
      · rw [if_neg hL] at hT
        rw [hT]
        clear hT
        go_enter Try.func25, Try.ntmps25
        go_wp2_with (first
        | (go_at_call 29; refine (H1.out _).mono ?_; rw [hv]; rintro e w1 ⟨rfl, hb1⟩; have hc1 := hb1.cellAt; have hf1 := hb1.frozenAt; have hs1 : w.heap.size + 1 < w1.heap.size := (by have := hb1.size; simp at this; omega); have hs2 : w.heap.size < w1.heap.size := (by omega))
        | (go_at_call 36; refine (H2.out _).mono ?_; rw [ht]; rintro e w2 ⟨rfl, rfl⟩)
          | (go_at_call 31; refine (HR.out _).mono ?_; rintro e w3 ⟨rfl, hb3⟩; unfold bv; have hc3 := hb3.cellAt; have hf3 := hb3.frozenAt; have hs3 := hb3.size; have hs4 : w.heap.size < w3.heap.size := (by omega); have hs5 : w.heap.size + 1 < w3.heap.size := (by omega)))
        exact bodyPost_ret (v := .tuple #[bv r u (L - 1000 * n) T, .bool true]) (by simp [results, Try.results25, go_sem, bv, hc1, hc3, hs1, hs5]) rfl ⟨rfl, (by repeat (first | (with_reducible exact Bel.refl _) | (with_reducible assumption) | (with_reducible refine Bel.drewN ?_ _) | (with_reducible refine Bel.drew ?_) | (with_reducible refine Bel.alloc ?_ _) | (with_reducible refine Bel.setNew ?_ ?_ _) | (with_reducible refine Bel.trans ?_ (by assumption)) | (focus (simp; done)) | (focus (simp; omega))))⟩
end Go.Proofs.Ytchimkjbpmcpbaa
