/- The contracts of the split package and of its reference. -/
import Derived.Test.YtbijfmpmgmfpgaaBase
namespace Go.Proofs.Ytbijfmpmgmfpgaa
open Go.RowKit

/-- The limits M, B are valid. -/
def limOk (M B : Int) : Bool := decide (1 ≤ M ∧ M ≤ 128 ∧ 0 ≤ B ∧ B ≤ 128)

set_option maxHeartbeats 400000 in
theorem splitValid_any (M B : Int) (w : World) :
    Calls Try.prog 61 #[.agg #[.int .i64 M, .int .i64 B]] w fun e w' => e = .returned (.bool (limOk M B)) ∧ Bel w w' := by
  go_enter Try.func61, Try.ntmps61
  go_wp2
  all_goals
    go_ret
    exact ⟨ret_bool (by first | (simp [limOk, *]; done) | (simp [limOk, *]; omega) | (simp [limOk]; omega) | (rw [Bool.eq_iff_iff]; simp [limOk, *]; omega)), (by repeat (first | (with_reducible exact Bel.refl _) | (with_reducible assumption) | (with_reducible refine Bel.drewN ?_ _) | (with_reducible refine Bel.drew ?_) | (with_reducible refine Bel.alloc ?_ _) | (with_reducible refine Bel.setNew ?_ ?_ _) | (with_reducible refine Bel.trans ?_ (by assumption)) | (focus (simp; done)) | (focus (simp; omega))))⟩

set_option maxHeartbeats 400000 in
theorem refLimits_any (M B : Int) (w : World) :
    Calls Try.prog 59 #[.agg #[.int .i64 M, .int .i64 B]] w fun e w' => e = .returned (.bool (limOk M B)) ∧ Bel w w' := by
  go_enter Try.func59, Try.ntmps59
  go_wp2
  all_goals
    go_ret
    exact ⟨ret_bool (by first | (simp [limOk, *]; done) | (simp [limOk, *]; omega) | (simp [limOk]; omega) | (rw [Bool.eq_iff_iff]; simp [limOk, *]; omega)), (by repeat (first | (with_reducible exact Bel.refl _) | (with_reducible assumption) | (with_reducible refine Bel.drewN ?_ _) | (with_reducible refine Bel.drew ?_) | (with_reducible refine Bel.alloc ?_ _) | (with_reducible refine Bel.setNew ?_ ?_ _) | (with_reducible refine Bel.trans ?_ (by assumption)) | (focus (simp; done)) | (focus (simp; omega))))⟩

def room (M B s : Int) : Int := if B = 0 then M else min M (B - s % B)

set_option maxHeartbeats 400000 in
theorem splitRoom_any (M B s : Int) (w : World) (h : limOk M B = true) (hs : 0 ≤ s) (hs' : s ≤ 1000) :
    Calls Try.prog 86 #[.agg #[.int .i64 M, .int .i64 B], .int .i64 s] w fun e w' => e = .returned (.int .i64 (room M B s)) ∧ Bel w w' := by
  obtain ⟨a1, a2, a3, a4⟩ : 1 ≤ M ∧ M ≤ 128 ∧ 0 ≤ B ∧ B ≤ 128 := by simpa [limOk] using h
  clear h
  by_cases h0 : B = 0
  · subst h0
    go_enter Try.func86, Try.ntmps86
    go_wp2
    go_ret
    exact ⟨ret_int (by simp [room]), (by repeat (first | (with_reducible exact Bel.refl _) | (with_reducible assumption) | (with_reducible refine Bel.drewN ?_ _) | (with_reducible refine Bel.drew ?_) | (with_reducible refine Bel.alloc ?_ _) | (with_reducible refine Bel.setNew ?_ ?_ _) | (with_reducible refine Bel.trans ?_ (by assumption)) | (focus (simp; done)) | (focus (simp; omega))))⟩
  · have b1 : 1 ≤ B := by omega
    have HR : Hid (room M B s = min M (B - s % B)) := by unfold room; rw [if_neg h0]; rfl
    clear h0
    have hm := Int.emod_lt_of_pos s (show 0 < B by omega)
    have hm' := Int.emod_nonneg s (show B ≠ 0 by omega)
    go_enter Try.func86, Try.ntmps86
    go_wp2
    go_quiet (fail)
    go_wp2
    all_goals
      go_ret
      exact ⟨ret_int (by rw [HR.out]; omega), (by repeat (first | (with_reducible exact Bel.refl _) | (with_reducible assumption) | (with_reducible refine Bel.drewN ?_ _) | (with_reducible refine Bel.drew ?_) | (with_reducible refine Bel.alloc ?_ _) | (with_reducible refine Bel.setNew ?_ ?_ _) | (with_reducible refine Bel.trans ?_ (by assumption)) | (focus (simp; done)) | (focus (simp; omega))))⟩

/-- Whether count sectors from s on fit. -/
def fits (M B s c : Int) : Bool := limOk M B && decide (0 ≤ s ∧ s ≤ 128 ∧ 1 ≤ c ∧ c ≤ room M B s)

set_option maxHeartbeats 800000 in
theorem splitFits_any (M B s c : Int) (w : World) :
    Calls Try.prog 58 #[.agg #[.int .i64 M, .int .i64 B], .int .i64 s, .int .i64 c] w fun e w' => e = .returned (.bool (fits M B s c)) ∧ Bel w w' := by
  have H1 := Lib.hid (splitValid_any M B)
  cases h : limOk M B
  · go_enter Try.func58, Try.ntmps58
    go_wp2_with (go_at_call 61; refine (H1.out _).mono ?_; rw [h]; rintro e w1 ⟨rfl, hb1⟩; have hc1 := hb1.cellAt)
    go_ret
    exact ⟨ret_bool (by simp [fits, h]), (by repeat (first | (with_reducible exact Bel.refl _) | (with_reducible assumption) | (with_reducible refine Bel.drewN ?_ _) | (with_reducible refine Bel.drew ?_) | (with_reducible refine Bel.alloc ?_ _) | (with_reducible refine Bel.setNew ?_ ?_ _) | (with_reducible refine Bel.trans ?_ (by assumption)) | (focus (simp; done)) | (focus (simp; omega))))⟩
  · by_cases h1 : 0 ≤ s ∧ s ≤ 128
    · obtain ⟨s1, s2⟩ := h1
      have H2 := Lib.hid (fun w => splitRoom_any M B s w h s1 (by omega))
      have HF := Lib.hid (show fits M B s c = decide (1 ≤ c ∧ c ≤ room M B s) by simp [fits, h, s1, s2])
      go_enter Try.func58, Try.ntmps58
      go_wp2_with (first
        | (go_at_call 61; refine (H1.out _).mono ?_; rw [h]; rintro e w1 ⟨rfl, hb1⟩; have hc1 := hb1.cellAt)
        | (go_at_call 86; refine (H2.out _).mono ?_; rintro e w2 ⟨rfl, hb2⟩))
      all_goals
        go_ret
        exact ⟨ret_bool (by rw [HF.out]; first | (simp [*]; done) | (simp; omega)), (by repeat (first | (with_reducible exact Bel.refl _) | (with_reducible assumption) | (with_reducible refine Bel.drewN ?_ _) | (with_reducible refine Bel.drew ?_) | (with_reducible refine Bel.alloc ?_ _) | (with_reducible refine Bel.setNew ?_ ?_ _) | (with_reducible refine Bel.trans ?_ (by assumption)) | (focus (simp; done)) | (focus (simp; omega))))⟩
    · have HF := Lib.hid (show fits M B s c = false by simp only [fits]; rw [Bool.and_eq_false_iff]; right; simp; omega)
      by_cases h2 : 0 ≤ s
      · have h3 : 128 < s := by omega
        clear h1
        go_enter Try.func58, Try.ntmps58
        go_wp2_with (go_at_call 61; refine (H1.out _).mono ?_; rw [h]; rintro e w1 ⟨rfl, hb1⟩; have hc1 := hb1.cellAt)
        all_goals
          go_ret
          exact ⟨ret_bool (by rw [HF.out]), (by repeat (first | (with_reducible exact Bel.refl _) | (with_reducible assumption) | (with_reducible refine Bel.drewN ?_ _) | (with_reducible refine Bel.drew ?_) | (with_reducible refine Bel.alloc ?_ _) | (with_reducible refine Bel.setNew ?_ ?_ _) | (with_reducible refine Bel.trans ?_ (by assumption)) | (focus (simp; done)) | (focus (simp; omega))))⟩
      · clear h1
        go_enter Try.func58, Try.ntmps58
        go_wp2_with (go_at_call 61; refine (H1.out _).mono ?_; rw [h]; rintro e w1 ⟨rfl, hb1⟩; have hc1 := hb1.cellAt)
        all_goals
          go_ret
          exact ⟨ret_bool (by rw [HF.out]), (by repeat (first | (with_reducible exact Bel.refl _) | (with_reducible assumption) | (with_reducible refine Bel.drewN ?_ _) | (with_reducible refine Bel.drew ?_) | (with_reducible refine Bel.alloc ?_ _) | (with_reducible refine Bel.setNew ?_ ?_ _) | (with_reducible refine Bel.trans ?_ (by assumption)) | (focus (simp; done)) | (focus (simp; omega))))⟩

/-- The reference's fits. -/
def rfits (M B s c : Int) : Bool := limOk M B && decide (0 ≤ s ∧ s ≤ 128 ∧ 1 ≤ c ∧ c ≤ M) && decide (B = 0 ∨ s / B = (s + c - 1) / B)

set_option maxHeartbeats 800000 in
theorem refFits_any (M B s c : Int) (w : World) :
    Calls Try.prog 25 #[.agg #[.int .i64 M, .int .i64 B], .int .i64 s, .int .i64 c] w fun e w' => e = .returned (.bool (rfits M B s c)) ∧ Bel w w' := by
  have H1 := Lib.hid (refLimits_any M B)
  cases h : limOk M B
  · have HF := Lib.hid (show rfits M B s c = false by simp [rfits, h])
    go_enter Try.func25, Try.ntmps25
    go_wp2_with (go_at_call 59; refine (H1.out _).mono ?_; rw [h]; rintro e w1 ⟨rfl, hb1⟩; have hc1 := hb1.cellAt)
    go_ret
    exact ⟨ret_bool (by rw [HF.out]), (by repeat (first | (with_reducible exact Bel.refl _) | (with_reducible assumption) | (with_reducible refine Bel.drewN ?_ _) | (with_reducible refine Bel.drew ?_) | (with_reducible refine Bel.alloc ?_ _) | (with_reducible refine Bel.setNew ?_ ?_ _) | (with_reducible refine Bel.trans ?_ (by assumption)) | (focus (simp; done)) | (focus (simp; omega))))⟩
  · obtain ⟨a1, a2, a3, a4⟩ : 1 ≤ M ∧ M ≤ 128 ∧ 0 ≤ B ∧ B ≤ 128 := by simpa [limOk] using h
    by_cases h1 : 0 ≤ s ∧ s ≤ 128 ∧ 1 ≤ c ∧ c ≤ M
    · obtain ⟨s1, s2, c1, c2⟩ := h1
      have HF := Lib.hid (show rfits M B s c = decide (B = 0 ∨ s / B = (s + c - 1) / B) by simp [rfits, h, s1, s2, c1, c2])
      by_cases h0 : B = 0
      · subst h0
        go_enter Try.func25, Try.ntmps25
        go_wp2_with (go_at_call 59; refine (H1.out _).mono ?_; rw [h]; rintro e w1 ⟨rfl, hb1⟩; have hc1 := hb1.cellAt)
        go_quiet (fail)
        go_wp2
        all_goals
          go_ret
          exact ⟨ret_bool (by rw [HF.out]; simp), (by repeat (first | (with_reducible exact Bel.refl _) | (with_reducible assumption) | (with_reducible refine Bel.drewN ?_ _) | (with_reducible refine Bel.drew ?_) | (with_reducible refine Bel.alloc ?_ _) | (with_reducible refine Bel.setNew ?_ ?_ _) | (with_reducible refine Bel.trans ?_ (by assumption)) | (focus (simp; done)) | (focus (simp; omega))))⟩
      · have h0' : (B == 0) = false := by simp [h0]
        have h0'' : 0 < B := by omega
        have HF' := Lib.hid (HF.out.trans (show _ = decide (s / B = (s + c - 1) / B) by simp [h0]))
        clear HF h0
        go_enter Try.func25, Try.ntmps25
        go_wp2_with (go_at_call 59; refine (H1.out _).mono ?_; rw [h]; rintro e w1 ⟨rfl, hb1⟩; have hc1 := hb1.cellAt)
        go_quiet (fail)
        go_wp2
        all_goals
          go_ret
          exact ⟨ret_bool (by rw [HF'.out]; first | rfl | (simp; done) | (simp; omega)), (by repeat (first | (with_reducible exact Bel.refl _) | (with_reducible assumption) | (with_reducible refine Bel.drewN ?_ _) | (with_reducible refine Bel.drew ?_) | (with_reducible refine Bel.alloc ?_ _) | (with_reducible refine Bel.setNew ?_ ?_ _) | (with_reducible refine Bel.trans ?_ (by assumption)) | (focus (simp; done)) | (focus (simp; omega))))⟩
    · have HF := Lib.hid (show rfits M B s c = false by simp only [rfits]; rw [Bool.and_eq_false_iff]; left; rw [Bool.and_eq_false_iff]; right; simp; omega)
      clear a1 a2 a3 a4
      go_enter Try.func25, Try.ntmps25
      go_wp2_with (go_at_call 59; refine (H1.out _).mono ?_; rw [h]; rintro e w1 ⟨rfl, hb1⟩; have hc1 := hb1.cellAt)
      all_goals
        first
        | (exfalso; omega)
        | (go_ret; exact ⟨ret_bool (by rw [HF.out]), (by repeat (first | (with_reducible exact Bel.refl _) | (with_reducible assumption) | (with_reducible refine Bel.drewN ?_ _) | (with_reducible refine Bel.drew ?_) | (with_reducible refine Bel.alloc ?_ _) | (with_reducible refine Bel.setNew ?_ ?_ _) | (with_reducible refine Bel.trans ?_ (by assumption)) | (focus (simp; done)) | (focus (simp; omega))))⟩)
end Go.Proofs.Ytbijfmpmgmfpgaa
