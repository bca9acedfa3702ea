/- The reference's Free, and its Add where there is room -/
import Derived.Test.YtpgjbocjhconoaaGreatK3
import Derived.Test.YtpgjbocjhconoaaGreatK1
import Derived.Test.YtpgjbocjhconoaaGreatK4
import Derived.Test.YtpgjbocjhconoaaGreatRBlk
import Derived.Test.YtpgjbocjhconoaaGreatPlD
namespace Go.Proofs.YtpgjbocjhconoaaGreat
open Go.RowKit Go.Maps
set_option linter.unusedSimpArgs false

theorem fits_bigR {M B s c : Int} (h : fits M B s c = true) : fits 128 0 s c = true := by
  unfold fits limOk room at h
  simp only [Bool.and_eq_true, decide_eq_true_eq] at h
  unfold fits limOk room
  simp only [Bool.and_eq_true, decide_eq_true_eq]
  obtain ⟨⟨a1, a2, a3, a4⟩, b1, b2, b3, b4⟩ := h
  have h5 : c ≤ 128 := by split at b4 <;> omega
  exact ⟨by decide, b1, b2, b3, by simpa using h5⟩
theorem can_bigR {M B : Int} {u v : Bu} (h : canU M B u v ≠ 0) : canU 128 0 u v = canU M B u v := by
  have ha := canU_alike h
  have ho := alike_ok ha
  have r1 := okU_range ho.1
  have r2 := okU_range ho.2.1
  unfold canU at h ⊢
  rw [if_pos ha] at h ⊢
  rw [if_pos ha]
  by_cases h1 : v.sec = u.sec + u.cnt ∧ fits M B u.sec (u.cnt + v.cnt) = true
  · rw [if_pos h1, if_pos ⟨h1.1, fits_bigR h1.2⟩]
  · rw [if_neg h1] at h ⊢
    by_cases h2 : u.sec = v.sec + v.cnt ∧ fits M B v.sec (u.cnt + v.cnt) = true
    · rw [if_pos h2, if_neg (fun g => by omega), if_pos ⟨h2.1, fits_bigR h2.2⟩]
    · rw [if_neg h2] at h
      exact absurd rfl h
theorem freeF_bu (L : List BM) (k : Nat) (y : BM) : freeF L k y = !((L.map BM.bu).drop k).any fun x => confU x y.bu := by
  unfold freeF
  rw [← List.map_drop, List.any_map]
  rfl

end Go.Proofs.YtpgjbocjhconoaaGreat
