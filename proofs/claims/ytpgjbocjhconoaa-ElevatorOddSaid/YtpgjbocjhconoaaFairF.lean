/- The law's made. -/
import Derived.Test.YtpgjbocjhconoaaK8
namespace Go.Proofs.Ytpgjbocjhconoaa
open Go.RowKit
set_option linter.unusedSimpArgs false

theorem Ints.three (w : World) (t : TypeId) {a b c : Int} (ha : IsInt a) (hb : IsInt b) (hc : IsInt c) : Ints (w.alloc (.cells #[.int .i64 a, .int .i64 b, .int .i64 c] t)) (.slice (some ⟨w.heap.size, 0, none⟩) 3 3) [a, b, c] := by
  refine ⟨?_, _, 3, rfl, Nat.le_refl _, by unfold maxLen; omega, fun _ => ⟨w.heap.size, 0, rfl, by simp, ?_⟩⟩
  · intro z hz
    simp at hz
    rcases hz with rfl | rfl | rfl <;> assumption
  · intro j hj
    match j, hj with
    | 0, _ => simp [go_sem]
    | 1, _ => simp [go_sem]
    | 2, _ => simp [go_sem]
    | j + 3, h => exact absurd h (by simp)

def madeF (n : Int) : List (Int × Int) := newF [1 + rnd n 8, 1 + rnd (n / 8) 8, 1 + rnd (n / 64) 8]
theorem madeF_ok (n : Int) : fairOk 0 (madeF n) = true := by
  have h1 := rnd_lo n 8
  have h2 := rnd_hi n 8 (by omega)
  have h3 := rnd_lo (n / 8) 8
  have h4 := rnd_hi (n / 8) 8 (by omega)
  have h5 := rnd_lo (n / 64) 8
  have h6 := rnd_hi (n / 64) 8 (by omega)
  simp [fairOk, madeF, newF, flowOk, timeB]
  omega

theorem madeF_eq (n : Int) : ∃ a b c, Hid (a = rnd n 8) ∧ Hid (b = rnd (n / 8) 8) ∧ Hid (c = rnd (n / 64) 8) ∧ (0 ≤ a ∧ a ≤ 7) ∧ (0 ≤ b ∧ b ≤ 7) ∧ (0 ≤ c ∧ c ≤ 7) ∧ Hid (madeF n = newF [1 + a, 1 + b, 1 + c]) := by
  have h2 := rnd_hi n 8 (by omega)
  have h4 := rnd_hi (n / 8) 8 (by omega)
  have h6 := rnd_hi (n / 64) 8 (by omega)
  exact ⟨_, _, _, rfl, rfl, rfl, ⟨rnd_lo _ _, by omega⟩, ⟨rnd_lo _ _, by omega⟩, ⟨rnd_lo _ _, by omega⟩, rfl⟩

end Go.Proofs.Ytpgjbocjhconoaa
