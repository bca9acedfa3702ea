/- The plain law: no list of fitting spans is shorter than the greedy one. -/
import Derived.Test.YtchimkjbpmcpbaaSplitT
namespace Go.Proofs.Ytchimkjbpmcpbaa
open Go.RowKit

/-- A part of what fits fits. -/
theorem room_sub {M B x y : Int} (h : limOk M B = true) (hx : x ≤ y) (hy : y < x + room M B x) : x + room M B x ≤ y + room M B y := by
  obtain ⟨a1, a2, a3, a4⟩ : 1 ≤ M ∧ M ≤ 128 ∧ 0 ≤ B ∧ B ≤ 128 := by simpa [limOk] using h
  unfold room at *
  by_cases h0 : B = 0
  · simp only [h0, if_true] at *; omega
  · simp only [if_neg h0] at *
    have h1 := Int.mul_ediv_add_emod x B
    have h2 := Int.emod_nonneg x h0
    have h3 := Int.emod_lt_of_pos x (show 0 < B by omega)
    have h4 : y % B = x % B + (y - x) := by
      have e : y = (x % B + (y - x)) + B * (x / B) := by omega
      rw [e, Int.add_mul_emod_self_left, Int.emod_eq_of_lt (by omega) (by omega)]
      omega
    omega

/-- What the greedy cut of i sectors is. -/
def gr (M B s : Int) (i : Nat) : List (Int × Int) := splitGo M B i s i

theorem gr_zero (M B s : Int) : gr M B s 0 = [] := rfl
theorem gr_one {M B : Int} (h : limOk M B = true) (s : Int) : gr M B s 1 = [(s, 1)] := splitGo_one h s
theorem gr_step {M B : Int} (h : limOk M B = true) (s : Int) (i : Nat) (hi : 1 ≤ i) : ∃ init a k, gr M B s i = init ++ [(a, k)] ∧ a + k = s + i ∧ 1 ≤ k ∧ s ≤ a ∧
    gr M B s (i + 1) = if k + 1 ≤ room M B a then init ++ [(a, k + 1)] else init ++ [(a, k), (a + k, 1)] := by
  obtain ⟨init, a, k, e1, e2, e3, e4, e5⟩ := splitGo_step h i s i (by omega) (Int.le_refl _)
  exact ⟨init, a, k, e1, e2, e3, e4, by unfold gr; rw [← e5]; rfl⟩

/-- The last span fits, and ahead of it stands the greedy cut of what is ahead of it. -/
theorem gr_last {M B : Int} (h : limOk M B = true) (s : Int) : ∀ (i : Nat), 1 ≤ i → ∃ (j : Nat), j < i ∧ gr M B s i = gr M B s j ++ [(s + j, (i : Int) - j)] ∧ (i : Int) - j ≤ room M B (s + j)
  | 0, hi => by omega
  | 1, _ => ⟨0, by omega, by rw [gr_one h, gr_zero]; simp, by have := room_pos (s := s) h; simp; omega⟩
  | i + 2, _ => by
    obtain ⟨j, hj, e1, e2⟩ := gr_last h s (i + 1) (by omega)
    obtain ⟨init, a, k, f1, f2, f3, f4, f5⟩ := gr_step h s (i + 1) (by omega)
    rw [f1] at e1
    obtain ⟨rfl, e3⟩ := List.append_inj' e1 rfl
    simp only [List.cons.injEq, Prod.mk.injEq, and_true] at e3
    obtain ⟨rfl, rfl⟩ := e3
    by_cases hr : ((i + 1 : Nat) : Int) - j + 1 ≤ room M B (s + j)
    · rw [if_pos hr] at f5
      refine ⟨j, by omega, ?_, by omega⟩
      rw [f5, show ((i + 2 : Nat) : Int) - j = ((i + 1 : Nat) : Int) - j + 1 by omega]
    · rw [if_neg hr] at f5
      refine ⟨i + 1, by omega, ?_, by have := room_pos (s := s + ((i + 1 : Nat) : Int)) h; omega⟩
      rw [f5, f1, show ((i + 2 : Nat) : Int) - ((i + 1 : Nat) : Int) = 1 by omega, show s + (j : Int) + (((i + 1 : Nat) : Int) - j) = s + ((i + 1 : Nat) : Int) by omega]
      simp

/-- One fitting span is at least as good as the greedy cut. -/
theorem gr_bound {M B : Int} (h : limOk M B = true) (s : Int) (x i : Nat) (hx : (i : Int) - x ≤ room M B (s + x)) : ∀ (t : Nat), x ≤ t → t ≤ i →
    (gr M B s t).length = (gr M B s x).length ∨ ((gr M B s t).length = (gr M B s x).length + 1 ∧ ∃ init a k, gr M B s t = init ++ [(a, k)] ∧ s + x ≤ a ∧ a + k = s + t) := by
  intro t
  induction t with
  | zero => intro h1 _; obtain rfl : x = 0 := by omega
            exact .inl rfl
  | succ t ih =>
    intro h1 h2
    by_cases hxt : x = t + 1
    · subst hxt; exact .inl rfl
    · by_cases ht : t = 0
      · subst ht
        obtain rfl : x = 0 := by omega
        refine .inr ⟨by rw [gr_one h, gr_zero]; rfl, [], s, 1, by rw [gr_one h]; rfl, by simp, by simp⟩
      · obtain ⟨init, a, k, f1, f2, f3, f4, f5⟩ := gr_step h s t (by omega)
        have hl : (gr M B s t).length = init.length + 1 := by rw [f1]; simp
        rcases ih (by omega) (by omega) with h3 | ⟨h3, init', a', k', g1, g2, g3⟩
        · by_cases hr : k + 1 ≤ room M B a
          · rw [if_pos hr] at f5
            left; rw [f5, ← h3, hl]; simp
          · rw [if_neg hr] at f5
            right
            refine ⟨by rw [f5, ← h3, hl]; simp, init ++ [(a, k)], a + k, 1, by rw [f5]; simp, by omega, by omega⟩
        · rw [f1] at g1
          obtain ⟨rfl, g4⟩ := List.append_inj' g1 rfl
          simp only [List.cons.injEq, Prod.mk.injEq, and_true] at g4
          obtain ⟨rfl, rfl⟩ := g4
          have hsub := room_sub (x := s + x) (y := a) h g2 (by omega)
          rw [if_pos (show k + 1 ≤ room M B a by omega)] at f5
          right
          refine ⟨by rw [f5, ← h3, hl]; simp, init, a, k + 1, by rw [f5], g2, by omega⟩

theorem innerB_le {b : Nat → Int} {f : Nat → Bool} : ∀ (n k : Nat), 1 ≤ k → k ≤ n → f k = true → innerB b f n ≤ b k + 1
  | 0, k, h1, h2, _ => by omega
  | n + 1, k, h1, h2, hf => by
    by_cases hk : k = n + 1
    · subst hk; rw [innerB_take hf]; omega
    · have := innerB_le (b := b) n k h1 (by omega) hf
      cases hfn : f (n + 1)
      · rw [innerB_skip hfn]; exact this
      · rw [innerB_take hfn]; omega
theorem innerB_ge {b : Nat → Int} {f : Nat → Bool} {X : Int} (hX : X ≤ 1048576) : ∀ (n : Nat), (∀ k, 1 ≤ k → k ≤ n → f k = true → X ≤ b k + 1) → X ≤ innerB b f n
  | 0, _ => hX
  | n + 1, h => by
    have := innerB_ge (b := b) hX n fun k h1 h2 => h k h1 (by omega)
    cases hfn : f (n + 1)
    · rw [innerB_skip hfn]; exact this
    · have := h (n + 1) (by omega) (Nat.le_refl _) hfn
      rw [innerB_take hfn]; omega

theorem gr_len {M B : Int} (h : limOk M B = true) (s : Int) : ∀ i, (gr M B s i).length ≤ i
  | 0 => by rw [gr_zero]; simp
  | 1 => by rw [gr_one h]; simp
  | i + 2 => by
    obtain ⟨init, a, k, f1, f2, f3, f4, f5⟩ := gr_step h s (i + 1) (by omega)
    have := gr_len h s (i + 1)
    rw [f1] at this
    rw [f5]
    simp at this
    split <;> simp <;> omega

theorem best_gr {M B s : Int} (h : limOk M B = true) (hs : 0 ≤ s) : ∀ (i : Nat), s + i ≤ 128 → bestAt (fun i k : Nat => rfits M B (s + i - k) k) i = (gr M B s i).length := by
  intro i
  induction i using Nat.strongRecOn with
  | _ i ih =>
    intro hi
    by_cases h0 : i = 0
    · subst h0; rfl
    · rw [bestAt_succ _ i (by omega)]
      have hb : ∀ k, 1 ≤ k → k ≤ i → bestAt (fun i k : Nat => rfits M B (s + i - k) k) (i - k) = (gr M B s (i - k)).length := fun k h1 h2 => ih (i - k) (by omega) (by omega)
      have hf : ∀ k : Nat, 1 ≤ k → k ≤ i → (rfits M B (s + i - k) k = true ↔ (i : Int) - ((i - k : Nat) : Int) ≤ room M B (s + ((i - k : Nat) : Int))) := by
        intro k h1 h2
        rw [rfits_eq]
        simp only [fits, h, Bool.true_and, decide_eq_true_eq]
        rw [show s + ((i - k : Nat) : Int) = s + i - k by omega]
        omega
      apply Int.le_antisymm
      · obtain ⟨j, hj, e1, e2⟩ := gr_last h s i (by omega)
        have h1 := innerB_le (b := fun k => bestAt (fun i k : Nat => rfits M B (s + i - k) k) (i - k)) (f := fun k : Nat => rfits M B (s + i - k) k) i (i - j) (by omega) (by omega) ((hf (i - j) (by omega) (by omega)).2 (by rw [show i - (i - j) = j by omega]; exact e2))
        refine Int.le_trans h1 ?_
        rw [hb (i - j) (by omega) (by omega), show i - (i - j) = j by omega, e1]
        simp
      · have hl := gr_len h s i
        refine innerB_ge (by omega) i fun k h1 h2 hk => ?_
        rw [hb k h1 h2]
        have h3 := gr_bound h s (i - k) i ((hf k h1 h2).1 hk) i (by omega) (Nat.le_refl _)
        rcases h3 with h3 | ⟨h3, _⟩ <;> omega

theorem splitL_len {M B s c : Int} (h : limOk M B = true) (hs : 0 ≤ s) (hc : 1 ≤ c) (hsc : s + c ≤ 128) : ((splitL M B s c).length : Int) = bestAt (fun i k : Nat => rfits M B (s + i - k) k) c.toNat := by
  rw [best_gr h hs c.toNat (by omega)]
  have e : splitL M B s c = splitGo M B c.toNat s c := by simp [splitL, h, hs, hc]; omega
  rw [e]
  unfold gr
  rw [show ((c.toNat : Nat) : Int) = c by omega]
end Go.Proofs.Ytchimkjbpmcpbaa
