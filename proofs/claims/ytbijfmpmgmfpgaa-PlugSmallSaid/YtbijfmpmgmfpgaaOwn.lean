/- Rows that a call owns: small lemmas. -/
import Derived.Test.YtbijfmpmgmfpgaaBase
import Derived.Maps.AppendAt
import Derived.Deep.AppendLies
namespace Go.Proofs.Ytbijfmpmgmfpgaa
open Go.RowKit

theorem own_mono {w : World} {base base' : Nat} {e : TypeId} {size : Nat} {v : Value} {n : Nat} {xs : List Value} (h : w.ownsRow base e size v n xs) (hb : base' ≤ base) : w.ownsRow base' e size v n xs := by
  refine ⟨h.1, ?_⟩
  rcases h.2 with h2 | ⟨g, cap, cur, hv, hg, r⟩
  · exact Or.inl h2
  · exact Or.inr ⟨g, cap, cur, hv, Nat.le_trans hb hg, r⟩
theorem own_keep {w w' : World} {base : Nat} {e : TypeId} {size : Nat} {v : Value} {n : Nat} {xs : List Value} (h : w.ownsRow base e size v n xs) (hb : Bel w w') : w'.ownsRow base e size v n xs := by
  refine ⟨h.1, ?_⟩
  rcases h.2 with h2 | ⟨g, cap, cur, hv, hg, hh, r⟩
  · exact Or.inl h2
  · exact Or.inr ⟨g, cap, cur, hv, hg, by rw [hb.block g (Array.getElem?_eq_some_iff.1 hh).1]; exact hh, r⟩
/-- Behind an append onto a row that lies from base on: below base nothing has turned. -/
theorem below_own {a w w' : World} {base : Nat} {e : TypeId} {size : Nat} {v : Value} {n : Nat} {xs : List Value} (h : Below base a w) (ho : w.ownsRow base e size v n xs) (hg : w.grownBy w' v.ownBlock) (hB : base ≤ w.heap.size) : Below base a w' :=
  Below.grown h hg hB fun k hk => (ho.lt k hk).1

theorem add_zero_off (g j : Nat) : (⟨g, 0, none⟩ : Addr).add j = ⟨g, j, none⟩ := by
  unfold Addr.add; split
  · rename_i h; subst h; rfl
  · simp
/-- The cells of a block that has just been made. -/
theorem cells_new (w : World) (cs : List Value) (t : TypeId) : ∀ j u, cs[j]? = some u → (w.alloc (.cells cs.toArray t)).cell? ((⟨w.heap.size, 0, none⟩ : Addr).add j) = some u := by
  intro j u hu
  rw [add_zero_off]
  simpa [go_sem] using hu
/-- Behind an append onto a row of the call's own: what lay in a lies there still. -/
theorem bel_own {a w w' : World} {base : Nat} {e : TypeId} {size : Nat} {v : Value} {n : Nat} {xs : List Value} (h : Bel a w) (ho : w.ownsRow base e size v n xs) (hg : w.grownBy w' v.ownBlock) (hB : a.heap.size ≤ base) : Bel a w' :=
  Below.grown h hg h.size fun k hk => Nat.le_trans hB (ho.lt k hk).1

/-- A slice value of n elements, nil let in, that reads as the cells xs. -/
def Rd (w : World) (v : Value) (size n : Nat) (xs : List Value) : Prop :=
  xs.length = n * size ∧ ∃ A c, v = .slice A n c ∧ n ≤ c ∧ c ≤ maxLen ∧ (0 < n → ∃ b o, A = some ⟨b, o, none⟩ ∧ b < w.heap.size ∧ ∀ j u, xs[j]? = some u → w.cell? ⟨b, o + j, none⟩ = some u)
theorem Rd.bel {w w' : World} {v : Value} {size n : Nat} {xs : List Value} (h : Rd w v size n xs) (hb : Bel w w') : Rd w' v size n xs := by
  obtain ⟨h1, A, c, hv, hc, hm, hr⟩ := h
  refine ⟨h1, A, c, hv, hc, hm, fun hn => ?_⟩
  obtain ⟨b, o, hA, hlt, hcell⟩ := hr hn
  exact ⟨b, o, hA, Nat.lt_of_lt_of_le hlt hb.size, fun j u hu => by rw [hb.cellAt b (o + j) hlt]; exact hcell j u hu⟩
theorem Rd.own {w : World} {base : Nat} {e : TypeId} {size : Nat} {v : Value} {n : Nat} {xs : List Value} (h : w.ownsRow base e size v n xs) : Rd w v size n xs := by
  refine ⟨h.1, ?_⟩
  rcases h.2 with ⟨rfl, rfl⟩ | ⟨g, cap, cur, rfl, hb, hg, hn, hm, hs, ht⟩
  · exact ⟨none, 0, rfl, Nat.le_refl _, by unfold maxLen; omega, fun h => absurd h (by omega)⟩
  · refine ⟨_, cap, rfl, hn, hm, fun _ => ⟨g, 0, rfl, (Array.getElem?_eq_some_iff.1 hg).1, fun j u hu => ?_⟩⟩
    have := h.cells (g := g) rfl j u hu
    rw [add_zero_off] at this
    rwa [Nat.zero_add]
theorem Rd.nil (w : World) (size : Nat) : Rd w (.slice none 0 0) size 0 [] := ⟨by simp, none, 0, rfl, Nat.le_refl _, by unfold maxLen; omega, fun h => absurd h (by omega)⟩
/-- A block that has just been made, as a slice. -/
theorem Rd.new (w : World) (t : TypeId) (cs : List Value) (size n : Nat) (h : cs.length = n * size) (hm : n ≤ maxLen) : Rd (w.alloc (.cells cs.toArray t)) (.slice (some ⟨w.heap.size, 0, none⟩) n n) size n cs :=
  ⟨h, _, n, rfl, Nat.le_refl _, hm, fun _ => ⟨w.heap.size, 0, rfl, by simp, fun j u hu => by
    have := cells_new w cs t j u hu
    rw [add_zero_off] at this
    rwa [Nat.zero_add]⟩⟩
end Go.Proofs.Ytbijfmpmgmfpgaa
