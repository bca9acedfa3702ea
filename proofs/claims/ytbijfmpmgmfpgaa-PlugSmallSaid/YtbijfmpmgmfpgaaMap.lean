/- A set of ints that a call makes: a map from int to bool, asked by its key. -/
import Derived.Test.YtbijfmpmgmfpgaaRows2
import Derived.Maps.OwnOps
import Derived.Maps.OwnSet
import Derived.Maps.Views
namespace Go.Proofs.Ytbijfmpmgmfpgaa
open Go.RowKit Go.Maps

theorem plainElem_bool_inv {H : Type} {P : Program} {e : TypeId} (he : P.underlying e = some .bool) {v : Value} {z : DataW H × List MemPlace} (h : plainElem P e v = some z) : ∃ x, v = .bool x ∧ z = (.lit (.bool x), []) := by
  unfold plainElem at h
  rw [he] at h
  cases v <;> simp at h
  subst h
  exact ⟨_, rfl, rfl⟩
theorem own_lookup_bool {H : Type} {P : Program} {k e t : TypeId} {w : World} {b n : Nat} {D : DataW H} (h : w.ownsMap P k (plainElem P e) b n D) (K : Keyed P k) (ht : P.underlying t = some (.map k e)) (he : P.underlying e = some .bool) (hz : (zeroValue e).run P w = .ok (.bool false) w)
    {key : Value} {kl : Lit} (hkey : keyOf P k key = some kl) {c : Bool} (hc : D.atKey kl (.lit (.bool false)) = .lit (.bool c)) : (Instr.lookup t (.map (some b)) key false).run P w = .ok (.bool c) w := by
  obtain ⟨v, ps, hrun, hv⟩ := h.lookup K ht hz (plainElem_bool he false) hkey
  obtain ⟨x, rfl, hx⟩ := plainElem_bool_inv he hv
  simp only [Prod.mk.injEq] at hx
  rw [hc] at hx
  have := hx.1
  cases this
  exact hrun

/-- The map that holds the ids of a list. -/
def seenD : List Int → DataW Unit
  | [] => .map []
  | x :: l => (seenD l).put (.int .i64 x) (.lit (.bool true))
theorem seenD_isMap : ∀ l, IsMap (seenD l)
  | [] => ⟨[], rfl⟩
  | _ :: l => (seenD_isMap l).put _ _
theorem seenD_at (x : Int) : ∀ l : List Int, (seenD l).atKey (.int .i64 x) (.lit (.bool false)) = .lit (.bool (l.contains x))
  | [] => by simp [seenD, DataW.atKey]
  | y :: l => by
    unfold seenD
    by_cases h : x = y
    · subst h
      rw [atKey_put_same (seenD_isMap l) (by simp [WideAt.IsKeyLit])]
      simp
    · rw [atKey_put_other (by simpa using h), seenD_at x l]
      simp [h]
end Go.Proofs.Ytbijfmpmgmfpgaa
