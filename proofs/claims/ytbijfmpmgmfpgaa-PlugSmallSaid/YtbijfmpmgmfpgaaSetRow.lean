/- A struct stored cell by cell. -/
import Derived.Test.YtbijfmpmgmfpgaaRows2
namespace Go.Proofs.Ytbijfmpmgmfpgaa
open Go.RowKit

theorem AtF.new_at {w : World} {g : Nat} (hg : g = w.heap.size) (t : TypeId) (cs : List Value) : AtF (w.alloc (.cells cs.toArray t)) g cs := by
  subst hg; exact AtF.new w t cs
/-- The cells vs are stored from cell i of block B on. -/
def setRow (w : World) (B : Nat) : Nat → List Value → World
  | _, [] => w
  | i, v :: vs => setRow (w.setCell ⟨B, i, none⟩ v) B (i + 1) vs
theorem setRow_at : ∀ (vs pre cs : List Value) (w : World) (B i : Nat), pre.length = i → cs.length = vs.length → AtF w B (pre ++ cs) → AtF (setRow w B i vs) B (pre ++ vs)
  | [], pre, cs, w, B, i, _, h2, h => by
    have : cs = [] := List.length_eq_zero_iff.1 (by simpa using h2)
    subst this; exact h
  | v :: vs, pre, c :: cs, w, B, i, h1, h2, h => by
    have h3 := h.set i (by simp; omega) v
    have e : (pre ++ c :: cs).set i v = (pre ++ [v]) ++ cs := by
      subst h1
      rw [List.set_append_right _ _ (Nat.le_refl _), Nat.sub_self]
      simp
    rw [e] at h3
    have := setRow_at vs (pre ++ [v]) cs (w.setCell ⟨B, i, none⟩ v) B (i + 1) (by simp; omega) (by simpa using h2) h3
    simpa [setRow] using this
  | v :: vs, _, [], _, _, _, _, h2, _ => by simp at h2
theorem AtF.setRow {w : World} {B : Nat} {cs : List Value} (h : AtF w B cs) (vs : List Value) (hl : cs.length = vs.length) : AtF (setRow w B 0 vs) B vs := by
  have := setRow_at vs [] cs w B 0 rfl hl (by simpa using h)
  simpa using this
theorem AtF.setRow_other {C : Nat} {cs : List Value} : ∀ (vs : List Value) {w : World} {B i : Nat}, AtF w C cs → C ≠ B → AtF (Proofs.Ytbijfmpmgmfpgaa.setRow w B i vs) C cs
  | [], _, _, _, h, _ => h
  | v :: vs, _, _, _, h, hne => AtF.setRow_other vs (h.other hne _ v) hne
theorem Rd.setRow {v : Value} {size n : Nat} {xs : List Value} : ∀ (vs : List Value) {w : World} {B i : Nat}, Rd w v size n xs → v.ownBlock ≠ some B → Rd (Proofs.Ytbijfmpmgmfpgaa.setRow w B i vs) v size n xs
  | [], _, _, _, h, _ => h
  | u :: vs, _, B, i, h, hne => Rd.setRow vs (h.far (p := ⟨B, i, none⟩) hne u) hne
theorem Bel.setRow {a : World} : ∀ (vs : List Value) {w : World} {B i : Nat}, Bel a w → a.heap.size ≤ B → Bel a (Proofs.Ytbijfmpmgmfpgaa.setRow w B i vs)
  | [], _, _, _, h, _ => h
  | u :: vs, _, _, _, h, hB => Bel.setRow vs (h.setNew hB u) hB
theorem setRow_own {base : Nat} {e : TypeId} {size : Nat} {v : Value} {n : Nat} {xs : List Value} : ∀ (vs : List Value) {w : World} {B i : Nat}, w.ownsRow base e size v n xs → v.ownBlock ≠ some B → (setRow w B i vs).ownsRow base e size v n xs
  | [], _, _, _, h, _ => h
  | u :: vs, _, B, i, h, hne => setRow_own vs (own_far h (p := ⟨B, i, none⟩) hne u) hne
end Go.Proofs.Ytbijfmpmgmfpgaa
