/- Plain laws of picking by deadlines. -/
import Derived.Test.YtdffpnogfinehaaFree
namespace Go.Proofs.Ytdffpnogfinehaa
open Go.RowKit Go.Maps

theorem pickB_some {good : Nat → Bool} {key : Nat → Int} : ∀ {n i : Nat}, i < n → good i = true → ∃ k, pickB good key n = some k
  | 0, i, h, _ => absurd h (by omega)
  | n + 1, i, h, hg => by
    unfold pickB
    by_cases hn : good n = true
    · rw [if_pos hn]
      split
      · exact ⟨n, rfl⟩
      · split
        · exact ⟨n, rfl⟩
        · exact ⟨_, rfl⟩
    · rw [if_neg hn]
      have : i < n := by
        by_cases e : i = n
        · subst e; exact absurd hg hn
        · omega
      exact pickB_some this hg
theorem pickD_good {L : List QM} {may : List Bool} {head now : Int} {n k : Nat} (h : pickD L may head now n = some k) : k < n ∧ mayAt may k = true := by
  unfold pickD at h
  split at h
  · rename_i k' hk
    cases h
    have := pickB_lt _ _ _ _ hk
    simp only [Bool.and_eq_true] at this
    exact ⟨this.1, this.2.1⟩
  · split at h
    · rename_i k' hk
      cases h
      have := pickB_lt _ _ _ _ hk
      simp only [Bool.and_eq_true] at this
      exact ⟨this.1, this.2.1⟩
    · exact pickB_lt _ _ _ _ h
theorem pickD_some {L : List QM} {may : List Bool} {head now : Int} {n i : Nat} (hi : i < n) (hm : mayAt may i = true) : ∃ k, pickD L may head now n = some k := by
  unfold pickD
  split
  · exact ⟨_, rfl⟩
  · split
    · exact ⟨_, rfl⟩
    · exact pickB_some hi hm
theorem blk_zero {L : List QM} (h : 0 < L.length) : blkN L 0 [] = false := by
  unfold blkN
  rw [List.getElem?_eq_getElem h]
  rfl
/-- An entry is picked, and nothing ahead of it conflicts with it. -/
theorem pick_free {L : List QM} (head now : Int) (h : 0 < L.length) : ∃ k y, pickD L (freeN L [] L.length) head now L.length = some k ∧ k < L.length ∧ L[k]? = some y ∧ blkN L k [] = false ∧ ∀ j x, j < k → L[j]? = some x → confB x.bm y.bm = false := by
  obtain ⟨k, hk⟩ := pickD_some (L := L) (head := head) (now := now) (i := 0) h (by rw [freeN_at h, blk_zero h]; rfl)
  obtain ⟨h1, h2⟩ := pickD_good hk
  rw [freeN_at h1] at h2
  have h3 : blkN L k [] = false := by simpa using h2
  refine ⟨k, L[k], hk, h1, List.getElem?_eq_getElem h1, h3, fun j x hj hx => ?_⟩
  unfold blkN at h3
  rw [List.getElem?_eq_getElem h1] at h3
  simp only [Bool.or_eq_false_iff] at h3
  have h4 := h3.1
  rw [List.any_eq_false] at h4
  have h5 := h4 x (by
    rw [List.mem_take_iff_getElem]
    obtain ⟨g1, g2⟩ := List.getElem?_eq_some_iff.1 hx
    exact ⟨j, by omega, g2⟩)
  simpa using h5
end Go.Proofs.Ytdffpnogfinehaa
