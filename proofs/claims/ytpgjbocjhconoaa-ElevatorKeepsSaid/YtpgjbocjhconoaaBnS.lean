/- A row of bunches of the call's own, behind an append of one. -/
import Derived.Test.YtpgjbocjhconoaaBnsN
namespace Go.Proofs.Ytpgjbocjhconoaa
open Go.RowKit Go.Maps
set_option linter.unusedSimpArgs false

theorem BN.snoc {w1 w3 : World} {base wz : Nat} {v v' : Value} {L : List BM} {x : BM} {o : Obj} (h : BN w1 base v L) (hm : Mems w1 x.b x.ms) (hx : ∀ k, (Value.slice x.b.mA x.b.mL x.b.mC).ownBlock = some k → wz ≤ k) (hb : base ≤ wz) (hv : ∀ k, v.ownBlock = some k → k < wz)
    (hown : w3.ownsRow base 42 9 v' (L.length + 1) (bmc L ++ x.b.cells)) (hg : (w1.alloc o).grownBy w3 v.ownBlock) (hl : v'.ownBlock = v.ownBlock ∨ v'.ownBlock = some (w1.alloc o).heap.size) : BN w3 base v' (L ++ [x]) := by
  have key : ∀ y : BM, Mems w1 y.b y.ms → (0 < y.ms.length → ∀ k, (Value.slice y.b.mA y.b.mL y.b.mC).ownBlock = some k → v.ownBlock ≠ some k) → Mems w3 y.b y.ms ∧ (0 < y.ms.length → ∀ k, (Value.slice y.b.mA y.b.mL y.b.mC).ownBlock = some k → v'.ownBlock ≠ some k) := by
    intro y hy hs
    refine ⟨⟨hy.len, ?_, hy.ids, hy.dl⟩, fun h0 k hk => ?_⟩
    · by_cases h0 : 0 < y.ms.length
      · exact (hy.rd.alloc _).grown hg (fun b hb' => hs h0 b hb')
      · exact hy.rd.empty h0 _
    · rcases hl with e | e
      · rw [e]; exact hs h0 k hk
      · rw [e]
        intro e2
        have h3 := hy.rd.own_lt h0 (k := k) hk
        simp at e2; omega
  have all : ∀ y ∈ L ++ [x], Mems w3 y.b y.ms ∧ (0 < y.ms.length → ∀ k, (Value.slice y.b.mA y.b.mL y.b.mC).ownBlock = some k → v'.ownBlock ≠ some k) := by
    intro y hy
    rw [List.mem_append, List.mem_singleton] at hy
    rcases hy with hy | rfl
    · exact key y (h.bo.mem y hy) (h.bo.sep y hy)
    · exact key y hm (fun _ k hk e => by have h1 := hx k hk; have h2 := hv k e; omega)
  refine ⟨⟨by rw [List.length_append, bmc_snoc]; exact hown, fun y hy => (all y hy).1, fun y hy => (all y hy).2⟩, fun j y hj hy h0 k hk => ?_⟩
  rw [List.getElem?_append] at hy
  split at hy
  · rename_i hlt; exact h.fr j y hlt hy h0 k hk
  · have : y = x := by
      have := List.mem_of_getElem? hy
      simpa using this
    subst this
    exact Nat.le_trans hb (hx k hk)
end Go.Proofs.Ytpgjbocjhconoaa
