/-
  No cell of these rows narrows 'for every input' (looked for: loops, veiled, ifaces, maps, wideKeys, modest, calm, conditions, laid).
  DERIVED. THE GIVEN ROWS OF THIS SEAT. 6 by the template 'for every input the law returns true; each argument reads behind the call as it read before'; 0 by the template 'total and deterministic' (their statements: YtdffpnogfinehaaTotals.lean).
  GIVEN WITH THE SEED: the statements are not yours to turn. If you find one false, say at which input.
  Laid BY PROGRAM, IN A SANDBOX (cutbox-rows.mjs): the forced cells as the released guide's own fill.sh prints them over the translation dd0581b1d9660d8c… (all of the seat's roots in one cut). By AI agents, Wed Nov 11 2026. No macro, syntax, notation, axiom, sorry.
-/
import Derived.Test.YtdffpnogfinehaaChecked
import GoSem.Claim
import GoSem.ClaimJoined
import GoSem.ClaimMapViews
import Derived.JoinedTies
import Derived.KernelRfl
namespace Go.Proofs.Ytdffpnogfinehaa
/- THE CELL 'sum', in the pinned program and in every row, IS THE sha256 OF THE DUMP (.gsa) THAT YtdffpnogfinehaaProg.lean LOADS. Nothing in Lean hashes anything: it is a label: what it is worth is what the hold of that sum in a sandbox is worth. -/
noncomputable def Try.pinned : Pinned := { name := "ytdffpnogfinehaa", sum := "dd0581b1d9660d8c17059d38774e56621a3983365e9bcef36e779ad9ce1dd272", checked := Try.checked }
namespace Rows
def none {H : Type} : Left H := { results := [], args := [] }

/-- 'pagecachelaw30.DeadlineOrder': WHATEVER THE INPUT: true; the input reads as it did. -/
def deadlineOrderSpec : ChangeSpec := { name := "deadlineOrder", fn := fun _ => fun
  | [d1, d2, d3] => { results := [.lit (.bool true)], args := [d1, d2, d3] }
  | _ => none }
def deadlineOrderRow : OpenClaim := { program := "ytdffpnogfinehaa", sum := "dd0581b1d9660d8c17059d38774e56621a3983365e9bcef36e779ad9ce1dd272", func := "pagecache/pagecachelaw30.DeadlineOrder", spec := "deadlineOrder", unfollowed := true, recurses := true, apart := false }
def DeadlineOrderSaid : Prop := deadlineOrderRow.holds Try.pinned (OpenSpec.ofChange deadlineOrderSpec)

/-- ITS FALSE NEIGHBOUR: 'it returns false'. Refute it at one input. -/
def deadlineOrderWrong : ChangeSpec := { name := "deadlineOrder", fn := fun _ => fun
  | [d1, d2, d3] => { results := [.lit (.bool false)], args := [d1, d2, d3] }
  | _ => none }
def DeadlineOrderWrongFalsely : Prop := deadlineOrderRow.holds Try.pinned (OpenSpec.ofChange deadlineOrderWrong)

/-- 'pagecachelaw30.DeadlineBound': WHATEVER THE INPUT: true; the input reads as it did. -/
def deadlineBoundSpec : ChangeSpec := { name := "deadlineBound", fn := fun _ => fun
  | [d1, d2, d3] => { results := [.lit (.bool true)], args := [d1, d2, d3] }
  | _ => none }
def deadlineBoundRow : OpenClaim := { program := "ytdffpnogfinehaa", sum := "dd0581b1d9660d8c17059d38774e56621a3983365e9bcef36e779ad9ce1dd272", func := "pagecache/pagecachelaw30.DeadlineBound", spec := "deadlineBound", unfollowed := true, recurses := true, apart := false }
def DeadlineBoundSaid : Prop := deadlineBoundRow.holds Try.pinned (OpenSpec.ofChange deadlineBoundSpec)

/-- ITS FALSE NEIGHBOUR: 'it returns false'. Refute it at one input. -/
def deadlineBoundWrong : ChangeSpec := { name := "deadlineBound", fn := fun _ => fun
  | [d1, d2, d3] => { results := [.lit (.bool false)], args := [d1, d2, d3] }
  | _ => none }
def DeadlineBoundWrongFalsely : Prop := deadlineBoundRow.holds Try.pinned (OpenSpec.ofChange deadlineBoundWrong)

/-- 'pagecachelaw30.DeadlineSweep': WHATEVER THE INPUT: true; the input reads as it did. -/
def deadlineSweepSpec : ChangeSpec := { name := "deadlineSweep", fn := fun _ => fun
  | [d1, d2] => { results := [.lit (.bool true)], args := [d1, d2] }
  | _ => none }
def deadlineSweepRow : OpenClaim := { program := "ytdffpnogfinehaa", sum := "dd0581b1d9660d8c17059d38774e56621a3983365e9bcef36e779ad9ce1dd272", func := "pagecache/pagecachelaw30.DeadlineSweep", spec := "deadlineSweep", unfollowed := true, recurses := true, apart := false }
def DeadlineSweepSaid : Prop := deadlineSweepRow.holds Try.pinned (OpenSpec.ofChange deadlineSweepSpec)

/-- ITS FALSE NEIGHBOUR: 'it returns false'. Refute it at one input. -/
def deadlineSweepWrong : ChangeSpec := { name := "deadlineSweep", fn := fun _ => fun
  | [d1, d2] => { results := [.lit (.bool false)], args := [d1, d2] }
  | _ => none }
def DeadlineSweepWrongFalsely : Prop := deadlineSweepRow.holds Try.pinned (OpenSpec.ofChange deadlineSweepWrong)

/-- 'pagecachelaw30.DeadlineSorts': WHATEVER THE INPUT: true; the input reads as it did. -/
def deadlineSortsSpec : ChangeSpec := { name := "deadlineSorts", fn := fun _ => fun
  | [d1, d2] => { results := [.lit (.bool true)], args := [d1, d2] }
  | _ => none }
def deadlineSortsRow : OpenClaim := { program := "ytdffpnogfinehaa", sum := "dd0581b1d9660d8c17059d38774e56621a3983365e9bcef36e779ad9ce1dd272", func := "pagecache/pagecachelaw30.DeadlineSorts", spec := "deadlineSorts", unfollowed := true, recurses := true, apart := false }
def DeadlineSortsSaid : Prop := deadlineSortsRow.holds Try.pinned (OpenSpec.ofChange deadlineSortsSpec)

/-- ITS FALSE NEIGHBOUR: 'it returns false'. Refute it at one input. -/
def deadlineSortsWrong : ChangeSpec := { name := "deadlineSorts", fn := fun _ => fun
  | [d1, d2] => { results := [.lit (.bool false)], args := [d1, d2] }
  | _ => none }
def DeadlineSortsWrongFalsely : Prop := deadlineSortsRow.holds Try.pinned (OpenSpec.ofChange deadlineSortsWrong)

/-- 'pagecachelaw30.DeadlineExact': WHATEVER THE INPUT: true; the input reads as it did. -/
def deadlineExactSpec : ChangeSpec := { name := "deadlineExact", fn := fun _ => fun
  | [d1, d2, d3, d4, d5, d6, d7] => { results := [.lit (.bool true)], args := [d1, d2, d3, d4, d5, d6, d7] }
  | _ => none }
def deadlineExactRow : OpenClaim := { program := "ytdffpnogfinehaa", sum := "dd0581b1d9660d8c17059d38774e56621a3983365e9bcef36e779ad9ce1dd272", func := "pagecache/pagecachelaw30.DeadlineExact", spec := "deadlineExact", unfollowed := true, recurses := true, apart := false }
def DeadlineExactSaid : Prop := deadlineExactRow.holds Try.pinned (OpenSpec.ofChange deadlineExactSpec)

/-- ITS FALSE NEIGHBOUR: 'it returns false'. Refute it at one input. -/
def deadlineExactWrong : ChangeSpec := { name := "deadlineExact", fn := fun _ => fun
  | [d1, d2, d3, d4, d5, d6, d7] => { results := [.lit (.bool false)], args := [d1, d2, d3, d4, d5, d6, d7] }
  | _ => none }
def DeadlineExactWrongFalsely : Prop := deadlineExactRow.holds Try.pinned (OpenSpec.ofChange deadlineExactWrong)

/-- 'pagecachelaw30.DeadlineSmall': WHATEVER THE INPUT: true; the input reads as it did. -/
def deadlineSmallSpec : ChangeSpec := { name := "deadlineSmall", fn := fun _ => fun
  | [d1, d2, d3, d4, d5, d6] => { results := [.lit (.bool true)], args := [d1, d2, d3, d4, d5, d6] }
  | _ => none }
def deadlineSmallRow : OpenClaim := { program := "ytdffpnogfinehaa", sum := "dd0581b1d9660d8c17059d38774e56621a3983365e9bcef36e779ad9ce1dd272", func := "pagecache/pagecachelaw30.DeadlineSmall", spec := "deadlineSmall", unfollowed := true, recurses := true, apart := false }
def DeadlineSmallSaid : Prop := deadlineSmallRow.holds Try.pinned (OpenSpec.ofChange deadlineSmallSpec)

/-- ITS FALSE NEIGHBOUR: 'it returns false'. Refute it at one input. -/
def deadlineSmallWrong : ChangeSpec := { name := "deadlineSmall", fn := fun _ => fun
  | [d1, d2, d3, d4, d5, d6] => { results := [.lit (.bool false)], args := [d1, d2, d3, d4, d5, d6] }
  | _ => none }
def DeadlineSmallWrongFalsely : Prop := deadlineSmallRow.holds Try.pinned (OpenSpec.ofChange deadlineSmallWrong)

/- THE SECOND FORM. 'bulk': how many values and letters a reading holds, each counted each time it is reached (what is shared counts as often as it is met; a slice's spare places count too). A statement '..UptoSaid' is the law's where the arguments, and the package variables that the reading takes, are together of bulk at most 1048576: NARROWER than '..Said'. Prove '..Said' where nothing that the law and all that it calls make is longer than what came in: it says more and counts as full. Else prove '..UptoSaid'. A law counts once. -/
mutual
def uptoBulk {H : Type} : DataW H → Nat
  | .lit (.string bytes) => bytes.length + 1
  | .lit _ => 1
  | .nil => 1
  | .ptr d => uptoBulk d + 1
  | .slice elems spare => uptoBulkAll elems + uptoBulkAll spare + 1
  | .agg parts => uptoBulkAll parts + 1
  | .iface _ d => uptoBulk d + 1
  | .map entries => uptoBulkEntries entries + 1
  | .held _ => 1
def uptoBulkAll {H : Type} : List (DataW H) → Nat
  | [] => 0
  | d :: r => uptoBulk d + uptoBulkAll r
def uptoBulkEntries {H : Type} : List (Lit × DataW H) → Nat
  | [] => 0
  | x :: r => uptoBulkEntry x + uptoBulkEntries r
def uptoBulkEntry {H : Type} : Lit × DataW H → Nat
  | (.string bytes, d) => bytes.length + uptoBulk d + 1
  | (_, d) => uptoBulk d + 1
 end
def uptoSmall : (H : Type) → List (DataW H) → Bool := fun _ ds => decide (uptoBulkAll ds ≤ 1048576)
def OpenSpec.upto (s : _root_.Go.ChangeSpec) : _root_.Go.OpenSpec := { _root_.Go.OpenSpec.ofChange s with cond := some uptoSmall }

/-- 'pagecachelaw30.DeadlineOrder', WHERE WHAT IT READS IS OF BULK AT MOST 1048576: true; the input reads as it did. -/
def deadlineOrderUptoRow : OpenClaim := { program := "ytdffpnogfinehaa", sum := "dd0581b1d9660d8c17059d38774e56621a3983365e9bcef36e779ad9ce1dd272", func := "pagecache/pagecachelaw30.DeadlineOrder", spec := "deadlineOrder", unfollowed := true, recurses := true, apart := false, narrowed := true }
def DeadlineOrderUptoSaid : Prop := deadlineOrderUptoRow.holds Try.pinned (OpenSpec.upto deadlineOrderSpec)

/-- 'pagecachelaw30.DeadlineBound', WHERE WHAT IT READS IS OF BULK AT MOST 1048576: true; the input reads as it did. -/
def deadlineBoundUptoRow : OpenClaim := { program := "ytdffpnogfinehaa", sum := "dd0581b1d9660d8c17059d38774e56621a3983365e9bcef36e779ad9ce1dd272", func := "pagecache/pagecachelaw30.DeadlineBound", spec := "deadlineBound", unfollowed := true, recurses := true, apart := false, narrowed := true }
def DeadlineBoundUptoSaid : Prop := deadlineBoundUptoRow.holds Try.pinned (OpenSpec.upto deadlineBoundSpec)

/-- 'pagecachelaw30.DeadlineSweep', WHERE WHAT IT READS IS OF BULK AT MOST 1048576: true; the input reads as it did. -/
def deadlineSweepUptoRow : OpenClaim := { program := "ytdffpnogfinehaa", sum := "dd0581b1d9660d8c17059d38774e56621a3983365e9bcef36e779ad9ce1dd272", func := "pagecache/pagecachelaw30.DeadlineSweep", spec := "deadlineSweep", unfollowed := true, recurses := true, apart := false, narrowed := true }
def DeadlineSweepUptoSaid : Prop := deadlineSweepUptoRow.holds Try.pinned (OpenSpec.upto deadlineSweepSpec)

/-- 'pagecachelaw30.DeadlineSorts', WHERE WHAT IT READS IS OF BULK AT MOST 1048576: true; the input reads as it did. -/
def deadlineSortsUptoRow : OpenClaim := { program := "ytdffpnogfinehaa", sum := "dd0581b1d9660d8c17059d38774e56621a3983365e9bcef36e779ad9ce1dd272", func := "pagecache/pagecachelaw30.DeadlineSorts", spec := "deadlineSorts", unfollowed := true, recurses := true, apart := false, narrowed := true }
def DeadlineSortsUptoSaid : Prop := deadlineSortsUptoRow.holds Try.pinned (OpenSpec.upto deadlineSortsSpec)

/-- 'pagecachelaw30.DeadlineExact', WHERE WHAT IT READS IS OF BULK AT MOST 1048576: true; the input reads as it did. -/
def deadlineExactUptoRow : OpenClaim := { program := "ytdffpnogfinehaa", sum := "dd0581b1d9660d8c17059d38774e56621a3983365e9bcef36e779ad9ce1dd272", func := "pagecache/pagecachelaw30.DeadlineExact", spec := "deadlineExact", unfollowed := true, recurses := true, apart := false, narrowed := true }
def DeadlineExactUptoSaid : Prop := deadlineExactUptoRow.holds Try.pinned (OpenSpec.upto deadlineExactSpec)

/-- 'pagecachelaw30.DeadlineSmall', WHERE WHAT IT READS IS OF BULK AT MOST 1048576: true; the input reads as it did. -/
def deadlineSmallUptoRow : OpenClaim := { program := "ytdffpnogfinehaa", sum := "dd0581b1d9660d8c17059d38774e56621a3983365e9bcef36e779ad9ce1dd272", func := "pagecache/pagecachelaw30.DeadlineSmall", spec := "deadlineSmall", unfollowed := true, recurses := true, apart := false, narrowed := true }
def DeadlineSmallUptoSaid : Prop := deadlineSmallUptoRow.holds Try.pinned (OpenSpec.upto deadlineSmallSpec)

end Rows
end Go.Proofs.Ytdffpnogfinehaa
