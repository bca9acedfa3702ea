/-
  No cell of these rows narrows 'for every input' (looked for: loops, veiled, ifaces, maps, wideKeys, modest, calm, conditions, laid).
  DERIVED. THE GIVEN ROWS OF THIS SEAT. 7 by the template 'for every input the law returns true; each argument reads behind the call as it read before'; 0 by the template 'total and deterministic' (their statements: YtpgjbocjhconoaaTotals.lean).
  GIVEN WITH THE SEED: the statements are not yours to turn. If you find one false, say at which input.
  Laid BY PROGRAM, IN A SANDBOX (cutbox-rows.mjs): the forced cells as the released guide's own fill.sh prints them over the translation a030fbf64d846bd8… (all of the seat's roots in one cut). By AI agents, Wed Nov 11 2026. No macro, syntax, notation, axiom, sorry.
-/
import Derived.Test.YtpgjbocjhconoaaChecked
import GoSem.Claim
import GoSem.ClaimJoined
import GoSem.ClaimMapViews
import Derived.JoinedTies
import Derived.KernelRfl
namespace Go.Proofs.Ytpgjbocjhconoaa
/- THE CELL 'sum', in the pinned program and in every row, IS THE sha256 OF THE DUMP (.gsa) THAT YtpgjbocjhconoaaProg.lean LOADS. Nothing in Lean hashes anything: it is a label: what it is worth is what the hold of that sum in a sandbox is worth. -/
noncomputable def Try.pinned : Pinned := { name := "ytpgjbocjhconoaa", sum := "a030fbf64d846bd88d6e6e55f45d7b142dc8efdb3d70b524462d9be7d4eb228e", checked := Try.checked }
namespace Rows
def none {H : Type} : Left H := { results := [], args := [] }

/-- 'pagecachelaw33.ElevatorNews': WHATEVER THE INPUT: true; the input reads as it did. -/
def elevatorNewsSpec : ChangeSpec := { name := "elevatorNews", fn := fun _ => fun
  | [d1, d2, d3, d4, d5] => { results := [.lit (.bool true)], args := [d1, d2, d3, d4, d5] }
  | _ => none }
def elevatorNewsRow : OpenClaim := { program := "ytpgjbocjhconoaa", sum := "a030fbf64d846bd88d6e6e55f45d7b142dc8efdb3d70b524462d9be7d4eb228e", func := "pagecache/pagecachelaw33.ElevatorNews", spec := "elevatorNews", unfollowed := true, recurses := true, apart := false }
def ElevatorNewsSaid : Prop := elevatorNewsRow.holds Try.pinned (OpenSpec.ofChange elevatorNewsSpec)

/-- ITS FALSE NEIGHBOUR: 'it returns false'. Refute it at one input. -/
def elevatorNewsWrong : ChangeSpec := { name := "elevatorNews", fn := fun _ => fun
  | [d1, d2, d3, d4, d5] => { results := [.lit (.bool false)], args := [d1, d2, d3, d4, d5] }
  | _ => none }
def ElevatorNewsWrongFalsely : Prop := elevatorNewsRow.holds Try.pinned (OpenSpec.ofChange elevatorNewsWrong)

/-- 'pagecachelaw33.ElevatorOdd': WHATEVER THE INPUT: true; the input reads as it did. -/
def elevatorOddSpec : ChangeSpec := { name := "elevatorOdd", fn := fun _ => fun
  | [d1, d2, d3, d4] => { results := [.lit (.bool true)], args := [d1, d2, d3, d4] }
  | _ => none }
def elevatorOddRow : OpenClaim := { program := "ytpgjbocjhconoaa", sum := "a030fbf64d846bd88d6e6e55f45d7b142dc8efdb3d70b524462d9be7d4eb228e", func := "pagecache/pagecachelaw33.ElevatorOdd", spec := "elevatorOdd", unfollowed := true, recurses := true, apart := false }
def ElevatorOddSaid : Prop := elevatorOddRow.holds Try.pinned (OpenSpec.ofChange elevatorOddSpec)

/-- ITS FALSE NEIGHBOUR: 'it returns false'. Refute it at one input. -/
def elevatorOddWrong : ChangeSpec := { name := "elevatorOdd", fn := fun _ => fun
  | [d1, d2, d3, d4] => { results := [.lit (.bool false)], args := [d1, d2, d3, d4] }
  | _ => none }
def ElevatorOddWrongFalsely : Prop := elevatorOddRow.holds Try.pinned (OpenSpec.ofChange elevatorOddWrong)

/-- 'pagecachelaw33.ElevatorBusy': WHATEVER THE INPUT: true; the input reads as it did. -/
def elevatorBusySpec : ChangeSpec := { name := "elevatorBusy", fn := fun _ => fun
  | [d1, d2, d3, d4, d5] => { results := [.lit (.bool true)], args := [d1, d2, d3, d4, d5] }
  | _ => none }
def elevatorBusyRow : OpenClaim := { program := "ytpgjbocjhconoaa", sum := "a030fbf64d846bd88d6e6e55f45d7b142dc8efdb3d70b524462d9be7d4eb228e", func := "pagecache/pagecachelaw33.ElevatorBusy", spec := "elevatorBusy", unfollowed := true, recurses := true, apart := false }
def ElevatorBusySaid : Prop := elevatorBusyRow.holds Try.pinned (OpenSpec.ofChange elevatorBusySpec)

/-- ITS FALSE NEIGHBOUR: 'it returns false'. Refute it at one input. -/
def elevatorBusyWrong : ChangeSpec := { name := "elevatorBusy", fn := fun _ => fun
  | [d1, d2, d3, d4, d5] => { results := [.lit (.bool false)], args := [d1, d2, d3, d4, d5] }
  | _ => none }
def ElevatorBusyWrongFalsely : Prop := elevatorBusyRow.holds Try.pinned (OpenSpec.ofChange elevatorBusyWrong)

/-- 'pagecachelaw33.ElevatorShares': WHATEVER THE INPUT: true; the input reads as it did. -/
def elevatorSharesSpec : ChangeSpec := { name := "elevatorShares", fn := fun _ => fun
  | [d1, d2, d3, d4] => { results := [.lit (.bool true)], args := [d1, d2, d3, d4] }
  | _ => none }
def elevatorSharesRow : OpenClaim := { program := "ytpgjbocjhconoaa", sum := "a030fbf64d846bd88d6e6e55f45d7b142dc8efdb3d70b524462d9be7d4eb228e", func := "pagecache/pagecachelaw33.ElevatorShares", spec := "elevatorShares", unfollowed := true, recurses := true, apart := false }
def ElevatorSharesSaid : Prop := elevatorSharesRow.holds Try.pinned (OpenSpec.ofChange elevatorSharesSpec)

/-- ITS FALSE NEIGHBOUR: 'it returns false'. Refute it at one input. -/
def elevatorSharesWrong : ChangeSpec := { name := "elevatorShares", fn := fun _ => fun
  | [d1, d2, d3, d4] => { results := [.lit (.bool false)], args := [d1, d2, d3, d4] }
  | _ => none }
def ElevatorSharesWrongFalsely : Prop := elevatorSharesRow.holds Try.pinned (OpenSpec.ofChange elevatorSharesWrong)

/-- 'pagecachelaw33.ElevatorFirst': WHATEVER THE INPUT: true; the input reads as it did. -/
def elevatorFirstSpec : ChangeSpec := { name := "elevatorFirst", fn := fun _ => fun
  | [d] => { results := [.lit (.bool true)], args := [d] }
  | _ => none }
def elevatorFirstRow : OpenClaim := { program := "ytpgjbocjhconoaa", sum := "a030fbf64d846bd88d6e6e55f45d7b142dc8efdb3d70b524462d9be7d4eb228e", func := "pagecache/pagecachelaw33.ElevatorFirst", spec := "elevatorFirst", unfollowed := true, recurses := true, apart := false }
def ElevatorFirstSaid : Prop := elevatorFirstRow.holds Try.pinned (OpenSpec.ofChange elevatorFirstSpec)

/-- ITS FALSE NEIGHBOUR: 'it returns false'. Refute it at one input. -/
def elevatorFirstWrong : ChangeSpec := { name := "elevatorFirst", fn := fun _ => fun
  | [d] => { results := [.lit (.bool false)], args := [d] }
  | _ => none }
def ElevatorFirstWrongFalsely : Prop := elevatorFirstRow.holds Try.pinned (OpenSpec.ofChange elevatorFirstWrong)

/-- 'pagecachelaw33.ElevatorSame': WHATEVER THE INPUT: true; the input reads as it did. -/
def elevatorSameSpec : ChangeSpec := { name := "elevatorSame", fn := fun _ => fun
  | [d1, d2] => { results := [.lit (.bool true)], args := [d1, d2] }
  | _ => none }
def elevatorSameRow : OpenClaim := { program := "ytpgjbocjhconoaa", sum := "a030fbf64d846bd88d6e6e55f45d7b142dc8efdb3d70b524462d9be7d4eb228e", func := "pagecache/pagecachelaw33.ElevatorSame", spec := "elevatorSame", unfollowed := true, recurses := true, apart := false }
def ElevatorSameSaid : Prop := elevatorSameRow.holds Try.pinned (OpenSpec.ofChange elevatorSameSpec)

/-- ITS FALSE NEIGHBOUR: 'it returns false'. Refute it at one input. -/
def elevatorSameWrong : ChangeSpec := { name := "elevatorSame", fn := fun _ => fun
  | [d1, d2] => { results := [.lit (.bool false)], args := [d1, d2] }
  | _ => none }
def ElevatorSameWrongFalsely : Prop := elevatorSameRow.holds Try.pinned (OpenSpec.ofChange elevatorSameWrong)

/-- 'pagecachelaw33.ElevatorKeeps': WHATEVER THE INPUT: true; the input reads as it did. -/
def elevatorKeepsSpec : ChangeSpec := { name := "elevatorKeeps", fn := fun _ => fun
  | [d1, d2, d3, d4] => { results := [.lit (.bool true)], args := [d1, d2, d3, d4] }
  | _ => none }
def elevatorKeepsRow : OpenClaim := { program := "ytpgjbocjhconoaa", sum := "a030fbf64d846bd88d6e6e55f45d7b142dc8efdb3d70b524462d9be7d4eb228e", func := "pagecache/pagecachelaw33.ElevatorKeeps", spec := "elevatorKeeps", unfollowed := true, recurses := true, apart := false }
def ElevatorKeepsSaid : Prop := elevatorKeepsRow.holds Try.pinned (OpenSpec.ofChange elevatorKeepsSpec)

/-- ITS FALSE NEIGHBOUR: 'it returns false'. Refute it at one input. -/
def elevatorKeepsWrong : ChangeSpec := { name := "elevatorKeeps", fn := fun _ => fun
  | [d1, d2, d3, d4] => { results := [.lit (.bool false)], args := [d1, d2, d3, d4] }
  | _ => none }
def ElevatorKeepsWrongFalsely : Prop := elevatorKeepsRow.holds Try.pinned (OpenSpec.ofChange elevatorKeepsWrong)

/- THE SECOND FORM. 'bulk': how many values and letters a reading holds, each counted each time it is reached (what is shared counts as often as it is met; a slice's spare places count too). A statement '..UptoSaid' is the law's where the arguments, and the package variables that the reading takes, are together of bulk at most 1048576: NARROWER than '..Said'. Prove '..Said' where nothing that the law and all that it calls make is longer than what came in: it says more and counts as full. Else prove '..UptoSaid'. A law counts once. -/
mutual
def uptoBulk {H : Type} : DataW H → Nat
  | .lit (.string bytes) => bytes.length + 1
  | .lit _ => 1
  | .nil => 1
  | .ptr d => uptoBulk d + 1
  | .slice elems spare => uptoBulkAll elems + uptoBulkAll spare + 1
  | .agg parts => uptoBulkAll parts + 1
  | .iface _ d => uptoBulk d + 1
  | .map entries => uptoBulkEntries entries + 1
  | .held _ => 1
def uptoBulkAll {H : Type} : List (DataW H) → Nat
  | [] => 0
  | d :: r => uptoBulk d + uptoBulkAll r
def uptoBulkEntries {H : Type} : List (Lit × DataW H) → Nat
  | [] => 0
  | x :: r => uptoBulkEntry x + uptoBulkEntries r
def uptoBulkEntry {H : Type} : Lit × DataW H → Nat
  | (.string bytes, d) => bytes.length + uptoBulk d + 1
  | (_, d) => uptoBulk d + 1
 end
def uptoSmall : (H : Type) → List (DataW H) → Bool := fun _ ds => decide (uptoBulkAll ds ≤ 1048576)
def OpenSpec.upto (s : _root_.Go.ChangeSpec) : _root_.Go.OpenSpec := { _root_.Go.OpenSpec.ofChange s with cond := some uptoSmall }

/-- 'pagecachelaw33.ElevatorNews', WHERE WHAT IT READS IS OF BULK AT MOST 1048576: true; the input reads as it did. -/
def elevatorNewsUptoRow : OpenClaim := { program := "ytpgjbocjhconoaa", sum := "a030fbf64d846bd88d6e6e55f45d7b142dc8efdb3d70b524462d9be7d4eb228e", func := "pagecache/pagecachelaw33.ElevatorNews", spec := "elevatorNews", unfollowed := true, recurses := true, apart := false, narrowed := true }
def ElevatorNewsUptoSaid : Prop := elevatorNewsUptoRow.holds Try.pinned (OpenSpec.upto elevatorNewsSpec)

/-- 'pagecachelaw33.ElevatorOdd', WHERE WHAT IT READS IS OF BULK AT MOST 1048576: true; the input reads as it did. -/
def elevatorOddUptoRow : OpenClaim := { program := "ytpgjbocjhconoaa", sum := "a030fbf64d846bd88d6e6e55f45d7b142dc8efdb3d70b524462d9be7d4eb228e", func := "pagecache/pagecachelaw33.ElevatorOdd", spec := "elevatorOdd", unfollowed := true, recurses := true, apart := false, narrowed := true }
def ElevatorOddUptoSaid : Prop := elevatorOddUptoRow.holds Try.pinned (OpenSpec.upto elevatorOddSpec)

/-- 'pagecachelaw33.ElevatorBusy', WHERE WHAT IT READS IS OF BULK AT MOST 1048576: true; the input reads as it did. -/
def elevatorBusyUptoRow : OpenClaim := { program := "ytpgjbocjhconoaa", sum := "a030fbf64d846bd88d6e6e55f45d7b142dc8efdb3d70b524462d9be7d4eb228e", func := "pagecache/pagecachelaw33.ElevatorBusy", spec := "elevatorBusy", unfollowed := true, recurses := true, apart := false, narrowed := true }
def ElevatorBusyUptoSaid : Prop := elevatorBusyUptoRow.holds Try.pinned (OpenSpec.upto elevatorBusySpec)

/-- 'pagecachelaw33.ElevatorShares', WHERE WHAT IT READS IS OF BULK AT MOST 1048576: true; the input reads as it did. -/
def elevatorSharesUptoRow : OpenClaim := { program := "ytpgjbocjhconoaa", sum := "a030fbf64d846bd88d6e6e55f45d7b142dc8efdb3d70b524462d9be7d4eb228e", func := "pagecache/pagecachelaw33.ElevatorShares", spec := "elevatorShares", unfollowed := true, recurses := true, apart := false, narrowed := true }
def ElevatorSharesUptoSaid : Prop := elevatorSharesUptoRow.holds Try.pinned (OpenSpec.upto elevatorSharesSpec)

/-- 'pagecachelaw33.ElevatorFirst', WHERE WHAT IT READS IS OF BULK AT MOST 1048576: true; the input reads as it did. -/
def elevatorFirstUptoRow : OpenClaim := { program := "ytpgjbocjhconoaa", sum := "a030fbf64d846bd88d6e6e55f45d7b142dc8efdb3d70b524462d9be7d4eb228e", func := "pagecache/pagecachelaw33.ElevatorFirst", spec := "elevatorFirst", unfollowed := true, recurses := true, apart := false, narrowed := true }
def ElevatorFirstUptoSaid : Prop := elevatorFirstUptoRow.holds Try.pinned (OpenSpec.upto elevatorFirstSpec)

/-- 'pagecachelaw33.ElevatorSame', WHERE WHAT IT READS IS OF BULK AT MOST 1048576: true; the input reads as it did. -/
def elevatorSameUptoRow : OpenClaim := { program := "ytpgjbocjhconoaa", sum := "a030fbf64d846bd88d6e6e55f45d7b142dc8efdb3d70b524462d9be7d4eb228e", func := "pagecache/pagecachelaw33.ElevatorSame", spec := "elevatorSame", unfollowed := true, recurses := true, apart := false, narrowed := true }
def ElevatorSameUptoSaid : Prop := elevatorSameUptoRow.holds Try.pinned (OpenSpec.upto elevatorSameSpec)

/-- 'pagecachelaw33.ElevatorKeeps', WHERE WHAT IT READS IS OF BULK AT MOST 1048576: true; the input reads as it did. -/
def elevatorKeepsUptoRow : OpenClaim := { program := "ytpgjbocjhconoaa", sum := "a030fbf64d846bd88d6e6e55f45d7b142dc8efdb3d70b524462d9be7d4eb228e", func := "pagecache/pagecachelaw33.ElevatorKeeps", spec := "elevatorKeeps", unfollowed := true, recurses := true, apart := false, narrowed := true }
def ElevatorKeepsUptoSaid : Prop := elevatorKeepsUptoRow.holds Try.pinned (OpenSpec.upto elevatorKeepsSpec)

end Rows
end Go.Proofs.Ytpgjbocjhconoaa
