/-
  No cell of these rows narrows 'for every input' (looked for: loops, veiled, ifaces, maps, wideKeys, modest, calm, conditions, laid).
  DERIVED. THE GIVEN ROWS OF THIS SEAT. 11 by the template 'for every input the law returns true; each argument reads behind the call as it read before'; 0 by the template 'total and deterministic' (their statements: YtbijfmpmgmfpgaaTotals.lean).
  GIVEN WITH THE SEED: the statements are not yours to turn. If you find one false, say at which input.
  Laid BY PROGRAM, IN A SANDBOX (cutbox-rows.mjs): the forced cells as the released guide's own fill.sh prints them over the translation cdc1dbad14be0978… (all of the seat's roots in one cut). By AI agents, Wed Nov 11 2026. No macro, syntax, notation, axiom, sorry.
-/
import Derived.Test.YtbijfmpmgmfpgaaChecked
import GoSem.Claim
import GoSem.ClaimJoined
import GoSem.ClaimMapViews
import Derived.JoinedTies
import Derived.KernelRfl
namespace Go.Proofs.Ytbijfmpmgmfpgaa
/- THE CELL 'sum', in the pinned program and in every row, IS THE sha256 OF THE DUMP (.gsa) THAT YtbijfmpmgmfpgaaProg.lean LOADS. Nothing in Lean hashes anything: it is a label: what it is worth is what the hold of that sum in a sandbox is worth. -/
noncomputable def Try.pinned : Pinned := { name := "ytbijfmpmgmfpgaa", sum := "cdc1dbad14be097859b3466fc636d28528ad7f5928c33303dd34ef28035beb37", checked := Try.checked }
namespace Rows
def none {H : Type} : Left H := { results := [], args := [] }

/-- 'pagecachelaw25.MergeOrder': WHATEVER THE INPUT: true; the input reads as it did. -/
def mergeOrderSpec : ChangeSpec := { name := "mergeOrder", fn := fun _ => fun
  | [d1, d2, d3, d4, d5] => { results := [.lit (.bool true)], args := [d1, d2, d3, d4, d5] }
  | _ => none }
def mergeOrderRow : OpenClaim := { program := "ytbijfmpmgmfpgaa", sum := "cdc1dbad14be097859b3466fc636d28528ad7f5928c33303dd34ef28035beb37", func := "pagecache/pagecachelaw25.MergeOrder", spec := "mergeOrder", unfollowed := true, recurses := true, apart := false }
def MergeOrderSaid : Prop := mergeOrderRow.holds Try.pinned (OpenSpec.ofChange mergeOrderSpec)

/-- ITS FALSE NEIGHBOUR: 'it returns false'. Refute it at one input. -/
def mergeOrderWrong : ChangeSpec := { name := "mergeOrder", fn := fun _ => fun
  | [d1, d2, d3, d4, d5] => { results := [.lit (.bool false)], args := [d1, d2, d3, d4, d5] }
  | _ => none }
def MergeOrderWrongFalsely : Prop := mergeOrderRow.holds Try.pinned (OpenSpec.ofChange mergeOrderWrong)

/-- 'pagecachelaw25.MergeConflicts': WHATEVER THE INPUT: true; the input reads as it did. -/
def mergeConflictsSpec : ChangeSpec := { name := "mergeConflicts", fn := fun _ => fun
  | [d1, d2, d3] => { results := [.lit (.bool true)], args := [d1, d2, d3] }
  | _ => none }
def mergeConflictsRow : OpenClaim := { program := "ytbijfmpmgmfpgaa", sum := "cdc1dbad14be097859b3466fc636d28528ad7f5928c33303dd34ef28035beb37", func := "pagecache/pagecachelaw25.MergeConflicts", spec := "mergeConflicts", unfollowed := true, recurses := true, apart := false }
def MergeConflictsSaid : Prop := mergeConflictsRow.holds Try.pinned (OpenSpec.ofChange mergeConflictsSpec)

/-- ITS FALSE NEIGHBOUR: 'it returns false'. Refute it at one input. -/
def mergeConflictsWrong : ChangeSpec := { name := "mergeConflicts", fn := fun _ => fun
  | [d1, d2, d3] => { results := [.lit (.bool false)], args := [d1, d2, d3] }
  | _ => none }
def MergeConflictsWrongFalsely : Prop := mergeConflictsRow.holds Try.pinned (OpenSpec.ofChange mergeConflictsWrong)

/-- 'pagecachelaw25.MergeJoins': WHATEVER THE INPUT: true; the input reads as it did. -/
def mergeJoinsSpec : ChangeSpec := { name := "mergeJoins", fn := fun _ => fun
  | [d1, d2, d3] => { results := [.lit (.bool true)], args := [d1, d2, d3] }
  | _ => none }
def mergeJoinsRow : OpenClaim := { program := "ytbijfmpmgmfpgaa", sum := "cdc1dbad14be097859b3466fc636d28528ad7f5928c33303dd34ef28035beb37", func := "pagecache/pagecachelaw25.MergeJoins", spec := "mergeJoins", unfollowed := true, recurses := true, apart := false }
def MergeJoinsSaid : Prop := mergeJoinsRow.holds Try.pinned (OpenSpec.ofChange mergeJoinsSpec)

/-- ITS FALSE NEIGHBOUR: 'it returns false'. Refute it at one input. -/
def mergeJoinsWrong : ChangeSpec := { name := "mergeJoins", fn := fun _ => fun
  | [d1, d2, d3] => { results := [.lit (.bool false)], args := [d1, d2, d3] }
  | _ => none }
def MergeJoinsWrongFalsely : Prop := mergeJoinsRow.holds Try.pinned (OpenSpec.ofChange mergeJoinsWrong)

/-- 'pagecachelaw26.PlugSmall': WHATEVER THE INPUT: true; the input reads as it did. -/
def plugSmallSpec : ChangeSpec := { name := "plugSmall", fn := fun _ => fun
  | [d1, d2] => { results := [.lit (.bool true)], args := [d1, d2] }
  | _ => none }
def plugSmallRow : OpenClaim := { program := "ytbijfmpmgmfpgaa", sum := "cdc1dbad14be097859b3466fc636d28528ad7f5928c33303dd34ef28035beb37", func := "pagecache/pagecachelaw26.PlugSmall", spec := "plugSmall", unfollowed := true, recurses := true, apart := false }
def PlugSmallSaid : Prop := plugSmallRow.holds Try.pinned (OpenSpec.ofChange plugSmallSpec)

/-- ITS FALSE NEIGHBOUR: 'it returns false'. Refute it at one input. -/
def plugSmallWrong : ChangeSpec := { name := "plugSmall", fn := fun _ => fun
  | [d1, d2] => { results := [.lit (.bool false)], args := [d1, d2] }
  | _ => none }
def PlugSmallWrongFalsely : Prop := plugSmallRow.holds Try.pinned (OpenSpec.ofChange plugSmallWrong)

/-- 'pagecachelaw26.PlugKeeps': WHATEVER THE INPUT: true; the input reads as it did. -/
def plugKeepsSpec : ChangeSpec := { name := "plugKeeps", fn := fun _ => fun
  | [d1, d2] => { results := [.lit (.bool true)], args := [d1, d2] }
  | _ => none }
def plugKeepsRow : OpenClaim := { program := "ytbijfmpmgmfpgaa", sum := "cdc1dbad14be097859b3466fc636d28528ad7f5928c33303dd34ef28035beb37", func := "pagecache/pagecachelaw26.PlugKeeps", spec := "plugKeeps", unfollowed := true, recurses := true, apart := false }
def PlugKeepsSaid : Prop := plugKeepsRow.holds Try.pinned (OpenSpec.ofChange plugKeepsSpec)

/-- ITS FALSE NEIGHBOUR: 'it returns false'. Refute it at one input. -/
def plugKeepsWrong : ChangeSpec := { name := "plugKeeps", fn := fun _ => fun
  | [d1, d2] => { results := [.lit (.bool false)], args := [d1, d2] }
  | _ => none }
def PlugKeepsWrongFalsely : Prop := plugKeepsRow.holds Try.pinned (OpenSpec.ofChange plugKeepsWrong)

/-- 'pagecachelaw26.PlugConflicts': WHATEVER THE INPUT: true; the input reads as it did. -/
def plugConflictsSpec : ChangeSpec := { name := "plugConflicts", fn := fun _ => fun
  | [d1, d2] => { results := [.lit (.bool true)], args := [d1, d2] }
  | _ => none }
def plugConflictsRow : OpenClaim := { program := "ytbijfmpmgmfpgaa", sum := "cdc1dbad14be097859b3466fc636d28528ad7f5928c33303dd34ef28035beb37", func := "pagecache/pagecachelaw26.PlugConflicts", spec := "plugConflicts", unfollowed := true, recurses := true, apart := false }
def PlugConflictsSaid : Prop := plugConflictsRow.holds Try.pinned (OpenSpec.ofChange plugConflictsSpec)

/-- ITS FALSE NEIGHBOUR: 'it returns false'. Refute it at one input. -/
def plugConflictsWrong : ChangeSpec := { name := "plugConflicts", fn := fun _ => fun
  | [d1, d2] => { results := [.lit (.bool false)], args := [d1, d2] }
  | _ => none }
def PlugConflictsWrongFalsely : Prop := plugConflictsRow.holds Try.pinned (OpenSpec.ofChange plugConflictsWrong)

/-- 'pagecachelaw26.PlugAscends': WHATEVER THE INPUT: true; the input reads as it did. -/
def plugAscendsSpec : ChangeSpec := { name := "plugAscends", fn := fun _ => fun
  | [d] => { results := [.lit (.bool true)], args := [d] }
  | _ => none }
def plugAscendsRow : OpenClaim := { program := "ytbijfmpmgmfpgaa", sum := "cdc1dbad14be097859b3466fc636d28528ad7f5928c33303dd34ef28035beb37", func := "pagecache/pagecachelaw26.PlugAscends", spec := "plugAscends", unfollowed := true, recurses := true, apart := false }
def PlugAscendsSaid : Prop := plugAscendsRow.holds Try.pinned (OpenSpec.ofChange plugAscendsSpec)

/-- ITS FALSE NEIGHBOUR: 'it returns false'. Refute it at one input. -/
def plugAscendsWrong : ChangeSpec := { name := "plugAscends", fn := fun _ => fun
  | [d] => { results := [.lit (.bool false)], args := [d] }
  | _ => none }
def PlugAscendsWrongFalsely : Prop := plugAscendsRow.holds Try.pinned (OpenSpec.ofChange plugAscendsWrong)

/-- 'pagecachelaw26.PlugFits': WHATEVER THE INPUT: true; the input reads as it did. -/
def plugFitsSpec : ChangeSpec := { name := "plugFits", fn := fun _ => fun
  | [d1, d2] => { results := [.lit (.bool true)], args := [d1, d2] }
  | _ => none }
def plugFitsRow : OpenClaim := { program := "ytbijfmpmgmfpgaa", sum := "cdc1dbad14be097859b3466fc636d28528ad7f5928c33303dd34ef28035beb37", func := "pagecache/pagecachelaw26.PlugFits", spec := "plugFits", unfollowed := true, recurses := true, apart := false }
def PlugFitsSaid : Prop := plugFitsRow.holds Try.pinned (OpenSpec.ofChange plugFitsSpec)

/-- ITS FALSE NEIGHBOUR: 'it returns false'. Refute it at one input. -/
def plugFitsWrong : ChangeSpec := { name := "plugFits", fn := fun _ => fun
  | [d1, d2] => { results := [.lit (.bool false)], args := [d1, d2] }
  | _ => none }
def PlugFitsWrongFalsely : Prop := plugFitsRow.holds Try.pinned (OpenSpec.ofChange plugFitsWrong)

/-- 'pagecachelaw28.TimeoutSmall': WHATEVER THE INPUT: true; the input reads as it did. -/
def timeoutSmallSpec : ChangeSpec := { name := "timeoutSmall", fn := fun _ => fun
  | [d1, d2, d3, d4] => { results := [.lit (.bool true)], args := [d1, d2, d3, d4] }
  | _ => none }
def timeoutSmallRow : OpenClaim := { program := "ytbijfmpmgmfpgaa", sum := "cdc1dbad14be097859b3466fc636d28528ad7f5928c33303dd34ef28035beb37", func := "pagecache/pagecachelaw28.TimeoutSmall", spec := "timeoutSmall", unfollowed := true, recurses := true, apart := false }
def TimeoutSmallSaid : Prop := timeoutSmallRow.holds Try.pinned (OpenSpec.ofChange timeoutSmallSpec)

/-- ITS FALSE NEIGHBOUR: 'it returns false'. Refute it at one input. -/
def timeoutSmallWrong : ChangeSpec := { name := "timeoutSmall", fn := fun _ => fun
  | [d1, d2, d3, d4] => { results := [.lit (.bool false)], args := [d1, d2, d3, d4] }
  | _ => none }
def TimeoutSmallWrongFalsely : Prop := timeoutSmallRow.holds Try.pinned (OpenSpec.ofChange timeoutSmallWrong)

/-- 'pagecachelaw28.TimeoutNext': WHATEVER THE INPUT: true; the input reads as it did. -/
def timeoutNextSpec : ChangeSpec := { name := "timeoutNext", fn := fun _ => fun
  | [d1, d2, d3] => { results := [.lit (.bool true)], args := [d1, d2, d3] }
  | _ => none }
def timeoutNextRow : OpenClaim := { program := "ytbijfmpmgmfpgaa", sum := "cdc1dbad14be097859b3466fc636d28528ad7f5928c33303dd34ef28035beb37", func := "pagecache/pagecachelaw28.TimeoutNext", spec := "timeoutNext", unfollowed := true, recurses := true, apart := false }
def TimeoutNextSaid : Prop := timeoutNextRow.holds Try.pinned (OpenSpec.ofChange timeoutNextSpec)

/-- ITS FALSE NEIGHBOUR: 'it returns false'. Refute it at one input. -/
def timeoutNextWrong : ChangeSpec := { name := "timeoutNext", fn := fun _ => fun
  | [d1, d2, d3] => { results := [.lit (.bool false)], args := [d1, d2, d3] }
  | _ => none }
def TimeoutNextWrongFalsely : Prop := timeoutNextRow.holds Try.pinned (OpenSpec.ofChange timeoutNextWrong)

/-- 'pagecachelaw28.TimeoutStrikes': WHATEVER THE INPUT: true; the input reads as it did. -/
def timeoutStrikesSpec : ChangeSpec := { name := "timeoutStrikes", fn := fun _ => fun
  | [d] => { results := [.lit (.bool true)], args := [d] }
  | _ => none }
def timeoutStrikesRow : OpenClaim := { program := "ytbijfmpmgmfpgaa", sum := "cdc1dbad14be097859b3466fc636d28528ad7f5928c33303dd34ef28035beb37", func := "pagecache/pagecachelaw28.TimeoutStrikes", spec := "timeoutStrikes", unfollowed := true, recurses := true, apart := false }
def TimeoutStrikesSaid : Prop := timeoutStrikesRow.holds Try.pinned (OpenSpec.ofChange timeoutStrikesSpec)

/-- ITS FALSE NEIGHBOUR: 'it returns false'. Refute it at one input. -/
def timeoutStrikesWrong : ChangeSpec := { name := "timeoutStrikes", fn := fun _ => fun
  | [d] => { results := [.lit (.bool false)], args := [d] }
  | _ => none }
def TimeoutStrikesWrongFalsely : Prop := timeoutStrikesRow.holds Try.pinned (OpenSpec.ofChange timeoutStrikesWrong)

/- THE SECOND FORM. 'bulk': how many values and letters a reading holds, each counted each time it is reached (what is shared counts as often as it is met; a slice's spare places count too). A statement '..UptoSaid' is the law's where the arguments, and the package variables that the reading takes, are together of bulk at most 1048576: NARROWER than '..Said'. Prove '..Said' where nothing that the law and all that it calls make is longer than what came in: it says more and counts as full. Else prove '..UptoSaid'. A law counts once. -/
mutual
def uptoBulk {H : Type} : DataW H → Nat
  | .lit (.string bytes) => bytes.length + 1
  | .lit _ => 1
  | .nil => 1
  | .ptr d => uptoBulk d + 1
  | .slice elems spare => uptoBulkAll elems + uptoBulkAll spare + 1
  | .agg parts => uptoBulkAll parts + 1
  | .iface _ d => uptoBulk d + 1
  | .map entries => uptoBulkEntries entries + 1
  | .held _ => 1
def uptoBulkAll {H : Type} : List (DataW H) → Nat
  | [] => 0
  | d :: r => uptoBulk d + uptoBulkAll r
def uptoBulkEntries {H : Type} : List (Lit × DataW H) → Nat
  | [] => 0
  | x :: r => uptoBulkEntry x + uptoBulkEntries r
def uptoBulkEntry {H : Type} : Lit × DataW H → Nat
  | (.string bytes, d) => bytes.length + uptoBulk d + 1
  | (_, d) => uptoBulk d + 1
 end
def uptoSmall : (H : Type) → List (DataW H) → Bool := fun _ ds => decide (uptoBulkAll ds ≤ 1048576)
def OpenSpec.upto (s : _root_.Go.ChangeSpec) : _root_.Go.OpenSpec := { _root_.Go.OpenSpec.ofChange s with cond := some uptoSmall }

/-- 'pagecachelaw25.MergeOrder', WHERE WHAT IT READS IS OF BULK AT MOST 1048576: true; the input reads as it did. -/
def mergeOrderUptoRow : OpenClaim := { program := "ytbijfmpmgmfpgaa", sum := "cdc1dbad14be097859b3466fc636d28528ad7f5928c33303dd34ef28035beb37", func := "pagecache/pagecachelaw25.MergeOrder", spec := "mergeOrder", unfollowed := true, recurses := true, apart := false, narrowed := true }
def MergeOrderUptoSaid : Prop := mergeOrderUptoRow.holds Try.pinned (OpenSpec.upto mergeOrderSpec)

/-- 'pagecachelaw25.MergeConflicts', WHERE WHAT IT READS IS OF BULK AT MOST 1048576: true; the input reads as it did. -/
def mergeConflictsUptoRow : OpenClaim := { program := "ytbijfmpmgmfpgaa", sum := "cdc1dbad14be097859b3466fc636d28528ad7f5928c33303dd34ef28035beb37", func := "pagecache/pagecachelaw25.MergeConflicts", spec := "mergeConflicts", unfollowed := true, recurses := true, apart := false, narrowed := true }
def MergeConflictsUptoSaid : Prop := mergeConflictsUptoRow.holds Try.pinned (OpenSpec.upto mergeConflictsSpec)

/-- 'pagecachelaw25.MergeJoins', WHERE WHAT IT READS IS OF BULK AT MOST 1048576: true; the input reads as it did. -/
def mergeJoinsUptoRow : OpenClaim := { program := "ytbijfmpmgmfpgaa", sum := "cdc1dbad14be097859b3466fc636d28528ad7f5928c33303dd34ef28035beb37", func := "pagecache/pagecachelaw25.MergeJoins", spec := "mergeJoins", unfollowed := true, recurses := true, apart := false, narrowed := true }
def MergeJoinsUptoSaid : Prop := mergeJoinsUptoRow.holds Try.pinned (OpenSpec.upto mergeJoinsSpec)

/-- 'pagecachelaw26.PlugSmall', WHERE WHAT IT READS IS OF BULK AT MOST 1048576: true; the input reads as it did. -/
def plugSmallUptoRow : OpenClaim := { program := "ytbijfmpmgmfpgaa", sum := "cdc1dbad14be097859b3466fc636d28528ad7f5928c33303dd34ef28035beb37", func := "pagecache/pagecachelaw26.PlugSmall", spec := "plugSmall", unfollowed := true, recurses := true, apart := false, narrowed := true }
def PlugSmallUptoSaid : Prop := plugSmallUptoRow.holds Try.pinned (OpenSpec.upto plugSmallSpec)

/-- 'pagecachelaw26.PlugKeeps', WHERE WHAT IT READS IS OF BULK AT MOST 1048576: true; the input reads as it did. -/
def plugKeepsUptoRow : OpenClaim := { program := "ytbijfmpmgmfpgaa", sum := "cdc1dbad14be097859b3466fc636d28528ad7f5928c33303dd34ef28035beb37", func := "pagecache/pagecachelaw26.PlugKeeps", spec := "plugKeeps", unfollowed := true, recurses := true, apart := false, narrowed := true }
def PlugKeepsUptoSaid : Prop := plugKeepsUptoRow.holds Try.pinned (OpenSpec.upto plugKeepsSpec)

/-- 'pagecachelaw26.PlugConflicts', WHERE WHAT IT READS IS OF BULK AT MOST 1048576: true; the input reads as it did. -/
def plugConflictsUptoRow : OpenClaim := { program := "ytbijfmpmgmfpgaa", sum := "cdc1dbad14be097859b3466fc636d28528ad7f5928c33303dd34ef28035beb37", func := "pagecache/pagecachelaw26.PlugConflicts", spec := "plugConflicts", unfollowed := true, recurses := true, apart := false, narrowed := true }
def PlugConflictsUptoSaid : Prop := plugConflictsUptoRow.holds Try.pinned (OpenSpec.upto plugConflictsSpec)

/-- 'pagecachelaw26.PlugAscends', WHERE WHAT IT READS IS OF BULK AT MOST 1048576: true; the input reads as it did. -/
def plugAscendsUptoRow : OpenClaim := { program := "ytbijfmpmgmfpgaa", sum := "cdc1dbad14be097859b3466fc636d28528ad7f5928c33303dd34ef28035beb37", func := "pagecache/pagecachelaw26.PlugAscends", spec := "plugAscends", unfollowed := true, recurses := true, apart := false, narrowed := true }
def PlugAscendsUptoSaid : Prop := plugAscendsUptoRow.holds Try.pinned (OpenSpec.upto plugAscendsSpec)

/-- 'pagecachelaw26.PlugFits', WHERE WHAT IT READS IS OF BULK AT MOST 1048576: true; the input reads as it did. -/
def plugFitsUptoRow : OpenClaim := { program := "ytbijfmpmgmfpgaa", sum := "cdc1dbad14be097859b3466fc636d28528ad7f5928c33303dd34ef28035beb37", func := "pagecache/pagecachelaw26.PlugFits", spec := "plugFits", unfollowed := true, recurses := true, apart := false, narrowed := true }
def PlugFitsUptoSaid : Prop := plugFitsUptoRow.holds Try.pinned (OpenSpec.upto plugFitsSpec)

/-- 'pagecachelaw28.TimeoutSmall', WHERE WHAT IT READS IS OF BULK AT MOST 1048576: true; the input reads as it did. -/
def timeoutSmallUptoRow : OpenClaim := { program := "ytbijfmpmgmfpgaa", sum := "cdc1dbad14be097859b3466fc636d28528ad7f5928c33303dd34ef28035beb37", func := "pagecache/pagecachelaw28.TimeoutSmall", spec := "timeoutSmall", unfollowed := true, recurses := true, apart := false, narrowed := true }
def TimeoutSmallUptoSaid : Prop := timeoutSmallUptoRow.holds Try.pinned (OpenSpec.upto timeoutSmallSpec)

/-- 'pagecachelaw28.TimeoutNext', WHERE WHAT IT READS IS OF BULK AT MOST 1048576: true; the input reads as it did. -/
def timeoutNextUptoRow : OpenClaim := { program := "ytbijfmpmgmfpgaa", sum := "cdc1dbad14be097859b3466fc636d28528ad7f5928c33303dd34ef28035beb37", func := "pagecache/pagecachelaw28.TimeoutNext", spec := "timeoutNext", unfollowed := true, recurses := true, apart := false, narrowed := true }
def TimeoutNextUptoSaid : Prop := timeoutNextUptoRow.holds Try.pinned (OpenSpec.upto timeoutNextSpec)

/-- 'pagecachelaw28.TimeoutStrikes', WHERE WHAT IT READS IS OF BULK AT MOST 1048576: true; the input reads as it did. -/
def timeoutStrikesUptoRow : OpenClaim := { program := "ytbijfmpmgmfpgaa", sum := "cdc1dbad14be097859b3466fc636d28528ad7f5928c33303dd34ef28035beb37", func := "pagecache/pagecachelaw28.TimeoutStrikes", spec := "timeoutStrikes", unfollowed := true, recurses := true, apart := false, narrowed := true }
def TimeoutStrikesUptoSaid : Prop := timeoutStrikesUptoRow.holds Try.pinned (OpenSpec.upto timeoutStrikesSpec)

end Rows
end Go.Proofs.Ytbijfmpmgmfpgaa
