/-
  No cell of these rows narrows 'for every input' (looked for: loops, veiled, ifaces, maps, wideKeys, modest, calm, conditions, laid).
  DERIVED. THE GIVEN ROWS OF THIS SEAT. 10 by the template 'for every input the law returns true; each argument reads behind the call as it read before'; 0 by the template 'total and deterministic' (their statements: YtchimkjbpmcpbaaTotals.lean).
  GIVEN WITH THE SEED: the statements are not yours to turn. If you find one false, say at which input.
  Laid BY PROGRAM, IN A SANDBOX (cutbox-rows.mjs): the forced cells as the released guide's own fill.sh prints them over the translation cc980deca2950afa… (all of the seat's roots in one cut). By AI agents, Wed Nov 11 2026. No macro, syntax, notation, axiom, sorry.
-/
import Derived.Test.YtchimkjbpmcpbaaChecked
import GoSem.Claim
import GoSem.ClaimJoined
import GoSem.ClaimMapViews
import Derived.JoinedTies
import Derived.KernelRfl
namespace Go.Proofs.Ytchimkjbpmcpbaa
/- THE CELL 'sum', in the pinned program and in every row, IS THE sha256 OF THE DUMP (.gsa) THAT YtchimkjbpmcpbaaProg.lean LOADS. Nothing in Lean hashes anything: it is a label: what it is worth is what the hold of that sum in a sandbox is worth. -/
noncomputable def Try.pinned : Pinned := { name := "ytchimkjbpmcpbaa", sum := "cc980deca2950afa72ab7d4e53e6780b1209f530c2664cebe516c225bff56fc7", checked := Try.checked }
namespace Rows
def none {H : Type} : Left H := { results := [], args := [] }

/-- 'pagecachelaw24.SplitLeast': WHATEVER THE INPUT: true; the input reads as it did. -/
def splitLeastSpec : ChangeSpec := { name := "splitLeast", fn := fun _ => fun
  | [d1, d2, d3] => { results := [.lit (.bool true)], args := [d1, d2, d3] }
  | _ => none }
def splitLeastRow : OpenClaim := { program := "ytchimkjbpmcpbaa", sum := "cc980deca2950afa72ab7d4e53e6780b1209f530c2664cebe516c225bff56fc7", func := "pagecache/pagecachelaw24.SplitLeast", spec := "splitLeast", apart := false }
def SplitLeastSaid : Prop := splitLeastRow.holds Try.pinned (OpenSpec.ofChange splitLeastSpec)

/-- ITS FALSE NEIGHBOUR: 'it returns false'. Refute it at one input. -/
def splitLeastWrong : ChangeSpec := { name := "splitLeast", fn := fun _ => fun
  | [d1, d2, d3] => { results := [.lit (.bool false)], args := [d1, d2, d3] }
  | _ => none }
def SplitLeastWrongFalsely : Prop := splitLeastRow.holds Try.pinned (OpenSpec.ofChange splitLeastWrong)

/-- 'pagecachelaw24.SplitExact': WHATEVER THE INPUT: true; the input reads as it did. -/
def splitExactSpec : ChangeSpec := { name := "splitExact", fn := fun _ => fun
  | [d1, d2, d3] => { results := [.lit (.bool true)], args := [d1, d2, d3] }
  | _ => none }
def splitExactRow : OpenClaim := { program := "ytchimkjbpmcpbaa", sum := "cc980deca2950afa72ab7d4e53e6780b1209f530c2664cebe516c225bff56fc7", func := "pagecache/pagecachelaw24.SplitExact", spec := "splitExact", apart := false }
def SplitExactSaid : Prop := splitExactRow.holds Try.pinned (OpenSpec.ofChange splitExactSpec)

/-- ITS FALSE NEIGHBOUR: 'it returns false'. Refute it at one input. -/
def splitExactWrong : ChangeSpec := { name := "splitExact", fn := fun _ => fun
  | [d1, d2, d3] => { results := [.lit (.bool false)], args := [d1, d2, d3] }
  | _ => none }
def SplitExactWrongFalsely : Prop := splitExactRow.holds Try.pinned (OpenSpec.ofChange splitExactWrong)

/-- 'pagecachelaw24.SplitSmall': WHATEVER THE INPUT: true; the input reads as it did. -/
def splitSmallSpec : ChangeSpec := { name := "splitSmall", fn := fun _ => fun
  | [d1, d2, d3] => { results := [.lit (.bool true)], args := [d1, d2, d3] }
  | _ => none }
def splitSmallRow : OpenClaim := { program := "ytchimkjbpmcpbaa", sum := "cc980deca2950afa72ab7d4e53e6780b1209f530c2664cebe516c225bff56fc7", func := "pagecache/pagecachelaw24.SplitSmall", spec := "splitSmall", apart := false }
def SplitSmallSaid : Prop := splitSmallRow.holds Try.pinned (OpenSpec.ofChange splitSmallSpec)

/-- ITS FALSE NEIGHBOUR: 'it returns false'. Refute it at one input. -/
def splitSmallWrong : ChangeSpec := { name := "splitSmall", fn := fun _ => fun
  | [d1, d2, d3] => { results := [.lit (.bool false)], args := [d1, d2, d3] }
  | _ => none }
def SplitSmallWrongFalsely : Prop := splitSmallRow.holds Try.pinned (OpenSpec.ofChange splitSmallWrong)

/-- 'pagecachelaw24.SplitCovers': WHATEVER THE INPUT: true; the input reads as it did. -/
def splitCoversSpec : ChangeSpec := { name := "splitCovers", fn := fun _ => fun
  | [d1, d2, d3] => { results := [.lit (.bool true)], args := [d1, d2, d3] }
  | _ => none }
def splitCoversRow : OpenClaim := { program := "ytchimkjbpmcpbaa", sum := "cc980deca2950afa72ab7d4e53e6780b1209f530c2664cebe516c225bff56fc7", func := "pagecache/pagecachelaw24.SplitCovers", spec := "splitCovers", apart := false }
def SplitCoversSaid : Prop := splitCoversRow.holds Try.pinned (OpenSpec.ofChange splitCoversSpec)

/-- ITS FALSE NEIGHBOUR: 'it returns false'. Refute it at one input. -/
def splitCoversWrong : ChangeSpec := { name := "splitCovers", fn := fun _ => fun
  | [d1, d2, d3] => { results := [.lit (.bool false)], args := [d1, d2, d3] }
  | _ => none }
def SplitCoversWrongFalsely : Prop := splitCoversRow.holds Try.pinned (OpenSpec.ofChange splitCoversWrong)

/-- 'pagecachelaw32.TokenExact': WHATEVER THE INPUT: true; the input reads as it did. -/
def tokenExactSpec : ChangeSpec := { name := "tokenExact", fn := fun _ => fun
  | [d1, d2, d3] => { results := [.lit (.bool true)], args := [d1, d2, d3] }
  | _ => none }
def tokenExactRow : OpenClaim := { program := "ytchimkjbpmcpbaa", sum := "cc980deca2950afa72ab7d4e53e6780b1209f530c2664cebe516c225bff56fc7", func := "pagecache/pagecachelaw32.TokenExact", spec := "tokenExact", apart := false }
def TokenExactSaid : Prop := tokenExactRow.holds Try.pinned (OpenSpec.ofChange tokenExactSpec)

/-- ITS FALSE NEIGHBOUR: 'it returns false'. Refute it at one input. -/
def tokenExactWrong : ChangeSpec := { name := "tokenExact", fn := fun _ => fun
  | [d1, d2, d3] => { results := [.lit (.bool false)], args := [d1, d2, d3] }
  | _ => none }
def TokenExactWrongFalsely : Prop := tokenExactRow.holds Try.pinned (OpenSpec.ofChange tokenExactWrong)

/-- 'pagecachelaw32.TokenSmall': WHATEVER THE INPUT: true; the input reads as it did. -/
def tokenSmallSpec : ChangeSpec := { name := "tokenSmall", fn := fun _ => fun
  | [d1, d2, d3] => { results := [.lit (.bool true)], args := [d1, d2, d3] }
  | _ => none }
def tokenSmallRow : OpenClaim := { program := "ytchimkjbpmcpbaa", sum := "cc980deca2950afa72ab7d4e53e6780b1209f530c2664cebe516c225bff56fc7", func := "pagecache/pagecachelaw32.TokenSmall", spec := "tokenSmall", apart := false }
def TokenSmallSaid : Prop := tokenSmallRow.holds Try.pinned (OpenSpec.ofChange tokenSmallSpec)

/-- ITS FALSE NEIGHBOUR: 'it returns false'. Refute it at one input. -/
def tokenSmallWrong : ChangeSpec := { name := "tokenSmall", fn := fun _ => fun
  | [d1, d2, d3] => { results := [.lit (.bool false)], args := [d1, d2, d3] }
  | _ => none }
def TokenSmallWrongFalsely : Prop := tokenSmallRow.holds Try.pinned (OpenSpec.ofChange tokenSmallWrong)

/-- 'pagecachelaw32.TokenWhen': WHATEVER THE INPUT: true; the input reads as it did. -/
def tokenWhenSpec : ChangeSpec := { name := "tokenWhen", fn := fun _ => fun
  | [d1, d2, d3] => { results := [.lit (.bool true)], args := [d1, d2, d3] }
  | _ => none }
def tokenWhenRow : OpenClaim := { program := "ytchimkjbpmcpbaa", sum := "cc980deca2950afa72ab7d4e53e6780b1209f530c2664cebe516c225bff56fc7", func := "pagecache/pagecachelaw32.TokenWhen", spec := "tokenWhen", apart := false }
def TokenWhenSaid : Prop := tokenWhenRow.holds Try.pinned (OpenSpec.ofChange tokenWhenSpec)

/-- ITS FALSE NEIGHBOUR: 'it returns false'. Refute it at one input. -/
def tokenWhenWrong : ChangeSpec := { name := "tokenWhen", fn := fun _ => fun
  | [d1, d2, d3] => { results := [.lit (.bool false)], args := [d1, d2, d3] }
  | _ => none }
def TokenWhenWrongFalsely : Prop := tokenWhenRow.holds Try.pinned (OpenSpec.ofChange tokenWhenWrong)

/-- 'pagecachelaw32.TokenRate': WHATEVER THE INPUT: true; the input reads as it did. -/
def tokenRateSpec : ChangeSpec := { name := "tokenRate", fn := fun _ => fun
  | [d1, d2] => { results := [.lit (.bool true)], args := [d1, d2] }
  | _ => none }
def tokenRateRow : OpenClaim := { program := "ytchimkjbpmcpbaa", sum := "cc980deca2950afa72ab7d4e53e6780b1209f530c2664cebe516c225bff56fc7", func := "pagecache/pagecachelaw32.TokenRate", spec := "tokenRate", apart := false }
def TokenRateSaid : Prop := tokenRateRow.holds Try.pinned (OpenSpec.ofChange tokenRateSpec)

/-- ITS FALSE NEIGHBOUR: 'it returns false'. Refute it at one input. -/
def tokenRateWrong : ChangeSpec := { name := "tokenRate", fn := fun _ => fun
  | [d1, d2] => { results := [.lit (.bool false)], args := [d1, d2] }
  | _ => none }
def TokenRateWrongFalsely : Prop := tokenRateRow.holds Try.pinned (OpenSpec.ofChange tokenRateWrong)

/-- 'pagecachelaw32.TokenRefills': WHATEVER THE INPUT: true; the input reads as it did. -/
def tokenRefillsSpec : ChangeSpec := { name := "tokenRefills", fn := fun _ => fun
  | [d1, d2, d3] => { results := [.lit (.bool true)], args := [d1, d2, d3] }
  | _ => none }
def tokenRefillsRow : OpenClaim := { program := "ytchimkjbpmcpbaa", sum := "cc980deca2950afa72ab7d4e53e6780b1209f530c2664cebe516c225bff56fc7", func := "pagecache/pagecachelaw32.TokenRefills", spec := "tokenRefills", apart := false }
def TokenRefillsSaid : Prop := tokenRefillsRow.holds Try.pinned (OpenSpec.ofChange tokenRefillsSpec)

/-- ITS FALSE NEIGHBOUR: 'it returns false'. Refute it at one input. -/
def tokenRefillsWrong : ChangeSpec := { name := "tokenRefills", fn := fun _ => fun
  | [d1, d2, d3] => { results := [.lit (.bool false)], args := [d1, d2, d3] }
  | _ => none }
def TokenRefillsWrongFalsely : Prop := tokenRefillsRow.holds Try.pinned (OpenSpec.ofChange tokenRefillsWrong)

/-- 'pagecachelaw32.TokenSplits': WHATEVER THE INPUT: true; the input reads as it did. -/
def tokenSplitsSpec : ChangeSpec := { name := "tokenSplits", fn := fun _ => fun
  | [d1, d2, d3, d4] => { results := [.lit (.bool true)], args := [d1, d2, d3, d4] }
  | _ => none }
def tokenSplitsRow : OpenClaim := { program := "ytchimkjbpmcpbaa", sum := "cc980deca2950afa72ab7d4e53e6780b1209f530c2664cebe516c225bff56fc7", func := "pagecache/pagecachelaw32.TokenSplits", spec := "tokenSplits", apart := false }
def TokenSplitsSaid : Prop := tokenSplitsRow.holds Try.pinned (OpenSpec.ofChange tokenSplitsSpec)

/-- ITS FALSE NEIGHBOUR: 'it returns false'. Refute it at one input. -/
def tokenSplitsWrong : ChangeSpec := { name := "tokenSplits", fn := fun _ => fun
  | [d1, d2, d3, d4] => { results := [.lit (.bool false)], args := [d1, d2, d3, d4] }
  | _ => none }
def TokenSplitsWrongFalsely : Prop := tokenSplitsRow.holds Try.pinned (OpenSpec.ofChange tokenSplitsWrong)

/- THE SECOND FORM. 'bulk': how many values and letters a reading holds, each counted each time it is reached (what is shared counts as often as it is met; a slice's spare places count too). A statement '..UptoSaid' is the law's where the arguments, and the package variables that the reading takes, are together of bulk at most 1048576: NARROWER than '..Said'. Prove '..Said' where nothing that the law and all that it calls make is longer than what came in: it says more and counts as full. Else prove '..UptoSaid'. A law counts once. -/
mutual
def uptoBulk {H : Type} : DataW H → Nat
  | .lit (.string bytes) => bytes.length + 1
  | .lit _ => 1
  | .nil => 1
  | .ptr d => uptoBulk d + 1
  | .slice elems spare => uptoBulkAll elems + uptoBulkAll spare + 1
  | .agg parts => uptoBulkAll parts + 1
  | .iface _ d => uptoBulk d + 1
  | .map entries => uptoBulkEntries entries + 1
  | .held _ => 1
def uptoBulkAll {H : Type} : List (DataW H) → Nat
  | [] => 0
  | d :: r => uptoBulk d + uptoBulkAll r
def uptoBulkEntries {H : Type} : List (Lit × DataW H) → Nat
  | [] => 0
  | x :: r => uptoBulkEntry x + uptoBulkEntries r
def uptoBulkEntry {H : Type} : Lit × DataW H → Nat
  | (.string bytes, d) => bytes.length + uptoBulk d + 1
  | (_, d) => uptoBulk d + 1
 end
def uptoSmall : (H : Type) → List (DataW H) → Bool := fun _ ds => decide (uptoBulkAll ds ≤ 1048576)
def OpenSpec.upto (s : _root_.Go.ChangeSpec) : _root_.Go.OpenSpec := { _root_.Go.OpenSpec.ofChange s with cond := some uptoSmall }

/-- 'pagecachelaw24.SplitLeast', WHERE WHAT IT READS IS OF BULK AT MOST 1048576: true; the input reads as it did. -/
def splitLeastUptoRow : OpenClaim := { program := "ytchimkjbpmcpbaa", sum := "cc980deca2950afa72ab7d4e53e6780b1209f530c2664cebe516c225bff56fc7", func := "pagecache/pagecachelaw24.SplitLeast", spec := "splitLeast", apart := false, narrowed := true }
def SplitLeastUptoSaid : Prop := splitLeastUptoRow.holds Try.pinned (OpenSpec.upto splitLeastSpec)

/-- 'pagecachelaw24.SplitExact', WHERE WHAT IT READS IS OF BULK AT MOST 1048576: true; the input reads as it did. -/
def splitExactUptoRow : OpenClaim := { program := "ytchimkjbpmcpbaa", sum := "cc980deca2950afa72ab7d4e53e6780b1209f530c2664cebe516c225bff56fc7", func := "pagecache/pagecachelaw24.SplitExact", spec := "splitExact", apart := false, narrowed := true }
def SplitExactUptoSaid : Prop := splitExactUptoRow.holds Try.pinned (OpenSpec.upto splitExactSpec)

/-- 'pagecachelaw24.SplitSmall', WHERE WHAT IT READS IS OF BULK AT MOST 1048576: true; the input reads as it did. -/
def splitSmallUptoRow : OpenClaim := { program := "ytchimkjbpmcpbaa", sum := "cc980deca2950afa72ab7d4e53e6780b1209f530c2664cebe516c225bff56fc7", func := "pagecache/pagecachelaw24.SplitSmall", spec := "splitSmall", apart := false, narrowed := true }
def SplitSmallUptoSaid : Prop := splitSmallUptoRow.holds Try.pinned (OpenSpec.upto splitSmallSpec)

/-- 'pagecachelaw24.SplitCovers', WHERE WHAT IT READS IS OF BULK AT MOST 1048576: true; the input reads as it did. -/
def splitCoversUptoRow : OpenClaim := { program := "ytchimkjbpmcpbaa", sum := "cc980deca2950afa72ab7d4e53e6780b1209f530c2664cebe516c225bff56fc7", func := "pagecache/pagecachelaw24.SplitCovers", spec := "splitCovers", apart := false, narrowed := true }
def SplitCoversUptoSaid : Prop := splitCoversUptoRow.holds Try.pinned (OpenSpec.upto splitCoversSpec)

/-- 'pagecachelaw32.TokenExact', WHERE WHAT IT READS IS OF BULK AT MOST 1048576: true; the input reads as it did. -/
def tokenExactUptoRow : OpenClaim := { program := "ytchimkjbpmcpbaa", sum := "cc980deca2950afa72ab7d4e53e6780b1209f530c2664cebe516c225bff56fc7", func := "pagecache/pagecachelaw32.TokenExact", spec := "tokenExact", apart := false, narrowed := true }
def TokenExactUptoSaid : Prop := tokenExactUptoRow.holds Try.pinned (OpenSpec.upto tokenExactSpec)

/-- 'pagecachelaw32.TokenSmall', WHERE WHAT IT READS IS OF BULK AT MOST 1048576: true; the input reads as it did. -/
def tokenSmallUptoRow : OpenClaim := { program := "ytchimkjbpmcpbaa", sum := "cc980deca2950afa72ab7d4e53e6780b1209f530c2664cebe516c225bff56fc7", func := "pagecache/pagecachelaw32.TokenSmall", spec := "tokenSmall", apart := false, narrowed := true }
def TokenSmallUptoSaid : Prop := tokenSmallUptoRow.holds Try.pinned (OpenSpec.upto tokenSmallSpec)

/-- 'pagecachelaw32.TokenWhen', WHERE WHAT IT READS IS OF BULK AT MOST 1048576: true; the input reads as it did. -/
def tokenWhenUptoRow : OpenClaim := { program := "ytchimkjbpmcpbaa", sum := "cc980deca2950afa72ab7d4e53e6780b1209f530c2664cebe516c225bff56fc7", func := "pagecache/pagecachelaw32.TokenWhen", spec := "tokenWhen", apart := false, narrowed := true }
def TokenWhenUptoSaid : Prop := tokenWhenUptoRow.holds Try.pinned (OpenSpec.upto tokenWhenSpec)

/-- 'pagecachelaw32.TokenRate', WHERE WHAT IT READS IS OF BULK AT MOST 1048576: true; the input reads as it did. -/
def tokenRateUptoRow : OpenClaim := { program := "ytchimkjbpmcpbaa", sum := "cc980deca2950afa72ab7d4e53e6780b1209f530c2664cebe516c225bff56fc7", func := "pagecache/pagecachelaw32.TokenRate", spec := "tokenRate", apart := false, narrowed := true }
def TokenRateUptoSaid : Prop := tokenRateUptoRow.holds Try.pinned (OpenSpec.upto tokenRateSpec)

/-- 'pagecachelaw32.TokenRefills', WHERE WHAT IT READS IS OF BULK AT MOST 1048576: true; the input reads as it did. -/
def tokenRefillsUptoRow : OpenClaim := { program := "ytchimkjbpmcpbaa", sum := "cc980deca2950afa72ab7d4e53e6780b1209f530c2664cebe516c225bff56fc7", func := "pagecache/pagecachelaw32.TokenRefills", spec := "tokenRefills", apart := false, narrowed := true }
def TokenRefillsUptoSaid : Prop := tokenRefillsUptoRow.holds Try.pinned (OpenSpec.upto tokenRefillsSpec)

/-- 'pagecachelaw32.TokenSplits', WHERE WHAT IT READS IS OF BULK AT MOST 1048576: true; the input reads as it did. -/
def tokenSplitsUptoRow : OpenClaim := { program := "ytchimkjbpmcpbaa", sum := "cc980deca2950afa72ab7d4e53e6780b1209f530c2664cebe516c225bff56fc7", func := "pagecache/pagecachelaw32.TokenSplits", spec := "tokenSplits", apart := false, narrowed := true }
def TokenSplitsUptoSaid : Prop := tokenSplitsUptoRow.holds Try.pinned (OpenSpec.upto tokenSplitsSpec)

end Rows
end Go.Proofs.Ytchimkjbpmcpbaa
