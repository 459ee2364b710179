/-
  No cell of these rows narrows 'for every input' (looked for: loops, veiled, ifaces, maps, wideKeys, modest, calm, conditions, laid).
  DERIVED. THE GIVEN ROWS OF THIS SEAT. 5 by the template 'for every input the law returns true; each argument reads behind the call as it read before'; 0 by the template 'total and deterministic' (their statements: YteghcnmmdcclcaaTotals.lean).
  GIVEN WITH THE SEED: the statements are not yours to turn. If you find one false, say at which input.
  Laid BY PROGRAM, IN A SANDBOX (cutbox-rows.mjs): the forced cells as the released guide's own fill.sh prints them over the translation 9ed23ba70f350f7b… (all of the seat's roots in one cut). By AI agents, Wed Nov 11 2026. No macro, syntax, notation, axiom, sorry.
-/
import Derived.Test.YteghcnmmdcclcaaChecked
import GoSem.Claim
import GoSem.ClaimJoined
import GoSem.ClaimMapViews
import Derived.JoinedTies
import Derived.KernelRfl
namespace Go.Proofs.Yteghcnmmdcclcaa
/- THE CELL 'sum', in the pinned program and in every row, IS THE sha256 OF THE DUMP (.gsa) THAT YteghcnmmdcclcaaProg.lean LOADS. Nothing in Lean hashes anything: it is a label: what it is worth is what the hold of that sum in a sandbox is worth. -/
noncomputable def Try.pinned : Pinned := { name := "yteghcnmmdcclcaa", sum := "9ed23ba70f350f7ba2dccff749a0a2272f66f40cd7e84d263ea1359530c6155c", checked := Try.checked }
namespace Rows
def none {H : Type} : Left H := { results := [], args := [] }

/-- 'toponymlaw1.LabelText': WHATEVER THE INPUT: true; the input reads as it did. -/
def labelTextSpec : ChangeSpec := { name := "labelText", fn := fun _ => fun
  | [d] => { results := [.lit (.bool true)], args := [d] }
  | _ => none }
def labelTextRow : OpenClaim := { program := "yteghcnmmdcclcaa", sum := "9ed23ba70f350f7ba2dccff749a0a2272f66f40cd7e84d263ea1359530c6155c", func := "toponym/toponymlaw1.LabelText", spec := "labelText", inPlace := ["internal/abi.NoEscape", "internal/bytealg.IndexByteString", "internal/bytealg.abigen_runtime_cmpstring"], unfollowed := true, recurses := true, apart := false }
def LabelTextSaid : Prop := labelTextRow.holds Try.pinned (OpenSpec.ofChange labelTextSpec)

/-- ITS FALSE NEIGHBOUR: 'it returns false'. Refute it at one input. -/
def labelTextWrong : ChangeSpec := { name := "labelText", fn := fun _ => fun
  | [d] => { results := [.lit (.bool false)], args := [d] }
  | _ => none }
def LabelTextWrongFalsely : Prop := labelTextRow.holds Try.pinned (OpenSpec.ofChange labelTextWrong)

/-- 'toponymlaw1.LabelParse': WHATEVER THE INPUT: true; the input reads as it did. -/
def labelParseSpec : ChangeSpec := { name := "labelParse", fn := fun _ => fun
  | [d] => { results := [.lit (.bool true)], args := [d] }
  | _ => none }
def labelParseRow : OpenClaim := { program := "yteghcnmmdcclcaa", sum := "9ed23ba70f350f7ba2dccff749a0a2272f66f40cd7e84d263ea1359530c6155c", func := "toponym/toponymlaw1.LabelParse", spec := "labelParse", inPlace := ["internal/abi.NoEscape", "internal/bytealg.IndexByteString", "internal/bytealg.abigen_runtime_cmpstring"], unfollowed := true, recurses := true, apart := false }
def LabelParseSaid : Prop := labelParseRow.holds Try.pinned (OpenSpec.ofChange labelParseSpec)

/-- ITS FALSE NEIGHBOUR: 'it returns false'. Refute it at one input. -/
def labelParseWrong : ChangeSpec := { name := "labelParse", fn := fun _ => fun
  | [d] => { results := [.lit (.bool false)], args := [d] }
  | _ => none }
def LabelParseWrongFalsely : Prop := labelParseRow.holds Try.pinned (OpenSpec.ofChange labelParseWrong)

/-- 'toponymlaw1.LabelOrder': WHATEVER THE INPUT: true; the input reads as it did. -/
def labelOrderSpec : ChangeSpec := { name := "labelOrder", fn := fun _ => fun
  | [d1, d2, d3] => { results := [.lit (.bool true)], args := [d1, d2, d3] }
  | _ => none }
def labelOrderRow : OpenClaim := { program := "yteghcnmmdcclcaa", sum := "9ed23ba70f350f7ba2dccff749a0a2272f66f40cd7e84d263ea1359530c6155c", func := "toponym/toponymlaw1.LabelOrder", spec := "labelOrder", inPlace := ["internal/abi.NoEscape", "internal/bytealg.IndexByteString", "internal/bytealg.abigen_runtime_cmpstring"], unfollowed := true, recurses := true, apart := false }
def LabelOrderSaid : Prop := labelOrderRow.holds Try.pinned (OpenSpec.ofChange labelOrderSpec)

/-- ITS FALSE NEIGHBOUR: 'it returns false'. Refute it at one input. -/
def labelOrderWrong : ChangeSpec := { name := "labelOrder", fn := fun _ => fun
  | [d1, d2, d3] => { results := [.lit (.bool false)], args := [d1, d2, d3] }
  | _ => none }
def LabelOrderWrongFalsely : Prop := labelOrderRow.holds Try.pinned (OpenSpec.ofChange labelOrderWrong)

/-- 'toponymlaw1.LabelSplit': WHATEVER THE INPUT: true; the input reads as it did. -/
def labelSplitSpec : ChangeSpec := { name := "labelSplit", fn := fun _ => fun
  | [d] => { results := [.lit (.bool true)], args := [d] }
  | _ => none }
def labelSplitRow : OpenClaim := { program := "yteghcnmmdcclcaa", sum := "9ed23ba70f350f7ba2dccff749a0a2272f66f40cd7e84d263ea1359530c6155c", func := "toponym/toponymlaw1.LabelSplit", spec := "labelSplit", inPlace := ["internal/abi.NoEscape", "internal/bytealg.IndexByteString", "internal/bytealg.abigen_runtime_cmpstring"], unfollowed := true, recurses := true, apart := false }
def LabelSplitSaid : Prop := labelSplitRow.holds Try.pinned (OpenSpec.ofChange labelSplitSpec)

/-- ITS FALSE NEIGHBOUR: 'it returns false'. Refute it at one input. -/
def labelSplitWrong : ChangeSpec := { name := "labelSplit", fn := fun _ => fun
  | [d] => { results := [.lit (.bool false)], args := [d] }
  | _ => none }
def LabelSplitWrongFalsely : Prop := labelSplitRow.holds Try.pinned (OpenSpec.ofChange labelSplitWrong)

/-- 'toponymlaw1.LabelSafe': WHATEVER THE INPUT: true; the input reads as it did. -/
def labelSafeSpec : ChangeSpec := { name := "labelSafe", fn := fun _ => fun
  | [d] => { results := [.lit (.bool true)], args := [d] }
  | _ => none }
def labelSafeRow : OpenClaim := { program := "yteghcnmmdcclcaa", sum := "9ed23ba70f350f7ba2dccff749a0a2272f66f40cd7e84d263ea1359530c6155c", func := "toponym/toponymlaw1.LabelSafe", spec := "labelSafe", inPlace := ["internal/abi.NoEscape", "internal/bytealg.IndexByteString", "internal/bytealg.abigen_runtime_cmpstring"], unfollowed := true, recurses := true, apart := false }
def LabelSafeSaid : Prop := labelSafeRow.holds Try.pinned (OpenSpec.ofChange labelSafeSpec)

/-- ITS FALSE NEIGHBOUR: 'it returns false'. Refute it at one input. -/
def labelSafeWrong : ChangeSpec := { name := "labelSafe", fn := fun _ => fun
  | [d] => { results := [.lit (.bool false)], args := [d] }
  | _ => none }
def LabelSafeWrongFalsely : Prop := labelSafeRow.holds Try.pinned (OpenSpec.ofChange labelSafeWrong)

/- THE SECOND FORM. 'bulk': how many values and letters a reading holds, each counted each time it is reached (what is shared counts as often as it is met; a slice's spare places count too). A statement '..UptoSaid' is the law's where the arguments, and the package variables that the reading takes, are together of bulk at most 1048576: NARROWER than '..Said'. Prove '..Said' where nothing that the law and all that it calls make is longer than what came in: it says more and counts as full. Else prove '..UptoSaid'. A law counts once. -/
mutual
def uptoBulk {H : Type} : DataW H → Nat
  | .lit (.string bytes) => bytes.length + 1
  | .lit _ => 1
  | .nil => 1
  | .ptr d => uptoBulk d + 1
  | .slice elems spare => uptoBulkAll elems + uptoBulkAll spare + 1
  | .agg parts => uptoBulkAll parts + 1
  | .iface _ d => uptoBulk d + 1
  | .map entries => uptoBulkEntries entries + 1
  | .held _ => 1
def uptoBulkAll {H : Type} : List (DataW H) → Nat
  | [] => 0
  | d :: r => uptoBulk d + uptoBulkAll r
def uptoBulkEntries {H : Type} : List (Lit × DataW H) → Nat
  | [] => 0
  | x :: r => uptoBulkEntry x + uptoBulkEntries r
def uptoBulkEntry {H : Type} : Lit × DataW H → Nat
  | (.string bytes, d) => bytes.length + uptoBulk d + 1
  | (_, d) => uptoBulk d + 1
 end
def uptoSmall : (H : Type) → List (DataW H) → Bool := fun _ ds => decide (uptoBulkAll ds ≤ 1048576)
def OpenSpec.upto (s : _root_.Go.ChangeSpec) : _root_.Go.OpenSpec := { _root_.Go.OpenSpec.ofChange s with cond := some uptoSmall }

/-- 'toponymlaw1.LabelText', WHERE WHAT IT READS IS OF BULK AT MOST 1048576: true; the input reads as it did. -/
def labelTextUptoRow : OpenClaim := { program := "yteghcnmmdcclcaa", sum := "9ed23ba70f350f7ba2dccff749a0a2272f66f40cd7e84d263ea1359530c6155c", func := "toponym/toponymlaw1.LabelText", spec := "labelText", inPlace := ["internal/abi.NoEscape", "internal/bytealg.IndexByteString", "internal/bytealg.abigen_runtime_cmpstring"], unfollowed := true, recurses := true, apart := false, narrowed := true }
def LabelTextUptoSaid : Prop := labelTextUptoRow.holds Try.pinned (OpenSpec.upto labelTextSpec)

/-- 'toponymlaw1.LabelParse', WHERE WHAT IT READS IS OF BULK AT MOST 1048576: true; the input reads as it did. -/
def labelParseUptoRow : OpenClaim := { program := "yteghcnmmdcclcaa", sum := "9ed23ba70f350f7ba2dccff749a0a2272f66f40cd7e84d263ea1359530c6155c", func := "toponym/toponymlaw1.LabelParse", spec := "labelParse", inPlace := ["internal/abi.NoEscape", "internal/bytealg.IndexByteString", "internal/bytealg.abigen_runtime_cmpstring"], unfollowed := true, recurses := true, apart := false, narrowed := true }
def LabelParseUptoSaid : Prop := labelParseUptoRow.holds Try.pinned (OpenSpec.upto labelParseSpec)

/-- 'toponymlaw1.LabelOrder', WHERE WHAT IT READS IS OF BULK AT MOST 1048576: true; the input reads as it did. -/
def labelOrderUptoRow : OpenClaim := { program := "yteghcnmmdcclcaa", sum := "9ed23ba70f350f7ba2dccff749a0a2272f66f40cd7e84d263ea1359530c6155c", func := "toponym/toponymlaw1.LabelOrder", spec := "labelOrder", inPlace := ["internal/abi.NoEscape", "internal/bytealg.IndexByteString", "internal/bytealg.abigen_runtime_cmpstring"], unfollowed := true, recurses := true, apart := false, narrowed := true }
def LabelOrderUptoSaid : Prop := labelOrderUptoRow.holds Try.pinned (OpenSpec.upto labelOrderSpec)

/-- 'toponymlaw1.LabelSplit', WHERE WHAT IT READS IS OF BULK AT MOST 1048576: true; the input reads as it did. -/
def labelSplitUptoRow : OpenClaim := { program := "yteghcnmmdcclcaa", sum := "9ed23ba70f350f7ba2dccff749a0a2272f66f40cd7e84d263ea1359530c6155c", func := "toponym/toponymlaw1.LabelSplit", spec := "labelSplit", inPlace := ["internal/abi.NoEscape", "internal/bytealg.IndexByteString", "internal/bytealg.abigen_runtime_cmpstring"], unfollowed := true, recurses := true, apart := false, narrowed := true }
def LabelSplitUptoSaid : Prop := labelSplitUptoRow.holds Try.pinned (OpenSpec.upto labelSplitSpec)

/-- 'toponymlaw1.LabelSafe', WHERE WHAT IT READS IS OF BULK AT MOST 1048576: true; the input reads as it did. -/
def labelSafeUptoRow : OpenClaim := { program := "yteghcnmmdcclcaa", sum := "9ed23ba70f350f7ba2dccff749a0a2272f66f40cd7e84d263ea1359530c6155c", func := "toponym/toponymlaw1.LabelSafe", spec := "labelSafe", inPlace := ["internal/abi.NoEscape", "internal/bytealg.IndexByteString", "internal/bytealg.abigen_runtime_cmpstring"], unfollowed := true, recurses := true, apart := false, narrowed := true }
def LabelSafeUptoSaid : Prop := labelSafeUptoRow.holds Try.pinned (OpenSpec.upto labelSafeSpec)

end Rows
end Go.Proofs.Yteghcnmmdcclcaa
