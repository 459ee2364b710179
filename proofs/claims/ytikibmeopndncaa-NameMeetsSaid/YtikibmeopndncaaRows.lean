/-
  No cell of these rows narrows 'for every input' (looked for: loops, veiled, ifaces, maps, wideKeys, modest, calm, conditions, laid).
  DERIVED. THE GIVEN ROWS OF THIS SEAT. 12 by the template 'for every input the law returns true; each argument reads behind the call as it read before'; 0 by the template 'total and deterministic' (their statements: YtikibmeopndncaaTotals.lean).
  GIVEN WITH THE SEED: the statements are not yours to turn. If you find one false, say at which input.
  Laid BY PROGRAM, IN A SANDBOX (cutbox-rows.mjs): the forced cells as the released guide's own fill.sh prints them over the translation ab8b3417d9e8c7b5… (all of the seat's roots in one cut). By AI agents, Wed Nov 11 2026. No macro, syntax, notation, axiom, sorry.
-/
import Derived.Test.YtikibmeopndncaaChecked
import GoSem.Claim
import GoSem.ClaimJoined
import GoSem.ClaimMapViews
import Derived.JoinedTies
import Derived.KernelRfl
namespace Go.Proofs.Ytikibmeopndncaa
/- THE CELL 'sum', in the pinned program and in every row, IS THE sha256 OF THE DUMP (.gsa) THAT YtikibmeopndncaaProg.lean LOADS. Nothing in Lean hashes anything: it is a label: what it is worth is what the hold of that sum in a sandbox is worth. -/
noncomputable def Try.pinned : Pinned := { name := "ytikibmeopndncaa", sum := "ab8b3417d9e8c7b5185494de8f2d51c87e3284338dad3314c42f709b67024fb2", checked := Try.checked }
namespace Rows
def none {H : Type} : Left H := { results := [], args := [] }

/-- 'toponymlaw7.TokAny': WHATEVER THE INPUT: true; the input reads as it did. -/
def tokAnySpec : ChangeSpec := { name := "tokAny", fn := fun _ => fun
  | [d] => { results := [.lit (.bool true)], args := [d] }
  | _ => none }
def tokAnyRow : OpenClaim := { program := "ytikibmeopndncaa", sum := "ab8b3417d9e8c7b5185494de8f2d51c87e3284338dad3314c42f709b67024fb2", func := "toponym/toponymlaw7.TokAny", spec := "tokAny", inPlace := ["internal/bytealg.IndexByteString", "internal/bytealg.IndexString"], unfollowed := true, recurses := true, named := ["internal/bytealg.MaxLen"], apart := false }
def TokAnySaid : Prop := tokAnyRow.holds Try.pinned (OpenSpec.ofChange tokAnySpec)

/-- ITS FALSE NEIGHBOUR: 'it returns false'. Refute it at one input. -/
def tokAnyWrong : ChangeSpec := { name := "tokAny", fn := fun _ => fun
  | [d] => { results := [.lit (.bool false)], args := [d] }
  | _ => none }
def TokAnyWrongFalsely : Prop := tokAnyRow.holds Try.pinned (OpenSpec.ofChange tokAnyWrong)

/-- 'toponymlaw7.TokPlain': WHATEVER THE INPUT: true; the input reads as it did. -/
def tokPlainSpec : ChangeSpec := { name := "tokPlain", fn := fun _ => fun
  | [d1, d2] => { results := [.lit (.bool true)], args := [d1, d2] }
  | _ => none }
def tokPlainRow : OpenClaim := { program := "ytikibmeopndncaa", sum := "ab8b3417d9e8c7b5185494de8f2d51c87e3284338dad3314c42f709b67024fb2", func := "toponym/toponymlaw7.TokPlain", spec := "tokPlain", inPlace := ["internal/bytealg.IndexByteString", "internal/bytealg.IndexString"], unfollowed := true, recurses := true, named := ["internal/bytealg.MaxLen"], apart := false }
def TokPlainSaid : Prop := tokPlainRow.holds Try.pinned (OpenSpec.ofChange tokPlainSpec)

/-- ITS FALSE NEIGHBOUR: 'it returns false'. Refute it at one input. -/
def tokPlainWrong : ChangeSpec := { name := "tokPlain", fn := fun _ => fun
  | [d1, d2] => { results := [.lit (.bool false)], args := [d1, d2] }
  | _ => none }
def TokPlainWrongFalsely : Prop := tokPlainRow.holds Try.pinned (OpenSpec.ofChange tokPlainWrong)

/-- 'toponymlaw7.TokBrackets': WHATEVER THE INPUT: true; the input reads as it did. -/
def tokBracketsSpec : ChangeSpec := { name := "tokBrackets", fn := fun _ => fun
  | [d1, d2] => { results := [.lit (.bool true)], args := [d1, d2] }
  | _ => none }
def tokBracketsRow : OpenClaim := { program := "ytikibmeopndncaa", sum := "ab8b3417d9e8c7b5185494de8f2d51c87e3284338dad3314c42f709b67024fb2", func := "toponym/toponymlaw7.TokBrackets", spec := "tokBrackets", inPlace := ["internal/bytealg.IndexByteString", "internal/bytealg.IndexString"], unfollowed := true, recurses := true, named := ["internal/bytealg.MaxLen"], apart := false }
def TokBracketsSaid : Prop := tokBracketsRow.holds Try.pinned (OpenSpec.ofChange tokBracketsSpec)

/-- ITS FALSE NEIGHBOUR: 'it returns false'. Refute it at one input. -/
def tokBracketsWrong : ChangeSpec := { name := "tokBrackets", fn := fun _ => fun
  | [d1, d2] => { results := [.lit (.bool false)], args := [d1, d2] }
  | _ => none }
def TokBracketsWrongFalsely : Prop := tokBracketsRow.holds Try.pinned (OpenSpec.ofChange tokBracketsWrong)

/-- 'toponymlaw7.TokQuotes': WHATEVER THE INPUT: true; the input reads as it did. -/
def tokQuotesSpec : ChangeSpec := { name := "tokQuotes", fn := fun _ => fun
  | [d] => { results := [.lit (.bool true)], args := [d] }
  | _ => none }
def tokQuotesRow : OpenClaim := { program := "ytikibmeopndncaa", sum := "ab8b3417d9e8c7b5185494de8f2d51c87e3284338dad3314c42f709b67024fb2", func := "toponym/toponymlaw7.TokQuotes", spec := "tokQuotes", inPlace := ["internal/bytealg.IndexByteString", "internal/bytealg.IndexString"], unfollowed := true, recurses := true, named := ["internal/bytealg.MaxLen"], apart := false }
def TokQuotesSaid : Prop := tokQuotesRow.holds Try.pinned (OpenSpec.ofChange tokQuotesSpec)

/-- ITS FALSE NEIGHBOUR: 'it returns false'. Refute it at one input. -/
def tokQuotesWrong : ChangeSpec := { name := "tokQuotes", fn := fun _ => fun
  | [d] => { results := [.lit (.bool false)], args := [d] }
  | _ => none }
def TokQuotesWrongFalsely : Prop := tokQuotesRow.holds Try.pinned (OpenSpec.ofChange tokQuotesWrong)

/-- 'toponymlaw2.NameText': WHATEVER THE INPUT: true; the input reads as it did. -/
def nameTextSpec : ChangeSpec := { name := "nameText", fn := fun _ => fun
  | [d1, d2] => { results := [.lit (.bool true)], args := [d1, d2] }
  | _ => none }
def nameTextRow : OpenClaim := { program := "ytikibmeopndncaa", sum := "ab8b3417d9e8c7b5185494de8f2d51c87e3284338dad3314c42f709b67024fb2", func := "toponym/toponymlaw2.NameText", spec := "nameText", inPlace := ["internal/abi.NoEscape", "internal/bytealg.IndexByteString", "internal/bytealg.abigen_runtime_cmpstring"], unfollowed := true, recurses := true, apart := false }
def NameTextSaid : Prop := nameTextRow.holds Try.pinned (OpenSpec.ofChange nameTextSpec)

/-- ITS FALSE NEIGHBOUR: 'it returns false'. Refute it at one input. -/
def nameTextWrong : ChangeSpec := { name := "nameText", fn := fun _ => fun
  | [d1, d2] => { results := [.lit (.bool false)], args := [d1, d2] }
  | _ => none }
def NameTextWrongFalsely : Prop := nameTextRow.holds Try.pinned (OpenSpec.ofChange nameTextWrong)

/-- 'toponymlaw2.NameParse': WHATEVER THE INPUT: true; the input reads as it did. -/
def nameParseSpec : ChangeSpec := { name := "nameParse", fn := fun _ => fun
  | [d1, d2] => { results := [.lit (.bool true)], args := [d1, d2] }
  | _ => none }
def nameParseRow : OpenClaim := { program := "ytikibmeopndncaa", sum := "ab8b3417d9e8c7b5185494de8f2d51c87e3284338dad3314c42f709b67024fb2", func := "toponym/toponymlaw2.NameParse", spec := "nameParse", inPlace := ["internal/abi.NoEscape", "internal/bytealg.IndexByteString", "internal/bytealg.abigen_runtime_cmpstring"], unfollowed := true, recurses := true, apart := false }
def NameParseSaid : Prop := nameParseRow.holds Try.pinned (OpenSpec.ofChange nameParseSpec)

/-- ITS FALSE NEIGHBOUR: 'it returns false'. Refute it at one input. -/
def nameParseWrong : ChangeSpec := { name := "nameParse", fn := fun _ => fun
  | [d1, d2] => { results := [.lit (.bool false)], args := [d1, d2] }
  | _ => none }
def NameParseWrongFalsely : Prop := nameParseRow.holds Try.pinned (OpenSpec.ofChange nameParseWrong)

/-- 'toponymlaw2.NameTwo': WHATEVER THE INPUT: true; the input reads as it did. -/
def nameTwoSpec : ChangeSpec := { name := "nameTwo", fn := fun _ => fun
  | [d1, d2] => { results := [.lit (.bool true)], args := [d1, d2] }
  | _ => none }
def nameTwoRow : OpenClaim := { program := "ytikibmeopndncaa", sum := "ab8b3417d9e8c7b5185494de8f2d51c87e3284338dad3314c42f709b67024fb2", func := "toponym/toponymlaw2.NameTwo", spec := "nameTwo", inPlace := ["internal/abi.NoEscape", "internal/bytealg.IndexByteString", "internal/bytealg.abigen_runtime_cmpstring"], unfollowed := true, recurses := true, apart := false }
def NameTwoSaid : Prop := nameTwoRow.holds Try.pinned (OpenSpec.ofChange nameTwoSpec)

/-- ITS FALSE NEIGHBOUR: 'it returns false'. Refute it at one input. -/
def nameTwoWrong : ChangeSpec := { name := "nameTwo", fn := fun _ => fun
  | [d1, d2] => { results := [.lit (.bool false)], args := [d1, d2] }
  | _ => none }
def NameTwoWrongFalsely : Prop := nameTwoRow.holds Try.pinned (OpenSpec.ofChange nameTwoWrong)

/-- 'toponymlaw2.NameSwap': WHATEVER THE INPUT: true; the input reads as it did. -/
def nameSwapSpec : ChangeSpec := { name := "nameSwap", fn := fun _ => fun
  | [d1, d2, d3] => { results := [.lit (.bool true)], args := [d1, d2, d3] }
  | _ => none }
def nameSwapRow : OpenClaim := { program := "ytikibmeopndncaa", sum := "ab8b3417d9e8c7b5185494de8f2d51c87e3284338dad3314c42f709b67024fb2", func := "toponym/toponymlaw2.NameSwap", spec := "nameSwap", inPlace := ["internal/abi.NoEscape", "internal/bytealg.IndexByteString", "internal/bytealg.abigen_runtime_cmpstring"], unfollowed := true, recurses := true, apart := false }
def NameSwapSaid : Prop := nameSwapRow.holds Try.pinned (OpenSpec.ofChange nameSwapSpec)

/-- ITS FALSE NEIGHBOUR: 'it returns false'. Refute it at one input. -/
def nameSwapWrong : ChangeSpec := { name := "nameSwap", fn := fun _ => fun
  | [d1, d2, d3] => { results := [.lit (.bool false)], args := [d1, d2, d3] }
  | _ => none }
def NameSwapWrongFalsely : Prop := nameSwapRow.holds Try.pinned (OpenSpec.ofChange nameSwapWrong)

/-- 'toponymlaw2.NameChild': WHATEVER THE INPUT: true; the input reads as it did. -/
def nameChildSpec : ChangeSpec := { name := "nameChild", fn := fun _ => fun
  | [d1, d2] => { results := [.lit (.bool true)], args := [d1, d2] }
  | _ => none }
def nameChildRow : OpenClaim := { program := "ytikibmeopndncaa", sum := "ab8b3417d9e8c7b5185494de8f2d51c87e3284338dad3314c42f709b67024fb2", func := "toponym/toponymlaw2.NameChild", spec := "nameChild", inPlace := ["internal/abi.NoEscape", "internal/bytealg.IndexByteString", "internal/bytealg.abigen_runtime_cmpstring"], unfollowed := true, recurses := true, apart := false }
def NameChildSaid : Prop := nameChildRow.holds Try.pinned (OpenSpec.ofChange nameChildSpec)

/-- ITS FALSE NEIGHBOUR: 'it returns false'. Refute it at one input. -/
def nameChildWrong : ChangeSpec := { name := "nameChild", fn := fun _ => fun
  | [d1, d2] => { results := [.lit (.bool false)], args := [d1, d2] }
  | _ => none }
def NameChildWrongFalsely : Prop := nameChildRow.holds Try.pinned (OpenSpec.ofChange nameChildWrong)

/-- 'toponymlaw2.NameOrder': WHATEVER THE INPUT: true; the input reads as it did. -/
def nameOrderSpec : ChangeSpec := { name := "nameOrder", fn := fun _ => fun
  | [d1, d2, d3] => { results := [.lit (.bool true)], args := [d1, d2, d3] }
  | _ => none }
def nameOrderRow : OpenClaim := { program := "ytikibmeopndncaa", sum := "ab8b3417d9e8c7b5185494de8f2d51c87e3284338dad3314c42f709b67024fb2", func := "toponym/toponymlaw2.NameOrder", spec := "nameOrder", inPlace := ["internal/abi.NoEscape", "internal/bytealg.IndexByteString", "internal/bytealg.abigen_runtime_cmpstring"], unfollowed := true, recurses := true, apart := false }
def NameOrderSaid : Prop := nameOrderRow.holds Try.pinned (OpenSpec.ofChange nameOrderSpec)

/-- ITS FALSE NEIGHBOUR: 'it returns false'. Refute it at one input. -/
def nameOrderWrong : ChangeSpec := { name := "nameOrder", fn := fun _ => fun
  | [d1, d2, d3] => { results := [.lit (.bool false)], args := [d1, d2, d3] }
  | _ => none }
def NameOrderWrongFalsely : Prop := nameOrderRow.holds Try.pinned (OpenSpec.ofChange nameOrderWrong)

/-- 'toponymlaw2.NameParts': WHATEVER THE INPUT: true; the input reads as it did. -/
def namePartsSpec : ChangeSpec := { name := "nameParts", fn := fun _ => fun
  | [d1, d2] => { results := [.lit (.bool true)], args := [d1, d2] }
  | _ => none }
def namePartsRow : OpenClaim := { program := "ytikibmeopndncaa", sum := "ab8b3417d9e8c7b5185494de8f2d51c87e3284338dad3314c42f709b67024fb2", func := "toponym/toponymlaw2.NameParts", spec := "nameParts", inPlace := ["internal/abi.NoEscape", "internal/bytealg.IndexByteString", "internal/bytealg.abigen_runtime_cmpstring"], unfollowed := true, recurses := true, apart := false }
def NamePartsSaid : Prop := namePartsRow.holds Try.pinned (OpenSpec.ofChange namePartsSpec)

/-- ITS FALSE NEIGHBOUR: 'it returns false'. Refute it at one input. -/
def namePartsWrong : ChangeSpec := { name := "nameParts", fn := fun _ => fun
  | [d1, d2] => { results := [.lit (.bool false)], args := [d1, d2] }
  | _ => none }
def NamePartsWrongFalsely : Prop := namePartsRow.holds Try.pinned (OpenSpec.ofChange namePartsWrong)

/-- 'toponymlaw2.NameMeets': WHATEVER THE INPUT: true; the input reads as it did. -/
def nameMeetsSpec : ChangeSpec := { name := "nameMeets", fn := fun _ => fun
  | [d1, d2] => { results := [.lit (.bool true)], args := [d1, d2] }
  | _ => none }
def nameMeetsRow : OpenClaim := { program := "ytikibmeopndncaa", sum := "ab8b3417d9e8c7b5185494de8f2d51c87e3284338dad3314c42f709b67024fb2", func := "toponym/toponymlaw2.NameMeets", spec := "nameMeets", inPlace := ["internal/abi.NoEscape", "internal/bytealg.IndexByteString", "internal/bytealg.abigen_runtime_cmpstring"], unfollowed := true, recurses := true, apart := false }
def NameMeetsSaid : Prop := nameMeetsRow.holds Try.pinned (OpenSpec.ofChange nameMeetsSpec)

/-- ITS FALSE NEIGHBOUR: 'it returns false'. Refute it at one input. -/
def nameMeetsWrong : ChangeSpec := { name := "nameMeets", fn := fun _ => fun
  | [d1, d2] => { results := [.lit (.bool false)], args := [d1, d2] }
  | _ => none }
def NameMeetsWrongFalsely : Prop := nameMeetsRow.holds Try.pinned (OpenSpec.ofChange nameMeetsWrong)

/- THE SECOND FORM. 'bulk': how many values and letters a reading holds, each counted each time it is reached (what is shared counts as often as it is met; a slice's spare places count too). A statement '..UptoSaid' is the law's where the arguments, and the package variables that the reading takes, are together of bulk at most 1048576: NARROWER than '..Said'. Prove '..Said' where nothing that the law and all that it calls make is longer than what came in: it says more and counts as full. Else prove '..UptoSaid'. A law counts once. -/
mutual
def uptoBulk {H : Type} : DataW H → Nat
  | .lit (.string bytes) => bytes.length + 1
  | .lit _ => 1
  | .nil => 1
  | .ptr d => uptoBulk d + 1
  | .slice elems spare => uptoBulkAll elems + uptoBulkAll spare + 1
  | .agg parts => uptoBulkAll parts + 1
  | .iface _ d => uptoBulk d + 1
  | .map entries => uptoBulkEntries entries + 1
  | .held _ => 1
def uptoBulkAll {H : Type} : List (DataW H) → Nat
  | [] => 0
  | d :: r => uptoBulk d + uptoBulkAll r
def uptoBulkEntries {H : Type} : List (Lit × DataW H) → Nat
  | [] => 0
  | x :: r => uptoBulkEntry x + uptoBulkEntries r
def uptoBulkEntry {H : Type} : Lit × DataW H → Nat
  | (.string bytes, d) => bytes.length + uptoBulk d + 1
  | (_, d) => uptoBulk d + 1
 end
def uptoSmall : (H : Type) → List (DataW H) → Bool := fun _ ds => decide (uptoBulkAll ds ≤ 1048576)
def OpenSpec.upto (s : _root_.Go.ChangeSpec) : _root_.Go.OpenSpec := { _root_.Go.OpenSpec.ofChange s with cond := some uptoSmall }

/-- 'toponymlaw7.TokAny', WHERE WHAT IT READS IS OF BULK AT MOST 1048576: true; the input reads as it did. -/
def tokAnyUptoRow : OpenClaim := { program := "ytikibmeopndncaa", sum := "ab8b3417d9e8c7b5185494de8f2d51c87e3284338dad3314c42f709b67024fb2", func := "toponym/toponymlaw7.TokAny", spec := "tokAny", inPlace := ["internal/bytealg.IndexByteString", "internal/bytealg.IndexString"], unfollowed := true, recurses := true, named := ["internal/bytealg.MaxLen"], apart := false, narrowed := true }
def TokAnyUptoSaid : Prop := tokAnyUptoRow.holds Try.pinned (OpenSpec.upto tokAnySpec)

/-- 'toponymlaw7.TokPlain', WHERE WHAT IT READS IS OF BULK AT MOST 1048576: true; the input reads as it did. -/
def tokPlainUptoRow : OpenClaim := { program := "ytikibmeopndncaa", sum := "ab8b3417d9e8c7b5185494de8f2d51c87e3284338dad3314c42f709b67024fb2", func := "toponym/toponymlaw7.TokPlain", spec := "tokPlain", inPlace := ["internal/bytealg.IndexByteString", "internal/bytealg.IndexString"], unfollowed := true, recurses := true, named := ["internal/bytealg.MaxLen"], apart := false, narrowed := true }
def TokPlainUptoSaid : Prop := tokPlainUptoRow.holds Try.pinned (OpenSpec.upto tokPlainSpec)

/-- 'toponymlaw7.TokBrackets', WHERE WHAT IT READS IS OF BULK AT MOST 1048576: true; the input reads as it did. -/
def tokBracketsUptoRow : OpenClaim := { program := "ytikibmeopndncaa", sum := "ab8b3417d9e8c7b5185494de8f2d51c87e3284338dad3314c42f709b67024fb2", func := "toponym/toponymlaw7.TokBrackets", spec := "tokBrackets", inPlace := ["internal/bytealg.IndexByteString", "internal/bytealg.IndexString"], unfollowed := true, recurses := true, named := ["internal/bytealg.MaxLen"], apart := false, narrowed := true }
def TokBracketsUptoSaid : Prop := tokBracketsUptoRow.holds Try.pinned (OpenSpec.upto tokBracketsSpec)

/-- 'toponymlaw7.TokQuotes', WHERE WHAT IT READS IS OF BULK AT MOST 1048576: true; the input reads as it did. -/
def tokQuotesUptoRow : OpenClaim := { program := "ytikibmeopndncaa", sum := "ab8b3417d9e8c7b5185494de8f2d51c87e3284338dad3314c42f709b67024fb2", func := "toponym/toponymlaw7.TokQuotes", spec := "tokQuotes", inPlace := ["internal/bytealg.IndexByteString", "internal/bytealg.IndexString"], unfollowed := true, recurses := true, named := ["internal/bytealg.MaxLen"], apart := false, narrowed := true }
def TokQuotesUptoSaid : Prop := tokQuotesUptoRow.holds Try.pinned (OpenSpec.upto tokQuotesSpec)

/-- 'toponymlaw2.NameText', WHERE WHAT IT READS IS OF BULK AT MOST 1048576: true; the input reads as it did. -/
def nameTextUptoRow : OpenClaim := { program := "ytikibmeopndncaa", sum := "ab8b3417d9e8c7b5185494de8f2d51c87e3284338dad3314c42f709b67024fb2", func := "toponym/toponymlaw2.NameText", spec := "nameText", inPlace := ["internal/abi.NoEscape", "internal/bytealg.IndexByteString", "internal/bytealg.abigen_runtime_cmpstring"], unfollowed := true, recurses := true, apart := false, narrowed := true }
def NameTextUptoSaid : Prop := nameTextUptoRow.holds Try.pinned (OpenSpec.upto nameTextSpec)

/-- 'toponymlaw2.NameParse', WHERE WHAT IT READS IS OF BULK AT MOST 1048576: true; the input reads as it did. -/
def nameParseUptoRow : OpenClaim := { program := "ytikibmeopndncaa", sum := "ab8b3417d9e8c7b5185494de8f2d51c87e3284338dad3314c42f709b67024fb2", func := "toponym/toponymlaw2.NameParse", spec := "nameParse", inPlace := ["internal/abi.NoEscape", "internal/bytealg.IndexByteString", "internal/bytealg.abigen_runtime_cmpstring"], unfollowed := true, recurses := true, apart := false, narrowed := true }
def NameParseUptoSaid : Prop := nameParseUptoRow.holds Try.pinned (OpenSpec.upto nameParseSpec)

/-- 'toponymlaw2.NameTwo', WHERE WHAT IT READS IS OF BULK AT MOST 1048576: true; the input reads as it did. -/
def nameTwoUptoRow : OpenClaim := { program := "ytikibmeopndncaa", sum := "ab8b3417d9e8c7b5185494de8f2d51c87e3284338dad3314c42f709b67024fb2", func := "toponym/toponymlaw2.NameTwo", spec := "nameTwo", inPlace := ["internal/abi.NoEscape", "internal/bytealg.IndexByteString", "internal/bytealg.abigen_runtime_cmpstring"], unfollowed := true, recurses := true, apart := false, narrowed := true }
def NameTwoUptoSaid : Prop := nameTwoUptoRow.holds Try.pinned (OpenSpec.upto nameTwoSpec)

/-- 'toponymlaw2.NameSwap', WHERE WHAT IT READS IS OF BULK AT MOST 1048576: true; the input reads as it did. -/
def nameSwapUptoRow : OpenClaim := { program := "ytikibmeopndncaa", sum := "ab8b3417d9e8c7b5185494de8f2d51c87e3284338dad3314c42f709b67024fb2", func := "toponym/toponymlaw2.NameSwap", spec := "nameSwap", inPlace := ["internal/abi.NoEscape", "internal/bytealg.IndexByteString", "internal/bytealg.abigen_runtime_cmpstring"], unfollowed := true, recurses := true, apart := false, narrowed := true }
def NameSwapUptoSaid : Prop := nameSwapUptoRow.holds Try.pinned (OpenSpec.upto nameSwapSpec)

/-- 'toponymlaw2.NameChild', WHERE WHAT IT READS IS OF BULK AT MOST 1048576: true; the input reads as it did. -/
def nameChildUptoRow : OpenClaim := { program := "ytikibmeopndncaa", sum := "ab8b3417d9e8c7b5185494de8f2d51c87e3284338dad3314c42f709b67024fb2", func := "toponym/toponymlaw2.NameChild", spec := "nameChild", inPlace := ["internal/abi.NoEscape", "internal/bytealg.IndexByteString", "internal/bytealg.abigen_runtime_cmpstring"], unfollowed := true, recurses := true, apart := false, narrowed := true }
def NameChildUptoSaid : Prop := nameChildUptoRow.holds Try.pinned (OpenSpec.upto nameChildSpec)

/-- 'toponymlaw2.NameOrder', WHERE WHAT IT READS IS OF BULK AT MOST 1048576: true; the input reads as it did. -/
def nameOrderUptoRow : OpenClaim := { program := "ytikibmeopndncaa", sum := "ab8b3417d9e8c7b5185494de8f2d51c87e3284338dad3314c42f709b67024fb2", func := "toponym/toponymlaw2.NameOrder", spec := "nameOrder", inPlace := ["internal/abi.NoEscape", "internal/bytealg.IndexByteString", "internal/bytealg.abigen_runtime_cmpstring"], unfollowed := true, recurses := true, apart := false, narrowed := true }
def NameOrderUptoSaid : Prop := nameOrderUptoRow.holds Try.pinned (OpenSpec.upto nameOrderSpec)

/-- 'toponymlaw2.NameParts', WHERE WHAT IT READS IS OF BULK AT MOST 1048576: true; the input reads as it did. -/
def namePartsUptoRow : OpenClaim := { program := "ytikibmeopndncaa", sum := "ab8b3417d9e8c7b5185494de8f2d51c87e3284338dad3314c42f709b67024fb2", func := "toponym/toponymlaw2.NameParts", spec := "nameParts", inPlace := ["internal/abi.NoEscape", "internal/bytealg.IndexByteString", "internal/bytealg.abigen_runtime_cmpstring"], unfollowed := true, recurses := true, apart := false, narrowed := true }
def NamePartsUptoSaid : Prop := namePartsUptoRow.holds Try.pinned (OpenSpec.upto namePartsSpec)

/-- 'toponymlaw2.NameMeets', WHERE WHAT IT READS IS OF BULK AT MOST 1048576: true; the input reads as it did. -/
def nameMeetsUptoRow : OpenClaim := { program := "ytikibmeopndncaa", sum := "ab8b3417d9e8c7b5185494de8f2d51c87e3284338dad3314c42f709b67024fb2", func := "toponym/toponymlaw2.NameMeets", spec := "nameMeets", inPlace := ["internal/abi.NoEscape", "internal/bytealg.IndexByteString", "internal/bytealg.abigen_runtime_cmpstring"], unfollowed := true, recurses := true, apart := false, narrowed := true }
def NameMeetsUptoSaid : Prop := nameMeetsUptoRow.holds Try.pinned (OpenSpec.upto nameMeetsSpec)

end Rows
end Go.Proofs.Ytikibmeopndncaa
