/-
  NARROWER THAN 'FOR EVERY INPUT', by the rows' own cells (each row's printed sentence says how): GroupnameCompare: laid · GroupnameSort: laid · GroupnameChildren: laid · GroupnameAdjacent: laid · GroupnameWalk: laid · GroupnameCheck: laid · GroupnameJoin: laid · GroupnameWithin: laid · GroupnameParseList: laid · GroupnameFormatList: laid.
  DERIVED. THE GIVEN ROWS OF THIS SEAT. 10 by the template 'for every input the law returns true; each argument reads behind the call as it read before'; 0 by the template 'total and deterministic' (their statements: YtcagooijkecmoaaDoorTotals.lean).
  GIVEN WITH THE SEED: the statements are not yours to turn. If you find one false, say at which input.
  Laid BY PROGRAM, IN A SANDBOX (cutbox-rows.mjs): the forced cells as the released guide's own fill.sh prints them over the translation a2ed7f7fb764a9fa… (all of the seat's roots in one cut). By AI agents, Wed Nov 11 2026. No macro, syntax, notation, axiom, sorry.
-/
import Derived.Test.YtcagooijkecmoaaDoorChecked
import GoSem.PinnedTables
import GoSem.Claim
import GoSem.ClaimJoined
import GoSem.ClaimMapViews
import Derived.JoinedTies
import Derived.KernelRfl
namespace Go.Proofs.YtcagooijkecmoaaDoor
/- THE CELL 'sum', in the pinned program and in every row, IS THE sha256 OF THE DUMP (.gsa) THAT YtcagooijkecmoaaDoorProg.lean LOADS. Nothing in Lean hashes anything: it is a label: what it is worth is what the hold of that sum in a sandbox is worth. -/
noncomputable def Tryd.pinned : Pinned := { name := "ytcagooijkecmoaadoor", sum := "a2ed7f7fb764a9fa9d7f4f2236e54665069e0fa1f6d09fa6e07acaa2d458c0c1", checked := Tryd.checked }
namespace Rows
def none {H : Type} : Left H := { results := [], args := [] }

/- WHAT THE LISTED PACKAGE-LEVEL VARIABLES READ AS WHEN THE CALL BEGINS. Each datum BY PROGRAM (the guide's laid-datum.mjs) off the statement by which the dump's own 'gosem.cut.vars' lays the variable. In a bare row this is a premise. The card (YtcagooijkecmoaaDoorCards.lean) ties it to the program's text. -/
def laid_unicode_utf8_acceptRanges {H : Type} : DataW H := .agg [.agg [.lit (.int .u8 128), .lit (.int .u8 191)], .agg [.lit (.int .u8 160), .lit (.int .u8 191)], .agg [.lit (.int .u8 128), .lit (.int .u8 159)], .agg [.lit (.int .u8 144), .lit (.int .u8 191)], .agg [.lit (.int .u8 128), .lit (.int .u8 143)], .agg [.lit (.int .u8 0), .lit (.int .u8 0)], .agg [.lit (.int .u8 0), .lit (.int .u8 0)], .agg [.lit (.int .u8 0), .lit (.int .u8 0)], .agg [.lit (.int .u8 0), .lit (.int .u8 0)], .agg [.lit (.int .u8 0), .lit (.int .u8 0)], .agg [.lit (.int .u8 0), .lit (.int .u8 0)], .agg [.lit (.int .u8 0), .lit (.int .u8 0)], .agg [.lit (.int .u8 0), .lit (.int .u8 0)], .agg [.lit (.int .u8 0), .lit (.int .u8 0)], .agg [.lit (.int .u8 0), .lit (.int .u8 0)], .agg [.lit (.int .u8 0), .lit (.int .u8 0)]]
/-- One of Go's own tables, pinned by name: the form's constant. -/
def laid_unicode_utf8_first : DataW Unit := Go.Pinned.utf8First

/-- 'bulletinlaw12.GroupnameCompare': WHATEVER THE INPUT: true; the input reads as it did. -/
def groupnameCompareSpec : ChangeSpec := { name := "groupnameCompare", fn := fun _ => fun
  | [d1, d2, d3] => { results := [.lit (.bool true)], args := [d1, d2, d3] }
  | _ => none }
def groupnameCompareRow : OpenClaim := { program := "ytcagooijkecmoaadoor", sum := "a2ed7f7fb764a9fa9d7f4f2236e54665069e0fa1f6d09fa6e07acaa2d458c0c1", func := "bulletin/bulletinlaw12.GroupnameCompare", spec := "groupnameCompare", inPlace := ["internal/bytealg.CountString", "internal/bytealg.IndexByteString", "internal/bytealg.IndexString"], unfollowed := true, recurses := true, named := ["unicode/utf8.first", "unicode/utf8.acceptRanges", "internal/bytealg.MaxLen"], apart := false, laid := [("unicode/utf8.acceptRanges", laid_unicode_utf8_acceptRanges), ("unicode/utf8.first", laid_unicode_utf8_first)] }
def GroupnameCompareSaid : Prop := groupnameCompareRow.holds Tryd.pinned (OpenSpec.ofChange groupnameCompareSpec)

/-- ITS FALSE NEIGHBOUR: 'it returns false'. Refute it at one input. -/
def groupnameCompareWrong : ChangeSpec := { name := "groupnameCompare", fn := fun _ => fun
  | [d1, d2, d3] => { results := [.lit (.bool false)], args := [d1, d2, d3] }
  | _ => none }
def GroupnameCompareWrongFalsely : Prop := groupnameCompareRow.holds Tryd.pinned (OpenSpec.ofChange groupnameCompareWrong)

/-- 'bulletinlaw12.GroupnameSort': WHATEVER THE INPUT: true; the input reads as it did. -/
def groupnameSortSpec : ChangeSpec := { name := "groupnameSort", fn := fun _ => fun
  | [d1, d2] => { results := [.lit (.bool true)], args := [d1, d2] }
  | _ => none }
def groupnameSortRow : OpenClaim := { program := "ytcagooijkecmoaadoor", sum := "a2ed7f7fb764a9fa9d7f4f2236e54665069e0fa1f6d09fa6e07acaa2d458c0c1", func := "bulletin/bulletinlaw12.GroupnameSort", spec := "groupnameSort", inPlace := ["internal/bytealg.CountString", "internal/bytealg.IndexByteString", "internal/bytealg.IndexString"], unfollowed := true, recurses := true, named := ["unicode/utf8.first", "unicode/utf8.acceptRanges", "internal/bytealg.MaxLen"], apart := false, laid := [("unicode/utf8.acceptRanges", laid_unicode_utf8_acceptRanges), ("unicode/utf8.first", laid_unicode_utf8_first)] }
def GroupnameSortSaid : Prop := groupnameSortRow.holds Tryd.pinned (OpenSpec.ofChange groupnameSortSpec)

/-- ITS FALSE NEIGHBOUR: 'it returns false'. Refute it at one input. -/
def groupnameSortWrong : ChangeSpec := { name := "groupnameSort", fn := fun _ => fun
  | [d1, d2] => { results := [.lit (.bool false)], args := [d1, d2] }
  | _ => none }
def GroupnameSortWrongFalsely : Prop := groupnameSortRow.holds Tryd.pinned (OpenSpec.ofChange groupnameSortWrong)

/-- 'bulletinlaw12.GroupnameChildren': WHATEVER THE INPUT: true; the input reads as it did. -/
def groupnameChildrenSpec : ChangeSpec := { name := "groupnameChildren", fn := fun _ => fun
  | [d1, d2] => { results := [.lit (.bool true)], args := [d1, d2] }
  | _ => none }
def groupnameChildrenRow : OpenClaim := { program := "ytcagooijkecmoaadoor", sum := "a2ed7f7fb764a9fa9d7f4f2236e54665069e0fa1f6d09fa6e07acaa2d458c0c1", func := "bulletin/bulletinlaw12.GroupnameChildren", spec := "groupnameChildren", inPlace := ["internal/bytealg.CountString", "internal/bytealg.IndexByteString", "internal/bytealg.IndexString"], unfollowed := true, recurses := true, named := ["unicode/utf8.first", "unicode/utf8.acceptRanges", "internal/bytealg.MaxLen"], apart := false, laid := [("unicode/utf8.acceptRanges", laid_unicode_utf8_acceptRanges), ("unicode/utf8.first", laid_unicode_utf8_first)] }
def GroupnameChildrenSaid : Prop := groupnameChildrenRow.holds Tryd.pinned (OpenSpec.ofChange groupnameChildrenSpec)

/-- ITS FALSE NEIGHBOUR: 'it returns false'. Refute it at one input. -/
def groupnameChildrenWrong : ChangeSpec := { name := "groupnameChildren", fn := fun _ => fun
  | [d1, d2] => { results := [.lit (.bool false)], args := [d1, d2] }
  | _ => none }
def GroupnameChildrenWrongFalsely : Prop := groupnameChildrenRow.holds Tryd.pinned (OpenSpec.ofChange groupnameChildrenWrong)

/-- 'bulletinlaw12.GroupnameAdjacent': WHATEVER THE INPUT: true; the input reads as it did. -/
def groupnameAdjacentSpec : ChangeSpec := { name := "groupnameAdjacent", fn := fun _ => fun
  | [d1, d2, d3, d4] => { results := [.lit (.bool true)], args := [d1, d2, d3, d4] }
  | _ => none }
def groupnameAdjacentRow : OpenClaim := { program := "ytcagooijkecmoaadoor", sum := "a2ed7f7fb764a9fa9d7f4f2236e54665069e0fa1f6d09fa6e07acaa2d458c0c1", func := "bulletin/bulletinlaw12.GroupnameAdjacent", spec := "groupnameAdjacent", inPlace := ["internal/bytealg.CountString", "internal/bytealg.IndexByteString", "internal/bytealg.IndexString"], unfollowed := true, recurses := true, named := ["unicode/utf8.first", "unicode/utf8.acceptRanges", "internal/bytealg.MaxLen"], apart := false, laid := [("unicode/utf8.acceptRanges", laid_unicode_utf8_acceptRanges), ("unicode/utf8.first", laid_unicode_utf8_first)] }
def GroupnameAdjacentSaid : Prop := groupnameAdjacentRow.holds Tryd.pinned (OpenSpec.ofChange groupnameAdjacentSpec)

/-- ITS FALSE NEIGHBOUR: 'it returns false'. Refute it at one input. -/
def groupnameAdjacentWrong : ChangeSpec := { name := "groupnameAdjacent", fn := fun _ => fun
  | [d1, d2, d3, d4] => { results := [.lit (.bool false)], args := [d1, d2, d3, d4] }
  | _ => none }
def GroupnameAdjacentWrongFalsely : Prop := groupnameAdjacentRow.holds Tryd.pinned (OpenSpec.ofChange groupnameAdjacentWrong)

/-- 'bulletinlaw12.GroupnameWalk': WHATEVER THE INPUT: true; the input reads as it did. -/
def groupnameWalkSpec : ChangeSpec := { name := "groupnameWalk", fn := fun _ => fun
  | [d1, d2] => { results := [.lit (.bool true)], args := [d1, d2] }
  | _ => none }
def groupnameWalkRow : OpenClaim := { program := "ytcagooijkecmoaadoor", sum := "a2ed7f7fb764a9fa9d7f4f2236e54665069e0fa1f6d09fa6e07acaa2d458c0c1", func := "bulletin/bulletinlaw12.GroupnameWalk", spec := "groupnameWalk", inPlace := ["internal/bytealg.CountString", "internal/bytealg.IndexByteString", "internal/bytealg.IndexString"], unfollowed := true, recurses := true, named := ["unicode/utf8.first", "unicode/utf8.acceptRanges", "internal/bytealg.MaxLen"], apart := false, laid := [("unicode/utf8.acceptRanges", laid_unicode_utf8_acceptRanges), ("unicode/utf8.first", laid_unicode_utf8_first)] }
def GroupnameWalkSaid : Prop := groupnameWalkRow.holds Tryd.pinned (OpenSpec.ofChange groupnameWalkSpec)

/-- ITS FALSE NEIGHBOUR: 'it returns false'. Refute it at one input. -/
def groupnameWalkWrong : ChangeSpec := { name := "groupnameWalk", fn := fun _ => fun
  | [d1, d2] => { results := [.lit (.bool false)], args := [d1, d2] }
  | _ => none }
def GroupnameWalkWrongFalsely : Prop := groupnameWalkRow.holds Tryd.pinned (OpenSpec.ofChange groupnameWalkWrong)

/-- 'bulletinlaw12.GroupnameCheck': WHATEVER THE INPUT: true; the input reads as it did. -/
def groupnameCheckSpec : ChangeSpec := { name := "groupnameCheck", fn := fun _ => fun
  | [d] => { results := [.lit (.bool true)], args := [d] }
  | _ => none }
def groupnameCheckRow : OpenClaim := { program := "ytcagooijkecmoaadoor", sum := "a2ed7f7fb764a9fa9d7f4f2236e54665069e0fa1f6d09fa6e07acaa2d458c0c1", func := "bulletin/bulletinlaw12.GroupnameCheck", spec := "groupnameCheck", inPlace := ["internal/bytealg.CountString", "internal/bytealg.IndexByteString", "internal/bytealg.IndexString", "internal/abi.NoEscape", "internal/bytealg.MakeNoZero"], unfollowed := true, recurses := true, named := ["unicode/utf8.first", "unicode/utf8.acceptRanges", "internal/bytealg.MaxLen"], apart := false, laid := [("unicode/utf8.acceptRanges", laid_unicode_utf8_acceptRanges), ("unicode/utf8.first", laid_unicode_utf8_first)] }
def GroupnameCheckSaid : Prop := groupnameCheckRow.holds Tryd.pinned (OpenSpec.ofChange groupnameCheckSpec)

/-- ITS FALSE NEIGHBOUR: 'it returns false'. Refute it at one input. -/
def groupnameCheckWrong : ChangeSpec := { name := "groupnameCheck", fn := fun _ => fun
  | [d] => { results := [.lit (.bool false)], args := [d] }
  | _ => none }
def GroupnameCheckWrongFalsely : Prop := groupnameCheckRow.holds Tryd.pinned (OpenSpec.ofChange groupnameCheckWrong)

/-- 'bulletinlaw12.GroupnameJoin': WHATEVER THE INPUT: true; the input reads as it did. -/
def groupnameJoinSpec : ChangeSpec := { name := "groupnameJoin", fn := fun _ => fun
  | [d] => { results := [.lit (.bool true)], args := [d] }
  | _ => none }
def groupnameJoinRow : OpenClaim := { program := "ytcagooijkecmoaadoor", sum := "a2ed7f7fb764a9fa9d7f4f2236e54665069e0fa1f6d09fa6e07acaa2d458c0c1", func := "bulletin/bulletinlaw12.GroupnameJoin", spec := "groupnameJoin", inPlace := ["internal/bytealg.CountString", "internal/bytealg.IndexByteString", "internal/bytealg.IndexString", "internal/abi.NoEscape", "internal/bytealg.MakeNoZero"], unfollowed := true, recurses := true, named := ["unicode/utf8.first", "unicode/utf8.acceptRanges", "internal/bytealg.MaxLen"], apart := false, laid := [("unicode/utf8.acceptRanges", laid_unicode_utf8_acceptRanges), ("unicode/utf8.first", laid_unicode_utf8_first)] }
def GroupnameJoinSaid : Prop := groupnameJoinRow.holds Tryd.pinned (OpenSpec.ofChange groupnameJoinSpec)

/-- ITS FALSE NEIGHBOUR: 'it returns false'. Refute it at one input. -/
def groupnameJoinWrong : ChangeSpec := { name := "groupnameJoin", fn := fun _ => fun
  | [d] => { results := [.lit (.bool false)], args := [d] }
  | _ => none }
def GroupnameJoinWrongFalsely : Prop := groupnameJoinRow.holds Tryd.pinned (OpenSpec.ofChange groupnameJoinWrong)

/-- 'bulletinlaw12.GroupnameWithin': WHATEVER THE INPUT: true; the input reads as it did. -/
def groupnameWithinSpec : ChangeSpec := { name := "groupnameWithin", fn := fun _ => fun
  | [d1, d2, d3] => { results := [.lit (.bool true)], args := [d1, d2, d3] }
  | _ => none }
def groupnameWithinRow : OpenClaim := { program := "ytcagooijkecmoaadoor", sum := "a2ed7f7fb764a9fa9d7f4f2236e54665069e0fa1f6d09fa6e07acaa2d458c0c1", func := "bulletin/bulletinlaw12.GroupnameWithin", spec := "groupnameWithin", inPlace := ["internal/bytealg.CountString", "internal/bytealg.IndexByteString", "internal/bytealg.IndexString", "internal/abi.NoEscape", "internal/bytealg.MakeNoZero"], unfollowed := true, recurses := true, named := ["unicode/utf8.first", "unicode/utf8.acceptRanges", "internal/bytealg.MaxLen"], apart := false, laid := [("unicode/utf8.acceptRanges", laid_unicode_utf8_acceptRanges), ("unicode/utf8.first", laid_unicode_utf8_first)] }
def GroupnameWithinSaid : Prop := groupnameWithinRow.holds Tryd.pinned (OpenSpec.ofChange groupnameWithinSpec)

/-- ITS FALSE NEIGHBOUR: 'it returns false'. Refute it at one input. -/
def groupnameWithinWrong : ChangeSpec := { name := "groupnameWithin", fn := fun _ => fun
  | [d1, d2, d3] => { results := [.lit (.bool false)], args := [d1, d2, d3] }
  | _ => none }
def GroupnameWithinWrongFalsely : Prop := groupnameWithinRow.holds Tryd.pinned (OpenSpec.ofChange groupnameWithinWrong)

/-- 'bulletinlaw12.GroupnameParseList': WHATEVER THE INPUT: true; the input reads as it did. -/
def groupnameParseListSpec : ChangeSpec := { name := "groupnameParseList", fn := fun _ => fun
  | [d] => { results := [.lit (.bool true)], args := [d] }
  | _ => none }
def groupnameParseListRow : OpenClaim := { program := "ytcagooijkecmoaadoor", sum := "a2ed7f7fb764a9fa9d7f4f2236e54665069e0fa1f6d09fa6e07acaa2d458c0c1", func := "bulletin/bulletinlaw12.GroupnameParseList", spec := "groupnameParseList", inPlace := ["internal/bytealg.CountString", "internal/bytealg.IndexByteString", "internal/bytealg.IndexString", "internal/abi.NoEscape", "internal/bytealg.MakeNoZero"], unfollowed := true, recurses := true, named := ["unicode/utf8.first", "unicode/utf8.acceptRanges", "internal/bytealg.MaxLen"], apart := false, laid := [("unicode/utf8.acceptRanges", laid_unicode_utf8_acceptRanges), ("unicode/utf8.first", laid_unicode_utf8_first)] }
def GroupnameParseListSaid : Prop := groupnameParseListRow.holds Tryd.pinned (OpenSpec.ofChange groupnameParseListSpec)

/-- ITS FALSE NEIGHBOUR: 'it returns false'. Refute it at one input. -/
def groupnameParseListWrong : ChangeSpec := { name := "groupnameParseList", fn := fun _ => fun
  | [d] => { results := [.lit (.bool false)], args := [d] }
  | _ => none }
def GroupnameParseListWrongFalsely : Prop := groupnameParseListRow.holds Tryd.pinned (OpenSpec.ofChange groupnameParseListWrong)

/-- 'bulletinlaw12.GroupnameFormatList': WHATEVER THE INPUT: true; the input reads as it did. -/
def groupnameFormatListSpec : ChangeSpec := { name := "groupnameFormatList", fn := fun _ => fun
  | [d] => { results := [.lit (.bool true)], args := [d] }
  | _ => none }
def groupnameFormatListRow : OpenClaim := { program := "ytcagooijkecmoaadoor", sum := "a2ed7f7fb764a9fa9d7f4f2236e54665069e0fa1f6d09fa6e07acaa2d458c0c1", func := "bulletin/bulletinlaw12.GroupnameFormatList", spec := "groupnameFormatList", inPlace := ["internal/bytealg.CountString", "internal/bytealg.IndexByteString", "internal/bytealg.IndexString", "internal/abi.NoEscape", "internal/bytealg.MakeNoZero"], unfollowed := true, recurses := true, named := ["unicode/utf8.first", "unicode/utf8.acceptRanges", "internal/bytealg.MaxLen"], apart := false, laid := [("unicode/utf8.acceptRanges", laid_unicode_utf8_acceptRanges), ("unicode/utf8.first", laid_unicode_utf8_first)] }
def GroupnameFormatListSaid : Prop := groupnameFormatListRow.holds Tryd.pinned (OpenSpec.ofChange groupnameFormatListSpec)

/-- ITS FALSE NEIGHBOUR: 'it returns false'. Refute it at one input. -/
def groupnameFormatListWrong : ChangeSpec := { name := "groupnameFormatList", fn := fun _ => fun
  | [d] => { results := [.lit (.bool false)], args := [d] }
  | _ => none }
def GroupnameFormatListWrongFalsely : Prop := groupnameFormatListRow.holds Tryd.pinned (OpenSpec.ofChange groupnameFormatListWrong)

/- THE SECOND FORM. 'bulk': how many values and letters a reading holds, each counted each time it is reached (what is shared counts as often as it is met; a slice's spare places count too). A statement '..UptoSaid' is the law's where the arguments, and the package variables that the reading takes, are together of bulk at most 1048576: NARROWER than '..Said'. Prove '..Said' where nothing that the law and all that it calls make is longer than what came in: it says more and counts as full. Else prove '..UptoSaid'. A law counts once. -/
mutual
def uptoBulk {H : Type} : DataW H → Nat
  | .lit (.string bytes) => bytes.length + 1
  | .lit _ => 1
  | .nil => 1
  | .ptr d => uptoBulk d + 1
  | .slice elems spare => uptoBulkAll elems + uptoBulkAll spare + 1
  | .agg parts => uptoBulkAll parts + 1
  | .iface _ d => uptoBulk d + 1
  | .map entries => uptoBulkEntries entries + 1
  | .held _ => 1
def uptoBulkAll {H : Type} : List (DataW H) → Nat
  | [] => 0
  | d :: r => uptoBulk d + uptoBulkAll r
def uptoBulkEntries {H : Type} : List (Lit × DataW H) → Nat
  | [] => 0
  | x :: r => uptoBulkEntry x + uptoBulkEntries r
def uptoBulkEntry {H : Type} : Lit × DataW H → Nat
  | (.string bytes, d) => bytes.length + uptoBulk d + 1
  | (_, d) => uptoBulk d + 1
 end
def uptoSmall : (H : Type) → List (DataW H) → Bool := fun _ ds => decide (uptoBulkAll ds ≤ 1048576)
def OpenSpec.upto (s : _root_.Go.ChangeSpec) : _root_.Go.OpenSpec := { _root_.Go.OpenSpec.ofChange s with cond := some uptoSmall }

/-- 'bulletinlaw12.GroupnameCompare', WHERE WHAT IT READS IS OF BULK AT MOST 1048576: true; the input reads as it did. -/
def groupnameCompareUptoRow : OpenClaim := { program := "ytcagooijkecmoaadoor", sum := "a2ed7f7fb764a9fa9d7f4f2236e54665069e0fa1f6d09fa6e07acaa2d458c0c1", func := "bulletin/bulletinlaw12.GroupnameCompare", spec := "groupnameCompare", inPlace := ["internal/bytealg.CountString", "internal/bytealg.IndexByteString", "internal/bytealg.IndexString"], unfollowed := true, recurses := true, named := ["unicode/utf8.first", "unicode/utf8.acceptRanges", "internal/bytealg.MaxLen"], apart := false, laid := [("unicode/utf8.acceptRanges", laid_unicode_utf8_acceptRanges), ("unicode/utf8.first", laid_unicode_utf8_first)], narrowed := true }
def GroupnameCompareUptoSaid : Prop := groupnameCompareUptoRow.holds Tryd.pinned (OpenSpec.upto groupnameCompareSpec)

/-- 'bulletinlaw12.GroupnameSort', WHERE WHAT IT READS IS OF BULK AT MOST 1048576: true; the input reads as it did. -/
def groupnameSortUptoRow : OpenClaim := { program := "ytcagooijkecmoaadoor", sum := "a2ed7f7fb764a9fa9d7f4f2236e54665069e0fa1f6d09fa6e07acaa2d458c0c1", func := "bulletin/bulletinlaw12.GroupnameSort", spec := "groupnameSort", inPlace := ["internal/bytealg.CountString", "internal/bytealg.IndexByteString", "internal/bytealg.IndexString"], unfollowed := true, recurses := true, named := ["unicode/utf8.first", "unicode/utf8.acceptRanges", "internal/bytealg.MaxLen"], apart := false, laid := [("unicode/utf8.acceptRanges", laid_unicode_utf8_acceptRanges), ("unicode/utf8.first", laid_unicode_utf8_first)], narrowed := true }
def GroupnameSortUptoSaid : Prop := groupnameSortUptoRow.holds Tryd.pinned (OpenSpec.upto groupnameSortSpec)

/-- 'bulletinlaw12.GroupnameChildren', WHERE WHAT IT READS IS OF BULK AT MOST 1048576: true; the input reads as it did. -/
def groupnameChildrenUptoRow : OpenClaim := { program := "ytcagooijkecmoaadoor", sum := "a2ed7f7fb764a9fa9d7f4f2236e54665069e0fa1f6d09fa6e07acaa2d458c0c1", func := "bulletin/bulletinlaw12.GroupnameChildren", spec := "groupnameChildren", inPlace := ["internal/bytealg.CountString", "internal/bytealg.IndexByteString", "internal/bytealg.IndexString"], unfollowed := true, recurses := true, named := ["unicode/utf8.first", "unicode/utf8.acceptRanges", "internal/bytealg.MaxLen"], apart := false, laid := [("unicode/utf8.acceptRanges", laid_unicode_utf8_acceptRanges), ("unicode/utf8.first", laid_unicode_utf8_first)], narrowed := true }
def GroupnameChildrenUptoSaid : Prop := groupnameChildrenUptoRow.holds Tryd.pinned (OpenSpec.upto groupnameChildrenSpec)

/-- 'bulletinlaw12.GroupnameAdjacent', WHERE WHAT IT READS IS OF BULK AT MOST 1048576: true; the input reads as it did. -/
def groupnameAdjacentUptoRow : OpenClaim := { program := "ytcagooijkecmoaadoor", sum := "a2ed7f7fb764a9fa9d7f4f2236e54665069e0fa1f6d09fa6e07acaa2d458c0c1", func := "bulletin/bulletinlaw12.GroupnameAdjacent", spec := "groupnameAdjacent", inPlace := ["internal/bytealg.CountString", "internal/bytealg.IndexByteString", "internal/bytealg.IndexString"], unfollowed := true, recurses := true, named := ["unicode/utf8.first", "unicode/utf8.acceptRanges", "internal/bytealg.MaxLen"], apart := false, laid := [("unicode/utf8.acceptRanges", laid_unicode_utf8_acceptRanges), ("unicode/utf8.first", laid_unicode_utf8_first)], narrowed := true }
def GroupnameAdjacentUptoSaid : Prop := groupnameAdjacentUptoRow.holds Tryd.pinned (OpenSpec.upto groupnameAdjacentSpec)

/-- 'bulletinlaw12.GroupnameWalk', WHERE WHAT IT READS IS OF BULK AT MOST 1048576: true; the input reads as it did. -/
def groupnameWalkUptoRow : OpenClaim := { program := "ytcagooijkecmoaadoor", sum := "a2ed7f7fb764a9fa9d7f4f2236e54665069e0fa1f6d09fa6e07acaa2d458c0c1", func := "bulletin/bulletinlaw12.GroupnameWalk", spec := "groupnameWalk", inPlace := ["internal/bytealg.CountString", "internal/bytealg.IndexByteString", "internal/bytealg.IndexString"], unfollowed := true, recurses := true, named := ["unicode/utf8.first", "unicode/utf8.acceptRanges", "internal/bytealg.MaxLen"], apart := false, laid := [("unicode/utf8.acceptRanges", laid_unicode_utf8_acceptRanges), ("unicode/utf8.first", laid_unicode_utf8_first)], narrowed := true }
def GroupnameWalkUptoSaid : Prop := groupnameWalkUptoRow.holds Tryd.pinned (OpenSpec.upto groupnameWalkSpec)

/-- 'bulletinlaw12.GroupnameCheck', WHERE WHAT IT READS IS OF BULK AT MOST 1048576: true; the input reads as it did. -/
def groupnameCheckUptoRow : OpenClaim := { program := "ytcagooijkecmoaadoor", sum := "a2ed7f7fb764a9fa9d7f4f2236e54665069e0fa1f6d09fa6e07acaa2d458c0c1", func := "bulletin/bulletinlaw12.GroupnameCheck", spec := "groupnameCheck", inPlace := ["internal/bytealg.CountString", "internal/bytealg.IndexByteString", "internal/bytealg.IndexString", "internal/abi.NoEscape", "internal/bytealg.MakeNoZero"], unfollowed := true, recurses := true, named := ["unicode/utf8.first", "unicode/utf8.acceptRanges", "internal/bytealg.MaxLen"], apart := false, laid := [("unicode/utf8.acceptRanges", laid_unicode_utf8_acceptRanges), ("unicode/utf8.first", laid_unicode_utf8_first)], narrowed := true }
def GroupnameCheckUptoSaid : Prop := groupnameCheckUptoRow.holds Tryd.pinned (OpenSpec.upto groupnameCheckSpec)

/-- 'bulletinlaw12.GroupnameJoin', WHERE WHAT IT READS IS OF BULK AT MOST 1048576: true; the input reads as it did. -/
def groupnameJoinUptoRow : OpenClaim := { program := "ytcagooijkecmoaadoor", sum := "a2ed7f7fb764a9fa9d7f4f2236e54665069e0fa1f6d09fa6e07acaa2d458c0c1", func := "bulletin/bulletinlaw12.GroupnameJoin", spec := "groupnameJoin", inPlace := ["internal/bytealg.CountString", "internal/bytealg.IndexByteString", "internal/bytealg.IndexString", "internal/abi.NoEscape", "internal/bytealg.MakeNoZero"], unfollowed := true, recurses := true, named := ["unicode/utf8.first", "unicode/utf8.acceptRanges", "internal/bytealg.MaxLen"], apart := false, laid := [("unicode/utf8.acceptRanges", laid_unicode_utf8_acceptRanges), ("unicode/utf8.first", laid_unicode_utf8_first)], narrowed := true }
def GroupnameJoinUptoSaid : Prop := groupnameJoinUptoRow.holds Tryd.pinned (OpenSpec.upto groupnameJoinSpec)

/-- 'bulletinlaw12.GroupnameWithin', WHERE WHAT IT READS IS OF BULK AT MOST 1048576: true; the input reads as it did. -/
def groupnameWithinUptoRow : OpenClaim := { program := "ytcagooijkecmoaadoor", sum := "a2ed7f7fb764a9fa9d7f4f2236e54665069e0fa1f6d09fa6e07acaa2d458c0c1", func := "bulletin/bulletinlaw12.GroupnameWithin", spec := "groupnameWithin", inPlace := ["internal/bytealg.CountString", "internal/bytealg.IndexByteString", "internal/bytealg.IndexString", "internal/abi.NoEscape", "internal/bytealg.MakeNoZero"], unfollowed := true, recurses := true, named := ["unicode/utf8.first", "unicode/utf8.acceptRanges", "internal/bytealg.MaxLen"], apart := false, laid := [("unicode/utf8.acceptRanges", laid_unicode_utf8_acceptRanges), ("unicode/utf8.first", laid_unicode_utf8_first)], narrowed := true }
def GroupnameWithinUptoSaid : Prop := groupnameWithinUptoRow.holds Tryd.pinned (OpenSpec.upto groupnameWithinSpec)

/-- 'bulletinlaw12.GroupnameParseList', WHERE WHAT IT READS IS OF BULK AT MOST 1048576: true; the input reads as it did. -/
def groupnameParseListUptoRow : OpenClaim := { program := "ytcagooijkecmoaadoor", sum := "a2ed7f7fb764a9fa9d7f4f2236e54665069e0fa1f6d09fa6e07acaa2d458c0c1", func := "bulletin/bulletinlaw12.GroupnameParseList", spec := "groupnameParseList", inPlace := ["internal/bytealg.CountString", "internal/bytealg.IndexByteString", "internal/bytealg.IndexString", "internal/abi.NoEscape", "internal/bytealg.MakeNoZero"], unfollowed := true, recurses := true, named := ["unicode/utf8.first", "unicode/utf8.acceptRanges", "internal/bytealg.MaxLen"], apart := false, laid := [("unicode/utf8.acceptRanges", laid_unicode_utf8_acceptRanges), ("unicode/utf8.first", laid_unicode_utf8_first)], narrowed := true }
def GroupnameParseListUptoSaid : Prop := groupnameParseListUptoRow.holds Tryd.pinned (OpenSpec.upto groupnameParseListSpec)

/-- 'bulletinlaw12.GroupnameFormatList', WHERE WHAT IT READS IS OF BULK AT MOST 1048576: true; the input reads as it did. -/
def groupnameFormatListUptoRow : OpenClaim := { program := "ytcagooijkecmoaadoor", sum := "a2ed7f7fb764a9fa9d7f4f2236e54665069e0fa1f6d09fa6e07acaa2d458c0c1", func := "bulletin/bulletinlaw12.GroupnameFormatList", spec := "groupnameFormatList", inPlace := ["internal/bytealg.CountString", "internal/bytealg.IndexByteString", "internal/bytealg.IndexString", "internal/abi.NoEscape", "internal/bytealg.MakeNoZero"], unfollowed := true, recurses := true, named := ["unicode/utf8.first", "unicode/utf8.acceptRanges", "internal/bytealg.MaxLen"], apart := false, laid := [("unicode/utf8.acceptRanges", laid_unicode_utf8_acceptRanges), ("unicode/utf8.first", laid_unicode_utf8_first)], narrowed := true }
def GroupnameFormatListUptoSaid : Prop := groupnameFormatListUptoRow.holds Tryd.pinned (OpenSpec.upto groupnameFormatListSpec)

end Rows
end Go.Proofs.YtcagooijkecmoaaDoor
