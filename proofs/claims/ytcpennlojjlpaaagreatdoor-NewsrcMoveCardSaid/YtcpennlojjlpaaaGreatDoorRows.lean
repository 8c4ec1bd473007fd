/-
  NARROWER THAN 'FOR EVERY INPUT', by the rows' own cells (each row's printed sentence says how): NewsrcAll: laid · NewsrcCombines: laid · NewsrcMove: laid · NewsrcAlgebra: laid · NewsrcMakes: laid · NewsrcThereAndBack: laid · NewsrcParseSet: laid · NewsrcMarks: laid · NewsrcText: laid · NewsrcClone: laid · NewsrcParse: laid · NewsrcFile: laid.
  DERIVED. THE GIVEN ROWS OF THIS SEAT. 12 by the template 'for every input the law returns true; each argument reads behind the call as it read before'; 0 by the template 'total and deterministic' (their statements: YtcpennlojjlpaaaGreatDoorTotals.lean).
  GIVEN WITH THE SEED: the statements are not yours to turn. If you find one false, say at which input.
  Laid BY PROGRAM, IN A SANDBOX (cutbox-rows.mjs): the forced cells as the released guide's own fill.sh prints them over the translation 11eae187472da4ca… (all of the seat's roots in one cut). By AI agents, Wed Nov 11 2026. No macro, syntax, notation, axiom, sorry.
-/
import Derived.Test.YtcpennlojjlpaaaGreatDoorChecked
import GoSem.PinnedTables
import GoSem.Claim
import GoSem.ClaimJoined
import GoSem.ClaimMapViews
import Derived.JoinedTies
import Derived.KernelRfl
namespace Go.Proofs.YtcpennlojjlpaaaGreatDoor
/- THE CELL 'sum', in the pinned program and in every row, IS THE sha256 OF THE DUMP (.gsa) THAT YtcpennlojjlpaaaGreatDoorProg.lean LOADS. Nothing in Lean hashes anything: it is a label: what it is worth is what the hold of that sum in a sandbox is worth. -/
noncomputable def Tryz.pinned : Pinned := { name := "ytcpennlojjlpaaagreatdoor", sum := "11eae187472da4ca6431fde751c5b298e0819377ccdaad2953c9f0f2856b9efd", checked := Tryz.checked }
namespace Rows
def none {H : Type} : Left H := { results := [], args := [] }

/- WHAT THE LISTED PACKAGE-LEVEL VARIABLES READ AS WHEN THE CALL BEGINS. Each datum BY PROGRAM (the guide's laid-datum.mjs) off the statement by which the dump's own 'gosem.cut.vars' lays the variable. In a bare row this is a premise. The card (YtcpennlojjlpaaaGreatDoorCards.lean) ties it to the program's text. -/
def laid_math_bits_deBruijn32tab {H : Type} : DataW H := .agg [.lit (.int .u8 0), .lit (.int .u8 1), .lit (.int .u8 28), .lit (.int .u8 2), .lit (.int .u8 29), .lit (.int .u8 14), .lit (.int .u8 24), .lit (.int .u8 3), .lit (.int .u8 30), .lit (.int .u8 22), .lit (.int .u8 20), .lit (.int .u8 15), .lit (.int .u8 25), .lit (.int .u8 17), .lit (.int .u8 4), .lit (.int .u8 8), .lit (.int .u8 31), .lit (.int .u8 27), .lit (.int .u8 13), .lit (.int .u8 23), .lit (.int .u8 21), .lit (.int .u8 19), .lit (.int .u8 16), .lit (.int .u8 7), .lit (.int .u8 26), .lit (.int .u8 12), .lit (.int .u8 18), .lit (.int .u8 6), .lit (.int .u8 11), .lit (.int .u8 5), .lit (.int .u8 10), .lit (.int .u8 9)]
def laid_math_bits_deBruijn64tab {H : Type} : DataW H := .agg [.lit (.int .u8 0), .lit (.int .u8 1), .lit (.int .u8 56), .lit (.int .u8 2), .lit (.int .u8 57), .lit (.int .u8 49), .lit (.int .u8 28), .lit (.int .u8 3), .lit (.int .u8 61), .lit (.int .u8 58), .lit (.int .u8 42), .lit (.int .u8 50), .lit (.int .u8 38), .lit (.int .u8 29), .lit (.int .u8 17), .lit (.int .u8 4), .lit (.int .u8 62), .lit (.int .u8 47), .lit (.int .u8 59), .lit (.int .u8 36), .lit (.int .u8 45), .lit (.int .u8 43), .lit (.int .u8 51), .lit (.int .u8 22), .lit (.int .u8 53), .lit (.int .u8 39), .lit (.int .u8 33), .lit (.int .u8 30), .lit (.int .u8 24), .lit (.int .u8 18), .lit (.int .u8 12), .lit (.int .u8 5), .lit (.int .u8 63), .lit (.int .u8 55), .lit (.int .u8 48), .lit (.int .u8 27), .lit (.int .u8 60), .lit (.int .u8 41), .lit (.int .u8 37), .lit (.int .u8 16), .lit (.int .u8 46), .lit (.int .u8 35), .lit (.int .u8 44), .lit (.int .u8 21), .lit (.int .u8 52), .lit (.int .u8 32), .lit (.int .u8 23), .lit (.int .u8 11), .lit (.int .u8 54), .lit (.int .u8 26), .lit (.int .u8 40), .lit (.int .u8 15), .lit (.int .u8 34), .lit (.int .u8 20), .lit (.int .u8 31), .lit (.int .u8 10), .lit (.int .u8 25), .lit (.int .u8 14), .lit (.int .u8 19), .lit (.int .u8 9), .lit (.int .u8 13), .lit (.int .u8 8), .lit (.int .u8 7), .lit (.int .u8 6)]
def laid_internal_strconv_uint64pow10 {H : Type} : DataW H := .agg [.lit (.int .u64 1), .lit (.int .u64 10), .lit (.int .u64 100), .lit (.int .u64 1000), .lit (.int .u64 10000), .lit (.int .u64 100000), .lit (.int .u64 1000000), .lit (.int .u64 10000000), .lit (.int .u64 100000000), .lit (.int .u64 1000000000), .lit (.int .u64 10000000000), .lit (.int .u64 100000000000), .lit (.int .u64 1000000000000), .lit (.int .u64 10000000000000), .lit (.int .u64 100000000000000), .lit (.int .u64 1000000000000000), .lit (.int .u64 10000000000000000), .lit (.int .u64 100000000000000000), .lit (.int .u64 1000000000000000000), .lit (.int .u64 10000000000000000000)]
def laid_unicode_utf8_acceptRanges {H : Type} : DataW H := .agg [.agg [.lit (.int .u8 128), .lit (.int .u8 191)], .agg [.lit (.int .u8 160), .lit (.int .u8 191)], .agg [.lit (.int .u8 128), .lit (.int .u8 159)], .agg [.lit (.int .u8 144), .lit (.int .u8 191)], .agg [.lit (.int .u8 128), .lit (.int .u8 143)], .agg [.lit (.int .u8 0), .lit (.int .u8 0)], .agg [.lit (.int .u8 0), .lit (.int .u8 0)], .agg [.lit (.int .u8 0), .lit (.int .u8 0)], .agg [.lit (.int .u8 0), .lit (.int .u8 0)], .agg [.lit (.int .u8 0), .lit (.int .u8 0)], .agg [.lit (.int .u8 0), .lit (.int .u8 0)], .agg [.lit (.int .u8 0), .lit (.int .u8 0)], .agg [.lit (.int .u8 0), .lit (.int .u8 0)], .agg [.lit (.int .u8 0), .lit (.int .u8 0)], .agg [.lit (.int .u8 0), .lit (.int .u8 0)], .agg [.lit (.int .u8 0), .lit (.int .u8 0)]]
/-- One of Go's own tables, pinned by name: the form's constant. -/
def laid_unicode_utf8_first : DataW Unit := Go.Pinned.utf8First

/-- 'bulletinlaw46.NewsrcAll': WHATEVER THE INPUT: true; the input reads as it did. -/
def newsrcAllSpec : ChangeSpec := { name := "newsrcAll", fn := fun _ => fun
  | [d1, d2] => { results := [.lit (.bool true)], args := [d1, d2] }
  | _ => none }
def newsrcAllRow : OpenClaim := { program := "ytcpennlojjlpaaagreatdoor", sum := "11eae187472da4ca6431fde751c5b298e0819377ccdaad2953c9f0f2856b9efd", func := "bulletin/bulletinlaw46.NewsrcAll", spec := "newsrcAll", inPlace := ["internal/abi.NoEscape", "internal/bytealg.CountString", "internal/bytealg.IndexByteString", "internal/bytealg.IndexString"], unfollowed := true, recurses := true, named := ["internal/strconv.uint64pow10", "math/bits.deBruijn32tab", "math/bits.deBruijn64tab", "unicode/utf8.first", "unicode/utf8.acceptRanges", "internal/bytealg.MaxLen"], plainKeys := false, apart := false, laid := [("math/bits.deBruijn32tab", laid_math_bits_deBruijn32tab), ("math/bits.deBruijn64tab", laid_math_bits_deBruijn64tab), ("internal/strconv.uint64pow10", laid_internal_strconv_uint64pow10), ("unicode/utf8.acceptRanges", laid_unicode_utf8_acceptRanges), ("unicode/utf8.first", laid_unicode_utf8_first)] }
def NewsrcAllSaid : Prop := newsrcAllRow.holds Tryz.pinned (OpenSpec.ofChange newsrcAllSpec)

/-- ITS FALSE NEIGHBOUR: 'it returns false'. Refute it at one input. -/
def newsrcAllWrong : ChangeSpec := { name := "newsrcAll", fn := fun _ => fun
  | [d1, d2] => { results := [.lit (.bool false)], args := [d1, d2] }
  | _ => none }
def NewsrcAllWrongFalsely : Prop := newsrcAllRow.holds Tryz.pinned (OpenSpec.ofChange newsrcAllWrong)

/-- 'bulletinlaw46.NewsrcCombines': WHATEVER THE INPUT: true; the input reads as it did. -/
def newsrcCombinesSpec : ChangeSpec := { name := "newsrcCombines", fn := fun _ => fun
  | [d1, d2, d3] => { results := [.lit (.bool true)], args := [d1, d2, d3] }
  | _ => none }
def newsrcCombinesRow : OpenClaim := { program := "ytcpennlojjlpaaagreatdoor", sum := "11eae187472da4ca6431fde751c5b298e0819377ccdaad2953c9f0f2856b9efd", func := "bulletin/bulletinlaw46.NewsrcCombines", spec := "newsrcCombines", inPlace := ["internal/abi.NoEscape", "internal/bytealg.CountString", "internal/bytealg.IndexByteString", "internal/bytealg.IndexString"], unfollowed := true, recurses := true, named := ["internal/strconv.uint64pow10", "math/bits.deBruijn32tab", "math/bits.deBruijn64tab", "unicode/utf8.first", "unicode/utf8.acceptRanges", "internal/bytealg.MaxLen"], plainKeys := false, apart := false, laid := [("math/bits.deBruijn32tab", laid_math_bits_deBruijn32tab), ("math/bits.deBruijn64tab", laid_math_bits_deBruijn64tab), ("internal/strconv.uint64pow10", laid_internal_strconv_uint64pow10), ("unicode/utf8.acceptRanges", laid_unicode_utf8_acceptRanges), ("unicode/utf8.first", laid_unicode_utf8_first)] }
def NewsrcCombinesSaid : Prop := newsrcCombinesRow.holds Tryz.pinned (OpenSpec.ofChange newsrcCombinesSpec)

/-- ITS FALSE NEIGHBOUR: 'it returns false'. Refute it at one input. -/
def newsrcCombinesWrong : ChangeSpec := { name := "newsrcCombines", fn := fun _ => fun
  | [d1, d2, d3] => { results := [.lit (.bool false)], args := [d1, d2, d3] }
  | _ => none }
def NewsrcCombinesWrongFalsely : Prop := newsrcCombinesRow.holds Tryz.pinned (OpenSpec.ofChange newsrcCombinesWrong)

/-- 'bulletinlaw46.NewsrcMove': WHATEVER THE INPUT: true; the input reads as it did. -/
def newsrcMoveSpec : ChangeSpec := { name := "newsrcMove", fn := fun _ => fun
  | [d1, d2, d3] => { results := [.lit (.bool true)], args := [d1, d2, d3] }
  | _ => none }
def newsrcMoveRow : OpenClaim := { program := "ytcpennlojjlpaaagreatdoor", sum := "11eae187472da4ca6431fde751c5b298e0819377ccdaad2953c9f0f2856b9efd", func := "bulletin/bulletinlaw46.NewsrcMove", spec := "newsrcMove", inPlace := ["internal/abi.NoEscape", "internal/bytealg.CountString", "internal/bytealg.IndexByteString", "internal/bytealg.IndexString"], unfollowed := true, recurses := true, named := ["internal/strconv.uint64pow10", "math/bits.deBruijn32tab", "math/bits.deBruijn64tab", "unicode/utf8.first", "unicode/utf8.acceptRanges", "internal/bytealg.MaxLen"], plainKeys := false, apart := false, laid := [("math/bits.deBruijn32tab", laid_math_bits_deBruijn32tab), ("math/bits.deBruijn64tab", laid_math_bits_deBruijn64tab), ("internal/strconv.uint64pow10", laid_internal_strconv_uint64pow10), ("unicode/utf8.acceptRanges", laid_unicode_utf8_acceptRanges), ("unicode/utf8.first", laid_unicode_utf8_first)] }
def NewsrcMoveSaid : Prop := newsrcMoveRow.holds Tryz.pinned (OpenSpec.ofChange newsrcMoveSpec)

/-- ITS FALSE NEIGHBOUR: 'it returns false'. Refute it at one input. -/
def newsrcMoveWrong : ChangeSpec := { name := "newsrcMove", fn := fun _ => fun
  | [d1, d2, d3] => { results := [.lit (.bool false)], args := [d1, d2, d3] }
  | _ => none }
def NewsrcMoveWrongFalsely : Prop := newsrcMoveRow.holds Tryz.pinned (OpenSpec.ofChange newsrcMoveWrong)

/-- 'bulletinlaw46.NewsrcAlgebra': WHATEVER THE INPUT: true; the input reads as it did. -/
def newsrcAlgebraSpec : ChangeSpec := { name := "newsrcAlgebra", fn := fun _ => fun
  | [d1, d2, d3] => { results := [.lit (.bool true)], args := [d1, d2, d3] }
  | _ => none }
def newsrcAlgebraRow : OpenClaim := { program := "ytcpennlojjlpaaagreatdoor", sum := "11eae187472da4ca6431fde751c5b298e0819377ccdaad2953c9f0f2856b9efd", func := "bulletin/bulletinlaw46.NewsrcAlgebra", spec := "newsrcAlgebra", inPlace := ["internal/abi.NoEscape", "internal/bytealg.CountString", "internal/bytealg.IndexByteString", "internal/bytealg.IndexString"], unfollowed := true, recurses := true, named := ["internal/strconv.uint64pow10", "math/bits.deBruijn32tab", "math/bits.deBruijn64tab", "unicode/utf8.first", "unicode/utf8.acceptRanges", "internal/bytealg.MaxLen"], plainKeys := false, apart := false, laid := [("math/bits.deBruijn32tab", laid_math_bits_deBruijn32tab), ("math/bits.deBruijn64tab", laid_math_bits_deBruijn64tab), ("internal/strconv.uint64pow10", laid_internal_strconv_uint64pow10), ("unicode/utf8.acceptRanges", laid_unicode_utf8_acceptRanges), ("unicode/utf8.first", laid_unicode_utf8_first)] }
def NewsrcAlgebraSaid : Prop := newsrcAlgebraRow.holds Tryz.pinned (OpenSpec.ofChange newsrcAlgebraSpec)

/-- ITS FALSE NEIGHBOUR: 'it returns false'. Refute it at one input. -/
def newsrcAlgebraWrong : ChangeSpec := { name := "newsrcAlgebra", fn := fun _ => fun
  | [d1, d2, d3] => { results := [.lit (.bool false)], args := [d1, d2, d3] }
  | _ => none }
def NewsrcAlgebraWrongFalsely : Prop := newsrcAlgebraRow.holds Tryz.pinned (OpenSpec.ofChange newsrcAlgebraWrong)

/-- 'bulletinlaw46.NewsrcMakes': WHATEVER THE INPUT: true; the input reads as it did. -/
def newsrcMakesSpec : ChangeSpec := { name := "newsrcMakes", fn := fun _ => fun
  | [d1, d2, d3] => { results := [.lit (.bool true)], args := [d1, d2, d3] }
  | _ => none }
def newsrcMakesRow : OpenClaim := { program := "ytcpennlojjlpaaagreatdoor", sum := "11eae187472da4ca6431fde751c5b298e0819377ccdaad2953c9f0f2856b9efd", func := "bulletin/bulletinlaw46.NewsrcMakes", spec := "newsrcMakes", inPlace := ["internal/abi.NoEscape", "internal/bytealg.CountString", "internal/bytealg.IndexByteString", "internal/bytealg.IndexString"], unfollowed := true, recurses := true, named := ["internal/strconv.uint64pow10", "math/bits.deBruijn32tab", "math/bits.deBruijn64tab", "unicode/utf8.first", "unicode/utf8.acceptRanges", "internal/bytealg.MaxLen"], plainKeys := false, apart := false, laid := [("math/bits.deBruijn32tab", laid_math_bits_deBruijn32tab), ("math/bits.deBruijn64tab", laid_math_bits_deBruijn64tab), ("internal/strconv.uint64pow10", laid_internal_strconv_uint64pow10), ("unicode/utf8.acceptRanges", laid_unicode_utf8_acceptRanges), ("unicode/utf8.first", laid_unicode_utf8_first)] }
def NewsrcMakesSaid : Prop := newsrcMakesRow.holds Tryz.pinned (OpenSpec.ofChange newsrcMakesSpec)

/-- ITS FALSE NEIGHBOUR: 'it returns false'. Refute it at one input. -/
def newsrcMakesWrong : ChangeSpec := { name := "newsrcMakes", fn := fun _ => fun
  | [d1, d2, d3] => { results := [.lit (.bool false)], args := [d1, d2, d3] }
  | _ => none }
def NewsrcMakesWrongFalsely : Prop := newsrcMakesRow.holds Tryz.pinned (OpenSpec.ofChange newsrcMakesWrong)

/-- 'bulletinlaw46.NewsrcThereAndBack': WHATEVER THE INPUT: true; the input reads as it did. -/
def newsrcThereAndBackSpec : ChangeSpec := { name := "newsrcThereAndBack", fn := fun _ => fun
  | [d1, d2, d3] => { results := [.lit (.bool true)], args := [d1, d2, d3] }
  | _ => none }
def newsrcThereAndBackRow : OpenClaim := { program := "ytcpennlojjlpaaagreatdoor", sum := "11eae187472da4ca6431fde751c5b298e0819377ccdaad2953c9f0f2856b9efd", func := "bulletin/bulletinlaw46.NewsrcThereAndBack", spec := "newsrcThereAndBack", inPlace := ["internal/abi.NoEscape", "internal/bytealg.CountString", "internal/bytealg.IndexByteString", "internal/bytealg.IndexString"], unfollowed := true, recurses := true, named := ["internal/strconv.uint64pow10", "math/bits.deBruijn32tab", "math/bits.deBruijn64tab", "unicode/utf8.first", "unicode/utf8.acceptRanges", "internal/bytealg.MaxLen"], plainKeys := false, apart := false, laid := [("math/bits.deBruijn32tab", laid_math_bits_deBruijn32tab), ("math/bits.deBruijn64tab", laid_math_bits_deBruijn64tab), ("internal/strconv.uint64pow10", laid_internal_strconv_uint64pow10), ("unicode/utf8.acceptRanges", laid_unicode_utf8_acceptRanges), ("unicode/utf8.first", laid_unicode_utf8_first)] }
def NewsrcThereAndBackSaid : Prop := newsrcThereAndBackRow.holds Tryz.pinned (OpenSpec.ofChange newsrcThereAndBackSpec)

/-- ITS FALSE NEIGHBOUR: 'it returns false'. Refute it at one input. -/
def newsrcThereAndBackWrong : ChangeSpec := { name := "newsrcThereAndBack", fn := fun _ => fun
  | [d1, d2, d3] => { results := [.lit (.bool false)], args := [d1, d2, d3] }
  | _ => none }
def NewsrcThereAndBackWrongFalsely : Prop := newsrcThereAndBackRow.holds Tryz.pinned (OpenSpec.ofChange newsrcThereAndBackWrong)

/-- 'bulletinlaw46.NewsrcParseSet': WHATEVER THE INPUT: true; the input reads as it did. -/
def newsrcParseSetSpec : ChangeSpec := { name := "newsrcParseSet", fn := fun _ => fun
  | [d] => { results := [.lit (.bool true)], args := [d] }
  | _ => none }
def newsrcParseSetRow : OpenClaim := { program := "ytcpennlojjlpaaagreatdoor", sum := "11eae187472da4ca6431fde751c5b298e0819377ccdaad2953c9f0f2856b9efd", func := "bulletin/bulletinlaw46.NewsrcParseSet", spec := "newsrcParseSet", inPlace := ["internal/abi.NoEscape", "internal/bytealg.CountString", "internal/bytealg.IndexByteString", "internal/bytealg.IndexString"], unfollowed := true, recurses := true, named := ["internal/strconv.uint64pow10", "math/bits.deBruijn32tab", "math/bits.deBruijn64tab", "unicode/utf8.first", "unicode/utf8.acceptRanges", "internal/bytealg.MaxLen"], plainKeys := false, apart := false, laid := [("math/bits.deBruijn32tab", laid_math_bits_deBruijn32tab), ("math/bits.deBruijn64tab", laid_math_bits_deBruijn64tab), ("internal/strconv.uint64pow10", laid_internal_strconv_uint64pow10), ("unicode/utf8.acceptRanges", laid_unicode_utf8_acceptRanges), ("unicode/utf8.first", laid_unicode_utf8_first)] }
def NewsrcParseSetSaid : Prop := newsrcParseSetRow.holds Tryz.pinned (OpenSpec.ofChange newsrcParseSetSpec)

/-- ITS FALSE NEIGHBOUR: 'it returns false'. Refute it at one input. -/
def newsrcParseSetWrong : ChangeSpec := { name := "newsrcParseSet", fn := fun _ => fun
  | [d] => { results := [.lit (.bool false)], args := [d] }
  | _ => none }
def NewsrcParseSetWrongFalsely : Prop := newsrcParseSetRow.holds Tryz.pinned (OpenSpec.ofChange newsrcParseSetWrong)

/-- 'bulletinlaw46.NewsrcMarks': WHATEVER THE INPUT: true; the input reads as it did. -/
def newsrcMarksSpec : ChangeSpec := { name := "newsrcMarks", fn := fun _ => fun
  | [d1, d2, d3] => { results := [.lit (.bool true)], args := [d1, d2, d3] }
  | _ => none }
def newsrcMarksRow : OpenClaim := { program := "ytcpennlojjlpaaagreatdoor", sum := "11eae187472da4ca6431fde751c5b298e0819377ccdaad2953c9f0f2856b9efd", func := "bulletin/bulletinlaw46.NewsrcMarks", spec := "newsrcMarks", inPlace := ["internal/abi.NoEscape", "internal/bytealg.CountString", "internal/bytealg.IndexByteString", "internal/bytealg.IndexString"], unfollowed := true, recurses := true, named := ["internal/strconv.uint64pow10", "math/bits.deBruijn32tab", "math/bits.deBruijn64tab", "unicode/utf8.first", "unicode/utf8.acceptRanges", "internal/bytealg.MaxLen"], plainKeys := false, apart := false, laid := [("math/bits.deBruijn32tab", laid_math_bits_deBruijn32tab), ("math/bits.deBruijn64tab", laid_math_bits_deBruijn64tab), ("internal/strconv.uint64pow10", laid_internal_strconv_uint64pow10), ("unicode/utf8.acceptRanges", laid_unicode_utf8_acceptRanges), ("unicode/utf8.first", laid_unicode_utf8_first)] }
def NewsrcMarksSaid : Prop := newsrcMarksRow.holds Tryz.pinned (OpenSpec.ofChange newsrcMarksSpec)

/-- ITS FALSE NEIGHBOUR: 'it returns false'. Refute it at one input. -/
def newsrcMarksWrong : ChangeSpec := { name := "newsrcMarks", fn := fun _ => fun
  | [d1, d2, d3] => { results := [.lit (.bool false)], args := [d1, d2, d3] }
  | _ => none }
def NewsrcMarksWrongFalsely : Prop := newsrcMarksRow.holds Tryz.pinned (OpenSpec.ofChange newsrcMarksWrong)

/-- 'bulletinlaw46.NewsrcText': WHATEVER THE INPUT: true; the input reads as it did. -/
def newsrcTextSpec : ChangeSpec := { name := "newsrcText", fn := fun _ => fun
  | [d] => { results := [.lit (.bool true)], args := [d] }
  | _ => none }
def newsrcTextRow : OpenClaim := { program := "ytcpennlojjlpaaagreatdoor", sum := "11eae187472da4ca6431fde751c5b298e0819377ccdaad2953c9f0f2856b9efd", func := "bulletin/bulletinlaw46.NewsrcText", spec := "newsrcText", inPlace := ["internal/abi.NoEscape", "internal/bytealg.CountString", "internal/bytealg.IndexByteString", "internal/bytealg.IndexString"], unfollowed := true, recurses := true, named := ["internal/strconv.uint64pow10", "math/bits.deBruijn32tab", "math/bits.deBruijn64tab", "unicode/utf8.first", "unicode/utf8.acceptRanges", "internal/bytealg.MaxLen"], plainKeys := false, apart := false, laid := [("math/bits.deBruijn32tab", laid_math_bits_deBruijn32tab), ("math/bits.deBruijn64tab", laid_math_bits_deBruijn64tab), ("internal/strconv.uint64pow10", laid_internal_strconv_uint64pow10), ("unicode/utf8.acceptRanges", laid_unicode_utf8_acceptRanges), ("unicode/utf8.first", laid_unicode_utf8_first)] }
def NewsrcTextSaid : Prop := newsrcTextRow.holds Tryz.pinned (OpenSpec.ofChange newsrcTextSpec)

/-- ITS FALSE NEIGHBOUR: 'it returns false'. Refute it at one input. -/
def newsrcTextWrong : ChangeSpec := { name := "newsrcText", fn := fun _ => fun
  | [d] => { results := [.lit (.bool false)], args := [d] }
  | _ => none }
def NewsrcTextWrongFalsely : Prop := newsrcTextRow.holds Tryz.pinned (OpenSpec.ofChange newsrcTextWrong)

/-- 'bulletinlaw46.NewsrcClone': WHATEVER THE INPUT: true; the input reads as it did. -/
def newsrcCloneSpec : ChangeSpec := { name := "newsrcClone", fn := fun _ => fun
  | [d1, d2] => { results := [.lit (.bool true)], args := [d1, d2] }
  | _ => none }
def newsrcCloneRow : OpenClaim := { program := "ytcpennlojjlpaaagreatdoor", sum := "11eae187472da4ca6431fde751c5b298e0819377ccdaad2953c9f0f2856b9efd", func := "bulletin/bulletinlaw46.NewsrcClone", spec := "newsrcClone", inPlace := ["internal/abi.NoEscape", "internal/bytealg.CountString", "internal/bytealg.IndexByteString", "internal/bytealg.IndexString"], unfollowed := true, recurses := true, named := ["internal/strconv.uint64pow10", "math/bits.deBruijn32tab", "math/bits.deBruijn64tab", "unicode/utf8.first", "unicode/utf8.acceptRanges", "internal/bytealg.MaxLen"], plainKeys := false, apart := false, laid := [("math/bits.deBruijn32tab", laid_math_bits_deBruijn32tab), ("math/bits.deBruijn64tab", laid_math_bits_deBruijn64tab), ("internal/strconv.uint64pow10", laid_internal_strconv_uint64pow10), ("unicode/utf8.acceptRanges", laid_unicode_utf8_acceptRanges), ("unicode/utf8.first", laid_unicode_utf8_first)] }
def NewsrcCloneSaid : Prop := newsrcCloneRow.holds Tryz.pinned (OpenSpec.ofChange newsrcCloneSpec)

/-- ITS FALSE NEIGHBOUR: 'it returns false'. Refute it at one input. -/
def newsrcCloneWrong : ChangeSpec := { name := "newsrcClone", fn := fun _ => fun
  | [d1, d2] => { results := [.lit (.bool false)], args := [d1, d2] }
  | _ => none }
def NewsrcCloneWrongFalsely : Prop := newsrcCloneRow.holds Tryz.pinned (OpenSpec.ofChange newsrcCloneWrong)

/-- 'bulletinlaw46.NewsrcParse': WHATEVER THE INPUT: true; the input reads as it did. -/
def newsrcParseSpec : ChangeSpec := { name := "newsrcParse", fn := fun _ => fun
  | [d] => { results := [.lit (.bool true)], args := [d] }
  | _ => none }
def newsrcParseRow : OpenClaim := { program := "ytcpennlojjlpaaagreatdoor", sum := "11eae187472da4ca6431fde751c5b298e0819377ccdaad2953c9f0f2856b9efd", func := "bulletin/bulletinlaw46.NewsrcParse", spec := "newsrcParse", inPlace := ["internal/abi.NoEscape", "internal/bytealg.CountString", "internal/bytealg.IndexByteString", "internal/bytealg.IndexString"], unfollowed := true, recurses := true, named := ["internal/strconv.uint64pow10", "math/bits.deBruijn32tab", "math/bits.deBruijn64tab", "unicode/utf8.first", "unicode/utf8.acceptRanges", "internal/bytealg.MaxLen"], plainKeys := false, apart := false, laid := [("math/bits.deBruijn32tab", laid_math_bits_deBruijn32tab), ("math/bits.deBruijn64tab", laid_math_bits_deBruijn64tab), ("internal/strconv.uint64pow10", laid_internal_strconv_uint64pow10), ("unicode/utf8.acceptRanges", laid_unicode_utf8_acceptRanges), ("unicode/utf8.first", laid_unicode_utf8_first)] }
def NewsrcParseSaid : Prop := newsrcParseRow.holds Tryz.pinned (OpenSpec.ofChange newsrcParseSpec)

/-- ITS FALSE NEIGHBOUR: 'it returns false'. Refute it at one input. -/
def newsrcParseWrong : ChangeSpec := { name := "newsrcParse", fn := fun _ => fun
  | [d] => { results := [.lit (.bool false)], args := [d] }
  | _ => none }
def NewsrcParseWrongFalsely : Prop := newsrcParseRow.holds Tryz.pinned (OpenSpec.ofChange newsrcParseWrong)

/-- 'bulletinlaw46.NewsrcFile': WHATEVER THE INPUT: true; the input reads as it did. -/
def newsrcFileSpec : ChangeSpec := { name := "newsrcFile", fn := fun _ => fun
  | [d] => { results := [.lit (.bool true)], args := [d] }
  | _ => none }
def newsrcFileRow : OpenClaim := { program := "ytcpennlojjlpaaagreatdoor", sum := "11eae187472da4ca6431fde751c5b298e0819377ccdaad2953c9f0f2856b9efd", func := "bulletin/bulletinlaw46.NewsrcFile", spec := "newsrcFile", inPlace := ["internal/abi.NoEscape", "internal/bytealg.CountString", "internal/bytealg.IndexByteString", "internal/bytealg.IndexString"], unfollowed := true, recurses := true, named := ["internal/strconv.uint64pow10", "math/bits.deBruijn32tab", "math/bits.deBruijn64tab", "unicode/utf8.first", "unicode/utf8.acceptRanges", "internal/bytealg.MaxLen"], plainKeys := false, apart := false, laid := [("math/bits.deBruijn32tab", laid_math_bits_deBruijn32tab), ("math/bits.deBruijn64tab", laid_math_bits_deBruijn64tab), ("internal/strconv.uint64pow10", laid_internal_strconv_uint64pow10), ("unicode/utf8.acceptRanges", laid_unicode_utf8_acceptRanges), ("unicode/utf8.first", laid_unicode_utf8_first)] }
def NewsrcFileSaid : Prop := newsrcFileRow.holds Tryz.pinned (OpenSpec.ofChange newsrcFileSpec)

/-- ITS FALSE NEIGHBOUR: 'it returns false'. Refute it at one input. -/
def newsrcFileWrong : ChangeSpec := { name := "newsrcFile", fn := fun _ => fun
  | [d] => { results := [.lit (.bool false)], args := [d] }
  | _ => none }
def NewsrcFileWrongFalsely : Prop := newsrcFileRow.holds Tryz.pinned (OpenSpec.ofChange newsrcFileWrong)

/- THE SECOND FORM. 'bulk': how many values and letters a reading holds, each counted each time it is reached (what is shared counts as often as it is met; a slice's spare places count too). A statement '..UptoSaid' is the law's where the arguments, and the package variables that the reading takes, are together of bulk at most 1048576: NARROWER than '..Said'. Prove '..Said' where nothing that the law and all that it calls make is longer than what came in: it says more and counts as full. Else prove '..UptoSaid'. A law counts once. -/
mutual
def uptoBulk {H : Type} : DataW H → Nat
  | .lit (.string bytes) => bytes.length + 1
  | .lit _ => 1
  | .nil => 1
  | .ptr d => uptoBulk d + 1
  | .slice elems spare => uptoBulkAll elems + uptoBulkAll spare + 1
  | .agg parts => uptoBulkAll parts + 1
  | .iface _ d => uptoBulk d + 1
  | .map entries => uptoBulkEntries entries + 1
  | .held _ => 1
def uptoBulkAll {H : Type} : List (DataW H) → Nat
  | [] => 0
  | d :: r => uptoBulk d + uptoBulkAll r
def uptoBulkEntries {H : Type} : List (Lit × DataW H) → Nat
  | [] => 0
  | x :: r => uptoBulkEntry x + uptoBulkEntries r
def uptoBulkEntry {H : Type} : Lit × DataW H → Nat
  | (.string bytes, d) => bytes.length + uptoBulk d + 1
  | (_, d) => uptoBulk d + 1
 end
def uptoSmall : (H : Type) → List (DataW H) → Bool := fun _ ds => decide (uptoBulkAll ds ≤ 1048576)
def OpenSpec.upto (s : _root_.Go.ChangeSpec) : _root_.Go.OpenSpec := { _root_.Go.OpenSpec.ofChange s with cond := some uptoSmall }

/-- 'bulletinlaw46.NewsrcAll', WHERE WHAT IT READS IS OF BULK AT MOST 1048576: true; the input reads as it did. -/
def newsrcAllUptoRow : OpenClaim := { program := "ytcpennlojjlpaaagreatdoor", sum := "11eae187472da4ca6431fde751c5b298e0819377ccdaad2953c9f0f2856b9efd", func := "bulletin/bulletinlaw46.NewsrcAll", spec := "newsrcAll", inPlace := ["internal/abi.NoEscape", "internal/bytealg.CountString", "internal/bytealg.IndexByteString", "internal/bytealg.IndexString"], unfollowed := true, recurses := true, named := ["internal/strconv.uint64pow10", "math/bits.deBruijn32tab", "math/bits.deBruijn64tab", "unicode/utf8.first", "unicode/utf8.acceptRanges", "internal/bytealg.MaxLen"], plainKeys := false, apart := false, laid := [("math/bits.deBruijn32tab", laid_math_bits_deBruijn32tab), ("math/bits.deBruijn64tab", laid_math_bits_deBruijn64tab), ("internal/strconv.uint64pow10", laid_internal_strconv_uint64pow10), ("unicode/utf8.acceptRanges", laid_unicode_utf8_acceptRanges), ("unicode/utf8.first", laid_unicode_utf8_first)], narrowed := true }
def NewsrcAllUptoSaid : Prop := newsrcAllUptoRow.holds Tryz.pinned (OpenSpec.upto newsrcAllSpec)

/-- 'bulletinlaw46.NewsrcCombines', WHERE WHAT IT READS IS OF BULK AT MOST 1048576: true; the input reads as it did. -/
def newsrcCombinesUptoRow : OpenClaim := { program := "ytcpennlojjlpaaagreatdoor", sum := "11eae187472da4ca6431fde751c5b298e0819377ccdaad2953c9f0f2856b9efd", func := "bulletin/bulletinlaw46.NewsrcCombines", spec := "newsrcCombines", inPlace := ["internal/abi.NoEscape", "internal/bytealg.CountString", "internal/bytealg.IndexByteString", "internal/bytealg.IndexString"], unfollowed := true, recurses := true, named := ["internal/strconv.uint64pow10", "math/bits.deBruijn32tab", "math/bits.deBruijn64tab", "unicode/utf8.first", "unicode/utf8.acceptRanges", "internal/bytealg.MaxLen"], plainKeys := false, apart := false, laid := [("math/bits.deBruijn32tab", laid_math_bits_deBruijn32tab), ("math/bits.deBruijn64tab", laid_math_bits_deBruijn64tab), ("internal/strconv.uint64pow10", laid_internal_strconv_uint64pow10), ("unicode/utf8.acceptRanges", laid_unicode_utf8_acceptRanges), ("unicode/utf8.first", laid_unicode_utf8_first)], narrowed := true }
def NewsrcCombinesUptoSaid : Prop := newsrcCombinesUptoRow.holds Tryz.pinned (OpenSpec.upto newsrcCombinesSpec)

/-- 'bulletinlaw46.NewsrcMove', WHERE WHAT IT READS IS OF BULK AT MOST 1048576: true; the input reads as it did. -/
def newsrcMoveUptoRow : OpenClaim := { program := "ytcpennlojjlpaaagreatdoor", sum := "11eae187472da4ca6431fde751c5b298e0819377ccdaad2953c9f0f2856b9efd", func := "bulletin/bulletinlaw46.NewsrcMove", spec := "newsrcMove", inPlace := ["internal/abi.NoEscape", "internal/bytealg.CountString", "internal/bytealg.IndexByteString", "internal/bytealg.IndexString"], unfollowed := true, recurses := true, named := ["internal/strconv.uint64pow10", "math/bits.deBruijn32tab", "math/bits.deBruijn64tab", "unicode/utf8.first", "unicode/utf8.acceptRanges", "internal/bytealg.MaxLen"], plainKeys := false, apart := false, laid := [("math/bits.deBruijn32tab", laid_math_bits_deBruijn32tab), ("math/bits.deBruijn64tab", laid_math_bits_deBruijn64tab), ("internal/strconv.uint64pow10", laid_internal_strconv_uint64pow10), ("unicode/utf8.acceptRanges", laid_unicode_utf8_acceptRanges), ("unicode/utf8.first", laid_unicode_utf8_first)], narrowed := true }
def NewsrcMoveUptoSaid : Prop := newsrcMoveUptoRow.holds Tryz.pinned (OpenSpec.upto newsrcMoveSpec)

/-- 'bulletinlaw46.NewsrcAlgebra', WHERE WHAT IT READS IS OF BULK AT MOST 1048576: true; the input reads as it did. -/
def newsrcAlgebraUptoRow : OpenClaim := { program := "ytcpennlojjlpaaagreatdoor", sum := "11eae187472da4ca6431fde751c5b298e0819377ccdaad2953c9f0f2856b9efd", func := "bulletin/bulletinlaw46.NewsrcAlgebra", spec := "newsrcAlgebra", inPlace := ["internal/abi.NoEscape", "internal/bytealg.CountString", "internal/bytealg.IndexByteString", "internal/bytealg.IndexString"], unfollowed := true, recurses := true, named := ["internal/strconv.uint64pow10", "math/bits.deBruijn32tab", "math/bits.deBruijn64tab", "unicode/utf8.first", "unicode/utf8.acceptRanges", "internal/bytealg.MaxLen"], plainKeys := false, apart := false, laid := [("math/bits.deBruijn32tab", laid_math_bits_deBruijn32tab), ("math/bits.deBruijn64tab", laid_math_bits_deBruijn64tab), ("internal/strconv.uint64pow10", laid_internal_strconv_uint64pow10), ("unicode/utf8.acceptRanges", laid_unicode_utf8_acceptRanges), ("unicode/utf8.first", laid_unicode_utf8_first)], narrowed := true }
def NewsrcAlgebraUptoSaid : Prop := newsrcAlgebraUptoRow.holds Tryz.pinned (OpenSpec.upto newsrcAlgebraSpec)

/-- 'bulletinlaw46.NewsrcMakes', WHERE WHAT IT READS IS OF BULK AT MOST 1048576: true; the input reads as it did. -/
def newsrcMakesUptoRow : OpenClaim := { program := "ytcpennlojjlpaaagreatdoor", sum := "11eae187472da4ca6431fde751c5b298e0819377ccdaad2953c9f0f2856b9efd", func := "bulletin/bulletinlaw46.NewsrcMakes", spec := "newsrcMakes", inPlace := ["internal/abi.NoEscape", "internal/bytealg.CountString", "internal/bytealg.IndexByteString", "internal/bytealg.IndexString"], unfollowed := true, recurses := true, named := ["internal/strconv.uint64pow10", "math/bits.deBruijn32tab", "math/bits.deBruijn64tab", "unicode/utf8.first", "unicode/utf8.acceptRanges", "internal/bytealg.MaxLen"], plainKeys := false, apart := false, laid := [("math/bits.deBruijn32tab", laid_math_bits_deBruijn32tab), ("math/bits.deBruijn64tab", laid_math_bits_deBruijn64tab), ("internal/strconv.uint64pow10", laid_internal_strconv_uint64pow10), ("unicode/utf8.acceptRanges", laid_unicode_utf8_acceptRanges), ("unicode/utf8.first", laid_unicode_utf8_first)], narrowed := true }
def NewsrcMakesUptoSaid : Prop := newsrcMakesUptoRow.holds Tryz.pinned (OpenSpec.upto newsrcMakesSpec)

/-- 'bulletinlaw46.NewsrcThereAndBack', WHERE WHAT IT READS IS OF BULK AT MOST 1048576: true; the input reads as it did. -/
def newsrcThereAndBackUptoRow : OpenClaim := { program := "ytcpennlojjlpaaagreatdoor", sum := "11eae187472da4ca6431fde751c5b298e0819377ccdaad2953c9f0f2856b9efd", func := "bulletin/bulletinlaw46.NewsrcThereAndBack", spec := "newsrcThereAndBack", inPlace := ["internal/abi.NoEscape", "internal/bytealg.CountString", "internal/bytealg.IndexByteString", "internal/bytealg.IndexString"], unfollowed := true, recurses := true, named := ["internal/strconv.uint64pow10", "math/bits.deBruijn32tab", "math/bits.deBruijn64tab", "unicode/utf8.first", "unicode/utf8.acceptRanges", "internal/bytealg.MaxLen"], plainKeys := false, apart := false, laid := [("math/bits.deBruijn32tab", laid_math_bits_deBruijn32tab), ("math/bits.deBruijn64tab", laid_math_bits_deBruijn64tab), ("internal/strconv.uint64pow10", laid_internal_strconv_uint64pow10), ("unicode/utf8.acceptRanges", laid_unicode_utf8_acceptRanges), ("unicode/utf8.first", laid_unicode_utf8_first)], narrowed := true }
def NewsrcThereAndBackUptoSaid : Prop := newsrcThereAndBackUptoRow.holds Tryz.pinned (OpenSpec.upto newsrcThereAndBackSpec)

/-- 'bulletinlaw46.NewsrcParseSet', WHERE WHAT IT READS IS OF BULK AT MOST 1048576: true; the input reads as it did. -/
def newsrcParseSetUptoRow : OpenClaim := { program := "ytcpennlojjlpaaagreatdoor", sum := "11eae187472da4ca6431fde751c5b298e0819377ccdaad2953c9f0f2856b9efd", func := "bulletin/bulletinlaw46.NewsrcParseSet", spec := "newsrcParseSet", inPlace := ["internal/abi.NoEscape", "internal/bytealg.CountString", "internal/bytealg.IndexByteString", "internal/bytealg.IndexString"], unfollowed := true, recurses := true, named := ["internal/strconv.uint64pow10", "math/bits.deBruijn32tab", "math/bits.deBruijn64tab", "unicode/utf8.first", "unicode/utf8.acceptRanges", "internal/bytealg.MaxLen"], plainKeys := false, apart := false, laid := [("math/bits.deBruijn32tab", laid_math_bits_deBruijn32tab), ("math/bits.deBruijn64tab", laid_math_bits_deBruijn64tab), ("internal/strconv.uint64pow10", laid_internal_strconv_uint64pow10), ("unicode/utf8.acceptRanges", laid_unicode_utf8_acceptRanges), ("unicode/utf8.first", laid_unicode_utf8_first)], narrowed := true }
def NewsrcParseSetUptoSaid : Prop := newsrcParseSetUptoRow.holds Tryz.pinned (OpenSpec.upto newsrcParseSetSpec)

/-- 'bulletinlaw46.NewsrcMarks', WHERE WHAT IT READS IS OF BULK AT MOST 1048576: true; the input reads as it did. -/
def newsrcMarksUptoRow : OpenClaim := { program := "ytcpennlojjlpaaagreatdoor", sum := "11eae187472da4ca6431fde751c5b298e0819377ccdaad2953c9f0f2856b9efd", func := "bulletin/bulletinlaw46.NewsrcMarks", spec := "newsrcMarks", inPlace := ["internal/abi.NoEscape", "internal/bytealg.CountString", "internal/bytealg.IndexByteString", "internal/bytealg.IndexString"], unfollowed := true, recurses := true, named := ["internal/strconv.uint64pow10", "math/bits.deBruijn32tab", "math/bits.deBruijn64tab", "unicode/utf8.first", "unicode/utf8.acceptRanges", "internal/bytealg.MaxLen"], plainKeys := false, apart := false, laid := [("math/bits.deBruijn32tab", laid_math_bits_deBruijn32tab), ("math/bits.deBruijn64tab", laid_math_bits_deBruijn64tab), ("internal/strconv.uint64pow10", laid_internal_strconv_uint64pow10), ("unicode/utf8.acceptRanges", laid_unicode_utf8_acceptRanges), ("unicode/utf8.first", laid_unicode_utf8_first)], narrowed := true }
def NewsrcMarksUptoSaid : Prop := newsrcMarksUptoRow.holds Tryz.pinned (OpenSpec.upto newsrcMarksSpec)

/-- 'bulletinlaw46.NewsrcText', WHERE WHAT IT READS IS OF BULK AT MOST 1048576: true; the input reads as it did. -/
def newsrcTextUptoRow : OpenClaim := { program := "ytcpennlojjlpaaagreatdoor", sum := "11eae187472da4ca6431fde751c5b298e0819377ccdaad2953c9f0f2856b9efd", func := "bulletin/bulletinlaw46.NewsrcText", spec := "newsrcText", inPlace := ["internal/abi.NoEscape", "internal/bytealg.CountString", "internal/bytealg.IndexByteString", "internal/bytealg.IndexString"], unfollowed := true, recurses := true, named := ["internal/strconv.uint64pow10", "math/bits.deBruijn32tab", "math/bits.deBruijn64tab", "unicode/utf8.first", "unicode/utf8.acceptRanges", "internal/bytealg.MaxLen"], plainKeys := false, apart := false, laid := [("math/bits.deBruijn32tab", laid_math_bits_deBruijn32tab), ("math/bits.deBruijn64tab", laid_math_bits_deBruijn64tab), ("internal/strconv.uint64pow10", laid_internal_strconv_uint64pow10), ("unicode/utf8.acceptRanges", laid_unicode_utf8_acceptRanges), ("unicode/utf8.first", laid_unicode_utf8_first)], narrowed := true }
def NewsrcTextUptoSaid : Prop := newsrcTextUptoRow.holds Tryz.pinned (OpenSpec.upto newsrcTextSpec)

/-- 'bulletinlaw46.NewsrcClone', WHERE WHAT IT READS IS OF BULK AT MOST 1048576: true; the input reads as it did. -/
def newsrcCloneUptoRow : OpenClaim := { program := "ytcpennlojjlpaaagreatdoor", sum := "11eae187472da4ca6431fde751c5b298e0819377ccdaad2953c9f0f2856b9efd", func := "bulletin/bulletinlaw46.NewsrcClone", spec := "newsrcClone", inPlace := ["internal/abi.NoEscape", "internal/bytealg.CountString", "internal/bytealg.IndexByteString", "internal/bytealg.IndexString"], unfollowed := true, recurses := true, named := ["internal/strconv.uint64pow10", "math/bits.deBruijn32tab", "math/bits.deBruijn64tab", "unicode/utf8.first", "unicode/utf8.acceptRanges", "internal/bytealg.MaxLen"], plainKeys := false, apart := false, laid := [("math/bits.deBruijn32tab", laid_math_bits_deBruijn32tab), ("math/bits.deBruijn64tab", laid_math_bits_deBruijn64tab), ("internal/strconv.uint64pow10", laid_internal_strconv_uint64pow10), ("unicode/utf8.acceptRanges", laid_unicode_utf8_acceptRanges), ("unicode/utf8.first", laid_unicode_utf8_first)], narrowed := true }
def NewsrcCloneUptoSaid : Prop := newsrcCloneUptoRow.holds Tryz.pinned (OpenSpec.upto newsrcCloneSpec)

/-- 'bulletinlaw46.NewsrcParse', WHERE WHAT IT READS IS OF BULK AT MOST 1048576: true; the input reads as it did. -/
def newsrcParseUptoRow : OpenClaim := { program := "ytcpennlojjlpaaagreatdoor", sum := "11eae187472da4ca6431fde751c5b298e0819377ccdaad2953c9f0f2856b9efd", func := "bulletin/bulletinlaw46.NewsrcParse", spec := "newsrcParse", inPlace := ["internal/abi.NoEscape", "internal/bytealg.CountString", "internal/bytealg.IndexByteString", "internal/bytealg.IndexString"], unfollowed := true, recurses := true, named := ["internal/strconv.uint64pow10", "math/bits.deBruijn32tab", "math/bits.deBruijn64tab", "unicode/utf8.first", "unicode/utf8.acceptRanges", "internal/bytealg.MaxLen"], plainKeys := false, apart := false, laid := [("math/bits.deBruijn32tab", laid_math_bits_deBruijn32tab), ("math/bits.deBruijn64tab", laid_math_bits_deBruijn64tab), ("internal/strconv.uint64pow10", laid_internal_strconv_uint64pow10), ("unicode/utf8.acceptRanges", laid_unicode_utf8_acceptRanges), ("unicode/utf8.first", laid_unicode_utf8_first)], narrowed := true }
def NewsrcParseUptoSaid : Prop := newsrcParseUptoRow.holds Tryz.pinned (OpenSpec.upto newsrcParseSpec)

/-- 'bulletinlaw46.NewsrcFile', WHERE WHAT IT READS IS OF BULK AT MOST 1048576: true; the input reads as it did. -/
def newsrcFileUptoRow : OpenClaim := { program := "ytcpennlojjlpaaagreatdoor", sum := "11eae187472da4ca6431fde751c5b298e0819377ccdaad2953c9f0f2856b9efd", func := "bulletin/bulletinlaw46.NewsrcFile", spec := "newsrcFile", inPlace := ["internal/abi.NoEscape", "internal/bytealg.CountString", "internal/bytealg.IndexByteString", "internal/bytealg.IndexString"], unfollowed := true, recurses := true, named := ["internal/strconv.uint64pow10", "math/bits.deBruijn32tab", "math/bits.deBruijn64tab", "unicode/utf8.first", "unicode/utf8.acceptRanges", "internal/bytealg.MaxLen"], plainKeys := false, apart := false, laid := [("math/bits.deBruijn32tab", laid_math_bits_deBruijn32tab), ("math/bits.deBruijn64tab", laid_math_bits_deBruijn64tab), ("internal/strconv.uint64pow10", laid_internal_strconv_uint64pow10), ("unicode/utf8.acceptRanges", laid_unicode_utf8_acceptRanges), ("unicode/utf8.first", laid_unicode_utf8_first)], narrowed := true }
def NewsrcFileUptoSaid : Prop := newsrcFileUptoRow.holds Tryz.pinned (OpenSpec.upto newsrcFileSpec)

end Rows
end Go.Proofs.YtcpennlojjlpaaaGreatDoor
