/-
  DERIVED. GIVEN WITH THE SEED: THE CARDS: each row of YtcpennlojjlpaaaGreatDoorRows.lean that lists a variable, with what it lists TIED to the program's text (the seventh form; the later family's looks); each row that meets fmt, with fmt's text TOLD by the authors' own Lean function (tested against real Go, not proved from fmt's source: count such statements apart). THE CARD IS WHAT COUNTS. Prove the row's statement (the work); the ties are given (YtcpennlojjlpaaaGreatDoorTie.lean); close each card by the builder's one call (the guide's Derived/Test/ToyasCard.lean, 'card_holds'). Laid BY PROGRAM, IN A SANDBOX (cutbox-door.mjs). By AI agents, Wed Nov 11 2026. No macro, syntax, notation, axiom, sorry.
-/
import Derived.Test.YtcpennlojjlpaaaGreatDoorRows
import GoSem.ClaimSeven
namespace Go.Proofs.YtcpennlojjlpaaaGreatDoor
namespace Rows

/-- THE TIED CARD OF 'bulletinlaw46.NewsrcAll'. -/
def newsrcAllCard : Claim7 := { stood := { row := newsrcAllRow, standIns := [], harness := (true, "bae4191c4f95b719f339d89f478471feae2c2404847362b5935afd5b1748c8e4"), looks := false }, kinds := [], alts := [], laidByText := true, laidKinds := [.data, .data, .data, .data, .pinned], laidTests := true, laidLooks := .later }
def NewsrcAllCardSaid : Prop := Claim7.holds Tryz.pinned (.plain (OpenSpec.ofChange newsrcAllSpec)) newsrcAllCard

/-- THE TIED CARD OF 'bulletinlaw46.NewsrcCombines'. -/
def newsrcCombinesCard : Claim7 := { stood := { row := newsrcCombinesRow, standIns := [], harness := (true, "bae4191c4f95b719f339d89f478471feae2c2404847362b5935afd5b1748c8e4"), looks := false }, kinds := [], alts := [], laidByText := true, laidKinds := [.data, .data, .data, .data, .pinned], laidTests := true, laidLooks := .later }
def NewsrcCombinesCardSaid : Prop := Claim7.holds Tryz.pinned (.plain (OpenSpec.ofChange newsrcCombinesSpec)) newsrcCombinesCard

/-- THE TIED CARD OF 'bulletinlaw46.NewsrcMove'. -/
def newsrcMoveCard : Claim7 := { stood := { row := newsrcMoveRow, standIns := [], harness := (true, "bae4191c4f95b719f339d89f478471feae2c2404847362b5935afd5b1748c8e4"), looks := false }, kinds := [], alts := [], laidByText := true, laidKinds := [.data, .data, .data, .data, .pinned], laidTests := true, laidLooks := .later }
def NewsrcMoveCardSaid : Prop := Claim7.holds Tryz.pinned (.plain (OpenSpec.ofChange newsrcMoveSpec)) newsrcMoveCard

/-- THE TIED CARD OF 'bulletinlaw46.NewsrcAlgebra'. -/
def newsrcAlgebraCard : Claim7 := { stood := { row := newsrcAlgebraRow, standIns := [], harness := (true, "bae4191c4f95b719f339d89f478471feae2c2404847362b5935afd5b1748c8e4"), looks := false }, kinds := [], alts := [], laidByText := true, laidKinds := [.data, .data, .data, .data, .pinned], laidTests := true, laidLooks := .later }
def NewsrcAlgebraCardSaid : Prop := Claim7.holds Tryz.pinned (.plain (OpenSpec.ofChange newsrcAlgebraSpec)) newsrcAlgebraCard

/-- THE TIED CARD OF 'bulletinlaw46.NewsrcMakes'. -/
def newsrcMakesCard : Claim7 := { stood := { row := newsrcMakesRow, standIns := [], harness := (true, "bae4191c4f95b719f339d89f478471feae2c2404847362b5935afd5b1748c8e4"), looks := false }, kinds := [], alts := [], laidByText := true, laidKinds := [.data, .data, .data, .data, .pinned], laidTests := true, laidLooks := .later }
def NewsrcMakesCardSaid : Prop := Claim7.holds Tryz.pinned (.plain (OpenSpec.ofChange newsrcMakesSpec)) newsrcMakesCard

/-- THE TIED CARD OF 'bulletinlaw46.NewsrcThereAndBack'. -/
def newsrcThereAndBackCard : Claim7 := { stood := { row := newsrcThereAndBackRow, standIns := [], harness := (true, "bae4191c4f95b719f339d89f478471feae2c2404847362b5935afd5b1748c8e4"), looks := false }, kinds := [], alts := [], laidByText := true, laidKinds := [.data, .data, .data, .data, .pinned], laidTests := true, laidLooks := .later }
def NewsrcThereAndBackCardSaid : Prop := Claim7.holds Tryz.pinned (.plain (OpenSpec.ofChange newsrcThereAndBackSpec)) newsrcThereAndBackCard

/-- THE TIED CARD OF 'bulletinlaw46.NewsrcParseSet'. -/
def newsrcParseSetCard : Claim7 := { stood := { row := newsrcParseSetRow, standIns := [], harness := (true, "bae4191c4f95b719f339d89f478471feae2c2404847362b5935afd5b1748c8e4"), looks := false }, kinds := [], alts := [], laidByText := true, laidKinds := [.data, .data, .data, .data, .pinned], laidTests := true, laidLooks := .later }
def NewsrcParseSetCardSaid : Prop := Claim7.holds Tryz.pinned (.plain (OpenSpec.ofChange newsrcParseSetSpec)) newsrcParseSetCard

/-- THE TIED CARD OF 'bulletinlaw46.NewsrcMarks'. -/
def newsrcMarksCard : Claim7 := { stood := { row := newsrcMarksRow, standIns := [], harness := (true, "bae4191c4f95b719f339d89f478471feae2c2404847362b5935afd5b1748c8e4"), looks := false }, kinds := [], alts := [], laidByText := true, laidKinds := [.data, .data, .data, .data, .pinned], laidTests := true, laidLooks := .later }
def NewsrcMarksCardSaid : Prop := Claim7.holds Tryz.pinned (.plain (OpenSpec.ofChange newsrcMarksSpec)) newsrcMarksCard

/-- THE TIED CARD OF 'bulletinlaw46.NewsrcText'. -/
def newsrcTextCard : Claim7 := { stood := { row := newsrcTextRow, standIns := [], harness := (true, "bae4191c4f95b719f339d89f478471feae2c2404847362b5935afd5b1748c8e4"), looks := false }, kinds := [], alts := [], laidByText := true, laidKinds := [.data, .data, .data, .data, .pinned], laidTests := true, laidLooks := .later }
def NewsrcTextCardSaid : Prop := Claim7.holds Tryz.pinned (.plain (OpenSpec.ofChange newsrcTextSpec)) newsrcTextCard

/-- THE TIED CARD OF 'bulletinlaw46.NewsrcClone'. -/
def newsrcCloneCard : Claim7 := { stood := { row := newsrcCloneRow, standIns := [], harness := (true, "bae4191c4f95b719f339d89f478471feae2c2404847362b5935afd5b1748c8e4"), looks := false }, kinds := [], alts := [], laidByText := true, laidKinds := [.data, .data, .data, .data, .pinned], laidTests := true, laidLooks := .later }
def NewsrcCloneCardSaid : Prop := Claim7.holds Tryz.pinned (.plain (OpenSpec.ofChange newsrcCloneSpec)) newsrcCloneCard

/-- THE TIED CARD OF 'bulletinlaw46.NewsrcParse'. -/
def newsrcParseCard : Claim7 := { stood := { row := newsrcParseRow, standIns := [], harness := (true, "bae4191c4f95b719f339d89f478471feae2c2404847362b5935afd5b1748c8e4"), looks := false }, kinds := [], alts := [], laidByText := true, laidKinds := [.data, .data, .data, .data, .pinned], laidTests := true, laidLooks := .later }
def NewsrcParseCardSaid : Prop := Claim7.holds Tryz.pinned (.plain (OpenSpec.ofChange newsrcParseSpec)) newsrcParseCard

/-- THE TIED CARD OF 'bulletinlaw46.NewsrcFile'. -/
def newsrcFileCard : Claim7 := { stood := { row := newsrcFileRow, standIns := [], harness := (true, "bae4191c4f95b719f339d89f478471feae2c2404847362b5935afd5b1748c8e4"), looks := false }, kinds := [], alts := [], laidByText := true, laidKinds := [.data, .data, .data, .data, .pinned], laidTests := true, laidLooks := .later }
def NewsrcFileCardSaid : Prop := Claim7.holds Tryz.pinned (.plain (OpenSpec.ofChange newsrcFileSpec)) newsrcFileCard

/-- THE SECOND FORM's CARD OF 'bulletinlaw46.NewsrcAll'. -/
def newsrcAllUptoCard : Claim7 := { stood := { row := newsrcAllUptoRow, standIns := [], harness := (true, "bae4191c4f95b719f339d89f478471feae2c2404847362b5935afd5b1748c8e4"), looks := false }, kinds := [], alts := [], laidByText := true, laidKinds := [.data, .data, .data, .data, .pinned], laidTests := true, laidLooks := .later }
def NewsrcAllUptoCardSaid : Prop := Claim7.holds Tryz.pinned (.plain (OpenSpec.upto newsrcAllSpec)) newsrcAllUptoCard

/-- THE SECOND FORM's CARD OF 'bulletinlaw46.NewsrcCombines'. -/
def newsrcCombinesUptoCard : Claim7 := { stood := { row := newsrcCombinesUptoRow, standIns := [], harness := (true, "bae4191c4f95b719f339d89f478471feae2c2404847362b5935afd5b1748c8e4"), looks := false }, kinds := [], alts := [], laidByText := true, laidKinds := [.data, .data, .data, .data, .pinned], laidTests := true, laidLooks := .later }
def NewsrcCombinesUptoCardSaid : Prop := Claim7.holds Tryz.pinned (.plain (OpenSpec.upto newsrcCombinesSpec)) newsrcCombinesUptoCard

/-- THE SECOND FORM's CARD OF 'bulletinlaw46.NewsrcMove'. -/
def newsrcMoveUptoCard : Claim7 := { stood := { row := newsrcMoveUptoRow, standIns := [], harness := (true, "bae4191c4f95b719f339d89f478471feae2c2404847362b5935afd5b1748c8e4"), looks := false }, kinds := [], alts := [], laidByText := true, laidKinds := [.data, .data, .data, .data, .pinned], laidTests := true, laidLooks := .later }
def NewsrcMoveUptoCardSaid : Prop := Claim7.holds Tryz.pinned (.plain (OpenSpec.upto newsrcMoveSpec)) newsrcMoveUptoCard

/-- THE SECOND FORM's CARD OF 'bulletinlaw46.NewsrcAlgebra'. -/
def newsrcAlgebraUptoCard : Claim7 := { stood := { row := newsrcAlgebraUptoRow, standIns := [], harness := (true, "bae4191c4f95b719f339d89f478471feae2c2404847362b5935afd5b1748c8e4"), looks := false }, kinds := [], alts := [], laidByText := true, laidKinds := [.data, .data, .data, .data, .pinned], laidTests := true, laidLooks := .later }
def NewsrcAlgebraUptoCardSaid : Prop := Claim7.holds Tryz.pinned (.plain (OpenSpec.upto newsrcAlgebraSpec)) newsrcAlgebraUptoCard

/-- THE SECOND FORM's CARD OF 'bulletinlaw46.NewsrcMakes'. -/
def newsrcMakesUptoCard : Claim7 := { stood := { row := newsrcMakesUptoRow, standIns := [], harness := (true, "bae4191c4f95b719f339d89f478471feae2c2404847362b5935afd5b1748c8e4"), looks := false }, kinds := [], alts := [], laidByText := true, laidKinds := [.data, .data, .data, .data, .pinned], laidTests := true, laidLooks := .later }
def NewsrcMakesUptoCardSaid : Prop := Claim7.holds Tryz.pinned (.plain (OpenSpec.upto newsrcMakesSpec)) newsrcMakesUptoCard

/-- THE SECOND FORM's CARD OF 'bulletinlaw46.NewsrcThereAndBack'. -/
def newsrcThereAndBackUptoCard : Claim7 := { stood := { row := newsrcThereAndBackUptoRow, standIns := [], harness := (true, "bae4191c4f95b719f339d89f478471feae2c2404847362b5935afd5b1748c8e4"), looks := false }, kinds := [], alts := [], laidByText := true, laidKinds := [.data, .data, .data, .data, .pinned], laidTests := true, laidLooks := .later }
def NewsrcThereAndBackUptoCardSaid : Prop := Claim7.holds Tryz.pinned (.plain (OpenSpec.upto newsrcThereAndBackSpec)) newsrcThereAndBackUptoCard

/-- THE SECOND FORM's CARD OF 'bulletinlaw46.NewsrcParseSet'. -/
def newsrcParseSetUptoCard : Claim7 := { stood := { row := newsrcParseSetUptoRow, standIns := [], harness := (true, "bae4191c4f95b719f339d89f478471feae2c2404847362b5935afd5b1748c8e4"), looks := false }, kinds := [], alts := [], laidByText := true, laidKinds := [.data, .data, .data, .data, .pinned], laidTests := true, laidLooks := .later }
def NewsrcParseSetUptoCardSaid : Prop := Claim7.holds Tryz.pinned (.plain (OpenSpec.upto newsrcParseSetSpec)) newsrcParseSetUptoCard

/-- THE SECOND FORM's CARD OF 'bulletinlaw46.NewsrcMarks'. -/
def newsrcMarksUptoCard : Claim7 := { stood := { row := newsrcMarksUptoRow, standIns := [], harness := (true, "bae4191c4f95b719f339d89f478471feae2c2404847362b5935afd5b1748c8e4"), looks := false }, kinds := [], alts := [], laidByText := true, laidKinds := [.data, .data, .data, .data, .pinned], laidTests := true, laidLooks := .later }
def NewsrcMarksUptoCardSaid : Prop := Claim7.holds Tryz.pinned (.plain (OpenSpec.upto newsrcMarksSpec)) newsrcMarksUptoCard

/-- THE SECOND FORM's CARD OF 'bulletinlaw46.NewsrcText'. -/
def newsrcTextUptoCard : Claim7 := { stood := { row := newsrcTextUptoRow, standIns := [], harness := (true, "bae4191c4f95b719f339d89f478471feae2c2404847362b5935afd5b1748c8e4"), looks := false }, kinds := [], alts := [], laidByText := true, laidKinds := [.data, .data, .data, .data, .pinned], laidTests := true, laidLooks := .later }
def NewsrcTextUptoCardSaid : Prop := Claim7.holds Tryz.pinned (.plain (OpenSpec.upto newsrcTextSpec)) newsrcTextUptoCard

/-- THE SECOND FORM's CARD OF 'bulletinlaw46.NewsrcClone'. -/
def newsrcCloneUptoCard : Claim7 := { stood := { row := newsrcCloneUptoRow, standIns := [], harness := (true, "bae4191c4f95b719f339d89f478471feae2c2404847362b5935afd5b1748c8e4"), looks := false }, kinds := [], alts := [], laidByText := true, laidKinds := [.data, .data, .data, .data, .pinned], laidTests := true, laidLooks := .later }
def NewsrcCloneUptoCardSaid : Prop := Claim7.holds Tryz.pinned (.plain (OpenSpec.upto newsrcCloneSpec)) newsrcCloneUptoCard

/-- THE SECOND FORM's CARD OF 'bulletinlaw46.NewsrcParse'. -/
def newsrcParseUptoCard : Claim7 := { stood := { row := newsrcParseUptoRow, standIns := [], harness := (true, "bae4191c4f95b719f339d89f478471feae2c2404847362b5935afd5b1748c8e4"), looks := false }, kinds := [], alts := [], laidByText := true, laidKinds := [.data, .data, .data, .data, .pinned], laidTests := true, laidLooks := .later }
def NewsrcParseUptoCardSaid : Prop := Claim7.holds Tryz.pinned (.plain (OpenSpec.upto newsrcParseSpec)) newsrcParseUptoCard

/-- THE SECOND FORM's CARD OF 'bulletinlaw46.NewsrcFile'. -/
def newsrcFileUptoCard : Claim7 := { stood := { row := newsrcFileUptoRow, standIns := [], harness := (true, "bae4191c4f95b719f339d89f478471feae2c2404847362b5935afd5b1748c8e4"), looks := false }, kinds := [], alts := [], laidByText := true, laidKinds := [.data, .data, .data, .data, .pinned], laidTests := true, laidLooks := .later }
def NewsrcFileUptoCardSaid : Prop := Claim7.holds Tryz.pinned (.plain (OpenSpec.upto newsrcFileSpec)) newsrcFileUptoCard
end Rows
end Go.Proofs.YtcpennlojjlpaaaGreatDoor
