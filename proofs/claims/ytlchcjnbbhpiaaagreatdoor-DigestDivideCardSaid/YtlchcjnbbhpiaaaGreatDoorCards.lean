/-
  DERIVED. GIVEN WITH THE SEED: THE CARDS: each row of YtlchcjnbbhpiaaaGreatDoorRows.lean that lists a variable, with what it lists TIED to the program's text (the seventh form; the later family's looks); each row that meets fmt, with fmt's text TOLD by the authors' own Lean function (tested against real Go, not proved from fmt's source: count such statements apart). THE CARD IS WHAT COUNTS. Prove the row's statement (the work); the ties are given (YtlchcjnbbhpiaaaGreatDoorTie.lean); close each card by the builder's one call (the guide's Derived/Test/ToyasCard.lean, 'card_holds'). Laid BY PROGRAM, IN A SANDBOX (cutbox-door.mjs). By AI agents, Wed Nov 11 2026. No macro, syntax, notation, axiom, sorry.
-/
import Derived.Test.YtlchcjnbbhpiaaaGreatDoorRows
import GoSem.ClaimSeven
namespace Go.Proofs.YtlchcjnbbhpiaaaGreatDoor
namespace Rows

/-- THE TIED CARD OF 'bulletinlaw50.DigestRoundTrip'. -/
def digestRoundTripCard : Claim7 := { stood := { row := digestRoundTripRow, standIns := [], harness := (true, "3b61cfafcabbc10b5d3574602ff1d1b3b37caad6ffb53a48cb8e985e6306a744"), looks := true }, kinds := [], alts := [], laidByText := true, laidKinds := [.data, .data, .data, .data, .sentinel, .sentinel, .pinned], laidTests := true, laidLooks := .later }
def DigestRoundTripCardSaid : Prop := Claim7.holds Tryz.pinned (.plain (OpenSpec.ofChange digestRoundTripSpec)) digestRoundTripCard

/-- THE TIED CARD OF 'bulletinlaw50.DigestCanonical'. -/
def digestCanonicalCard : Claim7 := { stood := { row := digestCanonicalRow, standIns := [], harness := (true, "3b61cfafcabbc10b5d3574602ff1d1b3b37caad6ffb53a48cb8e985e6306a744"), looks := true }, kinds := [], alts := [], laidByText := true, laidKinds := [.data, .data, .data, .data, .sentinel, .sentinel, .pinned], laidTests := true, laidLooks := .later }
def DigestCanonicalCardSaid : Prop := Claim7.holds Tryz.pinned (.plain (OpenSpec.ofChange digestCanonicalSpec)) digestCanonicalCard

/-- THE TIED CARD OF 'bulletinlaw50.DigestBundle'. -/
def digestBundleCard : Claim7 := { stood := { row := digestBundleRow, standIns := [], harness := (true, "3b61cfafcabbc10b5d3574602ff1d1b3b37caad6ffb53a48cb8e985e6306a744"), looks := true }, kinds := [], alts := [], laidByText := true, laidKinds := [.data, .data, .data, .data, .sentinel, .sentinel, .pinned], laidTests := true, laidLooks := .later }
def DigestBundleCardSaid : Prop := Claim7.holds Tryz.pinned (.plain (OpenSpec.ofChange digestBundleSpec)) digestBundleCard

/-- THE TIED CARD OF 'bulletinlaw50.DigestComplete'. -/
def digestCompleteCard : Claim7 := { stood := { row := digestCompleteRow, standIns := [], harness := (true, "3b61cfafcabbc10b5d3574602ff1d1b3b37caad6ffb53a48cb8e985e6306a744"), looks := true }, kinds := [], alts := [], laidByText := true, laidKinds := [.data, .data, .data, .data, .sentinel, .sentinel, .pinned], laidTests := true, laidLooks := .later }
def DigestCompleteCardSaid : Prop := Claim7.holds Tryz.pinned (.plain (OpenSpec.ofChange digestCompleteSpec)) digestCompleteCard

/-- THE TIED CARD OF 'bulletinlaw50.DigestNil'. -/
def digestNilCard : Claim7 := { stood := { row := digestNilRow, standIns := [], harness := (true, "3b61cfafcabbc10b5d3574602ff1d1b3b37caad6ffb53a48cb8e985e6306a744"), looks := true }, kinds := [], alts := [], laidByText := true, laidKinds := [.data, .data, .data, .data, .sentinel, .sentinel, .pinned], laidTests := true, laidLooks := .later }
def DigestNilCardSaid : Prop := Claim7.holds Tryz.pinned (.plain (OpenSpec.ofChange digestNilSpec)) digestNilCard

/-- THE TIED CARD OF 'bulletinlaw50.DigestBuilder'. -/
def digestBuilderCard : Claim7 := { stood := { row := digestBuilderRow, standIns := [], harness := (true, "3b61cfafcabbc10b5d3574602ff1d1b3b37caad6ffb53a48cb8e985e6306a744"), looks := true }, kinds := [], alts := [], laidByText := true, laidKinds := [.data, .data, .data, .data, .sentinel, .sentinel, .pinned], laidTests := true, laidLooks := .later }
def DigestBuilderCardSaid : Prop := Claim7.holds Tryz.pinned (.plain (OpenSpec.ofChange digestBuilderSpec)) digestBuilderCard

/-- THE TIED CARD OF 'bulletinlaw50.DigestProtect'. -/
def digestProtectCard : Claim7 := { stood := { row := digestProtectRow, standIns := [], harness := (true, "3b61cfafcabbc10b5d3574602ff1d1b3b37caad6ffb53a48cb8e985e6306a744"), looks := true }, kinds := [], alts := [], laidByText := true, laidKinds := [.data, .data, .data, .data, .sentinel, .sentinel, .pinned], laidTests := true, laidLooks := .later }
def DigestProtectCardSaid : Prop := Claim7.holds Tryz.pinned (.plain (OpenSpec.ofChange digestProtectSpec)) digestProtectCard

/-- THE TIED CARD OF 'bulletinlaw50.DigestJoin'. -/
def digestJoinCard : Claim7 := { stood := { row := digestJoinRow, standIns := [], harness := (true, "3b61cfafcabbc10b5d3574602ff1d1b3b37caad6ffb53a48cb8e985e6306a744"), looks := true }, kinds := [], alts := [], laidByText := true, laidKinds := [.data, .data, .data, .data, .sentinel, .sentinel, .pinned], laidTests := true, laidLooks := .later }
def DigestJoinCardSaid : Prop := Claim7.holds Tryz.pinned (.plain (OpenSpec.ofChange digestJoinSpec)) digestJoinCard

/-- THE TIED CARD OF 'bulletinlaw50.DigestDivide'. -/
def digestDivideCard : Claim7 := { stood := { row := digestDivideRow, standIns := [], harness := (true, "3b61cfafcabbc10b5d3574602ff1d1b3b37caad6ffb53a48cb8e985e6306a744"), looks := true }, kinds := [], alts := [], laidByText := true, laidKinds := [.data, .data, .data, .data, .sentinel, .sentinel, .pinned], laidTests := true, laidLooks := .later }
def DigestDivideCardSaid : Prop := Claim7.holds Tryz.pinned (.plain (OpenSpec.ofChange digestDivideSpec)) digestDivideCard

/-- THE SECOND FORM's CARD OF 'bulletinlaw50.DigestRoundTrip'. -/
def digestRoundTripUptoCard : Claim7 := { stood := { row := digestRoundTripUptoRow, standIns := [], harness := (true, "3b61cfafcabbc10b5d3574602ff1d1b3b37caad6ffb53a48cb8e985e6306a744"), looks := true }, kinds := [], alts := [], laidByText := true, laidKinds := [.data, .data, .data, .data, .sentinel, .sentinel, .pinned], laidTests := true, laidLooks := .later }
def DigestRoundTripUptoCardSaid : Prop := Claim7.holds Tryz.pinned (.plain (OpenSpec.upto digestRoundTripSpec)) digestRoundTripUptoCard

/-- THE SECOND FORM's CARD OF 'bulletinlaw50.DigestCanonical'. -/
def digestCanonicalUptoCard : Claim7 := { stood := { row := digestCanonicalUptoRow, standIns := [], harness := (true, "3b61cfafcabbc10b5d3574602ff1d1b3b37caad6ffb53a48cb8e985e6306a744"), looks := true }, kinds := [], alts := [], laidByText := true, laidKinds := [.data, .data, .data, .data, .sentinel, .sentinel, .pinned], laidTests := true, laidLooks := .later }
def DigestCanonicalUptoCardSaid : Prop := Claim7.holds Tryz.pinned (.plain (OpenSpec.upto digestCanonicalSpec)) digestCanonicalUptoCard

/-- THE SECOND FORM's CARD OF 'bulletinlaw50.DigestBundle'. -/
def digestBundleUptoCard : Claim7 := { stood := { row := digestBundleUptoRow, standIns := [], harness := (true, "3b61cfafcabbc10b5d3574602ff1d1b3b37caad6ffb53a48cb8e985e6306a744"), looks := true }, kinds := [], alts := [], laidByText := true, laidKinds := [.data, .data, .data, .data, .sentinel, .sentinel, .pinned], laidTests := true, laidLooks := .later }
def DigestBundleUptoCardSaid : Prop := Claim7.holds Tryz.pinned (.plain (OpenSpec.upto digestBundleSpec)) digestBundleUptoCard

/-- THE SECOND FORM's CARD OF 'bulletinlaw50.DigestComplete'. -/
def digestCompleteUptoCard : Claim7 := { stood := { row := digestCompleteUptoRow, standIns := [], harness := (true, "3b61cfafcabbc10b5d3574602ff1d1b3b37caad6ffb53a48cb8e985e6306a744"), looks := true }, kinds := [], alts := [], laidByText := true, laidKinds := [.data, .data, .data, .data, .sentinel, .sentinel, .pinned], laidTests := true, laidLooks := .later }
def DigestCompleteUptoCardSaid : Prop := Claim7.holds Tryz.pinned (.plain (OpenSpec.upto digestCompleteSpec)) digestCompleteUptoCard

/-- THE SECOND FORM's CARD OF 'bulletinlaw50.DigestNil'. -/
def digestNilUptoCard : Claim7 := { stood := { row := digestNilUptoRow, standIns := [], harness := (true, "3b61cfafcabbc10b5d3574602ff1d1b3b37caad6ffb53a48cb8e985e6306a744"), looks := true }, kinds := [], alts := [], laidByText := true, laidKinds := [.data, .data, .data, .data, .sentinel, .sentinel, .pinned], laidTests := true, laidLooks := .later }
def DigestNilUptoCardSaid : Prop := Claim7.holds Tryz.pinned (.plain (OpenSpec.upto digestNilSpec)) digestNilUptoCard

/-- THE SECOND FORM's CARD OF 'bulletinlaw50.DigestBuilder'. -/
def digestBuilderUptoCard : Claim7 := { stood := { row := digestBuilderUptoRow, standIns := [], harness := (true, "3b61cfafcabbc10b5d3574602ff1d1b3b37caad6ffb53a48cb8e985e6306a744"), looks := true }, kinds := [], alts := [], laidByText := true, laidKinds := [.data, .data, .data, .data, .sentinel, .sentinel, .pinned], laidTests := true, laidLooks := .later }
def DigestBuilderUptoCardSaid : Prop := Claim7.holds Tryz.pinned (.plain (OpenSpec.upto digestBuilderSpec)) digestBuilderUptoCard

/-- THE SECOND FORM's CARD OF 'bulletinlaw50.DigestProtect'. -/
def digestProtectUptoCard : Claim7 := { stood := { row := digestProtectUptoRow, standIns := [], harness := (true, "3b61cfafcabbc10b5d3574602ff1d1b3b37caad6ffb53a48cb8e985e6306a744"), looks := true }, kinds := [], alts := [], laidByText := true, laidKinds := [.data, .data, .data, .data, .sentinel, .sentinel, .pinned], laidTests := true, laidLooks := .later }
def DigestProtectUptoCardSaid : Prop := Claim7.holds Tryz.pinned (.plain (OpenSpec.upto digestProtectSpec)) digestProtectUptoCard

/-- THE SECOND FORM's CARD OF 'bulletinlaw50.DigestJoin'. -/
def digestJoinUptoCard : Claim7 := { stood := { row := digestJoinUptoRow, standIns := [], harness := (true, "3b61cfafcabbc10b5d3574602ff1d1b3b37caad6ffb53a48cb8e985e6306a744"), looks := true }, kinds := [], alts := [], laidByText := true, laidKinds := [.data, .data, .data, .data, .sentinel, .sentinel, .pinned], laidTests := true, laidLooks := .later }
def DigestJoinUptoCardSaid : Prop := Claim7.holds Tryz.pinned (.plain (OpenSpec.upto digestJoinSpec)) digestJoinUptoCard

/-- THE SECOND FORM's CARD OF 'bulletinlaw50.DigestDivide'. -/
def digestDivideUptoCard : Claim7 := { stood := { row := digestDivideUptoRow, standIns := [], harness := (true, "3b61cfafcabbc10b5d3574602ff1d1b3b37caad6ffb53a48cb8e985e6306a744"), looks := true }, kinds := [], alts := [], laidByText := true, laidKinds := [.data, .data, .data, .data, .sentinel, .sentinel, .pinned], laidTests := true, laidLooks := .later }
def DigestDivideUptoCardSaid : Prop := Claim7.holds Tryz.pinned (.plain (OpenSpec.upto digestDivideSpec)) digestDivideUptoCard
end Rows
end Go.Proofs.YtlchcjnbbhpiaaaGreatDoor
