/-
  DERIVED. GIVEN WITH THE SEED: THE CARDS: each row of YthgefcoaaommkaaDoorRows.lean that lists a variable, with what it lists TIED to the program's text (the seventh form; the later family's looks); each row that meets fmt, with fmt's text TOLD by the authors' own Lean function (tested against real Go, not proved from fmt's source: count such statements apart). THE CARD IS WHAT COUNTS. Prove the row's statement (the work); the ties are given (YthgefcoaaommkaaDoorTie.lean); close each card by the builder's one call (the guide's Derived/Test/ToyasCard.lean, 'card_holds'). Laid BY PROGRAM, IN A SANDBOX (cutbox-door.mjs). By AI agents, Wed Nov 11 2026. No macro, syntax, notation, axiom, sorry.
-/
import Derived.Test.YthgefcoaaommkaaDoorRows
import GoSem.ClaimSeven
namespace Go.Proofs.YthgefcoaaommkaaDoor
namespace Rows

/-- THE TIED CARD OF 'bulletinlaw52.StatsOf'. -/
def statsOfCard : Claim7 := { stood := { row := statsOfRow, standIns := [], harness := (true, "7cbb0f5ad28d24bb79acc94419b4d558d1b690817cb961d230e12522e89a30d8"), looks := false }, kinds := [], alts := [], laidByText := true, laidKinds := [.data, .pinned], laidTests := true, laidLooks := .later }
def StatsOfCardSaid : Prop := Claim7.holds Tryd.pinned (.plain (OpenSpec.ofChange statsOfSpec)) statsOfCard

/-- THE TIED CARD OF 'bulletinlaw52.StatsAdd'. -/
def statsAddCard : Claim7 := { stood := { row := statsAddRow, standIns := [], harness := (true, "7cbb0f5ad28d24bb79acc94419b4d558d1b690817cb961d230e12522e89a30d8"), looks := false }, kinds := [], alts := [], laidByText := true, laidKinds := [.data, .pinned], laidTests := true, laidLooks := .later }
def StatsAddCardSaid : Prop := Claim7.holds Tryd.pinned (.plain (OpenSpec.ofChange statsAddSpec)) statsAddCard

/-- THE SECOND FORM's CARD OF 'bulletinlaw52.StatsOf'. -/
def statsOfUptoCard : Claim7 := { stood := { row := statsOfUptoRow, standIns := [], harness := (true, "7cbb0f5ad28d24bb79acc94419b4d558d1b690817cb961d230e12522e89a30d8"), looks := false }, kinds := [], alts := [], laidByText := true, laidKinds := [.data, .pinned], laidTests := true, laidLooks := .later }
def StatsOfUptoCardSaid : Prop := Claim7.holds Tryd.pinned (.plain (OpenSpec.upto statsOfSpec)) statsOfUptoCard

/-- THE SECOND FORM's CARD OF 'bulletinlaw52.StatsAdd'. -/
def statsAddUptoCard : Claim7 := { stood := { row := statsAddUptoRow, standIns := [], harness := (true, "7cbb0f5ad28d24bb79acc94419b4d558d1b690817cb961d230e12522e89a30d8"), looks := false }, kinds := [], alts := [], laidByText := true, laidKinds := [.data, .pinned], laidTests := true, laidLooks := .later }
def StatsAddUptoCardSaid : Prop := Claim7.holds Tryd.pinned (.plain (OpenSpec.upto statsAddSpec)) statsAddUptoCard
end Rows
end Go.Proofs.YthgefcoaaommkaaDoor
