/-
  DERIVED. GIVEN WITH THE SEED: THE CARDS: each row of YthjkmhfiffojeaaGreatDoorRows.lean that lists a variable, with what it lists TIED to the program's text (the seventh form; the later family's looks); each row that meets fmt, with fmt's text TOLD by the authors' own Lean function (tested against real Go, not proved from fmt's source: count such statements apart). THE CARD IS WHAT COUNTS. Prove the row's statement (the work); the ties are given (YthjkmhfiffojeaaGreatDoorTie.lean); close each card by the builder's one call (the guide's Derived/Test/ToyasCard.lean, 'card_holds'). Laid BY PROGRAM, IN A SANDBOX (cutbox-door.mjs). By AI agents, Wed Nov 11 2026. No macro, syntax, notation, axiom, sorry.
-/
import Derived.Test.YthjkmhfiffojeaaGreatDoorRows
import GoSem.ClaimSeven
namespace Go.Proofs.YthjkmhfiffojeaaGreatDoor
namespace Rows

/-- THE TIED CARD OF 'wagebooktop.TopFormulas'. -/
def topFormulasCard : Claim7 := { stood := { row := topFormulasRow, standIns := [], harness := (true, "4f07d3ab225636d74e5e4d6f98be29fd80a5ac2074c296496e176f3916359546"), looks := false }, kinds := [], alts := [], laidByText := true, laidKinds := [.data, .data, .data, .data, .widerDeep], laidTests := true, laidLooks := .later }
def TopFormulasCardSaid : Prop := Claim7.holds Tryz.pinned (.plain (OpenSpec.ofChange topFormulasSpec)) topFormulasCard

/-- THE SECOND FORM's CARD OF 'wagebooktop.TopFormulas'. -/
def topFormulasUptoCard : Claim7 := { stood := { row := topFormulasUptoRow, standIns := [], harness := (true, "4f07d3ab225636d74e5e4d6f98be29fd80a5ac2074c296496e176f3916359546"), looks := false }, kinds := [], alts := [], laidByText := true, laidKinds := [.data, .data, .data, .data, .widerDeep], laidTests := true, laidLooks := .later }
def TopFormulasUptoCardSaid : Prop := Claim7.holds Tryz.pinned (.plain (OpenSpec.upto topFormulasSpec)) topFormulasUptoCard
end Rows
end Go.Proofs.YthjkmhfiffojeaaGreatDoor
