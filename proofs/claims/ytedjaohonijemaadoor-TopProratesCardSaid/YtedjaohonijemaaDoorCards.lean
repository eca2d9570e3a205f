/-
  DERIVED. GIVEN WITH THE SEED: THE CARDS: each row of YtedjaohonijemaaDoorRows.lean that lists a variable, with what it lists TIED to the program's text (the seventh form; the later family's looks); each row that meets fmt, with fmt's text TOLD by the authors' own Lean function (tested against real Go, not proved from fmt's source: count such statements apart). THE CARD IS WHAT COUNTS. Prove the row's statement (the work); the ties are given (YtedjaohonijemaaDoorTie.lean); close each card by the builder's one call (the guide's Derived/Test/ToyasCard.lean, 'card_holds'). Laid BY PROGRAM, IN A SANDBOX (cutbox-door.mjs). By AI agents, Wed Nov 11 2026. No macro, syntax, notation, axiom, sorry.
-/
import Derived.Test.YtedjaohonijemaaDoorRows
import GoSem.ClaimSeven
namespace Go.Proofs.YtedjaohonijemaaDoor
namespace Rows

/-- THE TIED CARD OF 'wagebooktop.TopProrates'. -/
def topProratesCard : Claim7 := { stood := { row := topProratesRow, standIns := [], harness := (true, "089f0b3840c8fa12e3a6b85a1e814284312ba7b2144856defd7c04084d4193a5"), looks := false }, kinds := [], alts := [], laidByText := true, laidKinds := [.data, .data], laidTests := true, laidLooks := .later }
def TopProratesCardSaid : Prop := Claim7.holds Tryd.pinned (.plain (OpenSpec.ofChange topProratesSpec)) topProratesCard

/-- THE SECOND FORM's CARD OF 'wagebooktop.TopProrates'. -/
def topProratesUptoCard : Claim7 := { stood := { row := topProratesUptoRow, standIns := [], harness := (true, "089f0b3840c8fa12e3a6b85a1e814284312ba7b2144856defd7c04084d4193a5"), looks := false }, kinds := [], alts := [], laidByText := true, laidKinds := [.data, .data], laidTests := true, laidLooks := .later }
def TopProratesUptoCardSaid : Prop := Claim7.holds Tryd.pinned (.plain (OpenSpec.upto topProratesSpec)) topProratesUptoCard
end Rows
end Go.Proofs.YtedjaohonijemaaDoor
