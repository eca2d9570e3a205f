/-
  DERIVED. GIVEN WITH THE SEED: THE CARDS: each row of YtcdfmdngnidpaaaGreatDoorRows.lean that lists a variable, with what it lists TIED to the program's text (the seventh form; the later family's looks); each row that meets fmt, with fmt's text TOLD by the authors' own Lean function (tested against real Go, not proved from fmt's source: count such statements apart). THE CARD IS WHAT COUNTS. Prove the row's statement (the work); the ties are given (YtcdfmdngnidpaaaGreatDoorTie.lean); close each card by the builder's one call (the guide's Derived/Test/ToyasCard.lean, 'card_holds'). Laid BY PROGRAM, IN A SANDBOX (cutbox-door.mjs). By AI agents, Wed Nov 11 2026. No macro, syntax, notation, axiom, sorry.
-/
import Derived.Test.YtcdfmdngnidpaaaGreatDoorRows
import GoSem.ClaimSeven
namespace Go.Proofs.YtcdfmdngnidpaaaGreatDoor
namespace Rows

/-- THE TIED CARD OF 'wagebooktop.TopTold'. -/
def topToldCard : Claim7 := { stood := { row := topToldRow, standIns := [], harness := (true, "355f73eb4b6fff7bc875a37727d41850a16e7a920961da83ff9e0c233339cebc"), looks := true }, kinds := [], alts := [], laidByText := true, laidKinds := [.data, .data, .data, .data, .sentinel, .sentinel, .pinned], laidTests := true, laidLooks := .later }
def TopToldCardSaid : Prop := Claim7.holds Tryz.pinned (.plain (OpenSpec.ofChange topToldSpec)) topToldCard

/-- THE TIED CARD OF 'wagebooktop.TopKnown'. -/
def topKnownCard : Claim7 := { stood := { row := topKnownRow, standIns := [], harness := (true, "355f73eb4b6fff7bc875a37727d41850a16e7a920961da83ff9e0c233339cebc"), looks := true }, kinds := [], alts := [], laidByText := true, laidKinds := [.data, .data, .data, .data, .sentinel, .sentinel, .pinned], laidTests := true, laidLooks := .later }
def TopKnownCardSaid : Prop := Claim7.holds Tryz.pinned (.plain (OpenSpec.ofChange topKnownSpec)) topKnownCard

/-- THE TIED CARD OF 'wagebooktop.TopTwice'. -/
def topTwiceCard : Claim7 := { stood := { row := topTwiceRow, standIns := [], harness := (true, "355f73eb4b6fff7bc875a37727d41850a16e7a920961da83ff9e0c233339cebc"), looks := true }, kinds := [], alts := [], laidByText := true, laidKinds := [.data, .data, .data, .data, .sentinel, .sentinel, .pinned], laidTests := true, laidLooks := .later }
def TopTwiceCardSaid : Prop := Claim7.holds Tryz.pinned (.plain (OpenSpec.ofChange topTwiceSpec)) topTwiceCard

/-- THE SECOND FORM's CARD OF 'wagebooktop.TopTold'. -/
def topToldUptoCard : Claim7 := { stood := { row := topToldUptoRow, standIns := [], harness := (true, "355f73eb4b6fff7bc875a37727d41850a16e7a920961da83ff9e0c233339cebc"), looks := true }, kinds := [], alts := [], laidByText := true, laidKinds := [.data, .data, .data, .data, .sentinel, .sentinel, .pinned], laidTests := true, laidLooks := .later }
def TopToldUptoCardSaid : Prop := Claim7.holds Tryz.pinned (.plain (OpenSpec.upto topToldSpec)) topToldUptoCard

/-- THE SECOND FORM's CARD OF 'wagebooktop.TopKnown'. -/
def topKnownUptoCard : Claim7 := { stood := { row := topKnownUptoRow, standIns := [], harness := (true, "355f73eb4b6fff7bc875a37727d41850a16e7a920961da83ff9e0c233339cebc"), looks := true }, kinds := [], alts := [], laidByText := true, laidKinds := [.data, .data, .data, .data, .sentinel, .sentinel, .pinned], laidTests := true, laidLooks := .later }
def TopKnownUptoCardSaid : Prop := Claim7.holds Tryz.pinned (.plain (OpenSpec.upto topKnownSpec)) topKnownUptoCard

/-- THE SECOND FORM's CARD OF 'wagebooktop.TopTwice'. -/
def topTwiceUptoCard : Claim7 := { stood := { row := topTwiceUptoRow, standIns := [], harness := (true, "355f73eb4b6fff7bc875a37727d41850a16e7a920961da83ff9e0c233339cebc"), looks := true }, kinds := [], alts := [], laidByText := true, laidKinds := [.data, .data, .data, .data, .sentinel, .sentinel, .pinned], laidTests := true, laidLooks := .later }
def TopTwiceUptoCardSaid : Prop := Claim7.holds Tryz.pinned (.plain (OpenSpec.upto topTwiceSpec)) topTwiceUptoCard
end Rows
end Go.Proofs.YtcdfmdngnidpaaaGreatDoor
