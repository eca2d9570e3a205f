/-
  DERIVED. GIVEN WITH THE SEED: THE CARDS: each row of YtdemgegpnlngeaaDoorRows.lean that lists a variable, with what it lists TIED to the program's text (the seventh form; the later family's looks); each row that meets fmt, with fmt's text TOLD by the authors' own Lean function (tested against real Go, not proved from fmt's source: count such statements apart). THE CARD IS WHAT COUNTS. Prove the row's statement (the work); the ties are given (YtdemgegpnlngeaaDoorTie.lean); close each card by the builder's one call (the guide's Derived/Test/ToyasCard.lean, 'card_holds'). Laid BY PROGRAM, IN A SANDBOX (cutbox-door.mjs). By AI agents, Wed Nov 11 2026. No macro, syntax, notation, axiom, sorry.
-/
import Derived.Test.YtdemgegpnlngeaaDoorRows
import GoSem.ClaimSeven
namespace Go.Proofs.YtdemgegpnlngeaaDoor
namespace Rows

/-- THE TIED CARD OF 'wagebooklaw33.LedgerWrong'. -/
def ledgerWrongCard : Claim7 := { stood := { row := ledgerWrongRow, standIns := [], harness := (true, "c7f13619c03f4c0f44e699339d40b55b657cd43c38521a43e5c7baf390192a91"), looks := true }, kinds := [], alts := [], laidByText := true, laidKinds := [.data, .pinned], laidTests := true, laidLooks := .later }
def LedgerWrongCardSaid : Prop := Claim7.holds Tryd.pinned (.plain (OpenSpec.ofChange ledgerWrongSpec)) ledgerWrongCard

/-- THE TIED CARD OF 'wagebooklaw33.LedgerMany'. -/
def ledgerManyCard : Claim7 := { stood := { row := ledgerManyRow, standIns := [], harness := (true, "c7f13619c03f4c0f44e699339d40b55b657cd43c38521a43e5c7baf390192a91"), looks := true }, kinds := [], alts := [], laidByText := true, laidKinds := [.data, .pinned], laidTests := true, laidLooks := .later }
def LedgerManyCardSaid : Prop := Claim7.holds Tryd.pinned (.plain (OpenSpec.ofChange ledgerManySpec)) ledgerManyCard

/-- THE TIED CARD OF 'wagebooklaw36.RemitParts'. -/
def remitPartsCard : Claim7 := { stood := { row := remitPartsRow, standIns := [], harness := (true, "c7f13619c03f4c0f44e699339d40b55b657cd43c38521a43e5c7baf390192a91"), looks := true }, kinds := [], alts := [], laidByText := true, laidKinds := [.data, .pinned], laidTests := true, laidLooks := .later }
def RemitPartsCardSaid : Prop := Claim7.holds Tryd.pinned (.plain (OpenSpec.ofChange remitPartsSpec)) remitPartsCard

/-- THE TIED CARD OF 'wagebooklaw36.RemitPays'. -/
def remitPaysCard : Claim7 := { stood := { row := remitPaysRow, standIns := [], harness := (true, "c7f13619c03f4c0f44e699339d40b55b657cd43c38521a43e5c7baf390192a91"), looks := true }, kinds := [], alts := [], laidByText := true, laidKinds := [.data, .pinned], laidTests := true, laidLooks := .later }
def RemitPaysCardSaid : Prop := Claim7.holds Tryd.pinned (.plain (OpenSpec.ofChange remitPaysSpec)) remitPaysCard

/-- THE TIED CARD OF 'wagebooklaw36.RemitOwes'. -/
def remitOwesCard : Claim7 := { stood := { row := remitOwesRow, standIns := [], harness := (true, "c7f13619c03f4c0f44e699339d40b55b657cd43c38521a43e5c7baf390192a91"), looks := true }, kinds := [], alts := [], laidByText := true, laidKinds := [.data, .pinned], laidTests := true, laidLooks := .later }
def RemitOwesCardSaid : Prop := Claim7.holds Tryd.pinned (.plain (OpenSpec.ofChange remitOwesSpec)) remitOwesCard

/-- THE TIED CARD OF 'wagebooklaw36.RemitAll'. -/
def remitAllCard : Claim7 := { stood := { row := remitAllRow, standIns := [], harness := (true, "c7f13619c03f4c0f44e699339d40b55b657cd43c38521a43e5c7baf390192a91"), looks := true }, kinds := [], alts := [], laidByText := true, laidKinds := [.data, .pinned], laidTests := true, laidLooks := .later }
def RemitAllCardSaid : Prop := Claim7.holds Tryd.pinned (.plain (OpenSpec.ofChange remitAllSpec)) remitAllCard

/-- THE TIED CARD OF 'wagebooklaw36.RemitLeaves'. -/
def remitLeavesCard : Claim7 := { stood := { row := remitLeavesRow, standIns := [], harness := (true, "c7f13619c03f4c0f44e699339d40b55b657cd43c38521a43e5c7baf390192a91"), looks := true }, kinds := [], alts := [], laidByText := true, laidKinds := [.data, .pinned], laidTests := true, laidLooks := .later }
def RemitLeavesCardSaid : Prop := Claim7.holds Tryd.pinned (.plain (OpenSpec.ofChange remitLeavesSpec)) remitLeavesCard

/-- THE TIED CARD OF 'wagebooklaw33.LedgerMoves'. -/
def ledgerMovesCard : Claim7 := { stood := { row := ledgerMovesRow, standIns := [], harness := (true, "c7f13619c03f4c0f44e699339d40b55b657cd43c38521a43e5c7baf390192a91"), looks := true }, kinds := [], alts := [], laidByText := true, laidKinds := [.data, .pinned], laidTests := true, laidLooks := .later }
def LedgerMovesCardSaid : Prop := Claim7.holds Tryd.pinned (.plain (OpenSpec.ofChange ledgerMovesSpec)) ledgerMovesCard

/-- THE TIED CARD OF 'wagebooklaw33.LedgerTurns'. -/
def ledgerTurnsCard : Claim7 := { stood := { row := ledgerTurnsRow, standIns := [], harness := (true, "c7f13619c03f4c0f44e699339d40b55b657cd43c38521a43e5c7baf390192a91"), looks := true }, kinds := [], alts := [], laidByText := true, laidKinds := [.data, .pinned], laidTests := true, laidLooks := .later }
def LedgerTurnsCardSaid : Prop := Claim7.holds Tryd.pinned (.plain (OpenSpec.ofChange ledgerTurnsSpec)) ledgerTurnsCard

/-- THE TIED CARD OF 'wagebooklaw33.LedgerPlays'. -/
def ledgerPlaysCard : Claim7 := { stood := { row := ledgerPlaysRow, standIns := [], harness := (true, "c7f13619c03f4c0f44e699339d40b55b657cd43c38521a43e5c7baf390192a91"), looks := true }, kinds := [], alts := [], laidByText := true, laidKinds := [.data, .pinned], laidTests := true, laidLooks := .later }
def LedgerPlaysCardSaid : Prop := Claim7.holds Tryd.pinned (.plain (OpenSpec.ofChange ledgerPlaysSpec)) ledgerPlaysCard

/-- THE SECOND FORM's CARD OF 'wagebooklaw33.LedgerWrong'. -/
def ledgerWrongUptoCard : Claim7 := { stood := { row := ledgerWrongUptoRow, standIns := [], harness := (true, "c7f13619c03f4c0f44e699339d40b55b657cd43c38521a43e5c7baf390192a91"), looks := true }, kinds := [], alts := [], laidByText := true, laidKinds := [.data, .pinned], laidTests := true, laidLooks := .later }
def LedgerWrongUptoCardSaid : Prop := Claim7.holds Tryd.pinned (.plain (OpenSpec.upto ledgerWrongSpec)) ledgerWrongUptoCard

/-- THE SECOND FORM's CARD OF 'wagebooklaw33.LedgerMany'. -/
def ledgerManyUptoCard : Claim7 := { stood := { row := ledgerManyUptoRow, standIns := [], harness := (true, "c7f13619c03f4c0f44e699339d40b55b657cd43c38521a43e5c7baf390192a91"), looks := true }, kinds := [], alts := [], laidByText := true, laidKinds := [.data, .pinned], laidTests := true, laidLooks := .later }
def LedgerManyUptoCardSaid : Prop := Claim7.holds Tryd.pinned (.plain (OpenSpec.upto ledgerManySpec)) ledgerManyUptoCard

/-- THE SECOND FORM's CARD OF 'wagebooklaw36.RemitParts'. -/
def remitPartsUptoCard : Claim7 := { stood := { row := remitPartsUptoRow, standIns := [], harness := (true, "c7f13619c03f4c0f44e699339d40b55b657cd43c38521a43e5c7baf390192a91"), looks := true }, kinds := [], alts := [], laidByText := true, laidKinds := [.data, .pinned], laidTests := true, laidLooks := .later }
def RemitPartsUptoCardSaid : Prop := Claim7.holds Tryd.pinned (.plain (OpenSpec.upto remitPartsSpec)) remitPartsUptoCard

/-- THE SECOND FORM's CARD OF 'wagebooklaw36.RemitPays'. -/
def remitPaysUptoCard : Claim7 := { stood := { row := remitPaysUptoRow, standIns := [], harness := (true, "c7f13619c03f4c0f44e699339d40b55b657cd43c38521a43e5c7baf390192a91"), looks := true }, kinds := [], alts := [], laidByText := true, laidKinds := [.data, .pinned], laidTests := true, laidLooks := .later }
def RemitPaysUptoCardSaid : Prop := Claim7.holds Tryd.pinned (.plain (OpenSpec.upto remitPaysSpec)) remitPaysUptoCard

/-- THE SECOND FORM's CARD OF 'wagebooklaw36.RemitOwes'. -/
def remitOwesUptoCard : Claim7 := { stood := { row := remitOwesUptoRow, standIns := [], harness := (true, "c7f13619c03f4c0f44e699339d40b55b657cd43c38521a43e5c7baf390192a91"), looks := true }, kinds := [], alts := [], laidByText := true, laidKinds := [.data, .pinned], laidTests := true, laidLooks := .later }
def RemitOwesUptoCardSaid : Prop := Claim7.holds Tryd.pinned (.plain (OpenSpec.upto remitOwesSpec)) remitOwesUptoCard

/-- THE SECOND FORM's CARD OF 'wagebooklaw36.RemitAll'. -/
def remitAllUptoCard : Claim7 := { stood := { row := remitAllUptoRow, standIns := [], harness := (true, "c7f13619c03f4c0f44e699339d40b55b657cd43c38521a43e5c7baf390192a91"), looks := true }, kinds := [], alts := [], laidByText := true, laidKinds := [.data, .pinned], laidTests := true, laidLooks := .later }
def RemitAllUptoCardSaid : Prop := Claim7.holds Tryd.pinned (.plain (OpenSpec.upto remitAllSpec)) remitAllUptoCard

/-- THE SECOND FORM's CARD OF 'wagebooklaw36.RemitLeaves'. -/
def remitLeavesUptoCard : Claim7 := { stood := { row := remitLeavesUptoRow, standIns := [], harness := (true, "c7f13619c03f4c0f44e699339d40b55b657cd43c38521a43e5c7baf390192a91"), looks := true }, kinds := [], alts := [], laidByText := true, laidKinds := [.data, .pinned], laidTests := true, laidLooks := .later }
def RemitLeavesUptoCardSaid : Prop := Claim7.holds Tryd.pinned (.plain (OpenSpec.upto remitLeavesSpec)) remitLeavesUptoCard

/-- THE SECOND FORM's CARD OF 'wagebooklaw33.LedgerMoves'. -/
def ledgerMovesUptoCard : Claim7 := { stood := { row := ledgerMovesUptoRow, standIns := [], harness := (true, "c7f13619c03f4c0f44e699339d40b55b657cd43c38521a43e5c7baf390192a91"), looks := true }, kinds := [], alts := [], laidByText := true, laidKinds := [.data, .pinned], laidTests := true, laidLooks := .later }
def LedgerMovesUptoCardSaid : Prop := Claim7.holds Tryd.pinned (.plain (OpenSpec.upto ledgerMovesSpec)) ledgerMovesUptoCard

/-- THE SECOND FORM's CARD OF 'wagebooklaw33.LedgerTurns'. -/
def ledgerTurnsUptoCard : Claim7 := { stood := { row := ledgerTurnsUptoRow, standIns := [], harness := (true, "c7f13619c03f4c0f44e699339d40b55b657cd43c38521a43e5c7baf390192a91"), looks := true }, kinds := [], alts := [], laidByText := true, laidKinds := [.data, .pinned], laidTests := true, laidLooks := .later }
def LedgerTurnsUptoCardSaid : Prop := Claim7.holds Tryd.pinned (.plain (OpenSpec.upto ledgerTurnsSpec)) ledgerTurnsUptoCard

/-- THE SECOND FORM's CARD OF 'wagebooklaw33.LedgerPlays'. -/
def ledgerPlaysUptoCard : Claim7 := { stood := { row := ledgerPlaysUptoRow, standIns := [], harness := (true, "c7f13619c03f4c0f44e699339d40b55b657cd43c38521a43e5c7baf390192a91"), looks := true }, kinds := [], alts := [], laidByText := true, laidKinds := [.data, .pinned], laidTests := true, laidLooks := .later }
def LedgerPlaysUptoCardSaid : Prop := Claim7.holds Tryd.pinned (.plain (OpenSpec.upto ledgerPlaysSpec)) ledgerPlaysUptoCard
end Rows
end Go.Proofs.YtdemgegpnlngeaaDoor
