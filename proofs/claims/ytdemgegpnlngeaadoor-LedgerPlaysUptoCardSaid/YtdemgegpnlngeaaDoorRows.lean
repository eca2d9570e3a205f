/-
  NARROWER THAN 'FOR EVERY INPUT', by the rows' own cells (each row's printed sentence says how): LedgerWrong: laid · LedgerMany: laid · RemitParts: laid · RemitPays: laid · RemitOwes: laid · RemitAll: laid · RemitLeaves: laid · LedgerMoves: laid · LedgerTurns: laid · LedgerPlays: laid.
  DERIVED. THE GIVEN ROWS OF THIS SEAT. 10 by the template 'for every input the law returns true; each argument reads behind the call as it read before'; 0 by the template 'total and deterministic' (their statements: YtdemgegpnlngeaaDoorTotals.lean).
  GIVEN WITH THE SEED: the statements are not yours to turn. If you find one false, say at which input.
  Laid BY PROGRAM, IN A SANDBOX (cutbox-rows.mjs): the forced cells as the released guide's own fill.sh prints them over the translation 4da0d269f8ae08dd… (all of the seat's roots in one cut). By AI agents, Wed Nov 11 2026. No macro, syntax, notation, axiom, sorry.
-/
import Derived.Test.YtdemgegpnlngeaaDoorChecked
import GoSem.PinnedTables
import GoSem.Claim
import GoSem.ClaimJoined
import GoSem.ClaimMapViews
import Derived.JoinedTies
import Derived.KernelRfl
namespace Go.Proofs.YtdemgegpnlngeaaDoor
/- THE CELL 'sum', in the pinned program and in every row, IS THE sha256 OF THE DUMP (.gsa) THAT YtdemgegpnlngeaaDoorProg.lean LOADS. Nothing in Lean hashes anything: it is a label: what it is worth is what the hold of that sum in a sandbox is worth. -/
noncomputable def Tryd.pinned : Pinned := { name := "ytdemgegpnlngeaadoor", sum := "4da0d269f8ae08ddedb6a02aa272a484561a979166ea8ca7b1dd80b75d4a5ff3", checked := Tryd.checked }
namespace Rows
def none {H : Type} : Left H := { results := [], args := [] }

/- WHAT THE LISTED PACKAGE-LEVEL VARIABLES READ AS WHEN THE CALL BEGINS. Each datum BY PROGRAM (the guide's laid-datum.mjs) off the statement by which the dump's own 'gosem.cut.vars' lays the variable. In a bare row this is a premise. The card (YtdemgegpnlngeaaDoorCards.lean) ties it to the program's text. -/
def laid_unicode_utf8_acceptRanges {H : Type} : DataW H := .agg [.agg [.lit (.int .u8 128), .lit (.int .u8 191)], .agg [.lit (.int .u8 160), .lit (.int .u8 191)], .agg [.lit (.int .u8 128), .lit (.int .u8 159)], .agg [.lit (.int .u8 144), .lit (.int .u8 191)], .agg [.lit (.int .u8 128), .lit (.int .u8 143)], .agg [.lit (.int .u8 0), .lit (.int .u8 0)], .agg [.lit (.int .u8 0), .lit (.int .u8 0)], .agg [.lit (.int .u8 0), .lit (.int .u8 0)], .agg [.lit (.int .u8 0), .lit (.int .u8 0)], .agg [.lit (.int .u8 0), .lit (.int .u8 0)], .agg [.lit (.int .u8 0), .lit (.int .u8 0)], .agg [.lit (.int .u8 0), .lit (.int .u8 0)], .agg [.lit (.int .u8 0), .lit (.int .u8 0)], .agg [.lit (.int .u8 0), .lit (.int .u8 0)], .agg [.lit (.int .u8 0), .lit (.int .u8 0)], .agg [.lit (.int .u8 0), .lit (.int .u8 0)]]
/-- One of Go's own tables, pinned by name: the form's constant. -/
def laid_unicode_utf8_first : DataW Unit := Go.Pinned.utf8First

/-- 'wagebooklaw33.LedgerWrong': WHATEVER THE INPUT: true; the input reads as it did. -/
def ledgerWrongSpec : ChangeSpec := { name := "ledgerWrong", fn := fun _ => fun
  | [d] => { results := [.lit (.bool true)], args := [d] }
  | _ => none }
def ledgerWrongRow : OpenClaim := { program := "ytdemgegpnlngeaadoor", sum := "4da0d269f8ae08ddedb6a02aa272a484561a979166ea8ca7b1dd80b75d4a5ff3", func := "wagebook/wagebooklaw33.LedgerWrong", spec := "ledgerWrong", inPlace := ["internal/bytealg.CountString", "internal/bytealg.IndexByteString", "internal/bytealg.IndexString", "maps.clone"], named := ["unicode/utf8.first", "unicode/utf8.acceptRanges", "internal/bytealg.MaxLen"], apart := false, laid := [("unicode/utf8.acceptRanges", laid_unicode_utf8_acceptRanges), ("unicode/utf8.first", laid_unicode_utf8_first)] }
def LedgerWrongSaid : Prop := ledgerWrongRow.holds Tryd.pinned (OpenSpec.ofChange ledgerWrongSpec)

/-- ITS FALSE NEIGHBOUR: 'it returns false'. Refute it at one input. -/
def ledgerWrongWrong : ChangeSpec := { name := "ledgerWrong", fn := fun _ => fun
  | [d] => { results := [.lit (.bool false)], args := [d] }
  | _ => none }
def LedgerWrongWrongFalsely : Prop := ledgerWrongRow.holds Tryd.pinned (OpenSpec.ofChange ledgerWrongWrong)

/-- 'wagebooklaw33.LedgerMany': WHATEVER THE INPUT: true; the input reads as it did. -/
def ledgerManySpec : ChangeSpec := { name := "ledgerMany", fn := fun _ => fun
  | [d1, d2] => { results := [.lit (.bool true)], args := [d1, d2] }
  | _ => none }
def ledgerManyRow : OpenClaim := { program := "ytdemgegpnlngeaadoor", sum := "4da0d269f8ae08ddedb6a02aa272a484561a979166ea8ca7b1dd80b75d4a5ff3", func := "wagebook/wagebooklaw33.LedgerMany", spec := "ledgerMany", inPlace := ["internal/bytealg.CountString", "internal/bytealg.IndexByteString", "internal/bytealg.IndexString", "maps.clone"], named := ["unicode/utf8.first", "unicode/utf8.acceptRanges", "internal/bytealg.MaxLen"], apart := false, laid := [("unicode/utf8.acceptRanges", laid_unicode_utf8_acceptRanges), ("unicode/utf8.first", laid_unicode_utf8_first)] }
def LedgerManySaid : Prop := ledgerManyRow.holds Tryd.pinned (OpenSpec.ofChange ledgerManySpec)

/-- ITS FALSE NEIGHBOUR: 'it returns false'. Refute it at one input. -/
def ledgerManyWrong : ChangeSpec := { name := "ledgerMany", fn := fun _ => fun
  | [d1, d2] => { results := [.lit (.bool false)], args := [d1, d2] }
  | _ => none }
def LedgerManyWrongFalsely : Prop := ledgerManyRow.holds Tryd.pinned (OpenSpec.ofChange ledgerManyWrong)

/-- 'wagebooklaw36.RemitParts': WHATEVER THE INPUT: true; the input reads as it did. -/
def remitPartsSpec : ChangeSpec := { name := "remitParts", fn := fun _ => fun
  | [d1, d2, d3, d4] => { results := [.lit (.bool true)], args := [d1, d2, d3, d4] }
  | _ => none }
def remitPartsRow : OpenClaim := { program := "ytdemgegpnlngeaadoor", sum := "4da0d269f8ae08ddedb6a02aa272a484561a979166ea8ca7b1dd80b75d4a5ff3", func := "wagebook/wagebooklaw36.RemitParts", spec := "remitParts", inPlace := ["internal/bytealg.CountString", "internal/bytealg.IndexByteString", "internal/bytealg.IndexString", "maps.clone"], named := ["unicode/utf8.first", "unicode/utf8.acceptRanges", "internal/bytealg.MaxLen"], apart := false, laid := [("unicode/utf8.acceptRanges", laid_unicode_utf8_acceptRanges), ("unicode/utf8.first", laid_unicode_utf8_first)] }
def RemitPartsSaid : Prop := remitPartsRow.holds Tryd.pinned (OpenSpec.ofChange remitPartsSpec)

/-- ITS FALSE NEIGHBOUR: 'it returns false'. Refute it at one input. -/
def remitPartsWrong : ChangeSpec := { name := "remitParts", fn := fun _ => fun
  | [d1, d2, d3, d4] => { results := [.lit (.bool false)], args := [d1, d2, d3, d4] }
  | _ => none }
def RemitPartsWrongFalsely : Prop := remitPartsRow.holds Tryd.pinned (OpenSpec.ofChange remitPartsWrong)

/-- 'wagebooklaw36.RemitPays': WHATEVER THE INPUT: true; the input reads as it did. -/
def remitPaysSpec : ChangeSpec := { name := "remitPays", fn := fun _ => fun
  | [d1, d2, d3] => { results := [.lit (.bool true)], args := [d1, d2, d3] }
  | _ => none }
def remitPaysRow : OpenClaim := { program := "ytdemgegpnlngeaadoor", sum := "4da0d269f8ae08ddedb6a02aa272a484561a979166ea8ca7b1dd80b75d4a5ff3", func := "wagebook/wagebooklaw36.RemitPays", spec := "remitPays", inPlace := ["internal/bytealg.CountString", "internal/bytealg.IndexByteString", "internal/bytealg.IndexString", "maps.clone"], named := ["unicode/utf8.first", "unicode/utf8.acceptRanges", "internal/bytealg.MaxLen"], apart := false, laid := [("unicode/utf8.acceptRanges", laid_unicode_utf8_acceptRanges), ("unicode/utf8.first", laid_unicode_utf8_first)] }
def RemitPaysSaid : Prop := remitPaysRow.holds Tryd.pinned (OpenSpec.ofChange remitPaysSpec)

/-- ITS FALSE NEIGHBOUR: 'it returns false'. Refute it at one input. -/
def remitPaysWrong : ChangeSpec := { name := "remitPays", fn := fun _ => fun
  | [d1, d2, d3] => { results := [.lit (.bool false)], args := [d1, d2, d3] }
  | _ => none }
def RemitPaysWrongFalsely : Prop := remitPaysRow.holds Tryd.pinned (OpenSpec.ofChange remitPaysWrong)

/-- 'wagebooklaw36.RemitOwes': WHATEVER THE INPUT: true; the input reads as it did. -/
def remitOwesSpec : ChangeSpec := { name := "remitOwes", fn := fun _ => fun
  | [d1, d2] => { results := [.lit (.bool true)], args := [d1, d2] }
  | _ => none }
def remitOwesRow : OpenClaim := { program := "ytdemgegpnlngeaadoor", sum := "4da0d269f8ae08ddedb6a02aa272a484561a979166ea8ca7b1dd80b75d4a5ff3", func := "wagebook/wagebooklaw36.RemitOwes", spec := "remitOwes", inPlace := ["internal/bytealg.CountString", "internal/bytealg.IndexByteString", "internal/bytealg.IndexString", "maps.clone"], named := ["unicode/utf8.first", "unicode/utf8.acceptRanges", "internal/bytealg.MaxLen"], apart := false, laid := [("unicode/utf8.acceptRanges", laid_unicode_utf8_acceptRanges), ("unicode/utf8.first", laid_unicode_utf8_first)] }
def RemitOwesSaid : Prop := remitOwesRow.holds Tryd.pinned (OpenSpec.ofChange remitOwesSpec)

/-- ITS FALSE NEIGHBOUR: 'it returns false'. Refute it at one input. -/
def remitOwesWrong : ChangeSpec := { name := "remitOwes", fn := fun _ => fun
  | [d1, d2] => { results := [.lit (.bool false)], args := [d1, d2] }
  | _ => none }
def RemitOwesWrongFalsely : Prop := remitOwesRow.holds Tryd.pinned (OpenSpec.ofChange remitOwesWrong)

/-- 'wagebooklaw36.RemitAll': WHATEVER THE INPUT: true; the input reads as it did. -/
def remitAllSpec : ChangeSpec := { name := "remitAll", fn := fun _ => fun
  | [d1, d2] => { results := [.lit (.bool true)], args := [d1, d2] }
  | _ => none }
def remitAllRow : OpenClaim := { program := "ytdemgegpnlngeaadoor", sum := "4da0d269f8ae08ddedb6a02aa272a484561a979166ea8ca7b1dd80b75d4a5ff3", func := "wagebook/wagebooklaw36.RemitAll", spec := "remitAll", inPlace := ["internal/bytealg.CountString", "internal/bytealg.IndexByteString", "internal/bytealg.IndexString", "maps.clone"], named := ["unicode/utf8.first", "unicode/utf8.acceptRanges", "internal/bytealg.MaxLen"], apart := false, laid := [("unicode/utf8.acceptRanges", laid_unicode_utf8_acceptRanges), ("unicode/utf8.first", laid_unicode_utf8_first)] }
def RemitAllSaid : Prop := remitAllRow.holds Tryd.pinned (OpenSpec.ofChange remitAllSpec)

/-- ITS FALSE NEIGHBOUR: 'it returns false'. Refute it at one input. -/
def remitAllWrong : ChangeSpec := { name := "remitAll", fn := fun _ => fun
  | [d1, d2] => { results := [.lit (.bool false)], args := [d1, d2] }
  | _ => none }
def RemitAllWrongFalsely : Prop := remitAllRow.holds Tryd.pinned (OpenSpec.ofChange remitAllWrong)

/-- 'wagebooklaw36.RemitLeaves': WHATEVER THE INPUT: true; the input reads as it did. -/
def remitLeavesSpec : ChangeSpec := { name := "remitLeaves", fn := fun _ => fun
  | [d1, d2, d3] => { results := [.lit (.bool true)], args := [d1, d2, d3] }
  | _ => none }
def remitLeavesRow : OpenClaim := { program := "ytdemgegpnlngeaadoor", sum := "4da0d269f8ae08ddedb6a02aa272a484561a979166ea8ca7b1dd80b75d4a5ff3", func := "wagebook/wagebooklaw36.RemitLeaves", spec := "remitLeaves", inPlace := ["internal/bytealg.CountString", "internal/bytealg.IndexByteString", "internal/bytealg.IndexString", "maps.clone"], named := ["unicode/utf8.first", "unicode/utf8.acceptRanges", "internal/bytealg.MaxLen"], apart := false, laid := [("unicode/utf8.acceptRanges", laid_unicode_utf8_acceptRanges), ("unicode/utf8.first", laid_unicode_utf8_first)] }
def RemitLeavesSaid : Prop := remitLeavesRow.holds Tryd.pinned (OpenSpec.ofChange remitLeavesSpec)

/-- ITS FALSE NEIGHBOUR: 'it returns false'. Refute it at one input. -/
def remitLeavesWrong : ChangeSpec := { name := "remitLeaves", fn := fun _ => fun
  | [d1, d2, d3] => { results := [.lit (.bool false)], args := [d1, d2, d3] }
  | _ => none }
def RemitLeavesWrongFalsely : Prop := remitLeavesRow.holds Tryd.pinned (OpenSpec.ofChange remitLeavesWrong)

/-- 'wagebooklaw33.LedgerMoves': WHATEVER THE INPUT: true; the input reads as it did. -/
def ledgerMovesSpec : ChangeSpec := { name := "ledgerMoves", fn := fun _ => fun
  | [d1, d2] => { results := [.lit (.bool true)], args := [d1, d2] }
  | _ => none }
def ledgerMovesRow : OpenClaim := { program := "ytdemgegpnlngeaadoor", sum := "4da0d269f8ae08ddedb6a02aa272a484561a979166ea8ca7b1dd80b75d4a5ff3", func := "wagebook/wagebooklaw33.LedgerMoves", spec := "ledgerMoves", inPlace := ["internal/bytealg.CountString", "internal/bytealg.IndexByteString", "internal/bytealg.IndexString", "maps.clone"], unfollowed := true, recurses := true, named := ["unicode/utf8.first", "unicode/utf8.acceptRanges", "internal/bytealg.MaxLen"], apart := false, laid := [("unicode/utf8.acceptRanges", laid_unicode_utf8_acceptRanges), ("unicode/utf8.first", laid_unicode_utf8_first)] }
def LedgerMovesSaid : Prop := ledgerMovesRow.holds Tryd.pinned (OpenSpec.ofChange ledgerMovesSpec)

/-- ITS FALSE NEIGHBOUR: 'it returns false'. Refute it at one input. -/
def ledgerMovesWrong : ChangeSpec := { name := "ledgerMoves", fn := fun _ => fun
  | [d1, d2] => { results := [.lit (.bool false)], args := [d1, d2] }
  | _ => none }
def LedgerMovesWrongFalsely : Prop := ledgerMovesRow.holds Tryd.pinned (OpenSpec.ofChange ledgerMovesWrong)

/-- 'wagebooklaw33.LedgerTurns': WHATEVER THE INPUT: true; the input reads as it did. -/
def ledgerTurnsSpec : ChangeSpec := { name := "ledgerTurns", fn := fun _ => fun
  | [d] => { results := [.lit (.bool true)], args := [d] }
  | _ => none }
def ledgerTurnsRow : OpenClaim := { program := "ytdemgegpnlngeaadoor", sum := "4da0d269f8ae08ddedb6a02aa272a484561a979166ea8ca7b1dd80b75d4a5ff3", func := "wagebook/wagebooklaw33.LedgerTurns", spec := "ledgerTurns", inPlace := ["internal/bytealg.CountString", "internal/bytealg.IndexByteString", "internal/bytealg.IndexString", "maps.clone"], unfollowed := true, recurses := true, named := ["unicode/utf8.first", "unicode/utf8.acceptRanges", "internal/bytealg.MaxLen"], apart := false, laid := [("unicode/utf8.acceptRanges", laid_unicode_utf8_acceptRanges), ("unicode/utf8.first", laid_unicode_utf8_first)] }
def LedgerTurnsSaid : Prop := ledgerTurnsRow.holds Tryd.pinned (OpenSpec.ofChange ledgerTurnsSpec)

/-- ITS FALSE NEIGHBOUR: 'it returns false'. Refute it at one input. -/
def ledgerTurnsWrong : ChangeSpec := { name := "ledgerTurns", fn := fun _ => fun
  | [d] => { results := [.lit (.bool false)], args := [d] }
  | _ => none }
def LedgerTurnsWrongFalsely : Prop := ledgerTurnsRow.holds Tryd.pinned (OpenSpec.ofChange ledgerTurnsWrong)

/-- 'wagebooklaw33.LedgerPlays': WHATEVER THE INPUT: true; the input reads as it did. -/
def ledgerPlaysSpec : ChangeSpec := { name := "ledgerPlays", fn := fun _ => fun
  | [d] => { results := [.lit (.bool true)], args := [d] }
  | _ => none }
def ledgerPlaysRow : OpenClaim := { program := "ytdemgegpnlngeaadoor", sum := "4da0d269f8ae08ddedb6a02aa272a484561a979166ea8ca7b1dd80b75d4a5ff3", func := "wagebook/wagebooklaw33.LedgerPlays", spec := "ledgerPlays", inPlace := ["internal/bytealg.CountString", "internal/bytealg.IndexByteString", "internal/bytealg.IndexString", "maps.clone"], unfollowed := true, recurses := true, named := ["unicode/utf8.first", "unicode/utf8.acceptRanges", "internal/bytealg.MaxLen"], apart := false, laid := [("unicode/utf8.acceptRanges", laid_unicode_utf8_acceptRanges), ("unicode/utf8.first", laid_unicode_utf8_first)] }
def LedgerPlaysSaid : Prop := ledgerPlaysRow.holds Tryd.pinned (OpenSpec.ofChange ledgerPlaysSpec)

/-- ITS FALSE NEIGHBOUR: 'it returns false'. Refute it at one input. -/
def ledgerPlaysWrong : ChangeSpec := { name := "ledgerPlays", fn := fun _ => fun
  | [d] => { results := [.lit (.bool false)], args := [d] }
  | _ => none }
def LedgerPlaysWrongFalsely : Prop := ledgerPlaysRow.holds Tryd.pinned (OpenSpec.ofChange ledgerPlaysWrong)

/- THE SECOND FORM. 'bulk': how many values and letters a reading holds, each counted each time it is reached (what is shared counts as often as it is met; a slice's spare places count too). A statement '..UptoSaid' is the law's where the arguments, and the package variables that the reading takes, are together of bulk at most 1048576: NARROWER than '..Said'. Prove '..Said' where nothing that the law and all that it calls make is longer than what came in: it says more and counts as full. Else prove '..UptoSaid'. A law counts once. -/
mutual
def uptoBulk {H : Type} : DataW H → Nat
  | .lit (.string bytes) => bytes.length + 1
  | .lit _ => 1
  | .nil => 1
  | .ptr d => uptoBulk d + 1
  | .slice elems spare => uptoBulkAll elems + uptoBulkAll spare + 1
  | .agg parts => uptoBulkAll parts + 1
  | .iface _ d => uptoBulk d + 1
  | .map entries => uptoBulkEntries entries + 1
  | .held _ => 1
def uptoBulkAll {H : Type} : List (DataW H) → Nat
  | [] => 0
  | d :: r => uptoBulk d + uptoBulkAll r
def uptoBulkEntries {H : Type} : List (Lit × DataW H) → Nat
  | [] => 0
  | x :: r => uptoBulkEntry x + uptoBulkEntries r
def uptoBulkEntry {H : Type} : Lit × DataW H → Nat
  | (.string bytes, d) => bytes.length + uptoBulk d + 1
  | (_, d) => uptoBulk d + 1
 end
def uptoSmall : (H : Type) → List (DataW H) → Bool := fun _ ds => decide (uptoBulkAll ds ≤ 1048576)
def OpenSpec.upto (s : _root_.Go.ChangeSpec) : _root_.Go.OpenSpec := { _root_.Go.OpenSpec.ofChange s with cond := some uptoSmall }

/-- 'wagebooklaw33.LedgerWrong', WHERE WHAT IT READS IS OF BULK AT MOST 1048576: true; the input reads as it did. -/
def ledgerWrongUptoRow : OpenClaim := { program := "ytdemgegpnlngeaadoor", sum := "4da0d269f8ae08ddedb6a02aa272a484561a979166ea8ca7b1dd80b75d4a5ff3", func := "wagebook/wagebooklaw33.LedgerWrong", spec := "ledgerWrong", inPlace := ["internal/bytealg.CountString", "internal/bytealg.IndexByteString", "internal/bytealg.IndexString", "maps.clone"], named := ["unicode/utf8.first", "unicode/utf8.acceptRanges", "internal/bytealg.MaxLen"], apart := false, laid := [("unicode/utf8.acceptRanges", laid_unicode_utf8_acceptRanges), ("unicode/utf8.first", laid_unicode_utf8_first)], narrowed := true }
def LedgerWrongUptoSaid : Prop := ledgerWrongUptoRow.holds Tryd.pinned (OpenSpec.upto ledgerWrongSpec)

/-- 'wagebooklaw33.LedgerMany', WHERE WHAT IT READS IS OF BULK AT MOST 1048576: true; the input reads as it did. -/
def ledgerManyUptoRow : OpenClaim := { program := "ytdemgegpnlngeaadoor", sum := "4da0d269f8ae08ddedb6a02aa272a484561a979166ea8ca7b1dd80b75d4a5ff3", func := "wagebook/wagebooklaw33.LedgerMany", spec := "ledgerMany", inPlace := ["internal/bytealg.CountString", "internal/bytealg.IndexByteString", "internal/bytealg.IndexString", "maps.clone"], named := ["unicode/utf8.first", "unicode/utf8.acceptRanges", "internal/bytealg.MaxLen"], apart := false, laid := [("unicode/utf8.acceptRanges", laid_unicode_utf8_acceptRanges), ("unicode/utf8.first", laid_unicode_utf8_first)], narrowed := true }
def LedgerManyUptoSaid : Prop := ledgerManyUptoRow.holds Tryd.pinned (OpenSpec.upto ledgerManySpec)

/-- 'wagebooklaw36.RemitParts', WHERE WHAT IT READS IS OF BULK AT MOST 1048576: true; the input reads as it did. -/
def remitPartsUptoRow : OpenClaim := { program := "ytdemgegpnlngeaadoor", sum := "4da0d269f8ae08ddedb6a02aa272a484561a979166ea8ca7b1dd80b75d4a5ff3", func := "wagebook/wagebooklaw36.RemitParts", spec := "remitParts", inPlace := ["internal/bytealg.CountString", "internal/bytealg.IndexByteString", "internal/bytealg.IndexString", "maps.clone"], named := ["unicode/utf8.first", "unicode/utf8.acceptRanges", "internal/bytealg.MaxLen"], apart := false, laid := [("unicode/utf8.acceptRanges", laid_unicode_utf8_acceptRanges), ("unicode/utf8.first", laid_unicode_utf8_first)], narrowed := true }
def RemitPartsUptoSaid : Prop := remitPartsUptoRow.holds Tryd.pinned (OpenSpec.upto remitPartsSpec)

/-- 'wagebooklaw36.RemitPays', WHERE WHAT IT READS IS OF BULK AT MOST 1048576: true; the input reads as it did. -/
def remitPaysUptoRow : OpenClaim := { program := "ytdemgegpnlngeaadoor", sum := "4da0d269f8ae08ddedb6a02aa272a484561a979166ea8ca7b1dd80b75d4a5ff3", func := "wagebook/wagebooklaw36.RemitPays", spec := "remitPays", inPlace := ["internal/bytealg.CountString", "internal/bytealg.IndexByteString", "internal/bytealg.IndexString", "maps.clone"], named := ["unicode/utf8.first", "unicode/utf8.acceptRanges", "internal/bytealg.MaxLen"], apart := false, laid := [("unicode/utf8.acceptRanges", laid_unicode_utf8_acceptRanges), ("unicode/utf8.first", laid_unicode_utf8_first)], narrowed := true }
def RemitPaysUptoSaid : Prop := remitPaysUptoRow.holds Tryd.pinned (OpenSpec.upto remitPaysSpec)

/-- 'wagebooklaw36.RemitOwes', WHERE WHAT IT READS IS OF BULK AT MOST 1048576: true; the input reads as it did. -/
def remitOwesUptoRow : OpenClaim := { program := "ytdemgegpnlngeaadoor", sum := "4da0d269f8ae08ddedb6a02aa272a484561a979166ea8ca7b1dd80b75d4a5ff3", func := "wagebook/wagebooklaw36.RemitOwes", spec := "remitOwes", inPlace := ["internal/bytealg.CountString", "internal/bytealg.IndexByteString", "internal/bytealg.IndexString", "maps.clone"], named := ["unicode/utf8.first", "unicode/utf8.acceptRanges", "internal/bytealg.MaxLen"], apart := false, laid := [("unicode/utf8.acceptRanges", laid_unicode_utf8_acceptRanges), ("unicode/utf8.first", laid_unicode_utf8_first)], narrowed := true }
def RemitOwesUptoSaid : Prop := remitOwesUptoRow.holds Tryd.pinned (OpenSpec.upto remitOwesSpec)

/-- 'wagebooklaw36.RemitAll', WHERE WHAT IT READS IS OF BULK AT MOST 1048576: true; the input reads as it did. -/
def remitAllUptoRow : OpenClaim := { program := "ytdemgegpnlngeaadoor", sum := "4da0d269f8ae08ddedb6a02aa272a484561a979166ea8ca7b1dd80b75d4a5ff3", func := "wagebook/wagebooklaw36.RemitAll", spec := "remitAll", inPlace := ["internal/bytealg.CountString", "internal/bytealg.IndexByteString", "internal/bytealg.IndexString", "maps.clone"], named := ["unicode/utf8.first", "unicode/utf8.acceptRanges", "internal/bytealg.MaxLen"], apart := false, laid := [("unicode/utf8.acceptRanges", laid_unicode_utf8_acceptRanges), ("unicode/utf8.first", laid_unicode_utf8_first)], narrowed := true }
def RemitAllUptoSaid : Prop := remitAllUptoRow.holds Tryd.pinned (OpenSpec.upto remitAllSpec)

/-- 'wagebooklaw36.RemitLeaves', WHERE WHAT IT READS IS OF BULK AT MOST 1048576: true; the input reads as it did. -/
def remitLeavesUptoRow : OpenClaim := { program := "ytdemgegpnlngeaadoor", sum := "4da0d269f8ae08ddedb6a02aa272a484561a979166ea8ca7b1dd80b75d4a5ff3", func := "wagebook/wagebooklaw36.RemitLeaves", spec := "remitLeaves", inPlace := ["internal/bytealg.CountString", "internal/bytealg.IndexByteString", "internal/bytealg.IndexString", "maps.clone"], named := ["unicode/utf8.first", "unicode/utf8.acceptRanges", "internal/bytealg.MaxLen"], apart := false, laid := [("unicode/utf8.acceptRanges", laid_unicode_utf8_acceptRanges), ("unicode/utf8.first", laid_unicode_utf8_first)], narrowed := true }
def RemitLeavesUptoSaid : Prop := remitLeavesUptoRow.holds Tryd.pinned (OpenSpec.upto remitLeavesSpec)

/-- 'wagebooklaw33.LedgerMoves', WHERE WHAT IT READS IS OF BULK AT MOST 1048576: true; the input reads as it did. -/
def ledgerMovesUptoRow : OpenClaim := { program := "ytdemgegpnlngeaadoor", sum := "4da0d269f8ae08ddedb6a02aa272a484561a979166ea8ca7b1dd80b75d4a5ff3", func := "wagebook/wagebooklaw33.LedgerMoves", spec := "ledgerMoves", inPlace := ["internal/bytealg.CountString", "internal/bytealg.IndexByteString", "internal/bytealg.IndexString", "maps.clone"], unfollowed := true, recurses := true, named := ["unicode/utf8.first", "unicode/utf8.acceptRanges", "internal/bytealg.MaxLen"], apart := false, laid := [("unicode/utf8.acceptRanges", laid_unicode_utf8_acceptRanges), ("unicode/utf8.first", laid_unicode_utf8_first)], narrowed := true }
def LedgerMovesUptoSaid : Prop := ledgerMovesUptoRow.holds Tryd.pinned (OpenSpec.upto ledgerMovesSpec)

/-- 'wagebooklaw33.LedgerTurns', WHERE WHAT IT READS IS OF BULK AT MOST 1048576: true; the input reads as it did. -/
def ledgerTurnsUptoRow : OpenClaim := { program := "ytdemgegpnlngeaadoor", sum := "4da0d269f8ae08ddedb6a02aa272a484561a979166ea8ca7b1dd80b75d4a5ff3", func := "wagebook/wagebooklaw33.LedgerTurns", spec := "ledgerTurns", inPlace := ["internal/bytealg.CountString", "internal/bytealg.IndexByteString", "internal/bytealg.IndexString", "maps.clone"], unfollowed := true, recurses := true, named := ["unicode/utf8.first", "unicode/utf8.acceptRanges", "internal/bytealg.MaxLen"], apart := false, laid := [("unicode/utf8.acceptRanges", laid_unicode_utf8_acceptRanges), ("unicode/utf8.first", laid_unicode_utf8_first)], narrowed := true }
def LedgerTurnsUptoSaid : Prop := ledgerTurnsUptoRow.holds Tryd.pinned (OpenSpec.upto ledgerTurnsSpec)

/-- 'wagebooklaw33.LedgerPlays', WHERE WHAT IT READS IS OF BULK AT MOST 1048576: true; the input reads as it did. -/
def ledgerPlaysUptoRow : OpenClaim := { program := "ytdemgegpnlngeaadoor", sum := "4da0d269f8ae08ddedb6a02aa272a484561a979166ea8ca7b1dd80b75d4a5ff3", func := "wagebook/wagebooklaw33.LedgerPlays", spec := "ledgerPlays", inPlace := ["internal/bytealg.CountString", "internal/bytealg.IndexByteString", "internal/bytealg.IndexString", "maps.clone"], unfollowed := true, recurses := true, named := ["unicode/utf8.first", "unicode/utf8.acceptRanges", "internal/bytealg.MaxLen"], apart := false, laid := [("unicode/utf8.acceptRanges", laid_unicode_utf8_acceptRanges), ("unicode/utf8.first", laid_unicode_utf8_first)], narrowed := true }
def LedgerPlaysUptoSaid : Prop := ledgerPlaysUptoRow.holds Tryd.pinned (OpenSpec.upto ledgerPlaysSpec)

end Rows
end Go.Proofs.YtdemgegpnlngeaaDoor
