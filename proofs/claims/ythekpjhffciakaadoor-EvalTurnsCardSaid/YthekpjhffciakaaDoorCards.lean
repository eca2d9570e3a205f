/-
  DERIVED. GIVEN WITH THE SEED: THE CARDS: each row of YthekpjhffciakaaDoorRows.lean that lists a variable, with what it lists TIED to the program's text (the seventh form; the later family's looks); each row that meets fmt, with fmt's text TOLD by the authors' own Lean function (tested against real Go, not proved from fmt's source: count such statements apart). THE CARD IS WHAT COUNTS. Prove the row's statement (the work); the ties are given (YthekpjhffciakaaDoorTie.lean); close each card by the builder's one call (the guide's Derived/Test/ToyasCard.lean, 'card_holds'). Laid BY PROGRAM, IN A SANDBOX (cutbox-door.mjs). By AI agents, Wed Nov 11 2026. No macro, syntax, notation, axiom, sorry.
-/
import Derived.Test.YthekpjhffciakaaDoorRows
import GoSem.ClaimSeven
namespace Go.Proofs.YthekpjhffciakaaDoor
namespace Rows

/-- THE TIED CARD OF 'wagebooklaw15.EvalSwaps'. -/
def evalSwapsCard : Claim7 := { stood := { row := evalSwapsRow, standIns := [], harness := (true, "3831413380d2115b45d267de0efea2d6a45424fd121e572a0bc71f36a7e48ae1"), looks := false }, kinds := [], alts := [], laidByText := true, laidKinds := [.data], laidTests := true, laidLooks := .later }
def EvalSwapsCardSaid : Prop := Claim7.holds Tryd.pinned (.plain (OpenSpec.ofChange evalSwapsSpec)) evalSwapsCard

/-- THE TIED CARD OF 'wagebooklaw15.EvalReads'. -/
def evalReadsCard : Claim7 := { stood := { row := evalReadsRow, standIns := [], harness := (true, "3831413380d2115b45d267de0efea2d6a45424fd121e572a0bc71f36a7e48ae1"), looks := false }, kinds := [], alts := [], laidByText := true, laidKinds := [.data], laidTests := true, laidLooks := .later }
def EvalReadsCardSaid : Prop := Claim7.holds Tryd.pinned (.plain (OpenSpec.ofChange evalReadsSpec)) evalReadsCard

/-- THE TIED CARD OF 'wagebooklaw13.ExprParses'. -/
def exprParsesCard : Claim7 := { stood := { row := exprParsesRow, standIns := [], harness := (true, "3831413380d2115b45d267de0efea2d6a45424fd121e572a0bc71f36a7e48ae1"), looks := false }, kinds := [], alts := [], laidByText := true, laidKinds := [.data, .widerDeep], laidTests := true, laidLooks := .later }
def ExprParsesCardSaid : Prop := Claim7.holds Tryd.pinned (.plain (OpenSpec.ofChange exprParsesSpec)) exprParsesCard

/-- THE TIED CARD OF 'wagebooklaw13.ExprTexts'. -/
def exprTextsCard : Claim7 := { stood := { row := exprTextsRow, standIns := [], harness := (true, "3831413380d2115b45d267de0efea2d6a45424fd121e572a0bc71f36a7e48ae1"), looks := false }, kinds := [], alts := [], laidByText := true, laidKinds := [.data, .widerDeep], laidTests := true, laidLooks := .later }
def ExprTextsCardSaid : Prop := Claim7.holds Tryd.pinned (.plain (OpenSpec.ofChange exprTextsSpec)) exprTextsCard

/-- THE TIED CARD OF 'wagebooklaw13.ExprBrackets'. -/
def exprBracketsCard : Claim7 := { stood := { row := exprBracketsRow, standIns := [], harness := (true, "3831413380d2115b45d267de0efea2d6a45424fd121e572a0bc71f36a7e48ae1"), looks := false }, kinds := [], alts := [], laidByText := true, laidKinds := [.data, .widerDeep], laidTests := true, laidLooks := .later }
def ExprBracketsCardSaid : Prop := Claim7.holds Tryd.pinned (.plain (OpenSpec.ofChange exprBracketsSpec)) exprBracketsCard

/-- THE TIED CARD OF 'wagebooklaw13.ExprBounds'. -/
def exprBoundsCard : Claim7 := { stood := { row := exprBoundsRow, standIns := [], harness := (true, "3831413380d2115b45d267de0efea2d6a45424fd121e572a0bc71f36a7e48ae1"), looks := false }, kinds := [], alts := [], laidByText := true, laidKinds := [.data, .widerDeep], laidTests := true, laidLooks := .later }
def ExprBoundsCardSaid : Prop := Claim7.holds Tryd.pinned (.plain (OpenSpec.ofChange exprBoundsSpec)) exprBoundsCard

/-- THE TIED CARD OF 'wagebooklaw15.EvalNeeds'. -/
def evalNeedsCard : Claim7 := { stood := { row := evalNeedsRow, standIns := [], harness := (true, "3831413380d2115b45d267de0efea2d6a45424fd121e572a0bc71f36a7e48ae1"), looks := false }, kinds := [], alts := [], laidByText := true, laidKinds := [.data], laidTests := true, laidLooks := .later }
def EvalNeedsCardSaid : Prop := Claim7.holds Tryd.pinned (.plain (OpenSpec.ofChange evalNeedsSpec)) evalNeedsCard

/-- THE TIED CARD OF 'wagebooklaw15.EvalTurns'. -/
def evalTurnsCard : Claim7 := { stood := { row := evalTurnsRow, standIns := [], harness := (true, "3831413380d2115b45d267de0efea2d6a45424fd121e572a0bc71f36a7e48ae1"), looks := false }, kinds := [], alts := [], laidByText := true, laidKinds := [.data], laidTests := true, laidLooks := .later }
def EvalTurnsCardSaid : Prop := Claim7.holds Tryd.pinned (.plain (OpenSpec.ofChange evalTurnsSpec)) evalTurnsCard

/-- THE TIED CARD OF 'wagebooklaw13.ExprVars'. -/
def exprVarsCard : Claim7 := { stood := { row := exprVarsRow, standIns := [], harness := (true, "3831413380d2115b45d267de0efea2d6a45424fd121e572a0bc71f36a7e48ae1"), looks := false }, kinds := [], alts := [], laidByText := true, laidKinds := [.data, .widerDeep], laidTests := true, laidLooks := .later }
def ExprVarsCardSaid : Prop := Claim7.holds Tryd.pinned (.plain (OpenSpec.ofChange exprVarsSpec)) exprVarsCard

/-- THE TIED CARD OF 'wagebooklaw13.ExprChecks'. -/
def exprChecksCard : Claim7 := { stood := { row := exprChecksRow, standIns := [], harness := (true, "3831413380d2115b45d267de0efea2d6a45424fd121e572a0bc71f36a7e48ae1"), looks := false }, kinds := [], alts := [], laidByText := true, laidKinds := [.data, .widerDeep], laidTests := true, laidLooks := .later }
def ExprChecksCardSaid : Prop := Claim7.holds Tryd.pinned (.plain (OpenSpec.ofChange exprChecksSpec)) exprChecksCard

/-- THE SECOND FORM's CARD OF 'wagebooklaw15.EvalSwaps'. -/
def evalSwapsUptoCard : Claim7 := { stood := { row := evalSwapsUptoRow, standIns := [], harness := (true, "3831413380d2115b45d267de0efea2d6a45424fd121e572a0bc71f36a7e48ae1"), looks := false }, kinds := [], alts := [], laidByText := true, laidKinds := [.data], laidTests := true, laidLooks := .later }
def EvalSwapsUptoCardSaid : Prop := Claim7.holds Tryd.pinned (.plain (OpenSpec.upto evalSwapsSpec)) evalSwapsUptoCard

/-- THE SECOND FORM's CARD OF 'wagebooklaw15.EvalReads'. -/
def evalReadsUptoCard : Claim7 := { stood := { row := evalReadsUptoRow, standIns := [], harness := (true, "3831413380d2115b45d267de0efea2d6a45424fd121e572a0bc71f36a7e48ae1"), looks := false }, kinds := [], alts := [], laidByText := true, laidKinds := [.data], laidTests := true, laidLooks := .later }
def EvalReadsUptoCardSaid : Prop := Claim7.holds Tryd.pinned (.plain (OpenSpec.upto evalReadsSpec)) evalReadsUptoCard

/-- THE SECOND FORM's CARD OF 'wagebooklaw13.ExprParses'. -/
def exprParsesUptoCard : Claim7 := { stood := { row := exprParsesUptoRow, standIns := [], harness := (true, "3831413380d2115b45d267de0efea2d6a45424fd121e572a0bc71f36a7e48ae1"), looks := false }, kinds := [], alts := [], laidByText := true, laidKinds := [.data, .widerDeep], laidTests := true, laidLooks := .later }
def ExprParsesUptoCardSaid : Prop := Claim7.holds Tryd.pinned (.plain (OpenSpec.upto exprParsesSpec)) exprParsesUptoCard

/-- THE SECOND FORM's CARD OF 'wagebooklaw13.ExprTexts'. -/
def exprTextsUptoCard : Claim7 := { stood := { row := exprTextsUptoRow, standIns := [], harness := (true, "3831413380d2115b45d267de0efea2d6a45424fd121e572a0bc71f36a7e48ae1"), looks := false }, kinds := [], alts := [], laidByText := true, laidKinds := [.data, .widerDeep], laidTests := true, laidLooks := .later }
def ExprTextsUptoCardSaid : Prop := Claim7.holds Tryd.pinned (.plain (OpenSpec.upto exprTextsSpec)) exprTextsUptoCard

/-- THE SECOND FORM's CARD OF 'wagebooklaw13.ExprBrackets'. -/
def exprBracketsUptoCard : Claim7 := { stood := { row := exprBracketsUptoRow, standIns := [], harness := (true, "3831413380d2115b45d267de0efea2d6a45424fd121e572a0bc71f36a7e48ae1"), looks := false }, kinds := [], alts := [], laidByText := true, laidKinds := [.data, .widerDeep], laidTests := true, laidLooks := .later }
def ExprBracketsUptoCardSaid : Prop := Claim7.holds Tryd.pinned (.plain (OpenSpec.upto exprBracketsSpec)) exprBracketsUptoCard

/-- THE SECOND FORM's CARD OF 'wagebooklaw13.ExprBounds'. -/
def exprBoundsUptoCard : Claim7 := { stood := { row := exprBoundsUptoRow, standIns := [], harness := (true, "3831413380d2115b45d267de0efea2d6a45424fd121e572a0bc71f36a7e48ae1"), looks := false }, kinds := [], alts := [], laidByText := true, laidKinds := [.data, .widerDeep], laidTests := true, laidLooks := .later }
def ExprBoundsUptoCardSaid : Prop := Claim7.holds Tryd.pinned (.plain (OpenSpec.upto exprBoundsSpec)) exprBoundsUptoCard

/-- THE SECOND FORM's CARD OF 'wagebooklaw15.EvalNeeds'. -/
def evalNeedsUptoCard : Claim7 := { stood := { row := evalNeedsUptoRow, standIns := [], harness := (true, "3831413380d2115b45d267de0efea2d6a45424fd121e572a0bc71f36a7e48ae1"), looks := false }, kinds := [], alts := [], laidByText := true, laidKinds := [.data], laidTests := true, laidLooks := .later }
def EvalNeedsUptoCardSaid : Prop := Claim7.holds Tryd.pinned (.plain (OpenSpec.upto evalNeedsSpec)) evalNeedsUptoCard

/-- THE SECOND FORM's CARD OF 'wagebooklaw15.EvalTurns'. -/
def evalTurnsUptoCard : Claim7 := { stood := { row := evalTurnsUptoRow, standIns := [], harness := (true, "3831413380d2115b45d267de0efea2d6a45424fd121e572a0bc71f36a7e48ae1"), looks := false }, kinds := [], alts := [], laidByText := true, laidKinds := [.data], laidTests := true, laidLooks := .later }
def EvalTurnsUptoCardSaid : Prop := Claim7.holds Tryd.pinned (.plain (OpenSpec.upto evalTurnsSpec)) evalTurnsUptoCard

/-- THE SECOND FORM's CARD OF 'wagebooklaw13.ExprVars'. -/
def exprVarsUptoCard : Claim7 := { stood := { row := exprVarsUptoRow, standIns := [], harness := (true, "3831413380d2115b45d267de0efea2d6a45424fd121e572a0bc71f36a7e48ae1"), looks := false }, kinds := [], alts := [], laidByText := true, laidKinds := [.data, .widerDeep], laidTests := true, laidLooks := .later }
def ExprVarsUptoCardSaid : Prop := Claim7.holds Tryd.pinned (.plain (OpenSpec.upto exprVarsSpec)) exprVarsUptoCard

/-- THE SECOND FORM's CARD OF 'wagebooklaw13.ExprChecks'. -/
def exprChecksUptoCard : Claim7 := { stood := { row := exprChecksUptoRow, standIns := [], harness := (true, "3831413380d2115b45d267de0efea2d6a45424fd121e572a0bc71f36a7e48ae1"), looks := false }, kinds := [], alts := [], laidByText := true, laidKinds := [.data, .widerDeep], laidTests := true, laidLooks := .later }
def ExprChecksUptoCardSaid : Prop := Claim7.holds Tryd.pinned (.plain (OpenSpec.upto exprChecksSpec)) exprChecksUptoCard
end Rows
end Go.Proofs.YthekpjhffciakaaDoor
