/-
  NARROWER THAN 'FOR EVERY INPUT', by the rows' own cells (each row's printed sentence says how): EvalSwaps: laid · EvalReads: laid · ExprParses: laid · ExprTexts: laid · ExprBrackets: laid · ExprBounds: laid · EvalNeeds: laid · EvalTurns: laid · ExprVars: laid · ExprChecks: laid.
  DERIVED. THE GIVEN ROWS OF THIS SEAT. 10 by the template 'for every input the law returns true; each argument reads behind the call as it read before'; 0 by the template 'total and deterministic' (their statements: YthekpjhffciakaaDoorTotals.lean).
  GIVEN WITH THE SEED: the statements are not yours to turn. If you find one false, say at which input.
  Laid BY PROGRAM, IN A SANDBOX (cutbox-rows.mjs): the forced cells as the released guide's own fill.sh prints them over the translation 63e29096ece5b892… (all of the seat's roots in one cut). By AI agents, Wed Nov 11 2026. No macro, syntax, notation, axiom, sorry.
-/
import Derived.Test.YthekpjhffciakaaDoorChecked
import GoSem.Claim
import GoSem.ClaimJoined
import GoSem.ClaimMapViews
import Derived.JoinedTies
import Derived.KernelRfl
namespace Go.Proofs.YthekpjhffciakaaDoor
/- THE CELL 'sum', in the pinned program and in every row, IS THE sha256 OF THE DUMP (.gsa) THAT YthekpjhffciakaaDoorProg.lean LOADS. Nothing in Lean hashes anything: it is a label: what it is worth is what the hold of that sum in a sandbox is worth. -/
noncomputable def Tryd.pinned : Pinned := { name := "ythekpjhffciakaadoor", sum := "63e29096ece5b892782dbf21a868d853d15983681d1fcc287b65aee032149f59", checked := Tryd.checked }
namespace Rows
def none {H : Type} : Left H := { results := [], args := [] }

/- WHAT THE LISTED PACKAGE-LEVEL VARIABLES READ AS WHEN THE CALL BEGINS. Each datum BY PROGRAM (the guide's laid-datum.mjs) off the statement by which the dump's own 'gosem.cut.vars' lays the variable. In a bare row this is a premise. The card (YthekpjhffciakaaDoorCards.lean) ties it to the program's text. -/
def laid_wagebook_expr_kidsOf {H : Type} : DataW H := .agg [.lit (.int .i64 0), .lit (.int .i64 0), .lit (.int .i64 2), .lit (.int .i64 2), .lit (.int .i64 2), .lit (.int .i64 2), .lit (.int .i64 2), .lit (.int .i64 3), .lit (.int .i64 2), .lit (.int .i64 2)]
def laid_wagebook_expr_words {H : Type} : DataW H := .agg [.lit (.string []), .lit (.string []), .lit (.string [43]), .lit (.string [45]), .lit (.string [42]), .lit (.string [108, 101, 97, 115, 116]), .lit (.string [109, 111, 115, 116]), .lit (.string [105, 102]), .lit (.string [108, 101, 115, 115]), .lit (.string [101, 113, 117, 97, 108])]

/-- 'wagebooklaw15.EvalSwaps': WHATEVER THE INPUT: true; the input reads as it did. -/
def evalSwapsSpec : ChangeSpec := { name := "evalSwaps", fn := fun _ => fun
  | [d1, d2] => { results := [.lit (.bool true)], args := [d1, d2] }
  | _ => none }
def evalSwapsRow : OpenClaim := { program := "ythekpjhffciakaadoor", sum := "63e29096ece5b892782dbf21a868d853d15983681d1fcc287b65aee032149f59", func := "wagebook/wagebooklaw15.EvalSwaps", spec := "evalSwaps", unfollowed := true, recurses := true, named := ["wagebook/expr.kidsOf", "math/bits.divideError", "math/bits.overflowError"], apart := false, laid := [("wagebook/expr.kidsOf", laid_wagebook_expr_kidsOf)] }
def EvalSwapsSaid : Prop := evalSwapsRow.holds Tryd.pinned (OpenSpec.ofChange evalSwapsSpec)

/-- ITS FALSE NEIGHBOUR: 'it returns false'. Refute it at one input. -/
def evalSwapsWrong : ChangeSpec := { name := "evalSwaps", fn := fun _ => fun
  | [d1, d2] => { results := [.lit (.bool false)], args := [d1, d2] }
  | _ => none }
def EvalSwapsWrongFalsely : Prop := evalSwapsRow.holds Tryd.pinned (OpenSpec.ofChange evalSwapsWrong)

/-- 'wagebooklaw15.EvalReads': WHATEVER THE INPUT: true; the input reads as it did. -/
def evalReadsSpec : ChangeSpec := { name := "evalReads", fn := fun _ => fun
  | [d1, d2, d3] => { results := [.lit (.bool true)], args := [d1, d2, d3] }
  | _ => none }
def evalReadsRow : OpenClaim := { program := "ythekpjhffciakaadoor", sum := "63e29096ece5b892782dbf21a868d853d15983681d1fcc287b65aee032149f59", func := "wagebook/wagebooklaw15.EvalReads", spec := "evalReads", unfollowed := true, recurses := true, named := ["wagebook/expr.kidsOf", "math/bits.divideError", "math/bits.overflowError"], apart := false, laid := [("wagebook/expr.kidsOf", laid_wagebook_expr_kidsOf)] }
def EvalReadsSaid : Prop := evalReadsRow.holds Tryd.pinned (OpenSpec.ofChange evalReadsSpec)

/-- ITS FALSE NEIGHBOUR: 'it returns false'. Refute it at one input. -/
def evalReadsWrong : ChangeSpec := { name := "evalReads", fn := fun _ => fun
  | [d1, d2, d3] => { results := [.lit (.bool false)], args := [d1, d2, d3] }
  | _ => none }
def EvalReadsWrongFalsely : Prop := evalReadsRow.holds Tryd.pinned (OpenSpec.ofChange evalReadsWrong)

/-- 'wagebooklaw13.ExprParses': WHATEVER THE INPUT: true; the input reads as it did. -/
def exprParsesSpec : ChangeSpec := { name := "exprParses", fn := fun _ => fun
  | [d] => { results := [.lit (.bool true)], args := [d] }
  | _ => none }
def exprParsesRow : OpenClaim := { program := "ythekpjhffciakaadoor", sum := "63e29096ece5b892782dbf21a868d853d15983681d1fcc287b65aee032149f59", func := "wagebook/wagebooklaw13.ExprParses", spec := "exprParses", inPlace := ["internal/bytealg.IndexByteString", "internal/bytealg.IndexString", "internal/bytealg.CountString"], unfollowed := true, recurses := true, named := ["internal/bytealg.MaxLen", "wagebook/expr.words", "wagebook/expr.kidsOf"], apart := false, laid := [("wagebook/expr.kidsOf", laid_wagebook_expr_kidsOf), ("wagebook/expr.words", laid_wagebook_expr_words)] }
def ExprParsesSaid : Prop := exprParsesRow.holds Tryd.pinned (OpenSpec.ofChange exprParsesSpec)

/-- ITS FALSE NEIGHBOUR: 'it returns false'. Refute it at one input. -/
def exprParsesWrong : ChangeSpec := { name := "exprParses", fn := fun _ => fun
  | [d] => { results := [.lit (.bool false)], args := [d] }
  | _ => none }
def ExprParsesWrongFalsely : Prop := exprParsesRow.holds Tryd.pinned (OpenSpec.ofChange exprParsesWrong)

/-- 'wagebooklaw13.ExprTexts': WHATEVER THE INPUT: true; the input reads as it did. -/
def exprTextsSpec : ChangeSpec := { name := "exprTexts", fn := fun _ => fun
  | [d] => { results := [.lit (.bool true)], args := [d] }
  | _ => none }
def exprTextsRow : OpenClaim := { program := "ythekpjhffciakaadoor", sum := "63e29096ece5b892782dbf21a868d853d15983681d1fcc287b65aee032149f59", func := "wagebook/wagebooklaw13.ExprTexts", spec := "exprTexts", inPlace := ["internal/bytealg.IndexByteString", "internal/bytealg.IndexString", "internal/bytealg.CountString"], unfollowed := true, recurses := true, named := ["internal/bytealg.MaxLen", "wagebook/expr.words", "wagebook/expr.kidsOf"], apart := false, laid := [("wagebook/expr.kidsOf", laid_wagebook_expr_kidsOf), ("wagebook/expr.words", laid_wagebook_expr_words)] }
def ExprTextsSaid : Prop := exprTextsRow.holds Tryd.pinned (OpenSpec.ofChange exprTextsSpec)

/-- ITS FALSE NEIGHBOUR: 'it returns false'. Refute it at one input. -/
def exprTextsWrong : ChangeSpec := { name := "exprTexts", fn := fun _ => fun
  | [d] => { results := [.lit (.bool false)], args := [d] }
  | _ => none }
def ExprTextsWrongFalsely : Prop := exprTextsRow.holds Tryd.pinned (OpenSpec.ofChange exprTextsWrong)

/-- 'wagebooklaw13.ExprBrackets': WHATEVER THE INPUT: true; the input reads as it did. -/
def exprBracketsSpec : ChangeSpec := { name := "exprBrackets", fn := fun _ => fun
  | [d1, d2] => { results := [.lit (.bool true)], args := [d1, d2] }
  | _ => none }
def exprBracketsRow : OpenClaim := { program := "ythekpjhffciakaadoor", sum := "63e29096ece5b892782dbf21a868d853d15983681d1fcc287b65aee032149f59", func := "wagebook/wagebooklaw13.ExprBrackets", spec := "exprBrackets", inPlace := ["internal/bytealg.IndexByteString", "internal/bytealg.IndexString", "internal/bytealg.CountString"], unfollowed := true, recurses := true, named := ["internal/bytealg.MaxLen", "wagebook/expr.words", "wagebook/expr.kidsOf"], apart := false, laid := [("wagebook/expr.kidsOf", laid_wagebook_expr_kidsOf), ("wagebook/expr.words", laid_wagebook_expr_words)] }
def ExprBracketsSaid : Prop := exprBracketsRow.holds Tryd.pinned (OpenSpec.ofChange exprBracketsSpec)

/-- ITS FALSE NEIGHBOUR: 'it returns false'. Refute it at one input. -/
def exprBracketsWrong : ChangeSpec := { name := "exprBrackets", fn := fun _ => fun
  | [d1, d2] => { results := [.lit (.bool false)], args := [d1, d2] }
  | _ => none }
def ExprBracketsWrongFalsely : Prop := exprBracketsRow.holds Tryd.pinned (OpenSpec.ofChange exprBracketsWrong)

/-- 'wagebooklaw13.ExprBounds': WHATEVER THE INPUT: true; the input reads as it did. -/
def exprBoundsSpec : ChangeSpec := { name := "exprBounds", fn := fun _ => fun
  | [d1, d2] => { results := [.lit (.bool true)], args := [d1, d2] }
  | _ => none }
def exprBoundsRow : OpenClaim := { program := "ythekpjhffciakaadoor", sum := "63e29096ece5b892782dbf21a868d853d15983681d1fcc287b65aee032149f59", func := "wagebook/wagebooklaw13.ExprBounds", spec := "exprBounds", inPlace := ["internal/bytealg.IndexByteString", "internal/bytealg.IndexString", "internal/bytealg.CountString"], unfollowed := true, recurses := true, named := ["internal/bytealg.MaxLen", "wagebook/expr.words", "wagebook/expr.kidsOf"], apart := false, laid := [("wagebook/expr.kidsOf", laid_wagebook_expr_kidsOf), ("wagebook/expr.words", laid_wagebook_expr_words)] }
def ExprBoundsSaid : Prop := exprBoundsRow.holds Tryd.pinned (OpenSpec.ofChange exprBoundsSpec)

/-- ITS FALSE NEIGHBOUR: 'it returns false'. Refute it at one input. -/
def exprBoundsWrong : ChangeSpec := { name := "exprBounds", fn := fun _ => fun
  | [d1, d2] => { results := [.lit (.bool false)], args := [d1, d2] }
  | _ => none }
def ExprBoundsWrongFalsely : Prop := exprBoundsRow.holds Tryd.pinned (OpenSpec.ofChange exprBoundsWrong)

/-- 'wagebooklaw15.EvalNeeds': WHATEVER THE INPUT: true; the input reads as it did. -/
def evalNeedsSpec : ChangeSpec := { name := "evalNeeds", fn := fun _ => fun
  | [d] => { results := [.lit (.bool true)], args := [d] }
  | _ => none }
def evalNeedsRow : OpenClaim := { program := "ythekpjhffciakaadoor", sum := "63e29096ece5b892782dbf21a868d853d15983681d1fcc287b65aee032149f59", func := "wagebook/wagebooklaw15.EvalNeeds", spec := "evalNeeds", unfollowed := true, recurses := true, named := ["wagebook/expr.kidsOf", "math/bits.divideError", "math/bits.overflowError"], apart := false, laid := [("wagebook/expr.kidsOf", laid_wagebook_expr_kidsOf)] }
def EvalNeedsSaid : Prop := evalNeedsRow.holds Tryd.pinned (OpenSpec.ofChange evalNeedsSpec)

/-- ITS FALSE NEIGHBOUR: 'it returns false'. Refute it at one input. -/
def evalNeedsWrong : ChangeSpec := { name := "evalNeeds", fn := fun _ => fun
  | [d] => { results := [.lit (.bool false)], args := [d] }
  | _ => none }
def EvalNeedsWrongFalsely : Prop := evalNeedsRow.holds Tryd.pinned (OpenSpec.ofChange evalNeedsWrong)

/-- 'wagebooklaw15.EvalTurns': WHATEVER THE INPUT: true; the input reads as it did. -/
def evalTurnsSpec : ChangeSpec := { name := "evalTurns", fn := fun _ => fun
  | [d1, d2, d3] => { results := [.lit (.bool true)], args := [d1, d2, d3] }
  | _ => none }
def evalTurnsRow : OpenClaim := { program := "ythekpjhffciakaadoor", sum := "63e29096ece5b892782dbf21a868d853d15983681d1fcc287b65aee032149f59", func := "wagebook/wagebooklaw15.EvalTurns", spec := "evalTurns", unfollowed := true, recurses := true, named := ["wagebook/expr.kidsOf", "math/bits.divideError", "math/bits.overflowError"], apart := false, laid := [("wagebook/expr.kidsOf", laid_wagebook_expr_kidsOf)] }
def EvalTurnsSaid : Prop := evalTurnsRow.holds Tryd.pinned (OpenSpec.ofChange evalTurnsSpec)

/-- ITS FALSE NEIGHBOUR: 'it returns false'. Refute it at one input. -/
def evalTurnsWrong : ChangeSpec := { name := "evalTurns", fn := fun _ => fun
  | [d1, d2, d3] => { results := [.lit (.bool false)], args := [d1, d2, d3] }
  | _ => none }
def EvalTurnsWrongFalsely : Prop := evalTurnsRow.holds Tryd.pinned (OpenSpec.ofChange evalTurnsWrong)

/-- 'wagebooklaw13.ExprVars': WHATEVER THE INPUT: true; the input reads as it did. -/
def exprVarsSpec : ChangeSpec := { name := "exprVars", fn := fun _ => fun
  | [d1, d2] => { results := [.lit (.bool true)], args := [d1, d2] }
  | _ => none }
def exprVarsRow : OpenClaim := { program := "ythekpjhffciakaadoor", sum := "63e29096ece5b892782dbf21a868d853d15983681d1fcc287b65aee032149f59", func := "wagebook/wagebooklaw13.ExprVars", spec := "exprVars", inPlace := ["internal/bytealg.IndexByteString", "internal/bytealg.IndexString", "internal/bytealg.CountString"], unfollowed := true, recurses := true, named := ["internal/bytealg.MaxLen", "wagebook/expr.words", "wagebook/expr.kidsOf"], apart := false, laid := [("wagebook/expr.kidsOf", laid_wagebook_expr_kidsOf), ("wagebook/expr.words", laid_wagebook_expr_words)] }
def ExprVarsSaid : Prop := exprVarsRow.holds Tryd.pinned (OpenSpec.ofChange exprVarsSpec)

/-- ITS FALSE NEIGHBOUR: 'it returns false'. Refute it at one input. -/
def exprVarsWrong : ChangeSpec := { name := "exprVars", fn := fun _ => fun
  | [d1, d2] => { results := [.lit (.bool false)], args := [d1, d2] }
  | _ => none }
def ExprVarsWrongFalsely : Prop := exprVarsRow.holds Tryd.pinned (OpenSpec.ofChange exprVarsWrong)

/-- 'wagebooklaw13.ExprChecks': WHATEVER THE INPUT: true; the input reads as it did. -/
def exprChecksSpec : ChangeSpec := { name := "exprChecks", fn := fun _ => fun
  | [d] => { results := [.lit (.bool true)], args := [d] }
  | _ => none }
def exprChecksRow : OpenClaim := { program := "ythekpjhffciakaadoor", sum := "63e29096ece5b892782dbf21a868d853d15983681d1fcc287b65aee032149f59", func := "wagebook/wagebooklaw13.ExprChecks", spec := "exprChecks", inPlace := ["internal/bytealg.IndexByteString", "internal/bytealg.IndexString", "internal/bytealg.CountString"], unfollowed := true, recurses := true, named := ["internal/bytealg.MaxLen", "wagebook/expr.words", "wagebook/expr.kidsOf"], apart := false, laid := [("wagebook/expr.kidsOf", laid_wagebook_expr_kidsOf), ("wagebook/expr.words", laid_wagebook_expr_words)] }
def ExprChecksSaid : Prop := exprChecksRow.holds Tryd.pinned (OpenSpec.ofChange exprChecksSpec)

/-- ITS FALSE NEIGHBOUR: 'it returns false'. Refute it at one input. -/
def exprChecksWrong : ChangeSpec := { name := "exprChecks", fn := fun _ => fun
  | [d] => { results := [.lit (.bool false)], args := [d] }
  | _ => none }
def ExprChecksWrongFalsely : Prop := exprChecksRow.holds Tryd.pinned (OpenSpec.ofChange exprChecksWrong)

/- THE SECOND FORM. 'bulk': how many values and letters a reading holds, each counted each time it is reached (what is shared counts as often as it is met; a slice's spare places count too). A statement '..UptoSaid' is the law's where the arguments, and the package variables that the reading takes, are together of bulk at most 1048576: NARROWER than '..Said'. Prove '..Said' where nothing that the law and all that it calls make is longer than what came in: it says more and counts as full. Else prove '..UptoSaid'. A law counts once. -/
mutual
def uptoBulk {H : Type} : DataW H → Nat
  | .lit (.string bytes) => bytes.length + 1
  | .lit _ => 1
  | .nil => 1
  | .ptr d => uptoBulk d + 1
  | .slice elems spare => uptoBulkAll elems + uptoBulkAll spare + 1
  | .agg parts => uptoBulkAll parts + 1
  | .iface _ d => uptoBulk d + 1
  | .map entries => uptoBulkEntries entries + 1
  | .held _ => 1
def uptoBulkAll {H : Type} : List (DataW H) → Nat
  | [] => 0
  | d :: r => uptoBulk d + uptoBulkAll r
def uptoBulkEntries {H : Type} : List (Lit × DataW H) → Nat
  | [] => 0
  | x :: r => uptoBulkEntry x + uptoBulkEntries r
def uptoBulkEntry {H : Type} : Lit × DataW H → Nat
  | (.string bytes, d) => bytes.length + uptoBulk d + 1
  | (_, d) => uptoBulk d + 1
 end
def uptoSmall : (H : Type) → List (DataW H) → Bool := fun _ ds => decide (uptoBulkAll ds ≤ 1048576)
def OpenSpec.upto (s : _root_.Go.ChangeSpec) : _root_.Go.OpenSpec := { _root_.Go.OpenSpec.ofChange s with cond := some uptoSmall }

/-- 'wagebooklaw15.EvalSwaps', WHERE WHAT IT READS IS OF BULK AT MOST 1048576: true; the input reads as it did. -/
def evalSwapsUptoRow : OpenClaim := { program := "ythekpjhffciakaadoor", sum := "63e29096ece5b892782dbf21a868d853d15983681d1fcc287b65aee032149f59", func := "wagebook/wagebooklaw15.EvalSwaps", spec := "evalSwaps", unfollowed := true, recurses := true, named := ["wagebook/expr.kidsOf", "math/bits.divideError", "math/bits.overflowError"], apart := false, laid := [("wagebook/expr.kidsOf", laid_wagebook_expr_kidsOf)], narrowed := true }
def EvalSwapsUptoSaid : Prop := evalSwapsUptoRow.holds Tryd.pinned (OpenSpec.upto evalSwapsSpec)

/-- 'wagebooklaw15.EvalReads', WHERE WHAT IT READS IS OF BULK AT MOST 1048576: true; the input reads as it did. -/
def evalReadsUptoRow : OpenClaim := { program := "ythekpjhffciakaadoor", sum := "63e29096ece5b892782dbf21a868d853d15983681d1fcc287b65aee032149f59", func := "wagebook/wagebooklaw15.EvalReads", spec := "evalReads", unfollowed := true, recurses := true, named := ["wagebook/expr.kidsOf", "math/bits.divideError", "math/bits.overflowError"], apart := false, laid := [("wagebook/expr.kidsOf", laid_wagebook_expr_kidsOf)], narrowed := true }
def EvalReadsUptoSaid : Prop := evalReadsUptoRow.holds Tryd.pinned (OpenSpec.upto evalReadsSpec)

/-- 'wagebooklaw13.ExprParses', WHERE WHAT IT READS IS OF BULK AT MOST 1048576: true; the input reads as it did. -/
def exprParsesUptoRow : OpenClaim := { program := "ythekpjhffciakaadoor", sum := "63e29096ece5b892782dbf21a868d853d15983681d1fcc287b65aee032149f59", func := "wagebook/wagebooklaw13.ExprParses", spec := "exprParses", inPlace := ["internal/bytealg.IndexByteString", "internal/bytealg.IndexString", "internal/bytealg.CountString"], unfollowed := true, recurses := true, named := ["internal/bytealg.MaxLen", "wagebook/expr.words", "wagebook/expr.kidsOf"], apart := false, laid := [("wagebook/expr.kidsOf", laid_wagebook_expr_kidsOf), ("wagebook/expr.words", laid_wagebook_expr_words)], narrowed := true }
def ExprParsesUptoSaid : Prop := exprParsesUptoRow.holds Tryd.pinned (OpenSpec.upto exprParsesSpec)

/-- 'wagebooklaw13.ExprTexts', WHERE WHAT IT READS IS OF BULK AT MOST 1048576: true; the input reads as it did. -/
def exprTextsUptoRow : OpenClaim := { program := "ythekpjhffciakaadoor", sum := "63e29096ece5b892782dbf21a868d853d15983681d1fcc287b65aee032149f59", func := "wagebook/wagebooklaw13.ExprTexts", spec := "exprTexts", inPlace := ["internal/bytealg.IndexByteString", "internal/bytealg.IndexString", "internal/bytealg.CountString"], unfollowed := true, recurses := true, named := ["internal/bytealg.MaxLen", "wagebook/expr.words", "wagebook/expr.kidsOf"], apart := false, laid := [("wagebook/expr.kidsOf", laid_wagebook_expr_kidsOf), ("wagebook/expr.words", laid_wagebook_expr_words)], narrowed := true }
def ExprTextsUptoSaid : Prop := exprTextsUptoRow.holds Tryd.pinned (OpenSpec.upto exprTextsSpec)

/-- 'wagebooklaw13.ExprBrackets', WHERE WHAT IT READS IS OF BULK AT MOST 1048576: true; the input reads as it did. -/
def exprBracketsUptoRow : OpenClaim := { program := "ythekpjhffciakaadoor", sum := "63e29096ece5b892782dbf21a868d853d15983681d1fcc287b65aee032149f59", func := "wagebook/wagebooklaw13.ExprBrackets", spec := "exprBrackets", inPlace := ["internal/bytealg.IndexByteString", "internal/bytealg.IndexString", "internal/bytealg.CountString"], unfollowed := true, recurses := true, named := ["internal/bytealg.MaxLen", "wagebook/expr.words", "wagebook/expr.kidsOf"], apart := false, laid := [("wagebook/expr.kidsOf", laid_wagebook_expr_kidsOf), ("wagebook/expr.words", laid_wagebook_expr_words)], narrowed := true }
def ExprBracketsUptoSaid : Prop := exprBracketsUptoRow.holds Tryd.pinned (OpenSpec.upto exprBracketsSpec)

/-- 'wagebooklaw13.ExprBounds', WHERE WHAT IT READS IS OF BULK AT MOST 1048576: true; the input reads as it did. -/
def exprBoundsUptoRow : OpenClaim := { program := "ythekpjhffciakaadoor", sum := "63e29096ece5b892782dbf21a868d853d15983681d1fcc287b65aee032149f59", func := "wagebook/wagebooklaw13.ExprBounds", spec := "exprBounds", inPlace := ["internal/bytealg.IndexByteString", "internal/bytealg.IndexString", "internal/bytealg.CountString"], unfollowed := true, recurses := true, named := ["internal/bytealg.MaxLen", "wagebook/expr.words", "wagebook/expr.kidsOf"], apart := false, laid := [("wagebook/expr.kidsOf", laid_wagebook_expr_kidsOf), ("wagebook/expr.words", laid_wagebook_expr_words)], narrowed := true }
def ExprBoundsUptoSaid : Prop := exprBoundsUptoRow.holds Tryd.pinned (OpenSpec.upto exprBoundsSpec)

/-- 'wagebooklaw15.EvalNeeds', WHERE WHAT IT READS IS OF BULK AT MOST 1048576: true; the input reads as it did. -/
def evalNeedsUptoRow : OpenClaim := { program := "ythekpjhffciakaadoor", sum := "63e29096ece5b892782dbf21a868d853d15983681d1fcc287b65aee032149f59", func := "wagebook/wagebooklaw15.EvalNeeds", spec := "evalNeeds", unfollowed := true, recurses := true, named := ["wagebook/expr.kidsOf", "math/bits.divideError", "math/bits.overflowError"], apart := false, laid := [("wagebook/expr.kidsOf", laid_wagebook_expr_kidsOf)], narrowed := true }
def EvalNeedsUptoSaid : Prop := evalNeedsUptoRow.holds Tryd.pinned (OpenSpec.upto evalNeedsSpec)

/-- 'wagebooklaw15.EvalTurns', WHERE WHAT IT READS IS OF BULK AT MOST 1048576: true; the input reads as it did. -/
def evalTurnsUptoRow : OpenClaim := { program := "ythekpjhffciakaadoor", sum := "63e29096ece5b892782dbf21a868d853d15983681d1fcc287b65aee032149f59", func := "wagebook/wagebooklaw15.EvalTurns", spec := "evalTurns", unfollowed := true, recurses := true, named := ["wagebook/expr.kidsOf", "math/bits.divideError", "math/bits.overflowError"], apart := false, laid := [("wagebook/expr.kidsOf", laid_wagebook_expr_kidsOf)], narrowed := true }
def EvalTurnsUptoSaid : Prop := evalTurnsUptoRow.holds Tryd.pinned (OpenSpec.upto evalTurnsSpec)

/-- 'wagebooklaw13.ExprVars', WHERE WHAT IT READS IS OF BULK AT MOST 1048576: true; the input reads as it did. -/
def exprVarsUptoRow : OpenClaim := { program := "ythekpjhffciakaadoor", sum := "63e29096ece5b892782dbf21a868d853d15983681d1fcc287b65aee032149f59", func := "wagebook/wagebooklaw13.ExprVars", spec := "exprVars", inPlace := ["internal/bytealg.IndexByteString", "internal/bytealg.IndexString", "internal/bytealg.CountString"], unfollowed := true, recurses := true, named := ["internal/bytealg.MaxLen", "wagebook/expr.words", "wagebook/expr.kidsOf"], apart := false, laid := [("wagebook/expr.kidsOf", laid_wagebook_expr_kidsOf), ("wagebook/expr.words", laid_wagebook_expr_words)], narrowed := true }
def ExprVarsUptoSaid : Prop := exprVarsUptoRow.holds Tryd.pinned (OpenSpec.upto exprVarsSpec)

/-- 'wagebooklaw13.ExprChecks', WHERE WHAT IT READS IS OF BULK AT MOST 1048576: true; the input reads as it did. -/
def exprChecksUptoRow : OpenClaim := { program := "ythekpjhffciakaadoor", sum := "63e29096ece5b892782dbf21a868d853d15983681d1fcc287b65aee032149f59", func := "wagebook/wagebooklaw13.ExprChecks", spec := "exprChecks", inPlace := ["internal/bytealg.IndexByteString", "internal/bytealg.IndexString", "internal/bytealg.CountString"], unfollowed := true, recurses := true, named := ["internal/bytealg.MaxLen", "wagebook/expr.words", "wagebook/expr.kidsOf"], apart := false, laid := [("wagebook/expr.kidsOf", laid_wagebook_expr_kidsOf), ("wagebook/expr.words", laid_wagebook_expr_words)], narrowed := true }
def ExprChecksUptoSaid : Prop := exprChecksUptoRow.holds Tryd.pinned (OpenSpec.upto exprChecksSpec)

end Rows
end Go.Proofs.YthekpjhffciakaaDoor
