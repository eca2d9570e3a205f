/-
  No cell of these rows narrows 'for every input' (looked for: loops, veiled, ifaces, maps, wideKeys, modest, calm, conditions, laid).
  DERIVED. THE GIVEN ROWS OF THIS SEAT. 5 by the template 'for every input the law returns true; each argument reads behind the call as it read before'; 0 by the template 'total and deterministic' (their statements: YtbbfjkjgboljkaaTotals.lean).
  GIVEN WITH THE SEED: the statements are not yours to turn. If you find one false, say at which input.
  Laid BY PROGRAM, IN A SANDBOX (cutbox-rows.mjs): the forced cells as the released guide's own fill.sh prints them over the translation c524edf215655b20… (all of the seat's roots in one cut). By AI agents, Wed Nov 11 2026. No macro, syntax, notation, axiom, sorry.
-/
import Derived.Test.YtbbfjkjgboljkaaChecked
import GoSem.Claim
import GoSem.ClaimJoined
import GoSem.ClaimMapViews
import Derived.JoinedTies
import Derived.KernelRfl
namespace Go.Proofs.Ytbbfjkjgboljkaa
/- THE CELL 'sum', in the pinned program and in every row, IS THE sha256 OF THE DUMP (.gsa) THAT YtbbfjkjgboljkaaProg.lean LOADS. Nothing in Lean hashes anything: it is a label: what it is worth is what the hold of that sum in a sandbox is worth. -/
noncomputable def Try.pinned : Pinned := { name := "ytbbfjkjgboljkaa", sum := "c524edf215655b20ecbee9176211fd29d452ffc2b58c4f27b77540b533b461e6", checked := Try.checked }
namespace Rows
def none {H : Type} : Left H := { results := [], args := [] }

/-- 'wagebooklaw12.LexJoins': WHATEVER THE INPUT: true; the input reads as it did. -/
def lexJoinsSpec : ChangeSpec := { name := "lexJoins", fn := fun _ => fun
  | [d1, d2] => { results := [.lit (.bool true)], args := [d1, d2] }
  | _ => none }
def lexJoinsRow : OpenClaim := { program := "ytbbfjkjgboljkaa", sum := "c524edf215655b20ecbee9176211fd29d452ffc2b58c4f27b77540b533b461e6", func := "wagebook/wagebooklaw12.LexJoins", spec := "lexJoins", inPlace := ["internal/bytealg.IndexByteString", "internal/bytealg.IndexString", "internal/bytealg.CountString"], unfollowed := true, recurses := true, named := ["internal/bytealg.MaxLen"], apart := false }
def LexJoinsSaid : Prop := lexJoinsRow.holds Try.pinned (OpenSpec.ofChange lexJoinsSpec)

/-- ITS FALSE NEIGHBOUR: 'it returns false'. Refute it at one input. -/
def lexJoinsWrong : ChangeSpec := { name := "lexJoins", fn := fun _ => fun
  | [d1, d2] => { results := [.lit (.bool false)], args := [d1, d2] }
  | _ => none }
def LexJoinsWrongFalsely : Prop := lexJoinsRow.holds Try.pinned (OpenSpec.ofChange lexJoinsWrong)

/-- 'wagebooklaw12.LexTells': WHATEVER THE INPUT: true; the input reads as it did. -/
def lexTellsSpec : ChangeSpec := { name := "lexTells", fn := fun _ => fun
  | [d] => { results := [.lit (.bool true)], args := [d] }
  | _ => none }
def lexTellsRow : OpenClaim := { program := "ytbbfjkjgboljkaa", sum := "c524edf215655b20ecbee9176211fd29d452ffc2b58c4f27b77540b533b461e6", func := "wagebook/wagebooklaw12.LexTells", spec := "lexTells", inPlace := ["internal/bytealg.IndexByteString", "internal/bytealg.IndexString", "internal/bytealg.CountString"], unfollowed := true, recurses := true, named := ["internal/bytealg.MaxLen"], apart := false }
def LexTellsSaid : Prop := lexTellsRow.holds Try.pinned (OpenSpec.ofChange lexTellsSpec)

/-- ITS FALSE NEIGHBOUR: 'it returns false'. Refute it at one input. -/
def lexTellsWrong : ChangeSpec := { name := "lexTells", fn := fun _ => fun
  | [d] => { results := [.lit (.bool false)], args := [d] }
  | _ => none }
def LexTellsWrongFalsely : Prop := lexTellsRow.holds Try.pinned (OpenSpec.ofChange lexTellsWrong)

/-- 'wagebooklaw12.LexParts': WHATEVER THE INPUT: true; the input reads as it did. -/
def lexPartsSpec : ChangeSpec := { name := "lexParts", fn := fun _ => fun
  | [d] => { results := [.lit (.bool true)], args := [d] }
  | _ => none }
def lexPartsRow : OpenClaim := { program := "ytbbfjkjgboljkaa", sum := "c524edf215655b20ecbee9176211fd29d452ffc2b58c4f27b77540b533b461e6", func := "wagebook/wagebooklaw12.LexParts", spec := "lexParts", inPlace := ["internal/bytealg.IndexByteString", "internal/bytealg.IndexString", "internal/bytealg.CountString"], unfollowed := true, recurses := true, named := ["internal/bytealg.MaxLen"], apart := false }
def LexPartsSaid : Prop := lexPartsRow.holds Try.pinned (OpenSpec.ofChange lexPartsSpec)

/-- ITS FALSE NEIGHBOUR: 'it returns false'. Refute it at one input. -/
def lexPartsWrong : ChangeSpec := { name := "lexParts", fn := fun _ => fun
  | [d] => { results := [.lit (.bool false)], args := [d] }
  | _ => none }
def LexPartsWrongFalsely : Prop := lexPartsRow.holds Try.pinned (OpenSpec.ofChange lexPartsWrong)

/-- 'wagebooklaw12.LexLong': WHATEVER THE INPUT: true; the input reads as it did. -/
def lexLongSpec : ChangeSpec := { name := "lexLong", fn := fun _ => fun
  | [d1, d2] => { results := [.lit (.bool true)], args := [d1, d2] }
  | _ => none }
def lexLongRow : OpenClaim := { program := "ytbbfjkjgboljkaa", sum := "c524edf215655b20ecbee9176211fd29d452ffc2b58c4f27b77540b533b461e6", func := "wagebook/wagebooklaw12.LexLong", spec := "lexLong", inPlace := ["internal/bytealg.IndexByteString", "internal/bytealg.IndexString", "internal/bytealg.CountString"], unfollowed := true, recurses := true, named := ["internal/bytealg.MaxLen"], apart := false }
def LexLongSaid : Prop := lexLongRow.holds Try.pinned (OpenSpec.ofChange lexLongSpec)

/-- ITS FALSE NEIGHBOUR: 'it returns false'. Refute it at one input. -/
def lexLongWrong : ChangeSpec := { name := "lexLong", fn := fun _ => fun
  | [d1, d2] => { results := [.lit (.bool false)], args := [d1, d2] }
  | _ => none }
def LexLongWrongFalsely : Prop := lexLongRow.holds Try.pinned (OpenSpec.ofChange lexLongWrong)

/-- 'wagebooklaw12.LexPlaces': WHATEVER THE INPUT: true; the input reads as it did. -/
def lexPlacesSpec : ChangeSpec := { name := "lexPlaces", fn := fun _ => fun
  | [d] => { results := [.lit (.bool true)], args := [d] }
  | _ => none }
def lexPlacesRow : OpenClaim := { program := "ytbbfjkjgboljkaa", sum := "c524edf215655b20ecbee9176211fd29d452ffc2b58c4f27b77540b533b461e6", func := "wagebook/wagebooklaw12.LexPlaces", spec := "lexPlaces", inPlace := ["internal/bytealg.IndexByteString", "internal/bytealg.IndexString", "internal/bytealg.CountString"], unfollowed := true, recurses := true, named := ["internal/bytealg.MaxLen"], apart := false }
def LexPlacesSaid : Prop := lexPlacesRow.holds Try.pinned (OpenSpec.ofChange lexPlacesSpec)

/-- ITS FALSE NEIGHBOUR: 'it returns false'. Refute it at one input. -/
def lexPlacesWrong : ChangeSpec := { name := "lexPlaces", fn := fun _ => fun
  | [d] => { results := [.lit (.bool false)], args := [d] }
  | _ => none }
def LexPlacesWrongFalsely : Prop := lexPlacesRow.holds Try.pinned (OpenSpec.ofChange lexPlacesWrong)

/- THE SECOND FORM. 'bulk': how many values and letters a reading holds, each counted each time it is reached (what is shared counts as often as it is met; a slice's spare places count too). A statement '..UptoSaid' is the law's where the arguments, and the package variables that the reading takes, are together of bulk at most 1048576: NARROWER than '..Said'. Prove '..Said' where nothing that the law and all that it calls make is longer than what came in: it says more and counts as full. Else prove '..UptoSaid'. A law counts once. -/
mutual
def uptoBulk {H : Type} : DataW H → Nat
  | .lit (.string bytes) => bytes.length + 1
  | .lit _ => 1
  | .nil => 1
  | .ptr d => uptoBulk d + 1
  | .slice elems spare => uptoBulkAll elems + uptoBulkAll spare + 1
  | .agg parts => uptoBulkAll parts + 1
  | .iface _ d => uptoBulk d + 1
  | .map entries => uptoBulkEntries entries + 1
  | .held _ => 1
def uptoBulkAll {H : Type} : List (DataW H) → Nat
  | [] => 0
  | d :: r => uptoBulk d + uptoBulkAll r
def uptoBulkEntries {H : Type} : List (Lit × DataW H) → Nat
  | [] => 0
  | x :: r => uptoBulkEntry x + uptoBulkEntries r
def uptoBulkEntry {H : Type} : Lit × DataW H → Nat
  | (.string bytes, d) => bytes.length + uptoBulk d + 1
  | (_, d) => uptoBulk d + 1
 end
def uptoSmall : (H : Type) → List (DataW H) → Bool := fun _ ds => decide (uptoBulkAll ds ≤ 1048576)
def OpenSpec.upto (s : _root_.Go.ChangeSpec) : _root_.Go.OpenSpec := { _root_.Go.OpenSpec.ofChange s with cond := some uptoSmall }

/-- 'wagebooklaw12.LexJoins', WHERE WHAT IT READS IS OF BULK AT MOST 1048576: true; the input reads as it did. -/
def lexJoinsUptoRow : OpenClaim := { program := "ytbbfjkjgboljkaa", sum := "c524edf215655b20ecbee9176211fd29d452ffc2b58c4f27b77540b533b461e6", func := "wagebook/wagebooklaw12.LexJoins", spec := "lexJoins", inPlace := ["internal/bytealg.IndexByteString", "internal/bytealg.IndexString", "internal/bytealg.CountString"], unfollowed := true, recurses := true, named := ["internal/bytealg.MaxLen"], apart := false, narrowed := true }
def LexJoinsUptoSaid : Prop := lexJoinsUptoRow.holds Try.pinned (OpenSpec.upto lexJoinsSpec)

/-- 'wagebooklaw12.LexTells', WHERE WHAT IT READS IS OF BULK AT MOST 1048576: true; the input reads as it did. -/
def lexTellsUptoRow : OpenClaim := { program := "ytbbfjkjgboljkaa", sum := "c524edf215655b20ecbee9176211fd29d452ffc2b58c4f27b77540b533b461e6", func := "wagebook/wagebooklaw12.LexTells", spec := "lexTells", inPlace := ["internal/bytealg.IndexByteString", "internal/bytealg.IndexString", "internal/bytealg.CountString"], unfollowed := true, recurses := true, named := ["internal/bytealg.MaxLen"], apart := false, narrowed := true }
def LexTellsUptoSaid : Prop := lexTellsUptoRow.holds Try.pinned (OpenSpec.upto lexTellsSpec)

/-- 'wagebooklaw12.LexParts', WHERE WHAT IT READS IS OF BULK AT MOST 1048576: true; the input reads as it did. -/
def lexPartsUptoRow : OpenClaim := { program := "ytbbfjkjgboljkaa", sum := "c524edf215655b20ecbee9176211fd29d452ffc2b58c4f27b77540b533b461e6", func := "wagebook/wagebooklaw12.LexParts", spec := "lexParts", inPlace := ["internal/bytealg.IndexByteString", "internal/bytealg.IndexString", "internal/bytealg.CountString"], unfollowed := true, recurses := true, named := ["internal/bytealg.MaxLen"], apart := false, narrowed := true }
def LexPartsUptoSaid : Prop := lexPartsUptoRow.holds Try.pinned (OpenSpec.upto lexPartsSpec)

/-- 'wagebooklaw12.LexLong', WHERE WHAT IT READS IS OF BULK AT MOST 1048576: true; the input reads as it did. -/
def lexLongUptoRow : OpenClaim := { program := "ytbbfjkjgboljkaa", sum := "c524edf215655b20ecbee9176211fd29d452ffc2b58c4f27b77540b533b461e6", func := "wagebook/wagebooklaw12.LexLong", spec := "lexLong", inPlace := ["internal/bytealg.IndexByteString", "internal/bytealg.IndexString", "internal/bytealg.CountString"], unfollowed := true, recurses := true, named := ["internal/bytealg.MaxLen"], apart := false, narrowed := true }
def LexLongUptoSaid : Prop := lexLongUptoRow.holds Try.pinned (OpenSpec.upto lexLongSpec)

/-- 'wagebooklaw12.LexPlaces', WHERE WHAT IT READS IS OF BULK AT MOST 1048576: true; the input reads as it did. -/
def lexPlacesUptoRow : OpenClaim := { program := "ytbbfjkjgboljkaa", sum := "c524edf215655b20ecbee9176211fd29d452ffc2b58c4f27b77540b533b461e6", func := "wagebook/wagebooklaw12.LexPlaces", spec := "lexPlaces", inPlace := ["internal/bytealg.IndexByteString", "internal/bytealg.IndexString", "internal/bytealg.CountString"], unfollowed := true, recurses := true, named := ["internal/bytealg.MaxLen"], apart := false, narrowed := true }
def LexPlacesUptoSaid : Prop := lexPlacesUptoRow.holds Try.pinned (OpenSpec.upto lexPlacesSpec)

end Rows
end Go.Proofs.Ytbbfjkjgboljkaa
