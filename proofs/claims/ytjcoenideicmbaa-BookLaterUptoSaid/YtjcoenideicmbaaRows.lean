/-
  No cell of these rows narrows 'for every input' (looked for: loops, veiled, ifaces, maps, wideKeys, modest, calm, conditions, laid).
  DERIVED. THE GIVEN ROWS OF THIS SEAT. 14 by the template 'for every input the law returns true; each argument reads behind the call as it read before'; 0 by the template 'total and deterministic' (their statements: YtjcoenideicmbaaTotals.lean).
  GIVEN WITH THE SEED: the statements are not yours to turn. If you find one false, say at which input.
  Laid BY PROGRAM, IN A SANDBOX (cutbox-rows.mjs): the forced cells as the released guide's own fill.sh prints them over the translation 902ce2fe0e615c7c… (all of the seat's roots in one cut). By AI agents, Wed Nov 11 2026. No macro, syntax, notation, axiom, sorry.
-/
import Derived.Test.YtjcoenideicmbaaChecked
import GoSem.Claim
import GoSem.ClaimJoined
import GoSem.ClaimMapViews
import Derived.JoinedTies
import Derived.KernelRfl
namespace Go.Proofs.Ytjcoenideicmbaa
/- THE CELL 'sum', in the pinned program and in every row, IS THE sha256 OF THE DUMP (.gsa) THAT YtjcoenideicmbaaProg.lean LOADS. Nothing in Lean hashes anything: it is a label: what it is worth is what the hold of that sum in a sandbox is worth. -/
noncomputable def Try.pinned : Pinned := { name := "ytjcoenideicmbaa", sum := "902ce2fe0e615c7cf77e5ca99a425a0782b04ab78d43ec461a312270d73653a0", checked := Try.checked }
namespace Rows
def none {H : Type} : Left H := { results := [], args := [] }

/-- 'wagebooklaw10.LineOver': WHATEVER THE INPUT: true; the input reads as it did. -/
def lineOverSpec : ChangeSpec := { name := "lineOver", fn := fun _ => fun
  | [d1, d2, d3] => { results := [.lit (.bool true)], args := [d1, d2, d3] }
  | _ => none }
def lineOverRow : OpenClaim := { program := "ytjcoenideicmbaa", sum := "902ce2fe0e615c7cf77e5ca99a425a0782b04ab78d43ec461a312270d73653a0", func := "wagebook/wagebooklaw10.LineOver", spec := "lineOver", unfollowed := true, recurses := true, apart := false }
def LineOverSaid : Prop := lineOverRow.holds Try.pinned (OpenSpec.ofChange lineOverSpec)

/-- ITS FALSE NEIGHBOUR: 'it returns false'. Refute it at one input. -/
def lineOverWrong : ChangeSpec := { name := "lineOver", fn := fun _ => fun
  | [d1, d2, d3] => { results := [.lit (.bool false)], args := [d1, d2, d3] }
  | _ => none }
def LineOverWrongFalsely : Prop := lineOverRow.holds Try.pinned (OpenSpec.ofChange lineOverWrong)

/-- 'wagebooklaw10.LineOrder': WHATEVER THE INPUT: true; the input reads as it did. -/
def lineOrderSpec : ChangeSpec := { name := "lineOrder", fn := fun _ => fun
  | [d1, d2, d3] => { results := [.lit (.bool true)], args := [d1, d2, d3] }
  | _ => none }
def lineOrderRow : OpenClaim := { program := "ytjcoenideicmbaa", sum := "902ce2fe0e615c7cf77e5ca99a425a0782b04ab78d43ec461a312270d73653a0", func := "wagebook/wagebooklaw10.LineOrder", spec := "lineOrder", unfollowed := true, recurses := true, apart := false }
def LineOrderSaid : Prop := lineOrderRow.holds Try.pinned (OpenSpec.ofChange lineOrderSpec)

/-- ITS FALSE NEIGHBOUR: 'it returns false'. Refute it at one input. -/
def lineOrderWrong : ChangeSpec := { name := "lineOrder", fn := fun _ => fun
  | [d1, d2, d3] => { results := [.lit (.bool false)], args := [d1, d2, d3] }
  | _ => none }
def LineOrderWrongFalsely : Prop := lineOrderRow.holds Try.pinned (OpenSpec.ofChange lineOrderWrong)

/-- 'wagebooklaw10.LineCuts': WHATEVER THE INPUT: true; the input reads as it did. -/
def lineCutsSpec : ChangeSpec := { name := "lineCuts", fn := fun _ => fun
  | [d1, d2, d3] => { results := [.lit (.bool true)], args := [d1, d2, d3] }
  | _ => none }
def lineCutsRow : OpenClaim := { program := "ytjcoenideicmbaa", sum := "902ce2fe0e615c7cf77e5ca99a425a0782b04ab78d43ec461a312270d73653a0", func := "wagebook/wagebooklaw10.LineCuts", spec := "lineCuts", unfollowed := true, recurses := true, apart := false }
def LineCutsSaid : Prop := lineCutsRow.holds Try.pinned (OpenSpec.ofChange lineCutsSpec)

/-- ITS FALSE NEIGHBOUR: 'it returns false'. Refute it at one input. -/
def lineCutsWrong : ChangeSpec := { name := "lineCuts", fn := fun _ => fun
  | [d1, d2, d3] => { results := [.lit (.bool false)], args := [d1, d2, d3] }
  | _ => none }
def LineCutsWrongFalsely : Prop := lineCutsRow.holds Try.pinned (OpenSpec.ofChange lineCutsWrong)

/-- 'wagebooklaw10.LineAt': WHATEVER THE INPUT: true; the input reads as it did. -/
def lineAtSpec : ChangeSpec := { name := "lineAt", fn := fun _ => fun
  | [d1, d2] => { results := [.lit (.bool true)], args := [d1, d2] }
  | _ => none }
def lineAtRow : OpenClaim := { program := "ytjcoenideicmbaa", sum := "902ce2fe0e615c7cf77e5ca99a425a0782b04ab78d43ec461a312270d73653a0", func := "wagebook/wagebooklaw10.LineAt", spec := "lineAt", unfollowed := true, recurses := true, apart := false }
def LineAtSaid : Prop := lineAtRow.holds Try.pinned (OpenSpec.ofChange lineAtSpec)

/-- ITS FALSE NEIGHBOUR: 'it returns false'. Refute it at one input. -/
def lineAtWrong : ChangeSpec := { name := "lineAt", fn := fun _ => fun
  | [d1, d2] => { results := [.lit (.bool false)], args := [d1, d2] }
  | _ => none }
def LineAtWrongFalsely : Prop := lineAtRow.holds Try.pinned (OpenSpec.ofChange lineAtWrong)

/-- 'wagebooklaw10.LineLater': WHATEVER THE INPUT: true; the input reads as it did. -/
def lineLaterSpec : ChangeSpec := { name := "lineLater", fn := fun _ => fun
  | [d1, d2, d3] => { results := [.lit (.bool true)], args := [d1, d2, d3] }
  | _ => none }
def lineLaterRow : OpenClaim := { program := "ytjcoenideicmbaa", sum := "902ce2fe0e615c7cf77e5ca99a425a0782b04ab78d43ec461a312270d73653a0", func := "wagebook/wagebooklaw10.LineLater", spec := "lineLater", unfollowed := true, recurses := true, apart := false }
def LineLaterSaid : Prop := lineLaterRow.holds Try.pinned (OpenSpec.ofChange lineLaterSpec)

/-- ITS FALSE NEIGHBOUR: 'it returns false'. Refute it at one input. -/
def lineLaterWrong : ChangeSpec := { name := "lineLater", fn := fun _ => fun
  | [d1, d2, d3] => { results := [.lit (.bool false)], args := [d1, d2, d3] }
  | _ => none }
def LineLaterWrongFalsely : Prop := lineLaterRow.holds Try.pinned (OpenSpec.ofChange lineLaterWrong)

/-- 'wagebooklaw10.LineNums': WHATEVER THE INPUT: true; the input reads as it did. -/
def lineNumsSpec : ChangeSpec := { name := "lineNums", fn := fun _ => fun
  | [d1, d2, d3] => { results := [.lit (.bool true)], args := [d1, d2, d3] }
  | _ => none }
def lineNumsRow : OpenClaim := { program := "ytjcoenideicmbaa", sum := "902ce2fe0e615c7cf77e5ca99a425a0782b04ab78d43ec461a312270d73653a0", func := "wagebook/wagebooklaw10.LineNums", spec := "lineNums", unfollowed := true, recurses := true, apart := false }
def LineNumsSaid : Prop := lineNumsRow.holds Try.pinned (OpenSpec.ofChange lineNumsSpec)

/-- ITS FALSE NEIGHBOUR: 'it returns false'. Refute it at one input. -/
def lineNumsWrong : ChangeSpec := { name := "lineNums", fn := fun _ => fun
  | [d1, d2, d3] => { results := [.lit (.bool false)], args := [d1, d2, d3] }
  | _ => none }
def LineNumsWrongFalsely : Prop := lineNumsRow.holds Try.pinned (OpenSpec.ofChange lineNumsWrong)

/-- 'wagebooklaw10.LineLong': WHATEVER THE INPUT: true; the input reads as it did. -/
def lineLongSpec : ChangeSpec := { name := "lineLong", fn := fun _ => fun
  | [d1, d2] => { results := [.lit (.bool true)], args := [d1, d2] }
  | _ => none }
def lineLongRow : OpenClaim := { program := "ytjcoenideicmbaa", sum := "902ce2fe0e615c7cf77e5ca99a425a0782b04ab78d43ec461a312270d73653a0", func := "wagebook/wagebooklaw10.LineLong", spec := "lineLong", unfollowed := true, recurses := true, apart := false }
def LineLongSaid : Prop := lineLongRow.holds Try.pinned (OpenSpec.ofChange lineLongSpec)

/-- ITS FALSE NEIGHBOUR: 'it returns false'. Refute it at one input. -/
def lineLongWrong : ChangeSpec := { name := "lineLong", fn := fun _ => fun
  | [d1, d2] => { results := [.lit (.bool false)], args := [d1, d2] }
  | _ => none }
def LineLongWrongFalsely : Prop := lineLongRow.holds Try.pinned (OpenSpec.ofChange lineLongWrong)

/-- 'wagebooklaw11.BookNames': WHATEVER THE INPUT: true; the input reads as it did. -/
def bookNamesSpec : ChangeSpec := { name := "bookNames", fn := fun _ => fun
  | [d1, d2, d3] => { results := [.lit (.bool true)], args := [d1, d2, d3] }
  | _ => none }
def bookNamesRow : OpenClaim := { program := "ytjcoenideicmbaa", sum := "902ce2fe0e615c7cf77e5ca99a425a0782b04ab78d43ec461a312270d73653a0", func := "wagebook/wagebooklaw11.BookNames", spec := "bookNames", inPlace := ["internal/bytealg.IndexByteString", "internal/bytealg.IndexString"], recurses := true, named := ["internal/bytealg.MaxLen"], apart := false }
def BookNamesSaid : Prop := bookNamesRow.holds Try.pinned (OpenSpec.ofChange bookNamesSpec)

/-- ITS FALSE NEIGHBOUR: 'it returns false'. Refute it at one input. -/
def bookNamesWrong : ChangeSpec := { name := "bookNames", fn := fun _ => fun
  | [d1, d2, d3] => { results := [.lit (.bool false)], args := [d1, d2, d3] }
  | _ => none }
def BookNamesWrongFalsely : Prop := bookNamesRow.holds Try.pinned (OpenSpec.ofChange bookNamesWrong)

/-- 'wagebooklaw11.BookOrder': WHATEVER THE INPUT: true; the input reads as it did. -/
def bookOrderSpec : ChangeSpec := { name := "bookOrder", fn := fun _ => fun
  | [d1, d2, d3] => { results := [.lit (.bool true)], args := [d1, d2, d3] }
  | _ => none }
def bookOrderRow : OpenClaim := { program := "ytjcoenideicmbaa", sum := "902ce2fe0e615c7cf77e5ca99a425a0782b04ab78d43ec461a312270d73653a0", func := "wagebook/wagebooklaw11.BookOrder", spec := "bookOrder", inPlace := ["internal/bytealg.IndexByteString", "internal/bytealg.IndexString"], recurses := true, named := ["internal/bytealg.MaxLen"], apart := false }
def BookOrderSaid : Prop := bookOrderRow.holds Try.pinned (OpenSpec.ofChange bookOrderSpec)

/-- ITS FALSE NEIGHBOUR: 'it returns false'. Refute it at one input. -/
def bookOrderWrong : ChangeSpec := { name := "bookOrder", fn := fun _ => fun
  | [d1, d2, d3] => { results := [.lit (.bool false)], args := [d1, d2, d3] }
  | _ => none }
def BookOrderWrongFalsely : Prop := bookOrderRow.holds Try.pinned (OpenSpec.ofChange bookOrderWrong)

/-- 'wagebooklaw11.BookUnder': WHATEVER THE INPUT: true; the input reads as it did. -/
def bookUnderSpec : ChangeSpec := { name := "bookUnder", fn := fun _ => fun
  | [d1, d2, d3] => { results := [.lit (.bool true)], args := [d1, d2, d3] }
  | _ => none }
def bookUnderRow : OpenClaim := { program := "ytjcoenideicmbaa", sum := "902ce2fe0e615c7cf77e5ca99a425a0782b04ab78d43ec461a312270d73653a0", func := "wagebook/wagebooklaw11.BookUnder", spec := "bookUnder", inPlace := ["internal/bytealg.IndexByteString", "internal/bytealg.IndexString"], recurses := true, named := ["internal/bytealg.MaxLen"], apart := false }
def BookUnderSaid : Prop := bookUnderRow.holds Try.pinned (OpenSpec.ofChange bookUnderSpec)

/-- ITS FALSE NEIGHBOUR: 'it returns false'. Refute it at one input. -/
def bookUnderWrong : ChangeSpec := { name := "bookUnder", fn := fun _ => fun
  | [d1, d2, d3] => { results := [.lit (.bool false)], args := [d1, d2, d3] }
  | _ => none }
def BookUnderWrongFalsely : Prop := bookUnderRow.holds Try.pinned (OpenSpec.ofChange bookUnderWrong)

/-- 'wagebooklaw11.BookRight': WHATEVER THE INPUT: true; the input reads as it did. -/
def bookRightSpec : ChangeSpec := { name := "bookRight", fn := fun _ => fun
  | [d1, d2, d3, d4] => { results := [.lit (.bool true)], args := [d1, d2, d3, d4] }
  | _ => none }
def bookRightRow : OpenClaim := { program := "ytjcoenideicmbaa", sum := "902ce2fe0e615c7cf77e5ca99a425a0782b04ab78d43ec461a312270d73653a0", func := "wagebook/wagebooklaw11.BookRight", spec := "bookRight", inPlace := ["internal/bytealg.IndexByteString", "internal/bytealg.IndexString"], recurses := true, named := ["internal/bytealg.MaxLen"], apart := false }
def BookRightSaid : Prop := bookRightRow.holds Try.pinned (OpenSpec.ofChange bookRightSpec)

/-- ITS FALSE NEIGHBOUR: 'it returns false'. Refute it at one input. -/
def bookRightWrong : ChangeSpec := { name := "bookRight", fn := fun _ => fun
  | [d1, d2, d3, d4] => { results := [.lit (.bool false)], args := [d1, d2, d3, d4] }
  | _ => none }
def BookRightWrongFalsely : Prop := bookRightRow.holds Try.pinned (OpenSpec.ofChange bookRightWrong)

/-- 'wagebooklaw11.BookLater': WHATEVER THE INPUT: true; the input reads as it did. -/
def bookLaterSpec : ChangeSpec := { name := "bookLater", fn := fun _ => fun
  | [d1, d2, d3, d4] => { results := [.lit (.bool true)], args := [d1, d2, d3, d4] }
  | _ => none }
def bookLaterRow : OpenClaim := { program := "ytjcoenideicmbaa", sum := "902ce2fe0e615c7cf77e5ca99a425a0782b04ab78d43ec461a312270d73653a0", func := "wagebook/wagebooklaw11.BookLater", spec := "bookLater", inPlace := ["internal/bytealg.IndexByteString", "internal/bytealg.IndexString"], recurses := true, named := ["internal/bytealg.MaxLen"], apart := false }
def BookLaterSaid : Prop := bookLaterRow.holds Try.pinned (OpenSpec.ofChange bookLaterSpec)

/-- ITS FALSE NEIGHBOUR: 'it returns false'. Refute it at one input. -/
def bookLaterWrong : ChangeSpec := { name := "bookLater", fn := fun _ => fun
  | [d1, d2, d3, d4] => { results := [.lit (.bool false)], args := [d1, d2, d3, d4] }
  | _ => none }
def BookLaterWrongFalsely : Prop := bookLaterRow.holds Try.pinned (OpenSpec.ofChange bookLaterWrong)

/-- 'wagebooklaw11.BookPast': WHATEVER THE INPUT: true; the input reads as it did. -/
def bookPastSpec : ChangeSpec := { name := "bookPast", fn := fun _ => fun
  | [d1, d2, d3] => { results := [.lit (.bool true)], args := [d1, d2, d3] }
  | _ => none }
def bookPastRow : OpenClaim := { program := "ytjcoenideicmbaa", sum := "902ce2fe0e615c7cf77e5ca99a425a0782b04ab78d43ec461a312270d73653a0", func := "wagebook/wagebooklaw11.BookPast", spec := "bookPast", inPlace := ["internal/bytealg.IndexByteString", "internal/bytealg.IndexString"], recurses := true, named := ["internal/bytealg.MaxLen"], apart := false }
def BookPastSaid : Prop := bookPastRow.holds Try.pinned (OpenSpec.ofChange bookPastSpec)

/-- ITS FALSE NEIGHBOUR: 'it returns false'. Refute it at one input. -/
def bookPastWrong : ChangeSpec := { name := "bookPast", fn := fun _ => fun
  | [d1, d2, d3] => { results := [.lit (.bool false)], args := [d1, d2, d3] }
  | _ => none }
def BookPastWrongFalsely : Prop := bookPastRow.holds Try.pinned (OpenSpec.ofChange bookPastWrong)

/-- 'wagebooklaw11.BookChanges': WHATEVER THE INPUT: true; the input reads as it did. -/
def bookChangesSpec : ChangeSpec := { name := "bookChanges", fn := fun _ => fun
  | [d1, d2, d3, d4] => { results := [.lit (.bool true)], args := [d1, d2, d3, d4] }
  | _ => none }
def bookChangesRow : OpenClaim := { program := "ytjcoenideicmbaa", sum := "902ce2fe0e615c7cf77e5ca99a425a0782b04ab78d43ec461a312270d73653a0", func := "wagebook/wagebooklaw11.BookChanges", spec := "bookChanges", inPlace := ["internal/bytealg.IndexByteString", "internal/bytealg.IndexString"], unfollowed := true, recurses := true, named := ["internal/bytealg.MaxLen"], apart := false }
def BookChangesSaid : Prop := bookChangesRow.holds Try.pinned (OpenSpec.ofChange bookChangesSpec)

/-- ITS FALSE NEIGHBOUR: 'it returns false'. Refute it at one input. -/
def bookChangesWrong : ChangeSpec := { name := "bookChanges", fn := fun _ => fun
  | [d1, d2, d3, d4] => { results := [.lit (.bool false)], args := [d1, d2, d3, d4] }
  | _ => none }
def BookChangesWrongFalsely : Prop := bookChangesRow.holds Try.pinned (OpenSpec.ofChange bookChangesWrong)

/- THE SECOND FORM. 'bulk': how many values and letters a reading holds, each counted each time it is reached (what is shared counts as often as it is met; a slice's spare places count too). A statement '..UptoSaid' is the law's where the arguments, and the package variables that the reading takes, are together of bulk at most 1048576: NARROWER than '..Said'. Prove '..Said' where nothing that the law and all that it calls make is longer than what came in: it says more and counts as full. Else prove '..UptoSaid'. A law counts once. -/
mutual
def uptoBulk {H : Type} : DataW H → Nat
  | .lit (.string bytes) => bytes.length + 1
  | .lit _ => 1
  | .nil => 1
  | .ptr d => uptoBulk d + 1
  | .slice elems spare => uptoBulkAll elems + uptoBulkAll spare + 1
  | .agg parts => uptoBulkAll parts + 1
  | .iface _ d => uptoBulk d + 1
  | .map entries => uptoBulkEntries entries + 1
  | .held _ => 1
def uptoBulkAll {H : Type} : List (DataW H) → Nat
  | [] => 0
  | d :: r => uptoBulk d + uptoBulkAll r
def uptoBulkEntries {H : Type} : List (Lit × DataW H) → Nat
  | [] => 0
  | x :: r => uptoBulkEntry x + uptoBulkEntries r
def uptoBulkEntry {H : Type} : Lit × DataW H → Nat
  | (.string bytes, d) => bytes.length + uptoBulk d + 1
  | (_, d) => uptoBulk d + 1
 end
def uptoSmall : (H : Type) → List (DataW H) → Bool := fun _ ds => decide (uptoBulkAll ds ≤ 1048576)
def OpenSpec.upto (s : _root_.Go.ChangeSpec) : _root_.Go.OpenSpec := { _root_.Go.OpenSpec.ofChange s with cond := some uptoSmall }

/-- 'wagebooklaw10.LineOver', WHERE WHAT IT READS IS OF BULK AT MOST 1048576: true; the input reads as it did. -/
def lineOverUptoRow : OpenClaim := { program := "ytjcoenideicmbaa", sum := "902ce2fe0e615c7cf77e5ca99a425a0782b04ab78d43ec461a312270d73653a0", func := "wagebook/wagebooklaw10.LineOver", spec := "lineOver", unfollowed := true, recurses := true, apart := false, narrowed := true }
def LineOverUptoSaid : Prop := lineOverUptoRow.holds Try.pinned (OpenSpec.upto lineOverSpec)

/-- 'wagebooklaw10.LineOrder', WHERE WHAT IT READS IS OF BULK AT MOST 1048576: true; the input reads as it did. -/
def lineOrderUptoRow : OpenClaim := { program := "ytjcoenideicmbaa", sum := "902ce2fe0e615c7cf77e5ca99a425a0782b04ab78d43ec461a312270d73653a0", func := "wagebook/wagebooklaw10.LineOrder", spec := "lineOrder", unfollowed := true, recurses := true, apart := false, narrowed := true }
def LineOrderUptoSaid : Prop := lineOrderUptoRow.holds Try.pinned (OpenSpec.upto lineOrderSpec)

/-- 'wagebooklaw10.LineCuts', WHERE WHAT IT READS IS OF BULK AT MOST 1048576: true; the input reads as it did. -/
def lineCutsUptoRow : OpenClaim := { program := "ytjcoenideicmbaa", sum := "902ce2fe0e615c7cf77e5ca99a425a0782b04ab78d43ec461a312270d73653a0", func := "wagebook/wagebooklaw10.LineCuts", spec := "lineCuts", unfollowed := true, recurses := true, apart := false, narrowed := true }
def LineCutsUptoSaid : Prop := lineCutsUptoRow.holds Try.pinned (OpenSpec.upto lineCutsSpec)

/-- 'wagebooklaw10.LineAt', WHERE WHAT IT READS IS OF BULK AT MOST 1048576: true; the input reads as it did. -/
def lineAtUptoRow : OpenClaim := { program := "ytjcoenideicmbaa", sum := "902ce2fe0e615c7cf77e5ca99a425a0782b04ab78d43ec461a312270d73653a0", func := "wagebook/wagebooklaw10.LineAt", spec := "lineAt", unfollowed := true, recurses := true, apart := false, narrowed := true }
def LineAtUptoSaid : Prop := lineAtUptoRow.holds Try.pinned (OpenSpec.upto lineAtSpec)

/-- 'wagebooklaw10.LineLater', WHERE WHAT IT READS IS OF BULK AT MOST 1048576: true; the input reads as it did. -/
def lineLaterUptoRow : OpenClaim := { program := "ytjcoenideicmbaa", sum := "902ce2fe0e615c7cf77e5ca99a425a0782b04ab78d43ec461a312270d73653a0", func := "wagebook/wagebooklaw10.LineLater", spec := "lineLater", unfollowed := true, recurses := true, apart := false, narrowed := true }
def LineLaterUptoSaid : Prop := lineLaterUptoRow.holds Try.pinned (OpenSpec.upto lineLaterSpec)

/-- 'wagebooklaw10.LineNums', WHERE WHAT IT READS IS OF BULK AT MOST 1048576: true; the input reads as it did. -/
def lineNumsUptoRow : OpenClaim := { program := "ytjcoenideicmbaa", sum := "902ce2fe0e615c7cf77e5ca99a425a0782b04ab78d43ec461a312270d73653a0", func := "wagebook/wagebooklaw10.LineNums", spec := "lineNums", unfollowed := true, recurses := true, apart := false, narrowed := true }
def LineNumsUptoSaid : Prop := lineNumsUptoRow.holds Try.pinned (OpenSpec.upto lineNumsSpec)

/-- 'wagebooklaw10.LineLong', WHERE WHAT IT READS IS OF BULK AT MOST 1048576: true; the input reads as it did. -/
def lineLongUptoRow : OpenClaim := { program := "ytjcoenideicmbaa", sum := "902ce2fe0e615c7cf77e5ca99a425a0782b04ab78d43ec461a312270d73653a0", func := "wagebook/wagebooklaw10.LineLong", spec := "lineLong", unfollowed := true, recurses := true, apart := false, narrowed := true }
def LineLongUptoSaid : Prop := lineLongUptoRow.holds Try.pinned (OpenSpec.upto lineLongSpec)

/-- 'wagebooklaw11.BookNames', WHERE WHAT IT READS IS OF BULK AT MOST 1048576: true; the input reads as it did. -/
def bookNamesUptoRow : OpenClaim := { program := "ytjcoenideicmbaa", sum := "902ce2fe0e615c7cf77e5ca99a425a0782b04ab78d43ec461a312270d73653a0", func := "wagebook/wagebooklaw11.BookNames", spec := "bookNames", inPlace := ["internal/bytealg.IndexByteString", "internal/bytealg.IndexString"], recurses := true, named := ["internal/bytealg.MaxLen"], apart := false, narrowed := true }
def BookNamesUptoSaid : Prop := bookNamesUptoRow.holds Try.pinned (OpenSpec.upto bookNamesSpec)

/-- 'wagebooklaw11.BookOrder', WHERE WHAT IT READS IS OF BULK AT MOST 1048576: true; the input reads as it did. -/
def bookOrderUptoRow : OpenClaim := { program := "ytjcoenideicmbaa", sum := "902ce2fe0e615c7cf77e5ca99a425a0782b04ab78d43ec461a312270d73653a0", func := "wagebook/wagebooklaw11.BookOrder", spec := "bookOrder", inPlace := ["internal/bytealg.IndexByteString", "internal/bytealg.IndexString"], recurses := true, named := ["internal/bytealg.MaxLen"], apart := false, narrowed := true }
def BookOrderUptoSaid : Prop := bookOrderUptoRow.holds Try.pinned (OpenSpec.upto bookOrderSpec)

/-- 'wagebooklaw11.BookUnder', WHERE WHAT IT READS IS OF BULK AT MOST 1048576: true; the input reads as it did. -/
def bookUnderUptoRow : OpenClaim := { program := "ytjcoenideicmbaa", sum := "902ce2fe0e615c7cf77e5ca99a425a0782b04ab78d43ec461a312270d73653a0", func := "wagebook/wagebooklaw11.BookUnder", spec := "bookUnder", inPlace := ["internal/bytealg.IndexByteString", "internal/bytealg.IndexString"], recurses := true, named := ["internal/bytealg.MaxLen"], apart := false, narrowed := true }
def BookUnderUptoSaid : Prop := bookUnderUptoRow.holds Try.pinned (OpenSpec.upto bookUnderSpec)

/-- 'wagebooklaw11.BookRight', WHERE WHAT IT READS IS OF BULK AT MOST 1048576: true; the input reads as it did. -/
def bookRightUptoRow : OpenClaim := { program := "ytjcoenideicmbaa", sum := "902ce2fe0e615c7cf77e5ca99a425a0782b04ab78d43ec461a312270d73653a0", func := "wagebook/wagebooklaw11.BookRight", spec := "bookRight", inPlace := ["internal/bytealg.IndexByteString", "internal/bytealg.IndexString"], recurses := true, named := ["internal/bytealg.MaxLen"], apart := false, narrowed := true }
def BookRightUptoSaid : Prop := bookRightUptoRow.holds Try.pinned (OpenSpec.upto bookRightSpec)

/-- 'wagebooklaw11.BookLater', WHERE WHAT IT READS IS OF BULK AT MOST 1048576: true; the input reads as it did. -/
def bookLaterUptoRow : OpenClaim := { program := "ytjcoenideicmbaa", sum := "902ce2fe0e615c7cf77e5ca99a425a0782b04ab78d43ec461a312270d73653a0", func := "wagebook/wagebooklaw11.BookLater", spec := "bookLater", inPlace := ["internal/bytealg.IndexByteString", "internal/bytealg.IndexString"], recurses := true, named := ["internal/bytealg.MaxLen"], apart := false, narrowed := true }
def BookLaterUptoSaid : Prop := bookLaterUptoRow.holds Try.pinned (OpenSpec.upto bookLaterSpec)

/-- 'wagebooklaw11.BookPast', WHERE WHAT IT READS IS OF BULK AT MOST 1048576: true; the input reads as it did. -/
def bookPastUptoRow : OpenClaim := { program := "ytjcoenideicmbaa", sum := "902ce2fe0e615c7cf77e5ca99a425a0782b04ab78d43ec461a312270d73653a0", func := "wagebook/wagebooklaw11.BookPast", spec := "bookPast", inPlace := ["internal/bytealg.IndexByteString", "internal/bytealg.IndexString"], recurses := true, named := ["internal/bytealg.MaxLen"], apart := false, narrowed := true }
def BookPastUptoSaid : Prop := bookPastUptoRow.holds Try.pinned (OpenSpec.upto bookPastSpec)

/-- 'wagebooklaw11.BookChanges', WHERE WHAT IT READS IS OF BULK AT MOST 1048576: true; the input reads as it did. -/
def bookChangesUptoRow : OpenClaim := { program := "ytjcoenideicmbaa", sum := "902ce2fe0e615c7cf77e5ca99a425a0782b04ab78d43ec461a312270d73653a0", func := "wagebook/wagebooklaw11.BookChanges", spec := "bookChanges", inPlace := ["internal/bytealg.IndexByteString", "internal/bytealg.IndexString"], unfollowed := true, recurses := true, named := ["internal/bytealg.MaxLen"], apart := false, narrowed := true }
def BookChangesUptoSaid : Prop := bookChangesUptoRow.holds Try.pinned (OpenSpec.upto bookChangesSpec)

end Rows
end Go.Proofs.Ytjcoenideicmbaa
