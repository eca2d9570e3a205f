/-
  No cell of these rows narrows 'for every input' (looked for: loops, veiled, ifaces, maps, wideKeys, modest, calm, conditions, laid).
  DERIVED. THE GIVEN ROWS OF THIS SEAT. 7 by the template 'for every input the law returns true; each argument reads behind the call as it read before'; 0 by the template 'total and deterministic' (their statements: YtdiokmmjdpbdbaaTotals.lean).
  GIVEN WITH THE SEED: the statements are not yours to turn. If you find one false, say at which input.
  Laid BY PROGRAM, IN A SANDBOX (cutbox-rows.mjs): the forced cells as the released guide's own fill.sh prints them over the translation a873933e415d4d78… (all of the seat's roots in one cut). By AI agents, Wed Nov 11 2026. No macro, syntax, notation, axiom, sorry.
-/
import Derived.Test.YtdiokmmjdpbdbaaChecked
import GoSem.Claim
import GoSem.ClaimJoined
import GoSem.ClaimMapViews
import Derived.JoinedTies
import Derived.KernelRfl
namespace Go.Proofs.Ytdiokmmjdpbdbaa
/- THE CELL 'sum', in the pinned program and in every row, IS THE sha256 OF THE DUMP (.gsa) THAT YtdiokmmjdpbdbaaProg.lean LOADS. Nothing in Lean hashes anything: it is a label: what it is worth is what the hold of that sum in a sandbox is worth. -/
noncomputable def Try.pinned : Pinned := { name := "ytdiokmmjdpbdbaa", sum := "a873933e415d4d786d2393d53f4ea5e7f03799ebcfc20e02a51d95ee8c68414d", checked := Try.checked }
namespace Rows
def none {H : Type} : Left H := { results := [], args := [] }

/-- 'wagebooklaw14.OrderRing': WHATEVER THE INPUT: true; the input reads as it did. -/
def orderRingSpec : ChangeSpec := { name := "orderRing", fn := fun _ => fun
  | [d] => { results := [.lit (.bool true)], args := [d] }
  | _ => none }
def orderRingRow : OpenClaim := { program := "ytdiokmmjdpbdbaa", sum := "a873933e415d4d786d2393d53f4ea5e7f03799ebcfc20e02a51d95ee8c68414d", func := "wagebook/wagebooklaw14.OrderRing", spec := "orderRing", unfollowed := true, recurses := true, apart := false }
def OrderRingSaid : Prop := orderRingRow.holds Try.pinned (OpenSpec.ofChange orderRingSpec)

/-- ITS FALSE NEIGHBOUR: 'it returns false'. Refute it at one input. -/
def orderRingWrong : ChangeSpec := { name := "orderRing", fn := fun _ => fun
  | [d] => { results := [.lit (.bool false)], args := [d] }
  | _ => none }
def OrderRingWrongFalsely : Prop := orderRingRow.holds Try.pinned (OpenSpec.ofChange orderRingWrong)

/-- 'wagebooklaw14.OrderSides': WHATEVER THE INPUT: true; the input reads as it did. -/
def orderSidesSpec : ChangeSpec := { name := "orderSides", fn := fun _ => fun
  | [d1, d2] => { results := [.lit (.bool true)], args := [d1, d2] }
  | _ => none }
def orderSidesRow : OpenClaim := { program := "ytdiokmmjdpbdbaa", sum := "a873933e415d4d786d2393d53f4ea5e7f03799ebcfc20e02a51d95ee8c68414d", func := "wagebook/wagebooklaw14.OrderSides", spec := "orderSides", unfollowed := true, recurses := true, apart := false }
def OrderSidesSaid : Prop := orderSidesRow.holds Try.pinned (OpenSpec.ofChange orderSidesSpec)

/-- ITS FALSE NEIGHBOUR: 'it returns false'. Refute it at one input. -/
def orderSidesWrong : ChangeSpec := { name := "orderSides", fn := fun _ => fun
  | [d1, d2] => { results := [.lit (.bool false)], args := [d1, d2] }
  | _ => none }
def OrderSidesWrongFalsely : Prop := orderSidesRow.holds Try.pinned (OpenSpec.ofChange orderSidesWrong)

/-- 'wagebooklaw14.OrderSorts': WHATEVER THE INPUT: true; the input reads as it did. -/
def orderSortsSpec : ChangeSpec := { name := "orderSorts", fn := fun _ => fun
  | [d] => { results := [.lit (.bool true)], args := [d] }
  | _ => none }
def orderSortsRow : OpenClaim := { program := "ytdiokmmjdpbdbaa", sum := "a873933e415d4d786d2393d53f4ea5e7f03799ebcfc20e02a51d95ee8c68414d", func := "wagebook/wagebooklaw14.OrderSorts", spec := "orderSorts", unfollowed := true, recurses := true, apart := false }
def OrderSortsSaid : Prop := orderSortsRow.holds Try.pinned (OpenSpec.ofChange orderSortsSpec)

/-- ITS FALSE NEIGHBOUR: 'it returns false'. Refute it at one input. -/
def orderSortsWrong : ChangeSpec := { name := "orderSorts", fn := fun _ => fun
  | [d] => { results := [.lit (.bool false)], args := [d] }
  | _ => none }
def OrderSortsWrongFalsely : Prop := orderSortsRow.holds Try.pinned (OpenSpec.ofChange orderSortsWrong)

/-- 'wagebooklaw14.OrderTurned': WHATEVER THE INPUT: true; the input reads as it did. -/
def orderTurnedSpec : ChangeSpec := { name := "orderTurned", fn := fun _ => fun
  | [d1, d2] => { results := [.lit (.bool true)], args := [d1, d2] }
  | _ => none }
def orderTurnedRow : OpenClaim := { program := "ytdiokmmjdpbdbaa", sum := "a873933e415d4d786d2393d53f4ea5e7f03799ebcfc20e02a51d95ee8c68414d", func := "wagebook/wagebooklaw14.OrderTurned", spec := "orderTurned", unfollowed := true, recurses := true, apart := false }
def OrderTurnedSaid : Prop := orderTurnedRow.holds Try.pinned (OpenSpec.ofChange orderTurnedSpec)

/-- ITS FALSE NEIGHBOUR: 'it returns false'. Refute it at one input. -/
def orderTurnedWrong : ChangeSpec := { name := "orderTurned", fn := fun _ => fun
  | [d1, d2] => { results := [.lit (.bool false)], args := [d1, d2] }
  | _ => none }
def OrderTurnedWrongFalsely : Prop := orderTurnedRow.holds Try.pinned (OpenSpec.ofChange orderTurnedWrong)

/-- 'wagebooklaw14.OrderMeets': WHATEVER THE INPUT: true; the input reads as it did. -/
def orderMeetsSpec : ChangeSpec := { name := "orderMeets", fn := fun _ => fun
  | [d1, d2, d3, d4] => { results := [.lit (.bool true)], args := [d1, d2, d3, d4] }
  | _ => none }
def orderMeetsRow : OpenClaim := { program := "ytdiokmmjdpbdbaa", sum := "a873933e415d4d786d2393d53f4ea5e7f03799ebcfc20e02a51d95ee8c68414d", func := "wagebook/wagebooklaw14.OrderMeets", spec := "orderMeets", unfollowed := true, recurses := true, apart := false }
def OrderMeetsSaid : Prop := orderMeetsRow.holds Try.pinned (OpenSpec.ofChange orderMeetsSpec)

/-- ITS FALSE NEIGHBOUR: 'it returns false'. Refute it at one input. -/
def orderMeetsWrong : ChangeSpec := { name := "orderMeets", fn := fun _ => fun
  | [d1, d2, d3, d4] => { results := [.lit (.bool false)], args := [d1, d2, d3, d4] }
  | _ => none }
def OrderMeetsWrongFalsely : Prop := orderMeetsRow.holds Try.pinned (OpenSpec.ofChange orderMeetsWrong)

/-- 'wagebooklaw14.OrderAdds': WHATEVER THE INPUT: true; the input reads as it did. -/
def orderAddsSpec : ChangeSpec := { name := "orderAdds", fn := fun _ => fun
  | [d1, d2] => { results := [.lit (.bool true)], args := [d1, d2] }
  | _ => none }
def orderAddsRow : OpenClaim := { program := "ytdiokmmjdpbdbaa", sum := "a873933e415d4d786d2393d53f4ea5e7f03799ebcfc20e02a51d95ee8c68414d", func := "wagebook/wagebooklaw14.OrderAdds", spec := "orderAdds", unfollowed := true, recurses := true, apart := false }
def OrderAddsSaid : Prop := orderAddsRow.holds Try.pinned (OpenSpec.ofChange orderAddsSpec)

/-- ITS FALSE NEIGHBOUR: 'it returns false'. Refute it at one input. -/
def orderAddsWrong : ChangeSpec := { name := "orderAdds", fn := fun _ => fun
  | [d1, d2] => { results := [.lit (.bool false)], args := [d1, d2] }
  | _ => none }
def OrderAddsWrongFalsely : Prop := orderAddsRow.holds Try.pinned (OpenSpec.ofChange orderAddsWrong)

/-- 'wagebooklaw14.OrderSwaps': WHATEVER THE INPUT: true; the input reads as it did. -/
def orderSwapsSpec : ChangeSpec := { name := "orderSwaps", fn := fun _ => fun
  | [d1, d2] => { results := [.lit (.bool true)], args := [d1, d2] }
  | _ => none }
def orderSwapsRow : OpenClaim := { program := "ytdiokmmjdpbdbaa", sum := "a873933e415d4d786d2393d53f4ea5e7f03799ebcfc20e02a51d95ee8c68414d", func := "wagebook/wagebooklaw14.OrderSwaps", spec := "orderSwaps", unfollowed := true, recurses := true, apart := false }
def OrderSwapsSaid : Prop := orderSwapsRow.holds Try.pinned (OpenSpec.ofChange orderSwapsSpec)

/-- ITS FALSE NEIGHBOUR: 'it returns false'. Refute it at one input. -/
def orderSwapsWrong : ChangeSpec := { name := "orderSwaps", fn := fun _ => fun
  | [d1, d2] => { results := [.lit (.bool false)], args := [d1, d2] }
  | _ => none }
def OrderSwapsWrongFalsely : Prop := orderSwapsRow.holds Try.pinned (OpenSpec.ofChange orderSwapsWrong)

/- THE SECOND FORM. 'bulk': how many values and letters a reading holds, each counted each time it is reached (what is shared counts as often as it is met; a slice's spare places count too). A statement '..UptoSaid' is the law's where the arguments, and the package variables that the reading takes, are together of bulk at most 1048576: NARROWER than '..Said'. Prove '..Said' where nothing that the law and all that it calls make is longer than what came in: it says more and counts as full. Else prove '..UptoSaid'. A law counts once. -/
mutual
def uptoBulk {H : Type} : DataW H → Nat
  | .lit (.string bytes) => bytes.length + 1
  | .lit _ => 1
  | .nil => 1
  | .ptr d => uptoBulk d + 1
  | .slice elems spare => uptoBulkAll elems + uptoBulkAll spare + 1
  | .agg parts => uptoBulkAll parts + 1
  | .iface _ d => uptoBulk d + 1
  | .map entries => uptoBulkEntries entries + 1
  | .held _ => 1
def uptoBulkAll {H : Type} : List (DataW H) → Nat
  | [] => 0
  | d :: r => uptoBulk d + uptoBulkAll r
def uptoBulkEntries {H : Type} : List (Lit × DataW H) → Nat
  | [] => 0
  | x :: r => uptoBulkEntry x + uptoBulkEntries r
def uptoBulkEntry {H : Type} : Lit × DataW H → Nat
  | (.string bytes, d) => bytes.length + uptoBulk d + 1
  | (_, d) => uptoBulk d + 1
 end
def uptoSmall : (H : Type) → List (DataW H) → Bool := fun _ ds => decide (uptoBulkAll ds ≤ 1048576)
def OpenSpec.upto (s : _root_.Go.ChangeSpec) : _root_.Go.OpenSpec := { _root_.Go.OpenSpec.ofChange s with cond := some uptoSmall }

/-- 'wagebooklaw14.OrderRing', WHERE WHAT IT READS IS OF BULK AT MOST 1048576: true; the input reads as it did. -/
def orderRingUptoRow : OpenClaim := { program := "ytdiokmmjdpbdbaa", sum := "a873933e415d4d786d2393d53f4ea5e7f03799ebcfc20e02a51d95ee8c68414d", func := "wagebook/wagebooklaw14.OrderRing", spec := "orderRing", unfollowed := true, recurses := true, apart := false, narrowed := true }
def OrderRingUptoSaid : Prop := orderRingUptoRow.holds Try.pinned (OpenSpec.upto orderRingSpec)

/-- 'wagebooklaw14.OrderSides', WHERE WHAT IT READS IS OF BULK AT MOST 1048576: true; the input reads as it did. -/
def orderSidesUptoRow : OpenClaim := { program := "ytdiokmmjdpbdbaa", sum := "a873933e415d4d786d2393d53f4ea5e7f03799ebcfc20e02a51d95ee8c68414d", func := "wagebook/wagebooklaw14.OrderSides", spec := "orderSides", unfollowed := true, recurses := true, apart := false, narrowed := true }
def OrderSidesUptoSaid : Prop := orderSidesUptoRow.holds Try.pinned (OpenSpec.upto orderSidesSpec)

/-- 'wagebooklaw14.OrderSorts', WHERE WHAT IT READS IS OF BULK AT MOST 1048576: true; the input reads as it did. -/
def orderSortsUptoRow : OpenClaim := { program := "ytdiokmmjdpbdbaa", sum := "a873933e415d4d786d2393d53f4ea5e7f03799ebcfc20e02a51d95ee8c68414d", func := "wagebook/wagebooklaw14.OrderSorts", spec := "orderSorts", unfollowed := true, recurses := true, apart := false, narrowed := true }
def OrderSortsUptoSaid : Prop := orderSortsUptoRow.holds Try.pinned (OpenSpec.upto orderSortsSpec)

/-- 'wagebooklaw14.OrderTurned', WHERE WHAT IT READS IS OF BULK AT MOST 1048576: true; the input reads as it did. -/
def orderTurnedUptoRow : OpenClaim := { program := "ytdiokmmjdpbdbaa", sum := "a873933e415d4d786d2393d53f4ea5e7f03799ebcfc20e02a51d95ee8c68414d", func := "wagebook/wagebooklaw14.OrderTurned", spec := "orderTurned", unfollowed := true, recurses := true, apart := false, narrowed := true }
def OrderTurnedUptoSaid : Prop := orderTurnedUptoRow.holds Try.pinned (OpenSpec.upto orderTurnedSpec)

/-- 'wagebooklaw14.OrderMeets', WHERE WHAT IT READS IS OF BULK AT MOST 1048576: true; the input reads as it did. -/
def orderMeetsUptoRow : OpenClaim := { program := "ytdiokmmjdpbdbaa", sum := "a873933e415d4d786d2393d53f4ea5e7f03799ebcfc20e02a51d95ee8c68414d", func := "wagebook/wagebooklaw14.OrderMeets", spec := "orderMeets", unfollowed := true, recurses := true, apart := false, narrowed := true }
def OrderMeetsUptoSaid : Prop := orderMeetsUptoRow.holds Try.pinned (OpenSpec.upto orderMeetsSpec)

/-- 'wagebooklaw14.OrderAdds', WHERE WHAT IT READS IS OF BULK AT MOST 1048576: true; the input reads as it did. -/
def orderAddsUptoRow : OpenClaim := { program := "ytdiokmmjdpbdbaa", sum := "a873933e415d4d786d2393d53f4ea5e7f03799ebcfc20e02a51d95ee8c68414d", func := "wagebook/wagebooklaw14.OrderAdds", spec := "orderAdds", unfollowed := true, recurses := true, apart := false, narrowed := true }
def OrderAddsUptoSaid : Prop := orderAddsUptoRow.holds Try.pinned (OpenSpec.upto orderAddsSpec)

/-- 'wagebooklaw14.OrderSwaps', WHERE WHAT IT READS IS OF BULK AT MOST 1048576: true; the input reads as it did. -/
def orderSwapsUptoRow : OpenClaim := { program := "ytdiokmmjdpbdbaa", sum := "a873933e415d4d786d2393d53f4ea5e7f03799ebcfc20e02a51d95ee8c68414d", func := "wagebook/wagebooklaw14.OrderSwaps", spec := "orderSwaps", unfollowed := true, recurses := true, apart := false, narrowed := true }
def OrderSwapsUptoSaid : Prop := orderSwapsUptoRow.holds Try.pinned (OpenSpec.upto orderSwapsSpec)

end Rows
end Go.Proofs.Ytdiokmmjdpbdbaa
