/-
  OrderSides: what any name needs, and what needs it, by any edges, is what the document says. Condition: what is read is of bulk at most 1048576 (the second form).
-/
import Derived.Test.YtdiokmmjdpbdbaaRows
import Derived.Test.YtdiokmmjdpbdbaaQ19
import Derived.Test.YtdiokmmjdpbdbaaQ20
namespace Go.Proofs.Ytdiokmmjdpbdbaa
open Go PG Go.Proofs
set_option linter.unusedSimpArgs false
set_option linter.unusedVariables false
set_option maxRecDepth 100000 in
theorem sides_lifted (os : Os) (started : os.Started) (H : Type) (enc : TypeId × Value → H) (F : Stop.Interp) :
    ReturnsInHanded {} Try.checked os 4 .any ((Rows.OpenSpec.upto Rows.orderSidesSpec).pre6 enc Try.prog Try.f4 Rows.orderSidesUptoRow.domain false) (((Rows.OpenSpec.upto Rows.orderSidesSpec).at F).post enc Try.prog Try.f4 false true false false) := by
  refine returnsInHanded_of_cond (C := Try.checked) (s := Rows.OpenSpec.upto Rows.orderSidesSpec) (k := Rows.uptoSmall) rfl ownB started (by kernel_rfl) Try.func4
    (OpenSpec.witness (enc := enc) (C := Try.checked) (s := Rows.OpenSpec.upto Rows.orderSidesSpec) (k := Rows.uptoSmall) rfl false ⟨#[], #[.slice none 0 0, .string .empty], []⟩ 8 (by kernel_rfl) (by kernel_rfl) (by kernel_rfl)
      (x := ([.nil, .lit (.string [])], [], [])) (by kernel_rfl) rfl (by kernel_rfl)) ?_
  intro W base args ds gs before hval hW _ hk _
  refine law_of_Z (n := 8) szOk laidB (by kernel_rfl) rfl (fun ds hd => ?_) (tb := 4) (by kernel_rfl) (by kernel_rfl) (globsB W _) (fun ps hp => ?_) hval hW (small_of hk)
  · rw [Try.params4] at hd
    match ds, hd with
    | [d1, d2], _ => rfl
  · rw [Try.params4] at hp
    obtain ⟨p1, p2, rfl, k1, k2⟩ := shBs2 hp
    obtain ⟨l, rfl, h1, h2⟩ := read_eds (n := 4) k1
    obtain ⟨a, rfl, -⟩ := read_strB (n := 7) k2
    exact v4 l h1 (eds_ok h2) a
theorem sides_holds : Rows.OrderSidesUptoSaid :=
  OpenClaim.holds_of_cond 4 Try.f4 rfl rfl rfl rfl rfl rfl rfl ⟨rfl, rfl, rfl, rfl, rfl⟩ rfl rfl rfl rfl rfl (by kernel_rfl) Try.func4 (by kernel_rfl)
    (of_decide_eq_true (by kernel_rfl)) (by unfold Func.isWrapper; first | (rw [if_pos (by decide +kernel)]; kernel_rfl) | (rw [if_neg (by decide +kernel)]; exact ⟨rfl, rfl⟩))
    (fun os started H enc _ F => sides_lifted os started H enc F)
end Go.Proofs.Ytdiokmmjdpbdbaa

