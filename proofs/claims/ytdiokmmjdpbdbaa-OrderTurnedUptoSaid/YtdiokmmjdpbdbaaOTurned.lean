/-
  OrderTurned: the order of the edges in the list, and needs told twice, change neither the order, nor the ring, nor what is below or above. Condition: what is read is of bulk at most 1048576 (the second form).
-/
import Derived.Test.YtdiokmmjdpbdbaaRows
import Derived.Test.YtdiokmmjdpbdbaaQ21
import Derived.Test.YtdiokmmjdpbdbaaQ22
namespace Go.Proofs.Ytdiokmmjdpbdbaa
open Go PG Go.Proofs
set_option linter.unusedSimpArgs false
set_option linter.unusedVariables false
set_option maxRecDepth 100000 in
theorem turned_lifted (os : Os) (started : os.Started) (H : Type) (enc : TypeId × Value → H) (F : Stop.Interp) :
    ReturnsInHanded {} Try.checked os 6 .any ((Rows.OpenSpec.upto Rows.orderTurnedSpec).pre6 enc Try.prog Try.f6 Rows.orderTurnedUptoRow.domain false) (((Rows.OpenSpec.upto Rows.orderTurnedSpec).at F).post enc Try.prog Try.f6 false true false false) := by
  refine returnsInHanded_of_cond (C := Try.checked) (s := Rows.OpenSpec.upto Rows.orderTurnedSpec) (k := Rows.uptoSmall) rfl ownB started (by kernel_rfl) Try.func6
    (OpenSpec.witness (enc := enc) (C := Try.checked) (s := Rows.OpenSpec.upto Rows.orderTurnedSpec) (k := Rows.uptoSmall) rfl false ⟨#[], #[.slice none 0 0, .string .empty], []⟩ 8 (by kernel_rfl) (by kernel_rfl) (by kernel_rfl)
      (x := ([.nil, .lit (.string [])], [], [])) (by kernel_rfl) rfl (by kernel_rfl)) ?_
  intro W base args ds gs before hval hW _ hk _
  refine law_of_Z (n := 8) szOk laidB (by kernel_rfl) rfl (fun ds hd => ?_) (tb := 4) (by kernel_rfl) (by kernel_rfl) (globsB W _) (fun ps hp => ?_) hval hW (small_of hk)
  · rw [Try.params6] at hd
    match ds, hd with
    | [d1, d2], _ => rfl
  · rw [Try.params6] at hp
    obtain ⟨p1, p2, rfl, k1, k2⟩ := shBs2 hp
    obtain ⟨l, rfl, h1, h2⟩ := read_eds (n := 4) k1
    obtain ⟨a, rfl, -⟩ := read_strB (n := 7) k2
    exact v6 l h1 (eds_ok h2) a
theorem turned_holds : Rows.OrderTurnedUptoSaid :=
  OpenClaim.holds_of_cond 6 Try.f6 rfl rfl rfl rfl rfl rfl rfl ⟨rfl, rfl, rfl, rfl, rfl⟩ rfl rfl rfl rfl rfl (by kernel_rfl) Try.func6 (by kernel_rfl)
    (of_decide_eq_true (by kernel_rfl)) (by unfold Func.isWrapper; first | (rw [if_pos (by decide +kernel)]; kernel_rfl) | (rw [if_neg (by decide +kernel)]; exact ⟨rfl, rfl⟩))
    (fun os started H enc _ F => turned_lifted os started H enc F)
end Go.Proofs.Ytdiokmmjdpbdbaa

