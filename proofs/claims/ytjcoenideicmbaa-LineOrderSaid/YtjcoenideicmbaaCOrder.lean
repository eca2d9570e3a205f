import Derived.Test.YtjcoenideicmbaaRows
import Derived.Test.YtjcoenideicmbaaQ16
import Derived.Test.YtjcoenideicmbaaQ17
namespace Go.Proofs.Ytjcoenideicmbaa
open Go PG Go.Proofs
set_option linter.unusedSimpArgs false
set_option linter.unusedVariables false
set_option maxRecDepth 100000 in
theorem order_lifted (os : Os) (started : os.Started) (H : Type) (enc : TypeId × Value → H) :
    ReturnsInHanded {} Try.checked os 4 .any (Rows.lineOrderSpec.pre6 enc Try.prog Try.f4 Rows.lineOrderRow.domain false) (Rows.lineOrderSpec.post enc Try.prog Try.f4 false true false false) := by
  refine returnsInHanded_of_change (C := Try.checked) own1 started (by kernel_rfl) Try.func4
    (ChangeSpec.witness6 (enc := enc) (C := Try.checked) false ⟨#[], #[.slice none 0 0, .int .u8 0, .int .u16 0], []⟩ 8 (by kernel_rfl) (by kernel_rfl) (by kernel_rfl) (by kernel_rfl)) ?_
  intro W base args ds gs before hval hW _ _
  refine law_of_V (n := 8) laidOut (by kernel_rfl) rfl (fun ds hd => ?_) (tb := 4) (by kernel_rfl) (by kernel_rfl) (globs0 W _) (fun ps hp => ?_) hval hW
  · rw [Try.params4] at hd
    match ds, hd with
    | [d1, d2, d3], _ => rfl
  · rw [Try.params4] at hp
    obtain ⟨p1, p2, p3, rfl, h1, h2, h3⟩ := shAs3 hp
    obtain ⟨l0, rfl, b0⟩ := read_ens h1
    obtain ⟨x1, rfl, lo1, hi1⟩ := read_u8 h2
    obtain ⟨x2, rfl, lo2, hi2⟩ := read_u16 h3
    exact v4 l0 b0 x1 x2 hi1 hi2
theorem order_holds : Rows.LineOrderSaid :=
  OpenClaim.holds_of_wide 4 Try.f4 rfl rfl rfl rfl rfl rfl rfl ⟨rfl, rfl, rfl, rfl, rfl⟩ rfl rfl rfl rfl rfl (by kernel_rfl) Try.func4 (by kernel_rfl)
    (of_decide_eq_true (by kernel_rfl)) (by unfold Func.isWrapper; first | (rw [if_pos (by decide +kernel)]; kernel_rfl) | (rw [if_neg (by decide +kernel)]; exact ⟨rfl, rfl⟩))
    (fun os started H enc _ => order_lifted os started H enc)
end Go.Proofs.Ytjcoenideicmbaa

