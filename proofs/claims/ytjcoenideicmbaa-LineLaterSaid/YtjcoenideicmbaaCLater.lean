/-
  LineLater: a fact with a greater number than all others changes just the days that it covers. No condition.
-/
import Derived.Test.YtjcoenideicmbaaRows
import Derived.Test.YtjcoenideicmbaaQ18
namespace Go.Proofs.Ytjcoenideicmbaa
open Go PG Go.Proofs
set_option linter.unusedSimpArgs false
set_option linter.unusedVariables false
set_option maxRecDepth 100000 in
theorem later_lifted (os : Os) (started : os.Started) (H : Type) (enc : TypeId × Value → H) :
    ReturnsInHanded {} Try.checked os 7 .any (Rows.lineLaterSpec.pre6 enc Try.prog Try.f7 Rows.lineLaterRow.domain false) (Rows.lineLaterSpec.post enc Try.prog Try.f7 false true false false) := by
  refine returnsInHanded_of_change (C := Try.checked) own1 started (by kernel_rfl) Try.func7
    (ChangeSpec.witness6 (enc := enc) (C := Try.checked) false ⟨#[], #[.slice none 0 0, .agg #[.int .i64 0, .int .i64 0, .int .i64 0, .int .i64 0, .string ⟨#[]⟩], .int .i64 0], []⟩ 8 (by kernel_rfl) (by kernel_rfl) (by kernel_rfl) (by kernel_rfl)) ?_
  intro W base args ds gs before hval hW _ _
  refine law_of_V (n := 8) laidOut (by kernel_rfl) rfl (fun ds hd => ?_) (tb := 4) (by kernel_rfl) (by kernel_rfl) (globs0 W _) (fun ps hp => ?_) hval hW
  · rw [Try.params7] at hd
    match ds, hd with
    | [d1, d2, d3], _ => rfl
  · rw [Try.params7] at hp
    obtain ⟨p1, p2, p3, rfl, h1, h2, h3⟩ := shAs3 hp
    obtain ⟨l0, rfl, b0, c0⟩ := read_ens2 h1
    obtain ⟨e1, rfl⟩ := read_entry h2
    obtain ⟨x2, rfl, lo2, hi2⟩ := read_day h3
    exact v7 l0 b0 c0 e1 x2
theorem later_holds : Rows.LineLaterSaid :=
  OpenClaim.holds_of_wide 7 Try.f7 rfl rfl rfl rfl rfl rfl rfl ⟨rfl, rfl, rfl, rfl, rfl⟩ rfl rfl rfl rfl rfl (by kernel_rfl) Try.func7 (by kernel_rfl)
    (of_decide_eq_true (by kernel_rfl)) (by unfold Func.isWrapper; first | (rw [if_pos (by decide +kernel)]; kernel_rfl) | (rw [if_neg (by decide +kernel)]; exact ⟨rfl, rfl⟩))
    (fun os started H enc _ => later_lifted os started H enc)
end Go.Proofs.Ytjcoenideicmbaa

