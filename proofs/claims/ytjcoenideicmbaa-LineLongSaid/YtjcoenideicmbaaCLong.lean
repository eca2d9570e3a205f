/-
  LineLong: over spans however long: pieces rise, each is of one fact from its first day to its last one, and ends where another one begins to be in force, or none. No condition.
-/
import Derived.Test.YtjcoenideicmbaaRows
import Derived.Test.YtjcoenideicmbaaQ17
import Derived.Test.YtjcoenideicmbaaQ18
namespace Go.Proofs.Ytjcoenideicmbaa
open Go PG Go.Proofs
set_option linter.unusedSimpArgs false
set_option linter.unusedVariables false
set_option maxRecDepth 100000 in
theorem long_lifted (os : Os) (started : os.Started) (H : Type) (enc : TypeId × Value → H) :
    ReturnsInHanded {} Try.checked os 9 .any (Rows.lineLongSpec.pre6 enc Try.prog Try.f9 Rows.lineLongRow.domain false) (Rows.lineLongSpec.post enc Try.prog Try.f9 false true false false) := by
  refine returnsInHanded_of_change (C := Try.checked) own1 started (by kernel_rfl) Try.func9
    (ChangeSpec.witness6 (enc := enc) (C := Try.checked) false ⟨#[], #[.slice none 0 0, .agg #[.int .i64 0, .int .i64 0]], []⟩ 8 (by kernel_rfl) (by kernel_rfl) (by kernel_rfl) (by kernel_rfl)) ?_
  intro W base args ds gs before hval hW _ _
  refine law_of_V (n := 8) laidOut (by kernel_rfl) rfl (fun ds hd => ?_) (tb := 4) (by kernel_rfl) (by kernel_rfl) (globs0 W _) (fun ps hp => ?_) hval hW
  · rw [Try.params9] at hd
    match ds, hd with
    | [d1, d2], _ => rfl
  · rw [Try.params9] at hp
    obtain ⟨p1, p2, rfl, h1, h2⟩ := shAs2 hp
    obtain ⟨l0, rfl, b0⟩ := read_ens h1
    obtain ⟨x1, y1, rfl, lo1, hi1⟩ := read_span h2
    exact v9 l0 b0 x1 y1 lo1 hi1
theorem long_holds : Rows.LineLongSaid :=
  OpenClaim.holds_of_wide 9 Try.f9 rfl rfl rfl rfl rfl rfl rfl ⟨rfl, rfl, rfl, rfl, rfl⟩ rfl rfl rfl rfl rfl (by kernel_rfl) Try.func9 (by kernel_rfl)
    (of_decide_eq_true (by kernel_rfl)) (by unfold Func.isWrapper; first | (rw [if_pos (by decide +kernel)]; kernel_rfl) | (rw [if_neg (by decide +kernel)]; exact ⟨rfl, rfl⟩))
    (fun os started H enc _ => long_lifted os started H enc)
end Go.Proofs.Ytjcoenideicmbaa

