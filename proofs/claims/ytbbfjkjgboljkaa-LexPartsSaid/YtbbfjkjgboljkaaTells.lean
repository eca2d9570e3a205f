/-
  LexTells: for every text the program tells the tokens, or the place and the error, as the document does. No conditions.
-/
import Derived.Test.YtbbfjkjgboljkaaRows
import Derived.Test.YtbbfjkjgboljkaaY9
import Derived.Test.YtbbfjkjgboljkaaPure17
namespace Go.Proofs.Ytbbfjkjgboljkaa
open Go PG Go.Proofs
theorem own : ownKnob Try.prog.godebug = none := by kernel_rfl
theorem laidOut : laidOutB Try.prog = true := by kernel_rfl
theorem globs0 (W : World) : GlobsIn W (fun _ => False) G0 := by
  intro g sh x h; cases h
set_option maxRecDepth 100000 in
theorem tells_lifted (os : Os) (started : os.Started) (H : Type) (enc : TypeId × Value → H) :
    ReturnsInHanded {} Try.checked os 4 .any (Rows.lexTellsSpec.pre6 enc Try.prog Try.f4 Rows.lexTellsRow.domain false) (Rows.lexTellsSpec.post enc Try.prog Try.f4 false true false false) := by
  refine returnsInHanded_of_change (C := Try.checked) own started (by kernel_rfl) Try.func4
    (ChangeSpec.witness6 (enc := enc) (C := Try.checked) false ⟨#[], #[.string ⟨#[]⟩], []⟩ 8 (by kernel_rfl) (by kernel_rfl) (by kernel_rfl) (by kernel_rfl)) ?_
  intro W base args ds gs before hval hW _ _
  refine law_of_V (n := 8) laidOut (by kernel_rfl) rfl (fun ds hd => ?_) (tb := 4) (by kernel_rfl) (by kernel_rfl) (globs0 W) (fun ps hp => ?_) hval hW
  · rw [Try.params4] at hd
    match ds, hd with
    | [d], _ => rfl
  · rw [Try.params4] at hp
    match ps, hp with
    | [p], hp =>
      obtain ⟨l, rfl, hl⟩ := shA_str (by kernel_rfl) hp.1
      exact v4 l (maxLen_le hl)
theorem tells_holds : Rows.LexTellsSaid :=
  OpenClaim.holds_of_wide 4 Try.f4 rfl rfl rfl rfl rfl rfl rfl ⟨rfl, rfl, rfl, rfl, rfl⟩ rfl rfl rfl rfl rfl (by kernel_rfl) Try.func4 (by kernel_rfl)
    (of_decide_eq_true (by kernel_rfl)) (by unfold Func.isWrapper; first | (rw [if_pos (by decide +kernel)]; kernel_rfl) | (rw [if_neg (by decide +kernel)]; exact ⟨rfl, rfl⟩))
    (fun os started H enc _ => tells_lifted os started H enc)
end Go.Proofs.Ytbbfjkjgboljkaa
