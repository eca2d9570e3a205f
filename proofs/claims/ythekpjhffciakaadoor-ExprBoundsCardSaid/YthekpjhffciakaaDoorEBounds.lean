/-
  ExprBounds: a sum of so many ones, in brackets to the right, and a bush of calls: too deep, or too many, just where the document says. No conditions. The listed tables are tied by the given tie.
-/
import Derived.Test.YthekpjhffciakaaDoorRows
import Derived.Test.YthekpjhffciakaaDoorCards
import Derived.Test.YthekpjhffciakaaDoorTie
import Derived.SevenTiedAt
import Derived.Test.YthekpjhffciakaaDoorQ18
namespace Go.Proofs.YthekpjhffciakaaDoor
open Go PG Go.Proofs
set_option linter.unusedSimpArgs false
set_option linter.unusedVariables false
set_option maxRecDepth 100000
theorem bounds_lifted (os : Os) (started : os.Started) (H : Type) (enc : TypeId × Value → H) :
    ReturnsInHanded {} Tryd.checked os 8 .any (fun w args => (Rows.exprBoundsSpec.pre enc Tryd.prog Tryd.f8 [] false w args ∧ laidMetH Tryd.prog laid1 w) ∧ sizedMet enc Tryd.prog Tryd.f8 (OpenSpec.ofChange Rows.exprBoundsSpec) false w args)
      (Rows.exprBoundsSpec.post enc Tryd.prog Tryd.f8 false true false false) := by
  refine returnsInHanded_of_change_and (C := Tryd.checked) (X := fun w _ => laidMetH Tryd.prog laid1 w) (fun _ _ _ hh h => h.of_heap hh) own started (by kernel_rfl) Tryd.func8
    (ChangeSpec.witness_shaped (enc := enc) (C := Tryd.checked) (os := os) (X := fun w _ => laidMetH Tryd.prog laid1 w) false (World.doorLaid Tryd.prog 400 os) #[.int .u16 0, .int .u16 0] 8 rfl (World.shaped_of_RefB (by kernel_rfl) (by kernel_rfl)) (by kernel_rfl) (by kernel_rfl) (by kernel_rfl) (door_met1 os _)) ?_
  intro W base args ds gs before hval hW _ _ hL _
  refine law_of_V (n := 8) laidOut (by kernel_rfl) rfl (fun ds hd => ?_) (tb := 4) (by kernel_rfl) (by kernel_rfl) (globs0 hL) (fun ps hp => ?_) hval hW
  · rw [Tryd.params8] at hd
    match ds, hd with
    | [d1, d2], _ => rfl
  · rw [Tryd.params8] at hp
    match ps, hp with
    | [p1, p2], hp =>
      obtain ⟨a, rfl, h1⟩ := read_u16 (n := 7) hp.1
      obtain ⟨b, rfl, h2⟩ := read_u16 (n := 7) hp.2.1
      exact v8 a b h1 h2
theorem bounds_row : Rows.ExprBoundsSaid :=
  OpenClaim.holds_of_wide 8 Tryd.f8 rfl rfl rfl rfl rfl rfl rfl ⟨rfl, rfl, rfl, rfl, rfl⟩ rfl rfl rfl rfl rfl (by kernel_rfl) Tryd.func8 (by kernel_rfl)
    (of_decide_eq_true (by kernel_rfl)) (by unfold Func.isWrapper; first | (rw [if_pos (by decide +kernel)]; kernel_rfl) | (rw [if_neg (by decide +kernel)]; exact ⟨rfl, rfl⟩))
    (fun os started H enc _ => bounds_lifted os started H enc)
theorem bounds_holds : Rows.ExprBoundsCardSaid :=
  Claim7.holds_tied_plain_at .later [] _ _ _ _
    bounds_row (fun _ h => by cases h) (by kernel_rfl) (fun _ h => by cases h) exprBounds_row_tie rfl ⟨rfl, rfl⟩ (by kernel_rfl) rfl
    (fun f fn hf hfn => by
      obtain rfl : f = 8 := Option.some.inj ((show Tryd.prog.funcNamed "wagebook/wagebooklaw13.ExprBounds" = some 8 by kernel_rfl).symm.trans hf) |>.symm
      obtain rfl : fn = Tryd.f8 := (Option.some.inj (Tryd.func8.symm.trans hfn)).symm
      exact ⟨by kernel_rfl, fun j t ht => by
        rw [Tryd.params8] at ht
        have hm : t ∈ [67, 67] := by simpa using Array.mem_of_getElem? ht
        have hall : ([67, 67].all fun u => !Tryd.prog.wantsStandIn u) = true := by kernel_rfl
        exact (show Tryd.prog.wantsStandIn t = false by simpa using List.all_eq_true.1 hall t hm)⟩)
    (by kernel_rfl)
end Go.Proofs.YthekpjhffciakaaDoor

