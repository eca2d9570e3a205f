/-
  EvalTurns: what rules come to does not hang on their order in the list; each name has the value of its formula there, and what the environment had stays. No conditions. The listed table is tied by the given tie.
-/
import Derived.Test.YthekpjhffciakaaDoorRows
import Derived.Test.YthekpjhffciakaaDoorCards
import Derived.Test.YthekpjhffciakaaDoorTie
import Derived.SevenTiedAt
import Derived.Test.YthekpjhffciakaaDoorQ14
import Derived.Test.YthekpjhffciakaaDoorQ15
namespace Go.Proofs.YthekpjhffciakaaDoor
open Go PG Go.Proofs
set_option linter.unusedSimpArgs false
set_option linter.unusedVariables false
set_option maxRecDepth 100000
theorem turns_lifted (os : Os) (started : os.Started) (H : Type) (enc : TypeId × Value → H) :
    ReturnsInHanded {} Tryd.checked os 10 .any (fun w args => (Rows.evalTurnsSpec.pre enc Tryd.prog Tryd.f10 [] false w args ∧ laidMetH Tryd.prog laidK w) ∧ sizedMet enc Tryd.prog Tryd.f10 (OpenSpec.ofChange Rows.evalTurnsSpec) false w args)
      (Rows.evalTurnsSpec.post enc Tryd.prog Tryd.f10 false true false false) := by
  refine returnsInHanded_of_change_and (C := Tryd.checked) (X := fun w _ => laidMetH Tryd.prog laidK w) (fun _ _ _ hh h => h.of_heap hh) own started (by kernel_rfl) Tryd.func10
    (ChangeSpec.witness_shaped (enc := enc) (C := Tryd.checked) (os := os) (X := fun w _ => laidMetH Tryd.prog laidK w) false (World.doorLaid Tryd.prog 400 os) #[.slice none 0 0, .slice none 0 0, .int .u8 0] 8 rfl (World.shaped_of_RefB (by kernel_rfl) (by kernel_rfl)) (by kernel_rfl) (by kernel_rfl) (by kernel_rfl) (door_metK os _)) ?_
  intro W base args ds gs before hval hW _ _ hL _
  refine law_of_V (n := 8) laidOut (by kernel_rfl) rfl (fun ds hd => ?_) (tb := 4) (by kernel_rfl) (by kernel_rfl) (globsK hL) (fun ps hp => ?_) hval hW
  · rw [Tryd.params10] at hd
    match ds, hd with
    | [d1, d2, d3], _ => rfl
  · rw [Tryd.params10] at hp
    match ps, hp with
    | [p1, p2, p3], hp =>
      obtain ⟨l, rfl, h1⟩ := read_pairs (n := 4) hp.1
      obtain ⟨rs, rfl, h2, h3⟩ := read_rlsF (n := 1) hp.2.1
      obtain ⟨t, rfl, h4⟩ := read_u8 (n := 7) hp.2.2.1
      exact v10 l h1 rs h2 h3 t (by omega)
theorem turns_row : Rows.EvalTurnsSaid :=
  OpenClaim.holds_of_wide 10 Tryd.f10 rfl rfl rfl rfl rfl rfl rfl ⟨rfl, rfl, rfl, rfl, rfl⟩ rfl rfl rfl rfl rfl (by kernel_rfl) Tryd.func10 (by kernel_rfl)
    (of_decide_eq_true (by kernel_rfl)) (by unfold Func.isWrapper; first | (rw [if_pos (by decide +kernel)]; kernel_rfl) | (rw [if_neg (by decide +kernel)]; exact ⟨rfl, rfl⟩))
    (fun os started H enc _ => turns_lifted os started H enc)
theorem turns_holds : Rows.EvalTurnsCardSaid :=
  Claim7.holds_tied_plain_at .later [] _ _ _ _
    turns_row (fun _ h => by cases h) (by kernel_rfl) (fun _ h => by cases h) evalTurns_row_tie rfl ⟨rfl, rfl⟩ (by kernel_rfl) rfl
    (fun f fn hf hfn => by
      obtain rfl : f = 10 := Option.some.inj ((show Tryd.prog.funcNamed "wagebook/wagebooklaw15.EvalTurns" = some 10 by kernel_rfl).symm.trans hf) |>.symm
      obtain rfl : fn = Tryd.f10 := (Option.some.inj (Tryd.func10.symm.trans hfn)).symm
      exact ⟨by kernel_rfl, fun j t ht => by
        rw [Tryd.params10] at ht
        have hm : t ∈ [25, 69, 5] := by simpa using Array.mem_of_getElem? ht
        have hall : ([25, 69, 5].all fun u => !Tryd.prog.wantsStandIn u) = true := by kernel_rfl
        exact (show Tryd.prog.wantsStandIn t = false by simpa using List.all_eq_true.1 hall t hm)⟩)
    (by kernel_rfl)
end Go.Proofs.YthekpjhffciakaaDoor

