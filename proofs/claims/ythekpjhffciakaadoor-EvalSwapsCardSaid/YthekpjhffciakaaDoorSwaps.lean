/-
  EvalSwaps: the value of a sum, a product, a least or a most one, or of an Equal, at the root, is the same with its kids changed about, and each value is within the bounds: for every tree, and whatever pairs. No conditions. The listed table is tied by the given tie.
-/
import Derived.Test.YthekpjhffciakaaDoorE12
import Derived.Test.YthekpjhffciakaaDoorE14
import Derived.Test.YthekpjhffciakaaDoorRows
import Derived.Test.YthekpjhffciakaaDoorCards
import Derived.Test.YthekpjhffciakaaDoorTie
import Derived.SevenTiedAt
namespace Go.Proofs.YthekpjhffciakaaDoor
open Go PG Go.Proofs
set_option linter.unusedSimpArgs false
set_option linter.unusedVariables false
set_option maxRecDepth 100000
theorem swaps_lifted (os : Os) (started : os.Started) (H : Type) (enc : TypeId × Value → H) :
    ReturnsInHanded {} Tryd.checked os 3 .any (fun w args => (Rows.evalSwapsSpec.pre enc Tryd.prog Tryd.f3 [] false w args ∧ laidMetH Tryd.prog laid1 w) ∧ sizedMet enc Tryd.prog Tryd.f3 (OpenSpec.ofChange Rows.evalSwapsSpec) false w args)
      (Rows.evalSwapsSpec.post enc Tryd.prog Tryd.f3 false true false false) := by
  refine returnsInHanded_of_change_and (C := Tryd.checked) (X := fun w _ => laidMetH Tryd.prog laid1 w) (fun _ _ _ hh h => h.of_heap hh) own started (by kernel_rfl) Tryd.func3
    (ChangeSpec.witness_shaped (enc := enc) (C := Tryd.checked) (os := os) (X := fun w _ => laidMetH Tryd.prog laid1 w) false (World.doorLaid Tryd.prog 400 os) #[.agg #[.slice none 0 0], .slice none 0 0] 8 rfl (World.shaped_of_RefB (by kernel_rfl) (by kernel_rfl)) (by kernel_rfl) (by kernel_rfl) (by kernel_rfl) (door_met1 os _)) ?_
  intro W base args ds gs before hval hW _ _ hL _
  refine law_of_V (n := 8) laidOut (by kernel_rfl) rfl (fun ds hd => ?_) (tb := 4) (by kernel_rfl) (by kernel_rfl) (globsK hL) (fun ps hp => ?_) hval hW
  · rw [Tryd.params3] at hd
    match ds, hd with
    | [d1, d2], _ => rfl
  · rw [Tryd.params3] at hp
    match ps, hp with
    | [p, q], hp =>
      obtain ⟨t, rfl, h1, h2, -⟩ := read_tree hp.1
      obtain ⟨l, rfl, h3, -⟩ := read_pairs hp.2.1
      exact v3 hasGK t l h1 h2 h3
theorem swaps_row : Rows.EvalSwapsSaid :=
  OpenClaim.holds_of_wide 3 Tryd.f3 rfl rfl rfl rfl rfl rfl rfl ⟨rfl, rfl, rfl, rfl, rfl⟩ rfl rfl rfl rfl rfl (by kernel_rfl) Tryd.func3 (by kernel_rfl)
    (of_decide_eq_true (by kernel_rfl)) (by unfold Func.isWrapper; first | (rw [if_pos (by decide +kernel)]; kernel_rfl) | (rw [if_neg (by decide +kernel)]; exact ⟨rfl, rfl⟩))
    (fun os started H enc _ => swaps_lifted os started H enc)
theorem swaps_holds : Rows.EvalSwapsCardSaid :=
  Claim7.holds_tied_plain_at .later [] [.data] true (true, "3831413380d2115b45d267de0efea2d6a45424fd121e572a0bc71f36a7e48ae1") false
    swaps_row (fun _ h => by cases h) (by kernel_rfl) (fun _ h => by cases h) evalSwaps_row_tie rfl ⟨rfl, rfl⟩ (by kernel_rfl) rfl
    (fun f fn hf hfn => by
      obtain rfl : f = 3 := Option.some.inj ((show Tryd.prog.funcNamed "wagebook/wagebooklaw15.EvalSwaps" = some 3 by kernel_rfl).symm.trans hf) |>.symm
      obtain rfl : fn = Tryd.f3 := (Option.some.inj (Tryd.func3.symm.trans hfn)).symm
      exact ⟨by kernel_rfl, fun j t ht => by
        rw [Tryd.params3] at ht
        have hm : t ∈ [24, 25] := by simpa using Array.mem_of_getElem? ht
        have hall : ([24, 25].all fun u => !Tryd.prog.wantsStandIn u) = true := by kernel_rfl
        exact (show Tryd.prog.wantsStandIn t = false by simpa using List.all_eq_true.1 hall t hm)⟩)
    (by kernel_rfl)
end Go.Proofs.YthekpjhffciakaaDoor
