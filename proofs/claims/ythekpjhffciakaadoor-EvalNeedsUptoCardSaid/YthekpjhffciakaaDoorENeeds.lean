/-
  EvalNeeds: for each name that rules read and none of them makes, the needs are the names of the right trees that are no rule of theirs, each once. Condition: what is read is of bulk at most 1048576 (the second form). The listed table is tied by the given tie.
-/
import Derived.Test.YthekpjhffciakaaDoorRows
import Derived.Test.YthekpjhffciakaaDoorCards
import Derived.Test.YthekpjhffciakaaDoorTie
import Derived.SevenTiedAt
import Derived.Deep.DeepHandedRow
import Derived.Test.YthekpjhffciakaaDoorQ13
namespace Go.Proofs.YthekpjhffciakaaDoor
open Go PG Go.Proofs
set_option linter.unusedSimpArgs false
set_option linter.unusedVariables false
set_option maxRecDepth 100000
theorem needs_lifted (os : Os) (started : os.Started) (H : Type) (enc : TypeId × Value → H) (F : Stop.Interp) :
    ReturnsInHanded {} Tryd.checked os 9 .any ((Rows.OpenSpec.upto Rows.evalNeedsSpec).preRow enc Tryd.prog Tryd.f9 Rows.evalNeedsUptoRow.domain false Rows.evalNeedsUptoRow.laid) (((Rows.OpenSpec.upto Rows.evalNeedsSpec).at F).post enc Tryd.prog Tryd.f9 false true false false) := by
  have hw : (DataW.whole enc Tryd.prog ((World.doorLaid Tryd.prog 400 os).forCall (fun _ _ => 0) ⟨#[], #[.slice none 0 0], []⟩).memory Tryd.f9.params.toList Rows.evalNeedsSpec.vars false (#[.slice none 0 0] : Array Value).toList 8).map (fun x => (x.1, x.2.1)) = some ([.nil], []) := by kernel_rfl
  obtain ⟨⟨x1, x2, x3⟩, hx, hx1⟩ := Option.map_eq_some_iff.1 hw
  simp only [Prod.mk.injEq] at hx1
  obtain ⟨rfl, rfl⟩ := hx1
  refine returnsInHanded_of_row (C := Tryd.checked) (s := Rows.OpenSpec.upto Rows.evalNeedsSpec) own started (by kernel_rfl) Tryd.func9
    (witness_row_at (enc := enc) (C := Tryd.checked) false (World.doorLaid Tryd.prog 400 os) #[.slice none 0 0] rfl (by kernel_rfl) (by kernel_rfl) (by kernel_rfl)
      (OpenSpec.preRow_of_cond 8 hx (by kernel_rfl) (fun k hk => by cases hk; kernel_rfl) (by kernel_rfl) (door_metK os _))) ?_
  intro W base args ds gs before hval hW _ hcond _ hL _ _
  refine law_of_Z (n := 8) szOk laidOut (by kernel_rfl) rfl (fun ds hd => ?_) (tb := 4) (by kernel_rfl) (by kernel_rfl) (globsK hL) (fun ps hp => ?_) hval hW (small_of (hcond _ rfl))
  · rw [Tryd.params9] at hd
    match ds, hd with
    | [d1], _ => rfl
  · rw [Tryd.params9] at hp
    obtain ⟨p1, rfl, k1⟩ := shBs1 hp
    obtain ⟨l, rfl, h1, h2⟩ := read_rls (n := 1) k1
    exact v9 l h1 (by omega)
theorem needs_row : Rows.EvalNeedsUptoSaid :=
  OpenClaim.holds_of_cond 9 Tryd.f9 rfl rfl rfl rfl rfl rfl rfl ⟨rfl, rfl, rfl, rfl, rfl⟩ rfl rfl rfl rfl rfl (by kernel_rfl) Tryd.func9 (by kernel_rfl)
    (of_decide_eq_true (by kernel_rfl)) (by unfold Func.isWrapper; first | (rw [if_pos (by decide +kernel)]; kernel_rfl) | (rw [if_neg (by decide +kernel)]; exact ⟨rfl, rfl⟩))
    (fun os started H enc _ F => by rw [OpenClaim.pre_eq_preRow]; exact needs_lifted os started H enc F)
theorem needs_holds : Rows.EvalNeedsUptoCardSaid :=
  Claim7.holds_tied_plain_at .later [] _ _ _ _
    needs_row (fun _ h => by cases h) (by kernel_rfl) (fun _ h => by cases h) evalNeedsUpto_row_tie rfl ⟨rfl, rfl⟩ (by kernel_rfl) rfl
    (fun f fn hf hfn => by
      obtain rfl : f = 9 := Option.some.inj ((show Tryd.prog.funcNamed "wagebook/wagebooklaw15.EvalNeeds" = some 9 by kernel_rfl).symm.trans hf) |>.symm
      obtain rfl : fn = Tryd.f9 := (Option.some.inj (Tryd.func9.symm.trans hfn)).symm
      exact ⟨by kernel_rfl, fun j t ht => by
        rw [Tryd.params9] at ht
        have hm : t ∈ [69] := by simpa using Array.mem_of_getElem? ht
        have hall : ([69].all fun u => !Tryd.prog.wantsStandIn u) = true := by kernel_rfl
        exact (show Tryd.prog.wantsStandIn t = false by simpa using List.all_eq_true.1 hall t hm)⟩)
    (by kernel_rfl)
end Go.Proofs.YthekpjhffciakaaDoor

