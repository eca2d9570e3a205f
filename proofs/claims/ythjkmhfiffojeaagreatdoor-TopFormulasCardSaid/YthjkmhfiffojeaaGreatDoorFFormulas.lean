/-
  TopFormulas: formulas that need each other come to the same, in whatever order they are told; each is printed, and read again, as it was, and comes to the same; what a formula does not need, straight or by others, plays no part. No conditions. The listed tables are tied by the given tie.
-/
import Derived.Test.YthjkmhfiffojeaaGreatDoorRows
import Derived.Test.YthjkmhfiffojeaaGreatDoorCards
import Derived.Test.YthjkmhfiffojeaaGreatDoorTie
import Derived.SevenTiedAt
import Derived.Test.YthjkmhfiffojeaaGreatDoorQ25
namespace Go.Proofs.YthjkmhfiffojeaaGreatDoor
open Go PG Go.Proofs
set_option linter.unusedSimpArgs false
set_option linter.unusedVariables false
set_option maxRecDepth 100000
theorem formulas_lifted (os : Os) (started : os.Started) (H : Type) (enc : TypeId × Value → H) :
    ReturnsInHanded {} Tryz.checked os 3 .any (fun w args => (Rows.topFormulasSpec.pre enc Tryz.prog Tryz.f3 [] false w args ∧ laidMetH Tryz.prog laid1 w) ∧ sizedMet enc Tryz.prog Tryz.f3 (OpenSpec.ofChange Rows.topFormulasSpec) false w args)
      (Rows.topFormulasSpec.post enc Tryz.prog Tryz.f3 false true false false) := by
  refine returnsInHanded_of_change_and (C := Tryz.checked) (X := fun w _ => laidMetH Tryz.prog laid1 w) (fun _ _ _ hh h => h.of_heap hh) own started (by kernel_rfl) Tryz.func3
    (ChangeSpec.witness_shaped (enc := enc) (C := Tryz.checked) (os := os) (X := fun w _ => laidMetH Tryz.prog laid1 w) false (kM0 os) #[.slice none 0 0, .int .i32 0, .int .i32 0, .int .i32 0, .slice none 0 0, .int .u8 0] 8 rfl (World.shaped_of_RefB (by kernel_rfl) (by kernel_rfl)) (by kernel_rfl) (by kernel_rfl) (by kernel_rfl) (kDG os _)) ?_
  intro W base args ds gs before hval hW _ _ hL _
  refine kEZ (n := 8) laidOut (by kernel_rfl) rfl (fun ds hd => ?_) (tb := 4) (by kernel_rfl) (by kernel_rfl) (kLW hL) (fun ps hp => ?_) hval hW
  · rw [Tryz.params3] at hd
    match ds, hd with
    | [d1, d2, d3, d4, d5, d6], _ => rfl
  · rw [Tryz.params3] at hp
    obtain ⟨p1, p2, p3, p4, p5, p6, rfl, q1, q2, q3, q4, q5, q6⟩ := kQ4 hp
    obtain ⟨a1, rfl, h1, h2⟩ := kET (n := 5) q1
    obtain ⟨a2, rfl, h3⟩ := jO2 (n := 7) q2
    obtain ⟨a3, rfl, h4⟩ := jO2 (n := 7) q3
    obtain ⟨a4, rfl, h5⟩ := jO2 (n := 7) q4
    obtain ⟨a5, rfl, h6, h7⟩ := jX9 (n := 6) q5
    obtain ⟨a6, rfl, h8⟩ := kIA (n := 7) q6
    exact V3 a1 h1 h2 a2 a3 a4 h3 h4 h5 a5 h6 h7 a6 h8
theorem formulas_row : Rows.TopFormulasSaid :=
  OpenClaim.holds_of_wide 3 Tryz.f3 rfl rfl rfl rfl rfl rfl rfl ⟨rfl, rfl, rfl, rfl, rfl⟩ rfl rfl rfl rfl rfl (by kernel_rfl) Tryz.func3 (by kernel_rfl)
    (of_decide_eq_true (by kernel_rfl)) (by unfold Func.isWrapper; first | (rw [if_pos (by decide +kernel)]; kernel_rfl) | (rw [if_neg (by decide +kernel)]; exact ⟨rfl, rfl⟩))
    (fun os started H enc _ => formulas_lifted os started H enc)
theorem formulas_holds : Rows.TopFormulasCardSaid :=
  Claim7.holds_tied_plain_at .later [] _ _ _ _
    formulas_row (fun _ h => by cases h) (by kernel_rfl) (fun _ h => by cases h) topFormulas_row_tie rfl ⟨rfl, rfl⟩ (by kernel_rfl) rfl
    (fun f fn hf hfn => by
      obtain rfl : f = 3 := Option.some.inj ((show Tryz.prog.funcNamed "wagebook/wagebooktop.TopFormulas" = some 3 by kernel_rfl).symm.trans hf) |>.symm
      obtain rfl : fn = Tryz.f3 := (Option.some.inj (Tryz.func3.symm.trans hfn)).symm
      exact ⟨by kernel_rfl, fun j t ht => by
        rw [Tryz.params3] at ht
        have hm : t ∈ [22, 21, 21, 21, 23, 5] := by simpa using Array.mem_of_getElem? ht
        have hall : ([22, 21, 21, 21, 23, 5].all fun u => !Tryz.prog.wantsStandIn u) = true := by kernel_rfl
        exact (show Tryz.prog.wantsStandIn t = false by simpa using List.all_eq_true.1 hall t hm)⟩)
    (by kernel_rfl)
end Go.Proofs.YthjkmhfiffojeaaGreatDoor

