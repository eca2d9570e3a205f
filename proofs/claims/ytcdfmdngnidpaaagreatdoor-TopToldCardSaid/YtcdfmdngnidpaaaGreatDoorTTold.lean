/-
  TopTold: facts of which no two are of one person and have a day in common are in force alike, in whatever order they are told; and of one person the one that was told last is in force where it holds. No conditions. The listed tables are tied by the given tie.
-/
import Derived.Test.YtcdfmdngnidpaaaGreatDoorTToldB
import Derived.Test.YtcdfmdngnidpaaaGreatDoorRows
import Derived.Test.YtcdfmdngnidpaaaGreatDoorCards
import Derived.Test.YtcdfmdngnidpaaaGreatDoorTie
import Derived.SevenTiedAt
namespace Go.Proofs.YtcdfmdngnidpaaaGreatDoor
open Go PG Go.Proofs
set_option linter.unusedSimpArgs false
set_option linter.unusedVariables false
set_option linter.unusedSectionVars false
set_option maxHeartbeats 4000000
set_option maxRecDepth 100000
theorem told_lifted (os : Os) (started : os.Started) (H : Type) (enc : TypeId × Value → H) :
    ReturnsInHanded {} Tryz.checked os 3 .any (fun w args => (Rows.topToldSpec.pre enc Tryz.prog Tryz.f3 [] false w args ∧ laidMetH Tryz.prog laid1 w) ∧ sizedMet enc Tryz.prog Tryz.f3 (OpenSpec.ofChange Rows.topToldSpec) false w args)
      (Rows.topToldSpec.post enc Tryz.prog Tryz.f3 false true false false) := by
  refine returnsInHanded_of_change_and (C := Tryz.checked) (X := fun w _ => laidMetH Tryz.prog laid1 w) (fun _ _ _ hh h => h.of_heap hh) own started (by kernel_rfl) Tryz.func3
    (ChangeSpec.witness_shaped (enc := enc) (C := Tryz.checked) (os := os) (X := fun w _ => laidMetH Tryz.prog laid1 w) false (doorW os) #[.slice none 0 0, .slice none 0 0, .int .u16 0] 8 rfl (World.shaped_of_RefB (by kernel_rfl) (by kernel_rfl)) (by kernel_rfl) (by kernel_rfl) (by kernel_rfl) (door_met1 os _)) ?_
  intro W base args ds gs before hval hW _ _ hL _
  refine law_of_V (n := 8) laidOut (by kernel_rfl) rfl (fun ds hd => ?_) (tb := 4) (by kernel_rfl) (by kernel_rfl) (g0in W) (fun ps hp => ?_) hval hW
  · rw [Tryz.params3] at hd
    match ds, hd with
    | [d1, d2, d3], _ => rfl
  · rw [Tryz.params3] at hp
    match ps, hp with
    | [p1, p2, p3], hp =>
      obtain ⟨l, rfl, h1, h2⟩ := read_tds (n := 5) hp.1
      obtain ⟨tk, rfl, h3⟩ := read_bytes (n := 6) hp.2.1
      obtain ⟨d, rfl, h4⟩ := read_u16 (n := 7) hp.2.2.1
      exact v3 l h1 h2 tk h3 d h4
theorem told_row : Rows.TopToldSaid :=
  OpenClaim.holds_of_wide 3 Tryz.f3 rfl rfl rfl rfl rfl rfl rfl ⟨rfl, rfl, rfl, rfl, rfl⟩ rfl rfl rfl rfl rfl (by kernel_rfl) Tryz.func3 (by kernel_rfl)
    (of_decide_eq_true (by kernel_rfl)) (by unfold Func.isWrapper; first | (rw [if_pos (by decide +kernel)]; kernel_rfl) | (rw [if_neg (by decide +kernel)]; exact ⟨rfl, rfl⟩))
    (fun os started H enc _ => told_lifted os started H enc)
theorem told_holds : Rows.TopToldCardSaid :=
  Claim7.holds_tied_plain_at .later [] _ _ _ _
    told_row (fun _ h => by cases h) (by kernel_rfl) (fun _ h => by cases h) topTold_row_tie rfl ⟨rfl, rfl⟩ (by kernel_rfl) rfl
    (fun f fn hf hfn => by
      obtain rfl : f = 3 := Option.some.inj ((show Tryz.prog.funcNamed "wagebook/wagebooktop.TopTold" = some 3 by kernel_rfl).symm.trans hf) |>.symm
      obtain rfl : fn = Tryz.f3 := (Option.some.inj (Tryz.func3.symm.trans hfn)).symm
      exact ⟨by kernel_rfl, fun j t ht => by
        rw [Tryz.params3] at ht
        have hm : t ∈ [22, 23, 24] := by simpa using Array.mem_of_getElem? ht
        have hall : ([22, 23, 24].all fun u => !Tryz.prog.wantsStandIn u) = true := by kernel_rfl
        exact (show Tryz.prog.wantsStandIn t = false by simpa using List.all_eq_true.1 hall t hm)⟩)
    (by kernel_rfl)
end Go.Proofs.YtcdfmdngnidpaaaGreatDoor
