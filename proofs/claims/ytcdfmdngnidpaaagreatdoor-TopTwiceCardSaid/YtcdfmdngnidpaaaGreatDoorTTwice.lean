/-
  TopTwice: facts with numbers of their tellers, brought in again, alike, and in any part, are passed over, and change nothing. No conditions. The listed tables are tied by the given tie.
-/
import Derived.Test.YtcdfmdngnidpaaaGreatDoorTTwiceB
import Derived.Test.YtcdfmdngnidpaaaGreatDoorRows
import Derived.Test.YtcdfmdngnidpaaaGreatDoorCards
import Derived.Test.YtcdfmdngnidpaaaGreatDoorTie
import Derived.SevenTiedAt
namespace Go.Proofs.YtcdfmdngnidpaaaGreatDoor
open Go PG Go.Proofs
set_option linter.unusedSimpArgs false
set_option linter.unusedVariables false
set_option linter.unusedSectionVars false
set_option maxHeartbeats 4000000
set_option maxRecDepth 100000
theorem twice_lifted (os : Os) (started : os.Started) (H : Type) (enc : TypeId × Value → H) :
    ReturnsInHanded {} Tryz.checked os 5 .any (fun w args => (Rows.topTwiceSpec.pre enc Tryz.prog Tryz.f5 [] false w args ∧ laidMetH Tryz.prog laid1 w) ∧ sizedMet enc Tryz.prog Tryz.f5 (OpenSpec.ofChange Rows.topTwiceSpec) false w args)
      (Rows.topTwiceSpec.post enc Tryz.prog Tryz.f5 false true false false) := by
  refine returnsInHanded_of_change_and (C := Tryz.checked) (X := fun w _ => laidMetH Tryz.prog laid1 w) (fun _ _ _ hh h => h.of_heap hh) own started (by kernel_rfl) Tryz.func5
    (ChangeSpec.witness_shaped (enc := enc) (C := Tryz.checked) (os := os) (X := fun w _ => laidMetH Tryz.prog laid1 w) false (doorW os) #[.slice none 0 0, .int .u8 0, .int .u8 0] 8 rfl (World.shaped_of_RefB (by kernel_rfl) (by kernel_rfl)) (by kernel_rfl) (by kernel_rfl) (by kernel_rfl) (door_met1 os _)) ?_
  intro W base args ds gs before hval hW _ _ hL _
  refine law_of_V (n := 8) laidOut (by kernel_rfl) rfl (fun ds hd => ?_) (tb := 4) (by kernel_rfl) (by kernel_rfl) (g0in W) (fun ps hp => ?_) hval hW
  · rw [Tryz.params5] at hd
    match ds, hd with
    | [d1, d2, d3], _ => rfl
  · rw [Tryz.params5] at hp
    match ps, hp with
    | [p1, p2, p3], hp =>
      obtain ⟨l, rfl, h1, h2⟩ := read_tds (n := 5) hp.1
      obtain ⟨n, rfl, h3⟩ := read_u8 (n := 7) hp.2.1
      obtain ⟨m, rfl, h4⟩ := read_u8 (n := 7) hp.2.2.1
      exact v5 l h1 h2 n m h3 h4
theorem twice_row : Rows.TopTwiceSaid :=
  OpenClaim.holds_of_wide 5 Tryz.f5 rfl rfl rfl rfl rfl rfl rfl ⟨rfl, rfl, rfl, rfl, rfl⟩ rfl rfl rfl rfl rfl (by kernel_rfl) Tryz.func5 (by kernel_rfl)
    (of_decide_eq_true (by kernel_rfl)) (by unfold Func.isWrapper; first | (rw [if_pos (by decide +kernel)]; kernel_rfl) | (rw [if_neg (by decide +kernel)]; exact ⟨rfl, rfl⟩))
    (fun os started H enc _ => twice_lifted os started H enc)
theorem twice_holds : Rows.TopTwiceCardSaid :=
  Claim7.holds_tied_plain_at .later [] _ _ _ _
    twice_row (fun _ h => by cases h) (by kernel_rfl) (fun _ h => by cases h) topTwice_row_tie rfl ⟨rfl, rfl⟩ (by kernel_rfl) rfl
    (fun f fn hf hfn => by
      obtain rfl : f = 5 := Option.some.inj ((show Tryz.prog.funcNamed "wagebook/wagebooktop.TopTwice" = some 5 by kernel_rfl).symm.trans hf) |>.symm
      obtain rfl : fn = Tryz.f5 := (Option.some.inj (Tryz.func5.symm.trans hfn)).symm
      exact ⟨by kernel_rfl, fun j t ht => by
        rw [Tryz.params5] at ht
        have hm : t ∈ [22, 5, 5] := by simpa using Array.mem_of_getElem? ht
        have hall : ([22, 5, 5].all fun u => !Tryz.prog.wantsStandIn u) = true := by kernel_rfl
        exact (show Tryz.prog.wantsStandIn t = false by simpa using List.all_eq_true.1 hall t hm)⟩)
    (by kernel_rfl)
end Go.Proofs.YtcdfmdngnidpaaaGreatDoor
