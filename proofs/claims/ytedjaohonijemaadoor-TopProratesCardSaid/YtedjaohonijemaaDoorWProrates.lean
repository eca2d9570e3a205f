/-
  TopProrates: a pay for the year, told for each period of a year whole, sums to it, whatever calendar; and cut at any days within a period, the pieces of the same pay come to what is that for the period. No conditions. The listed tables are tied by the given tie.
-/
import Derived.Test.YtedjaohonijemaaDoorRows
import Derived.Test.YtedjaohonijemaaDoorCards
import Derived.Test.YtedjaohonijemaaDoorTie
import Derived.SevenTiedAt
import Derived.Test.YtedjaohonijemaaDoorQ13
namespace Go.Proofs.YtedjaohonijemaaDoor
open Go PG Go.Proofs
set_option linter.unusedSimpArgs false
set_option linter.unusedVariables false
set_option maxRecDepth 100000
theorem prorates_lifted (os : Os) (started : os.Started) (H : Type) (enc : TypeId × Value → H) :
    ReturnsInHanded {} Tryd.checked os 3 .any (fun w args => (Rows.topProratesSpec.pre enc Tryd.prog Tryd.f3 [] false w args ∧ laidMetH Tryd.prog laid1 w) ∧ sizedMet enc Tryd.prog Tryd.f3 (OpenSpec.ofChange Rows.topProratesSpec) false w args)
      (Rows.topProratesSpec.post enc Tryd.prog Tryd.f3 false true false false) := by
  refine returnsInHanded_of_change_and (C := Tryd.checked) (X := fun w _ => laidMetH Tryd.prog laid1 w) (fun _ _ _ hh h => h.of_heap hh) own started (by kernel_rfl) Tryd.func3
    (ChangeSpec.witness_shaped (enc := enc) (C := Tryd.checked) (os := os) (X := fun w _ => laidMetH Tryd.prog laid1 w) false (World.doorLaid Tryd.prog 400 os) #[.int .u8 0, .int .u8 0, .int .u16 0, .int .u8 0, .int .u32 0, .int .u8 0, .slice none 0 0] 8 rfl (World.shaped_of_RefB (by kernel_rfl) (by kernel_rfl)) (by kernel_rfl) (by kernel_rfl) (by kernel_rfl) (door_met1 os _)) ?_
  intro W base args ds gs before hval hW _ _ hL _
  refine law_of_V (n := 8) laidOut (by kernel_rfl) rfl (fun ds hd => ?_) (tb := 4) (by kernel_rfl) (by kernel_rfl) (globs0 hL) (fun ps hp => ?_) hval hW
  · rw [Tryd.params3] at hd
    match ds, hd with
    | [d1, d2, d3, d4, d5, d6, d7], _ => rfl
  · rw [Tryd.params3] at hp
    match ps, hp with
    | [p1, p2, p3, p4, p5, p6, p7], hp =>
      obtain ⟨a1, rfl, h1⟩ := read_u8 (n := 7) hp.1
      obtain ⟨a2, rfl, h2⟩ := read_u8 (n := 7) hp.2.1
      obtain ⟨a3, rfl, h3⟩ := read_u16 (n := 7) hp.2.2.1
      obtain ⟨a4, rfl, h4⟩ := read_u8 (n := 7) hp.2.2.2.1
      obtain ⟨a5, rfl, h5⟩ := read_u32 (n := 7) hp.2.2.2.2.1
      obtain ⟨a6, rfl, h6⟩ := read_u8 (n := 7) hp.2.2.2.2.2.1
      obtain ⟨a7, rfl, h7, h8⟩ := read_bytes (n := 6) hp.2.2.2.2.2.2.1
      exact v3 a1 a2 a3 a4 a5 a6 a7 h1 h2 h3 h4 h5 h6 h7 h8
theorem prorates_row : Rows.TopProratesSaid :=
  OpenClaim.holds_of_wide 3 Tryd.f3 rfl rfl rfl rfl rfl rfl rfl ⟨rfl, rfl, rfl, rfl, rfl⟩ rfl rfl rfl rfl rfl (by kernel_rfl) Tryd.func3 (by kernel_rfl)
    (of_decide_eq_true (by kernel_rfl)) (by unfold Func.isWrapper; first | (rw [if_pos (by decide +kernel)]; kernel_rfl) | (rw [if_neg (by decide +kernel)]; exact ⟨rfl, rfl⟩))
    (fun os started H enc _ => prorates_lifted os started H enc)
theorem prorates_holds : Rows.TopProratesCardSaid :=
  Claim7.holds_tied_plain_at .later [] _ _ _ _
    prorates_row (fun _ h => by cases h) (by kernel_rfl) (fun _ h => by cases h) topProrates_row_tie rfl ⟨rfl, rfl⟩ (by kernel_rfl) rfl
    (fun f fn hf hfn => by
      obtain rfl : f = 3 := Option.some.inj ((show Tryd.prog.funcNamed "wagebook/wagebooktop.TopProrates" = some 3 by kernel_rfl).symm.trans hf) |>.symm
      obtain rfl : fn = Tryd.f3 := (Option.some.inj (Tryd.func3.symm.trans hfn)).symm
      exact ⟨by kernel_rfl, fun j t ht => by
        rw [Tryd.params3] at ht
        have hm : t ∈ [5, 5, 22, 5, 23, 5, 24] := by simpa using Array.mem_of_getElem? ht
        have hall : ([5, 5, 22, 5, 23, 5, 24].all fun u => !Tryd.prog.wantsStandIn u) = true := by kernel_rfl
        exact (show Tryd.prog.wantsStandIn t = false by simpa using List.all_eq_true.1 hall t hm)⟩)
    (by kernel_rfl)
end Go.Proofs.YtedjaohonijemaaDoor

