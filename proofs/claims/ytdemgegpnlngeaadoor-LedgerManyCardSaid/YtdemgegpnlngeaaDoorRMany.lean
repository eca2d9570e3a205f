/-
  LedgerMany: 65536 entries are a batch, one more are not; what they debit is their sum, where it is not too much. No conditions. The listed tables are tied by the given tie.
-/
import Derived.Test.YtdemgegpnlngeaaDoorR15
import Derived.Test.YtdemgegpnlngeaaDoorRB
import Derived.Test.YtdemgegpnlngeaaDoorRows
import Derived.Test.YtdemgegpnlngeaaDoorCards
import Derived.Test.YtdemgegpnlngeaaDoorTie
import Derived.SevenTiedAt
namespace Go.Proofs.YtdemgegpnlngeaaDoor
open Go PG Go.Proofs
set_option linter.unusedSimpArgs false
set_option linter.unusedVariables false
set_option maxRecDepth 100000
theorem many_lifted (os : Os) (started : os.Started) (H : Type) (enc : TypeId × Value → H) :
    ReturnsInHanded {} Tryd.checked os 4 .any (fun w args => (Rows.ledgerManySpec.pre enc Tryd.prog Tryd.f4 [] false w args ∧ laidMetH Tryd.prog laid1 w) ∧ sizedMet enc Tryd.prog Tryd.f4 (OpenSpec.ofChange Rows.ledgerManySpec) false w args)
      (Rows.ledgerManySpec.post enc Tryd.prog Tryd.f4 false true false false) := by
  refine returnsInHanded_of_change_and (C := Tryd.checked) (X := fun w _ => laidMetH Tryd.prog laid1 w) (fun _ _ _ hh h => h.of_heap hh) own started (by kernel_rfl) Tryd.func4
    (ChangeSpec.witness_shaped (enc := enc) (C := Tryd.checked) (os := os) (X := fun w _ => laidMetH Tryd.prog laid1 w) false (doorW os) #[.int .u8 0, .bool false] 8 rfl (World.shaped_of_RefB (by kernel_rfl) (by kernel_rfl)) (by kernel_rfl) (by kernel_rfl) (by kernel_rfl) (door_met1 os _)) ?_
  intro W base args ds gs before hval hW _ _ hL _
  refine law_of_V (n := 8) laidOut (by kernel_rfl) rfl (fun ds hd => ?_) (tb := 4) (by kernel_rfl) (by kernel_rfl) (g0in W) (fun ps hp => ?_) hval hW
  · rw [Tryd.params4] at hd
    match ds, hd with
    | [d1, d2], _ => rfl
  · rw [Tryd.params4] at hp
    match ps, hp with
    | [p, q], hp =>
      obtain ⟨n, e1, h1, h2⟩ := shC_int (P := Tryd.prog) (n := 7) Tryd.underlying5 (by have := hp.1; unfold ShA at this; rw [Tryd.underlying5] at this; exact this)
      obtain ⟨b, e2⟩ := shC_bool (P := Tryd.prog) (n := 7) Tryd.underlying4 (by have := hp.2.1; unfold ShA at this; rw [Tryd.underlying4] at this; exact this)
      cases e1; cases e2
      exact v4 n ⟨h1, h2⟩ b
theorem many_row : Rows.LedgerManySaid :=
  OpenClaim.holds_of_wide 4 Tryd.f4 rfl rfl rfl rfl rfl rfl rfl ⟨rfl, rfl, rfl, rfl, rfl⟩ rfl rfl rfl rfl rfl (by kernel_rfl) Tryd.func4 (by kernel_rfl)
    (of_decide_eq_true (by kernel_rfl)) (by unfold Func.isWrapper; first | (rw [if_pos (by decide +kernel)]; kernel_rfl) | (rw [if_neg (by decide +kernel)]; exact ⟨rfl, rfl⟩))
    (fun os started H enc _ => many_lifted os started H enc)
theorem many_holds : Rows.LedgerManyCardSaid :=
  Claim7.holds_tied_plain_at .later [] _ _ _ _
    many_row (fun _ h => by cases h) (by kernel_rfl) (fun _ h => by cases h) ledgerMany_row_tie rfl ⟨rfl, rfl⟩ (by kernel_rfl) rfl
    (fun f fn hf hfn => by
      obtain rfl : f = 4 := Option.some.inj ((show Tryd.prog.funcNamed "wagebook/wagebooklaw33.LedgerMany" = some 4 by kernel_rfl).symm.trans hf) |>.symm
      obtain rfl : fn = Tryd.f4 := (Option.some.inj (Tryd.func4.symm.trans hfn)).symm
      exact ⟨by kernel_rfl, fun j t ht => by
        rw [Tryd.params4] at ht
        have hm : t ∈ [5, 4] := by simpa using Array.mem_of_getElem? ht
        have hall : ([5, 4].all fun u => !Tryd.prog.wantsStandIn u) = true := by kernel_rfl
        exact (show Tryd.prog.wantsStandIn t = false by simpa using List.all_eq_true.1 hall t hm)⟩)
    (by kernel_rfl)
end Go.Proofs.YtdemgegpnlngeaaDoor
