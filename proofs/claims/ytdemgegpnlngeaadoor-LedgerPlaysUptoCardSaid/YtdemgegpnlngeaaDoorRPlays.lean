/-
  LedgerPlays: whatever is posted and reversed, each call answers as the document says, and so the ledger reads; elder ledgers stay as they were. Condition: what is read is of bulk at most 1048576 (the second form).
-/
import Derived.Test.YtdemgegpnlngeaaDoorRows
import Derived.Test.YtdemgegpnlngeaaDoorCards
import Derived.Test.YtdemgegpnlngeaaDoorTie
import Derived.SevenTiedAt
import Derived.Deep.DeepHandedRow
import Derived.Test.YtdemgegpnlngeaaDoorQ22
import Derived.Test.YtdemgegpnlngeaaDoorQ13
namespace Go.Proofs.YtdemgegpnlngeaaDoor
open Go PG Go.Proofs
set_option linter.unusedSimpArgs false
set_option linter.unusedVariables false
set_option maxRecDepth 100000
theorem plays_lifted (os : Os) (started : os.Started) (H : Type) (enc : TypeId × Value → H) (F : Stop.Interp) :
    ReturnsInHanded {} Tryd.checked os 12 .any ((Rows.OpenSpec.upto Rows.ledgerPlaysSpec).preRow enc Tryd.prog Tryd.f12 Rows.ledgerPlaysUptoRow.domain false Rows.ledgerPlaysUptoRow.laid) (((Rows.OpenSpec.upto Rows.ledgerPlaysSpec).at F).post enc Tryd.prog Tryd.f12 false true false false) := by
  have hw : (DataW.whole enc Tryd.prog ((doorW os).forCall (fun _ _ => 0) ⟨#[], #[.slice none 0 0], []⟩).memory Tryd.f12.params.toList Rows.ledgerPlaysSpec.vars false (#[.slice none 0 0] : Array Value).toList 8).map (fun x => (x.1, x.2.1)) = some ([.nil], []) := by kernel_rfl
  obtain ⟨⟨x1, x2, x3⟩, hx, hx1⟩ := Option.map_eq_some_iff.1 hw
  simp only [Prod.mk.injEq] at hx1
  obtain ⟨rfl, rfl⟩ := hx1
  refine returnsInHanded_of_row (C := Tryd.checked) (s := Rows.OpenSpec.upto Rows.ledgerPlaysSpec) own started (by kernel_rfl) Tryd.func12
    (witness_row_at (enc := enc) (C := Tryd.checked) false (doorW os) #[.slice none 0 0] rfl (by kernel_rfl) (by kernel_rfl) (by kernel_rfl)
      (OpenSpec.preRow_of_cond 8 hx (by kernel_rfl) (fun k hk => by cases hk; kernel_rfl) (by kernel_rfl) (door_met1 os _))) ?_
  intro W base args ds gs before hval hW _ hcond _ _ _ _
  refine law_of_Z (n := 8) szOk laidOut (by kernel_rfl) rfl (fun ds hd => ?_) (tb := 4) (by kernel_rfl) (by kernel_rfl) (g0in W) (fun ps hp => ?_) hval hW (small_of (hcond _ rfl))
  · rw [Tryd.params12] at hd
    match ds, hd with
    | [d1], _ => rfl
  · rw [Tryd.params12] at hp
    obtain ⟨p1, rfl, k1⟩ := shBs1 hp
    obtain ⟨xs, rfl, h1, h2⟩ := read_acts (n := 3) k1
    exact v12 xs h2 h1
theorem plays_row : Rows.LedgerPlaysUptoSaid :=
  OpenClaim.holds_of_cond 12 Tryd.f12 rfl rfl rfl rfl rfl rfl rfl ⟨rfl, rfl, rfl, rfl, rfl⟩ rfl rfl rfl rfl rfl (by kernel_rfl) Tryd.func12 (by kernel_rfl)
    (of_decide_eq_true (by kernel_rfl)) (by unfold Func.isWrapper; first | (rw [if_pos (by decide +kernel)]; kernel_rfl) | (rw [if_neg (by decide +kernel)]; exact ⟨rfl, rfl⟩))
    (fun os started H enc _ F => by rw [OpenClaim.pre_eq_preRow]; exact plays_lifted os started H enc F)
theorem plays_holds : Rows.LedgerPlaysUptoCardSaid :=
  Claim7.holds_tied_plain_at .later [] _ _ _ _
    plays_row (fun _ h => by cases h) (by kernel_rfl) (fun _ h => by cases h) ledgerPlaysUpto_row_tie rfl ⟨rfl, rfl⟩ (by kernel_rfl) rfl
    (fun f fn hf hfn => by
      obtain rfl : f = 12 := Option.some.inj ((show Tryd.prog.funcNamed "wagebook/wagebooklaw33.LedgerPlays" = some 12 by kernel_rfl).symm.trans hf) |>.symm
      obtain rfl : fn = Tryd.f12 := (Option.some.inj (Tryd.func12.symm.trans hfn)).symm
      exact ⟨by kernel_rfl, fun j t ht => by
        rw [Tryd.params12] at ht
        have hm : t ∈ [76] := by simpa using Array.mem_of_getElem? ht
        have hall : ([76].all fun u => !Tryd.prog.wantsStandIn u) = true := by kernel_rfl
        exact (show Tryd.prog.wantsStandIn t = false by simpa using List.all_eq_true.1 hall t hm)⟩)
    (by kernel_rfl)
end Go.Proofs.YtdemgegpnlngeaaDoor


