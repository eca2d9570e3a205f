/-
  RemitLeaves: behind Pay as much less is owed, and bank has as much less; behind All nothing is owed to any, and the trial is 0. Condition: what is read is of bulk at most 1048576 (the second form).
-/
import Derived.Test.YtdemgegpnlngeaaDoorRows
import Derived.Test.YtdemgegpnlngeaaDoorCards
import Derived.Test.YtdemgegpnlngeaaDoorTie
import Derived.SevenTiedAt
import Derived.Deep.DeepHandedRow
import Derived.Test.YtdemgegpnlngeaaDoorQ21
import Derived.Test.YtdemgegpnlngeaaDoorQ13
namespace Go.Proofs.YtdemgegpnlngeaaDoor
open Go PG Go.Proofs
set_option linter.unusedSimpArgs false
set_option linter.unusedVariables false
set_option maxRecDepth 100000
theorem leaves_lifted (os : Os) (started : os.Started) (H : Type) (enc : TypeId × Value → H) (F : Stop.Interp) :
    ReturnsInHanded {} Tryd.checked os 9 .any ((Rows.OpenSpec.upto Rows.remitLeavesSpec).preRow enc Tryd.prog Tryd.f9 Rows.remitLeavesUptoRow.domain false Rows.remitLeavesUptoRow.laid) (((Rows.OpenSpec.upto Rows.remitLeavesSpec).at F).post enc Tryd.prog Tryd.f9 false true false false) := by
  have hw : (DataW.whole enc Tryd.prog ((doorW os).forCall (fun _ _ => 0) ⟨#[], #[.slice none 0 0, .slice none 0 0, .int .u8 0], []⟩).memory Tryd.f9.params.toList Rows.remitLeavesSpec.vars false (#[.slice none 0 0, .slice none 0 0, .int .u8 0] : Array Value).toList 8).map (fun x => (x.1, x.2.1)) = some ([.nil, .nil, .lit (.int .u8 0)], []) := by kernel_rfl
  obtain ⟨⟨x1, x2, x3⟩, hx, hx1⟩ := Option.map_eq_some_iff.1 hw
  simp only [Prod.mk.injEq] at hx1
  obtain ⟨rfl, rfl⟩ := hx1
  refine returnsInHanded_of_row (C := Tryd.checked) (s := Rows.OpenSpec.upto Rows.remitLeavesSpec) own started (by kernel_rfl) Tryd.func9
    (witness_row_at (enc := enc) (C := Tryd.checked) false (doorW os) #[.slice none 0 0, .slice none 0 0, .int .u8 0] rfl (by kernel_rfl) (by kernel_rfl) (by kernel_rfl)
      (OpenSpec.preRow_of_cond 8 hx (by kernel_rfl) (fun k hk => by cases hk; kernel_rfl) (by kernel_rfl) (door_met1 os _))) ?_
  intro W base args ds gs before hval hW _ hcond _ _ _ _
  refine law_of_Z (n := 8) szOk laidOut (by kernel_rfl) rfl (fun ds hd => ?_) (tb := 4) (by kernel_rfl) (by kernel_rfl) (g0in W) (fun ps hp => ?_) hval hW (small_of (hcond _ rfl))
  · rw [Tryd.params9] at hd
    match ds, hd with
    | [d1, d2, d3], _ => rfl
  · rw [Tryd.params9] at hp
    obtain ⟨p1, p2, p3, rfl, k1, k2, k3⟩ := shBs3 hp
    obtain ⟨l, rfl, h1, h2⟩ := read_batches (n := 4) k1
    obtain ⟨os, rfl, h3, h4⟩ := read_offs (n := 4) k2
    obtain ⟨n, rfl, n1, n2⟩ := shB_int (P := Tryd.prog) (n := 7) Tryd.underlying5 k3
    exact v9 l h2 h1 os h4 h3 n ⟨n1, n2⟩
theorem leaves_row : Rows.RemitLeavesUptoSaid :=
  OpenClaim.holds_of_cond 9 Tryd.f9 rfl rfl rfl rfl rfl rfl rfl ⟨rfl, rfl, rfl, rfl, rfl⟩ rfl rfl rfl rfl rfl (by kernel_rfl) Tryd.func9 (by kernel_rfl)
    (of_decide_eq_true (by kernel_rfl)) (by unfold Func.isWrapper; first | (rw [if_pos (by decide +kernel)]; kernel_rfl) | (rw [if_neg (by decide +kernel)]; exact ⟨rfl, rfl⟩))
    (fun os started H enc _ F => by rw [OpenClaim.pre_eq_preRow]; exact leaves_lifted os started H enc F)
theorem leaves_holds : Rows.RemitLeavesUptoCardSaid :=
  Claim7.holds_tied_plain_at .later [] _ _ _ _
    leaves_row (fun _ h => by cases h) (by kernel_rfl) (fun _ h => by cases h) remitLeavesUpto_row_tie rfl ⟨rfl, rfl⟩ (by kernel_rfl) rfl
    (fun f fn hf hfn => by
      obtain rfl : f = 9 := Option.some.inj ((show Tryd.prog.funcNamed "wagebook/wagebooklaw36.RemitLeaves" = some 9 by kernel_rfl).symm.trans hf) |>.symm
      obtain rfl : fn = Tryd.f9 := (Option.some.inj (Tryd.func9.symm.trans hfn)).symm
      exact ⟨by kernel_rfl, fun j t ht => by
        rw [Tryd.params9] at ht
        have hm : t ∈ [28, 51, 5] := by simpa using Array.mem_of_getElem? ht
        have hall : ([28, 51, 5].all fun u => !Tryd.prog.wantsStandIn u) = true := by kernel_rfl
        exact (show Tryd.prog.wantsStandIn t = false by simpa using List.all_eq_true.1 hall t hm)⟩)
    (by kernel_rfl)
end Go.Proofs.YtdemgegpnlngeaaDoor

