import Derived.Test.YthekpjhffciakaaDoorProg
import Derived.KernelRfl
import Derived.Test.YthekpjhffciakaaDoorRows
import Derived.LaidMore
import Derived.Stop.Joined
import Derived.Test.YthekpjhffciakaaDoorP4
import Derived.Test.YthekpjhffciakaaDoorQ7
import Derived.Test.YthekpjhffciakaaDoorQ20
import Derived.Test.YthekpjhffciakaaDoorQ19
import Derived.Test.YthekpjhffciakaaDoorQ10
namespace Go.Proofs.YthekpjhffciakaaDoor
open PG Go.Proofs
-- wagebook/wagebooklaw13.ExprBrackets
def L30 : List Nat := [0, 1, 2, 5]
def c30 : CF := ⟨8,
 .seq (.region false [⟨some 1, none, .eff (.box (some 1)) [.tmp 0]⟩,
 ⟨some 2, none, .rd .mov [.pv (.int .i64 0)]⟩] L30)
 (.seq (.seq (.region false [⟨some 3, none, .rd (.load (some 1)) [.tmp 1]⟩,
 ⟨some 4, none, .call (.pv (.fn 29 [] [])) [.tmp 3]⟩,
 ⟨some 5, none, .rd (.bin .neq) [.tmp 4, .pv (.int .i64 0)]⟩] L30)
 (.cond (.tmp 5)
 (.seq (.region false [⟨some 2, none, .rd .mov [.pv (.int .i64 0)]⟩] L30)
 (.ret))
 (.skip)))
 (.seq (.region false [⟨some 6, none, .rd (.load (some 1)) [.tmp 1]⟩,
 ⟨some 7, none, .call (.pv (.fn 42 [] [])) [.tmp 6]⟩,
 oM 2 7] L30)
 (.ret))),
 [.tmp 2]⟩
theorem k30 : compileF Tryd.prog [] L30 Tryd.f30 = some c30 := by kernel_rfl
end Go.Proofs.YthekpjhffciakaaDoor

namespace Go.Proofs.YthekpjhffciakaaDoor
open Go PG Go.Proofs
set_option linter.unusedSimpArgs false
set_option linter.unusedVariables false
set_option maxHeartbeats 4000000
set_option maxRecDepth 100000
variable {G : Globs}
theorem e30 : Ent Tryd.prog 30 := ⟨Tryd.f30, Tryd.func30, by kernel_rfl, by kernel_rfl⟩
theorem err_ne : ∀ (ns : List Nd) (i : Nat) (t : List Bool) (e : Int), checkNodes ns i t = .error e → e ≠ 0 := by
  intro ns
  induction ns with
  | nil => intro i t e h; cases h
  | cons n ns ih =>
    intro i t e h
    unfold checkNodes at h
    split at h
    · cases h; assumption
    · split at h
      · cases h; decide
      · split at h
        · cases h; assumption
        · exact ih _ _ _ h
/-- What a right list of nodes is by itself. -/
theorem checkM_ok {l : List Nd} (h : checkM l = 0) : l.length ≤ 256 ∧ l ≠ [] ∧ wfK l 0 ∧ (∀ n ∈ l, formE n = 0 ∧ restE n = 0) ∧ depthM l ≤ 16 := by
  unfold checkM at h
  split at h
  · cases h
  · split at h
    · cases h
    · split at h
      · rename_i hc
        exfalso
        exact err_ne _ _ _ _ hc h
      · rename_i hc
        obtain ⟨-, h2, h3⟩ := checkNodes_ok hc
        split at h
        · cases h
        · split at h
          · cases h
          · exact ⟨by omega, fun h => by simp_all, h2, h3, by omega⟩
theorem v30 (hG : HasKids G) (l : List Nd) (hl : l.length ≤ 9223372036854775807) (hs : ∀ n ∈ l, n.name.length ≤ 9223372036854775807 ∧ n.kids.length ≤ 9223372036854775807) : VCalls Tryd.prog G 30 [treeP l] (.int .i64 (if checkM l = 0 then depthM l else 0)) := by
  refine VCalls.of_PW Tryd.func30 k30 mix (by simp [c30]) ?_
  simp only [c30, L30, CC, argE]
  have h29 := v29 hG l hl hs
  by_cases hc : checkM l = 0
  · obtain ⟨h1, h2, h3, h4, -⟩ := checkM_ok hc
    have h42 := v42 (G := G) l h1 h2 h3 (fun n hn => by have := (formE_ok (h4 n hn).1).2.2.2; omega)
    rw [if_pos hc]
    rw [hc] at h29
    simp only [treeP] at h29 h42 ⊢
    have q0 : decide ((0 : Int) = 0) = true := rfl
    repeat' (first | exact True.intro | (exact Or.inr ⟨rfl, by decide⟩) | (refine PW.seqK ?_; intro K hK) | refine pwB ?_ | refine pwS ?_ | refine pwL ?_ | refine pwE ?_ | refine pwR ?_ | refine pwK ?_ | refine seqK_n ‹_› ?_ | refine seqK_r ‹_› ?_ | refine seqK_e ‹_› ?_ | refine PW.regionA ?_ | exact schedW_stop_i | refine schK_n ‹_› ?_ | (refine schedW_alt_k ?_ ?_; focus (intro K hK; simp only [q0, SA, Nat.reduceAdd, reduceIte, Nat.reduceEqDiff, Nat.reduceBEq, reduceCtorEq]; (try go_unwrap; try simp only [q0, RR, reduceCtorEq]))) | (refine PW.cond rfl ?_ ?_ <;> intro hcond <;> (try contradiction) <;> try simp only [DD] at hcond) | (refine gd_i ?_; intro hg; try simp only [hg]) | refine goCall_W e29 (h29) ?_ ?_ ?_ ?_ | refine goCall_W e42 (h42) ?_ ?_ ?_ ?_ | ((first | show (_ : Nat) ≤ _ | show (_ : Nat) < _ | show (_ : Int) ≤ _ | show (_ : Int) < _ | show (_ : Nat) = _ | show (_ : Int) = _ | show (_ : Bool) = _ | show _ ∨ _ | show ¬ _); first | omega | (simp only [DD, LL] <;> omega) | (go_unwrap; omega)) | ((first | refine PW.region ?_ | refine PW.regionQ ?_ | refine schedW_done_i ?_ | show (_ : Post) _ _ _ | show @Eq (List PV) _ _ | show @Eq Bool _ _ | show opsW _ _ _ _ _ _ _ _ | show okAll _ | show @Eq Bool _ _ ∨ _); focus (simp only [q0, SA, Nat.reduceAdd, reduceIte, Nat.reduceEqDiff, Nat.reduceBEq, reduceCtorEq]; (try go_unwrap; try simp only [q0, RR, reduceCtorEq]))) | refine And.intro ?_ ?_ | exact Or.inr ⟨rfl, Nat.le_refl _⟩ | exact (fun h => Bool.noConfusion h))
  · rw [if_neg hc]
    have d1 : decide (checkM l = 0) = false := decide_eq_false hc
    simp only [treeP] at h29 ⊢
    repeat' (first | exact True.intro | (exact Or.inr ⟨rfl, by decide⟩) | (refine PW.seqK ?_; intro K hK) | refine pwB ?_ | refine pwS ?_ | refine pwL ?_ | refine pwE ?_ | refine pwR ?_ | refine pwK ?_ | refine seqK_n ‹_› ?_ | refine seqK_r ‹_› ?_ | refine seqK_e ‹_› ?_ | refine PW.regionA ?_ | exact schedW_stop_i | refine schK_n ‹_› ?_ | (refine schedW_alt_k ?_ ?_; focus (intro K hK; simp only [d1, SA, Nat.reduceAdd, reduceIte, Nat.reduceEqDiff, Nat.reduceBEq, reduceCtorEq]; (try go_unwrap; try simp only [d1, RR, reduceCtorEq]))) | (refine PW.cond rfl ?_ ?_ <;> intro hcond <;> (try contradiction) <;> try simp only [DD] at hcond) | (refine gd_i ?_; intro hg; try simp only [hg]) | refine goCall_W e29 (h29) ?_ ?_ ?_ ?_ | ((first | show (_ : Nat) ≤ _ | show (_ : Nat) < _ | show (_ : Int) ≤ _ | show (_ : Int) < _ | show (_ : Nat) = _ | show (_ : Int) = _ | show (_ : Bool) = _ | show _ ∨ _ | show ¬ _); first | omega | (simp only [DD, LL] <;> omega) | (go_unwrap; omega)) | ((first | refine PW.region ?_ | refine PW.regionQ ?_ | refine schedW_done_i ?_ | show (_ : Post) _ _ _ | show @Eq (List PV) _ _ | show @Eq Bool _ _ | show opsW _ _ _ _ _ _ _ _ | show okAll _ | show @Eq Bool _ _ ∨ _); focus (simp only [d1, SA, Nat.reduceAdd, reduceIte, Nat.reduceEqDiff, Nat.reduceBEq, reduceCtorEq]; (try go_unwrap; try simp only [d1, RR, reduceCtorEq]))) | refine And.intro ?_ ?_ | exact Or.inr ⟨rfl, Nat.le_refl _⟩ | exact (fun h => Bool.noConfusion h))
end Go.Proofs.YthekpjhffciakaaDoor

namespace Go.Proofs.YthekpjhffciakaaDoor
open Go PG Go.Proofs
set_option linter.unusedSimpArgs false
set_option linter.unusedVariables false
set_option maxHeartbeats 4000000
set_option maxRecDepth 100000
theorem v12 (l : List Nd) (hl : l.length ≤ 9223372036854775807) (hs : ∀ n ∈ l, n.name.length ≤ 9223372036854775807 ∧ n.kids.length ≤ 9223372036854775807) : VCalls Tryd.prog G0 12 [treeP l] (.bool true) := by
  refine VCalls.of_PW Tryd.func12 k12 mix (by simp [c12]) ?_
  simp only [c12, L12, CC, argE]
  have h17 := v17
  have h24 := v24 l hl
  cases hg : greatB l with
  | true =>
    rw [hg] at h24
    simp only [treeP] at h24 ⊢
    repeat' (first | exact True.intro | (exact Or.inr ⟨rfl, by decide⟩) | (refine PW.seqK ?_; intro K hK) | refine pwB ?_ | refine pwS ?_ | refine pwL ?_ | refine pwE ?_ | refine pwR ?_ | refine pwK ?_ | refine seqK_n ‹_› ?_ | refine seqK_r ‹_› ?_ | refine seqK_e ‹_› ?_ | refine PW.regionA ?_ | exact schedW_stop_i | refine schK_n ‹_› ?_ | (refine schedW_alt_k ?_ ?_; focus (intro K hK; simp only [SA, Nat.reduceAdd, reduceIte, Nat.reduceEqDiff, Nat.reduceBEq, reduceCtorEq]; (try go_unwrap; try simp only [RR, reduceCtorEq]))) | (refine PW.cond rfl ?_ ?_ <;> intro hcond <;> (try contradiction) <;> try simp only [DD] at hcond) | (refine gd_i ?_; intro hg; try simp only [hg]) | refine goCall_W e24 (h24) ?_ ?_ ?_ ?_ | refine goCall_W e17 (h17) ?_ ?_ ?_ ?_ | ((first | show (_ : Nat) ≤ _ | show (_ : Nat) < _ | show (_ : Int) ≤ _ | show (_ : Int) < _ | show (_ : Nat) = _ | show (_ : Int) = _ | show (_ : Bool) = _ | show _ ∨ _ | show ¬ _); first | omega | (simp only [DD, LL] <;> omega) | (go_unwrap; omega)) | ((first | refine PW.region ?_ | refine PW.regionQ ?_ | refine schedW_done_i ?_ | show (_ : Post) _ _ _ | show @Eq (List PV) _ _ | show @Eq Bool _ _ | show opsW _ _ _ _ _ _ _ _ | show okAll _ | show @Eq Bool _ _ ∨ _); focus (simp only [SA, Nat.reduceAdd, reduceIte, Nat.reduceEqDiff, Nat.reduceBEq, reduceCtorEq]; (try go_unwrap; try simp only [RR, reduceCtorEq]))) | refine And.intro ?_ ?_ | exact Or.inr ⟨rfl, Nat.le_refl _⟩ | exact (fun h => Bool.noConfusion h))
  | false =>
    rw [hg] at h24
    have hlen := great_len hg
    have h25 := v25 l hlen hs
    have h29 := v29 hasK0 l hl hs
    have h30 := v30 hasK0 l hl hs
    have q0 : decide ((0 : Int) = 0) = true := rfl
    by_cases hc : checkM l = 0
    · obtain ⟨h1, h2, h3, h4, h5⟩ := checkM_ok hc
      rw [if_pos hc] at h30
      rw [hc] at h25 h29
      have h23 := v23 (G := G0) l (by omega)
      have h34 := v34 l hs h1 hc
      have h37 := v37 l h1
      have hk3 : ∀ n ∈ l, n.kids.length ≤ 256 := fun n hn => by have := (formE_ok (h4 n hn).1).2.2.2; omega
      have h35 := v35 l h1 h2 h3 hk3
      have h36 := v36 (varsM l) (varsM l) (by
        have h1' := compactT_len (sortT (namesV l))
        have h2' := namesV_len l
        have h3' : (sortT (namesV l)).length = (namesV l).length := List.length_mergeSort _
        unfold varsM; omega)
      have qd : decide (varsM l = varsM l) = true := by simp
      rw [qd] at h36
      have qe : decide (depthM l = depthM l) = true := by simp
      simp only [treeP] at h24 h25 h29 h30 h23 h34 ⊢
      clear hs h2 h3 h4 hk3 hg
      repeat' (first | exact True.intro | (exact Or.inr ⟨rfl, by decide⟩) | (refine PW.seqK ?_; intro K hK) | refine pwB ?_ | refine pwS ?_ | refine pwL ?_ | refine pwE ?_ | refine pwR ?_ | refine pwK ?_ | refine seqK_n ‹_› ?_ | refine seqK_r ‹_› ?_ | refine seqK_e ‹_› ?_ | refine PW.regionA ?_ | exact schedW_stop_i | refine schK_n ‹_› ?_ | (refine schedW_alt_k ?_ ?_; focus (intro K hK; simp only [q0, qe, SA, Nat.reduceAdd, reduceIte, Nat.reduceEqDiff, Nat.reduceBEq, reduceCtorEq]; (try go_unwrap; try simp only [q0, qe, RR, reduceCtorEq]))) | (refine PW.cond rfl ?_ ?_ <;> intro hcond <;> (try contradiction) <;> try simp only [DD] at hcond) | (apply goCallG_N e34; (case hV => (intro hg; simp only [hg, q0, qe, SA, Nat.reduceAdd, reduceIte, Nat.reduceEqDiff, Nat.reduceBEq, reduceCtorEq]; (try go_unwrap; try simp only [q0, qe, RR, reduceCtorEq]); exact h34)); (case hok => (intro hg; first | (simp only [hg, q0, qe, SA, Nat.reduceAdd, reduceIte, Nat.reduceEqDiff, Nat.reduceBEq, reduceCtorEq]; done) | (simp_all [okAll, PV.okUnder]; done))); (case hs => (intro hg; simp only [hg, q0, qe, SA, Nat.reduceAdd, reduceIte, Nat.reduceEqDiff, Nat.reduceBEq, reduceCtorEq])); (case hn => (intro hg; simp only [hg, q0, qe, SA, Nat.reduceAdd, reduceIte, Nat.reduceEqDiff, Nat.reduceBEq, reduceCtorEq])); (case hq => rfl); (simp only [q0, qe, SA, Nat.reduceAdd, reduceIte, Nat.reduceEqDiff, Nat.reduceBEq, reduceCtorEq]; (try go_unwrap; try simp only [q0, qe, RR, reduceCtorEq]))) | (apply goCallG_N e37; (case hV => (intro hg; simp only [hg, q0, qe, SA, Nat.reduceAdd, reduceIte, Nat.reduceEqDiff, Nat.reduceBEq, reduceCtorEq]; (try go_unwrap; try simp only [q0, qe, RR, reduceCtorEq]); exact h37)); (case hok => (intro hg; first | (simp only [hg, q0, qe, SA, Nat.reduceAdd, reduceIte, Nat.reduceEqDiff, Nat.reduceBEq, reduceCtorEq]; done) | (simp_all [okAll, PV.okUnder]; done))); (case hs => (intro hg; simp only [hg, q0, qe, SA, Nat.reduceAdd, reduceIte, Nat.reduceEqDiff, Nat.reduceBEq, reduceCtorEq])); (case hn => (intro hg; simp only [hg, q0, qe, SA, Nat.reduceAdd, reduceIte, Nat.reduceEqDiff, Nat.reduceBEq, reduceCtorEq])); (case hq => rfl); (simp only [q0, qe, SA, Nat.reduceAdd, reduceIte, Nat.reduceEqDiff, Nat.reduceBEq, reduceCtorEq]; (try go_unwrap; try simp only [q0, qe, RR, reduceCtorEq]))) | (refine gd_i ?_; intro hg; try simp only [hg]) | refine goCall_W e24 (h24) ?_ ?_ ?_ ?_ | refine goCall_W e25 (h25) ?_ ?_ ?_ ?_ | refine goCall_W e29 (h29) ?_ ?_ ?_ ?_ | refine goCall_W e23 (h23) ?_ ?_ ?_ ?_ | refine goCall_W e30 (h30) ?_ ?_ ?_ ?_ | refine goCall_W e35 (h35) ?_ ?_ ?_ ?_ | refine goCallG_W e36 (h36) ?_ ?_ ?_ ?_ ?_ | refine goCallG_W e17 (h17) ?_ ?_ ?_ ?_ ?_ | ((first | show (_ : Nat) ≤ _ | show (_ : Nat) < _ | show (_ : Int) ≤ _ | show (_ : Int) < _ | show (_ : Nat) = _ | show (_ : Int) = _ | show (_ : Bool) = _ | show _ ∨ _ | show ¬ _); first | omega | (simp only [DD, LL] <;> omega) | (go_unwrap; omega)) | ((first | refine PW.region ?_ | refine PW.regionQ ?_ | refine schedW_done_i ?_ | show (_ : Post) _ _ _ | show @Eq (List PV) _ _ | show @Eq Bool _ _ | show opsW _ _ _ _ _ _ _ _ | show okAll _ | show @Eq Bool _ _ ∨ _); focus (simp only [q0, qe, SA, Nat.reduceAdd, reduceIte, Nat.reduceEqDiff, Nat.reduceBEq, reduceCtorEq]; (try go_unwrap; try simp only [q0, qe, RR, reduceCtorEq]))) | refine And.intro ?_ ?_ | exact Or.inr ⟨rfl, Nat.le_refl _⟩ | exact (fun h => Bool.noConfusion h))
      all_goals rfl
    · have h26 := v26n l hl hs hc
      have h34 := v34n l hl hs hc
      have hcd := decide_eq_false hc
      have qc : decide (checkM l = checkM l) = true := by simp
      rw [if_neg hc] at h30
      generalize checkM l = e at *
      simp only [treeP] at h24 h25 h29 h30 h26 h34 ⊢
      clear hs
      repeat' (first | exact True.intro | (exact Or.inr ⟨rfl, by decide⟩) | (refine PW.seqK ?_; intro K hK) | refine pwB ?_ | refine pwS ?_ | refine pwL ?_ | refine pwE ?_ | refine pwR ?_ | refine pwK ?_ | refine seqK_n ‹_› ?_ | refine seqK_r ‹_› ?_ | refine seqK_e ‹_› ?_ | refine PW.regionA ?_ | exact schedW_stop_i | refine schK_n ‹_› ?_ | (refine schedW_alt_k ?_ ?_; focus (intro K hK; simp only [q0, hcd, qc, SA, Nat.reduceAdd, reduceIte, Nat.reduceEqDiff, Nat.reduceBEq, reduceCtorEq]; (try go_unwrap; try simp only [q0, hcd, qc, RR, reduceCtorEq]))) | (refine PW.cond rfl ?_ ?_ <;> intro hcond <;> (try contradiction) <;> try simp only [DD] at hcond) | (apply goCallG_N e34; (case hV => (intro hg; simp only [hg, q0, hcd, qc, SA, Nat.reduceAdd, reduceIte, Nat.reduceEqDiff, Nat.reduceBEq, reduceCtorEq]; (try go_unwrap; try simp only [q0, hcd, qc, RR, reduceCtorEq]); exact h34)); (case hok => (intro hg; first | (simp only [hg, q0, hcd, qc, SA, Nat.reduceAdd, reduceIte, Nat.reduceEqDiff, Nat.reduceBEq, reduceCtorEq]; done) | (simp_all [okAll, PV.okUnder]; done))); (case hs => (intro hg; simp only [hg, q0, hcd, qc, SA, Nat.reduceAdd, reduceIte, Nat.reduceEqDiff, Nat.reduceBEq, reduceCtorEq])); (case hn => (intro hg; simp only [hg, q0, hcd, qc, SA, Nat.reduceAdd, reduceIte, Nat.reduceEqDiff, Nat.reduceBEq, reduceCtorEq])); (case hq => rfl); (simp only [q0, hcd, qc, SA, Nat.reduceAdd, reduceIte, Nat.reduceEqDiff, Nat.reduceBEq, reduceCtorEq]; (try go_unwrap; try simp only [q0, hcd, qc, RR, reduceCtorEq]))) | (refine gd_i ?_; intro hg; try simp only [hg]) | refine goCall_W e24 (h24) ?_ ?_ ?_ ?_ | refine goCall_W e25 (h25) ?_ ?_ ?_ ?_ | refine goCall_W e29 (h29) ?_ ?_ ?_ ?_ | refine goCall_W e26 (h26) ?_ ?_ ?_ ?_ | refine goCallG_W e30 (h30) ?_ ?_ ?_ ?_ ?_ | refine goCallG_W e17 (h17) ?_ ?_ ?_ ?_ ?_ | ((first | show (_ : Nat) ≤ _ | show (_ : Nat) < _ | show (_ : Int) ≤ _ | show (_ : Int) < _ | show (_ : Nat) = _ | show (_ : Int) = _ | show (_ : Bool) = _ | show _ ∨ _ | show ¬ _); first | omega | (simp only [DD, LL] <;> omega) | (go_unwrap; omega)) | ((first | refine PW.region ?_ | refine PW.regionQ ?_ | refine schedW_done_i ?_ | show (_ : Post) _ _ _ | show @Eq (List PV) _ _ | show @Eq Bool _ _ | show opsW _ _ _ _ _ _ _ _ | show okAll _ | show @Eq Bool _ _ ∨ _); focus (simp only [q0, hcd, qc, SA, Nat.reduceAdd, reduceIte, Nat.reduceEqDiff, Nat.reduceBEq, reduceCtorEq]; (try go_unwrap; try simp only [q0, hcd, qc, RR, reduceCtorEq]))) | refine And.intro ?_ ?_ | exact Or.inr ⟨rfl, Nat.le_refl _⟩ | exact (fun h => Bool.noConfusion h))
      all_goals rfl
end Go.Proofs.YthekpjhffciakaaDoor

namespace Go.Proofs.YthekpjhffciakaaDoor
open Go PG Go.Proofs
set_option linter.unusedSimpArgs false
set_option linter.unusedVariables false
set_option maxRecDepth 100000
theorem own : ownKnob Tryd.prog.godebug = none := by kernel_rfl
theorem laidOut : laidOutB Tryd.prog = true := by kernel_rfl
theorem gKids : Tryd.prog.globalNamed "wagebook/expr.kidsOf" = some 1 := by kernel_rfl
theorem gWords : Tryd.prog.globalNamed "wagebook/expr.words" = some 0 := by kernel_rfl
abbrev laid1 : List (String × DataW Unit) := [("wagebook/expr.kidsOf", Rows.laid_wagebook_expr_kidsOf), ("wagebook/expr.words", Rows.laid_wagebook_expr_words)]
theorem globs0 {W : World} (h : laidMetH Tryd.prog laid1 W) : GlobsIn W (fun _ => False) G0 := by
  rw [MakeChecks.laidMetH_plain _ _ _ (by kernel_rfl)] at h
  obtain ⟨ps, h, _, _⟩ := h
  have h0 : (Rows.laid_wagebook_expr_kidsOf : DataW Unit) = .agg ((kidsTab.map (PV.int .i64)).map datOf) := rfl
  have h1 : (Rows.laid_wagebook_expr_words : DataW Unit) = .agg (wordsP.cells.map datOf) := rfl
  unfold laid1 at h
  have hk := h
  rw [h0] at hk
  have hK := tab_rep gKids (t := 136) (e := 3) (n := 10) (by kernel_rfl) (by kernel_rfl) (.inl ⟨.i64, Tryd.underlying3⟩) (by kernel_rfl) (by kernel_rfl) (by decide) (by decide) hk
  obtain ⟨g', t', cs, fuel, p, q, hg', ht', hvar, hd, hrest, hrest2⟩ := h
  have hw : ∃ qs, DataW.LaidVars Tryd.prog W [("wagebook/expr.words", Rows.laid_wagebook_expr_words)] qs := ⟨_, by first | exact hrest | exact hrest2 | exact hrest.1 | exact hrest2.1⟩
  obtain ⟨qs, hw⟩ := hw
  rw [h1] at hw
  have hW := tab_rep gWords (t := 111) (e := 9) (n := 10) (by kernel_rfl) (by kernel_rfl) (.inr Tryd.underlying9) (by kernel_rfl) (by kernel_rfl) (by decide) (by decide) hw
  intro g sh x hg
  unfold G0 at hg
  split at hg
  · rename_i e
    subst e
    simp only [Option.some.injEq, Prod.mk.injEq] at hg
    obtain ⟨rfl, rfl⟩ := hg
    exact hW
  · split at hg
    · rename_i e
      subst e
      simp only [Option.some.injEq, Prod.mk.injEq] at hg
      obtain ⟨rfl, rfl⟩ := hg
      exact hK
    · cases hg
theorem door_met1 (os : Os) (args : Array Value) : laidMetH Tryd.prog laid1 ((World.doorLaid Tryd.prog 400 os).forCall (fun _ _ => 0) ⟨#[], args, []⟩).memory :=
  laidMetH_of_parts3 (fuel := 8) (laidMet_of_run' 8 (by kernel_rfl) (by kernel_rfl)) (by kernel_rfl) (by kernel_rfl)
end Go.Proofs.YthekpjhffciakaaDoor

namespace Go.Proofs.YthekpjhffciakaaDoor
open Go PG Go.Proofs
set_option linter.unusedSimpArgs false
set_option linter.unusedVariables false
set_option maxRecDepth 100000
theorem read_node {n : Nat} {x : PV} (hx : fits (some 4) x) (h : ShC Tryd.prog (n + 3) 37 x.cells) : ∃ a : Nd, x = ndP a ∧ (a.name.length ≤ 9223372036854775807 ∧ a.kids.length ≤ 9223372036854775807) ∧ (-9223372036854775808 ≤ a.num ∧ a.num ≤ 9223372036854775807) := by
  obtain ⟨cs, rfl, -, hl⟩ := fits_cells hx
  obtain ⟨-, hf⟩ := shC_struct Tryd.underlying37 h
  have c3 : Tryd.prog.cellsOf 3 = 1 := by kernel_rfl
  have c2 : Tryd.prog.cellsOf 2 = 1 := by kernel_rfl
  have c9 : Tryd.prog.cellsOf 9 = 1 := by kernel_rfl
  have c35 : Tryd.prog.cellsOf 35 = 1 := by kernel_rfl
  simp only [List.mem_cons, List.not_mem_nil, or_false, forall_eq_or_imp, forall_eq, c3, c2, c9, c35, PV.cells] at hf
  match cs, hl with
  | [a, b, c, d], _ =>
    obtain ⟨h1, h2, h3, h4⟩ := hf
    obtain ⟨op, e1, -, -⟩ := shC_int Tryd.underlying3 h1
    obtain ⟨num, e2, b1, b2⟩ := shC_int Tryd.underlying2 h2
    obtain ⟨nm, e3, b3⟩ := shC_str Tryd.underlying9 h3
    obtain ⟨sh, xs, hs, e4, b4, h5⟩ := shC_slice Tryd.underlying35 h4
    have hsh : shOf Tryd.prog 3 = some none := by kernel_rfl
    obtain rfl := Option.some.inj (hsh.symm.trans hs)
    obtain ⟨ks, hks, -⟩ := list_of (PV.int .i64) (fun _ => True) (xs := xs) (fun x hx => by
      obtain ⟨f1, f2⟩ := h5 x hx
      obtain ⟨m, e, -, -⟩ := shC_int Tryd.underlying3 f2
      rw [fits_cells f1] at e
      cases e; exact ⟨m, rfl, trivial⟩)
    subst hks
    simp at e1 e2 e3 e4
    subst e1; subst e2; subst e3; subst e4
    exact ⟨⟨op, num, nm, ks⟩, rfl, ⟨b3, by simpa using b4⟩, b1, b2⟩
theorem read_tree {n : Nat} {p : PV} (h : ShA Tryd.prog (n + 5) 24 p) : ∃ t : List Nd, p = treeP t ∧ t.length ≤ 9223372036854775807 ∧ (∀ a ∈ t, a.name.length ≤ 9223372036854775807 ∧ a.kids.length ≤ 9223372036854775807) ∧ (∀ a ∈ t, -9223372036854775808 ≤ a.num ∧ a.num ≤ 9223372036854775807) := by
  obtain ⟨ps, rfl, h'⟩ := shA_struct Tryd.underlying24 h
  obtain ⟨hl, hf⟩ := shC_struct Tryd.underlying24 h'
  have c24 : Tryd.prog.cellsOf 24 = 1 := by kernel_rfl
  have c22 : Tryd.prog.cellsOf 22 = 1 := by kernel_rfl
  rw [c24] at hl
  simp only [List.mem_cons, List.not_mem_nil, or_false, forall_eq, c22] at hf
  match ps, hl with
  | [a], _ =>
    obtain ⟨sh, xs, hs, e, b, hx⟩ := shC_slice Tryd.underlying22 hf
    have hsh : shOf Tryd.prog 37 = some (some 4) := by kernel_rfl
    obtain rfl := Option.some.inj (hsh.symm.trans hs)
    simp at e
    subst e
    obtain ⟨t, rfl, ht⟩ := list_of ndP (fun a => (a.name.length ≤ 9223372036854775807 ∧ a.kids.length ≤ 9223372036854775807) ∧ (-9223372036854775808 ≤ a.num ∧ a.num ≤ 9223372036854775807)) (xs := xs) (fun x hx' => by
      obtain ⟨f1, f2⟩ := hx x hx'
      exact read_node f1 f2)
    exact ⟨t, rfl, by simpa using b, fun a ha => (ht a ha).1, fun a ha => (ht a ha).2⟩
end Go.Proofs.YthekpjhffciakaaDoor

