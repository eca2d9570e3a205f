import Derived.Test.YthekpjhffciakaaDoorQ18
import Derived.Test.YthekpjhffciakaaDoorQ11
import Derived.Test.YthekpjhffciakaaDoorQ15
namespace Go.Proofs.YthekpjhffciakaaDoor
open Go PG Go.Proofs
set_option linter.unusedSimpArgs false
set_option linter.unusedVariables false
set_option maxHeartbeats 4000000
set_option maxRecDepth 100000
def ndOkB (n : Nd) : Bool := decide (0 ≤ n.op) && (decide (n.op ≤ 9) && ((decide (n.op ≠ 0) || (decide (0 ≤ n.num) && decide (n.num ≤ 1000000000000000000))) && (decide (n.name.length ≤ 100) && (decide (n.kids.length ≤ 3) && (decide (n.op < 2) || (decide (4 < n.op) || decide (n.kids.length = 2)))))))
theorem ndOkB_ok {n : Nd} (h : ndOkB n = true) : NdOk n := by
  simp only [ndOkB, Bool.and_eq_true, Bool.or_eq_true, decide_eq_true_eq] at h
  obtain ⟨h1, h2, h3, h4, h5, h6⟩ := h
  exact ⟨h1, h2, fun e => by rcases h3 with h3 | h3; exact absurd e h3; exact h3, h4, h5, fun a b => by rcases h6 with h6 | h6 | h6; omega; omega; exact h6⟩
def fitsB (l : List Nd) : Nat → Int → Bool
  | 0, _ => false
  | k + 1, i => decide (0 ≤ i) && (decide (i.toNat < l.length) && (ndOkB (l.getD i.toNat default) && (l.getD i.toNat default).kids.all (fitsB l k)))
theorem fitsB_ok (l : List Nd) : ∀ (k : Nat) (i : Int), fitsB l k i = true → fitsD l k i
  | 0, _, h => by cases h
  | k + 1, i, h => by
    simp only [fitsB, Bool.and_eq_true, decide_eq_true_eq, List.all_eq_true] at h
    exact ⟨h.1, h.2.1, ndOkB_ok h.2.2.1, fun c hc => fitsB_ok l k c (h.2.2.2 c hc)⟩
theorem numT2 : numT 2000000 = [50] := by
  unfold numT
  rw [if_pos (by decide), digT, if_pos (by decide)]
  rfl
theorem txA : VCalls Tryd.prog G0 26 [treeP tA] (.str sA) := by
  have h := v26 tA (by decide) (by decide) (by rfl) (fitsB_ok _ _ _ rfl)
  have e : textM tA 16 ((tA.length : Int) - 1) 0 = sA := by
    simp [textM, tA, strongM, wordM, wordsL, sA, numT2, List.getD]
  rw [e] at h
  exact h
theorem txB : VCalls Tryd.prog G0 26 [treeP tB] (.str sB) :=
  v26 tB (by decide) (by decide) (by rfl) (fitsB_ok _ _ _ rfl)
theorem txC : VCalls Tryd.prog G0 26 [treeP tC] (.str sC') :=
  v26 tC (by decide) (by decide) (by rfl) (fitsB_ok _ _ _ rfl)
theorem v17 : VCalls Tryd.prog G0 17 [] (.bool true) := by
  refine VCalls.of_PW Tryd.func17 k17 mix (by simp [c17]) ?_
  simp only [c17, L17, CC, argE]
  have h1 := v18 sA (by decide)
  have h2 := v18 sB (by decide)
  have h3 := v18 sC (by decide)
  have t1 := txA
  have t2 := txB
  have t3 := txC
  rw [pA] at h1
  rw [pB] at h2
  rw [pC] at h3
  simp only [parsePV, treeP] at h1 h2 h3 t1 t2 t3
  have hA : ((tA.map ndP).length : Nat) = 7 := rfl
  generalize tA.map ndP = XA at *
  generalize tB.map ndP = XB at *
  generalize tC.map ndP = XC at *
  simp only [sA, sB, sC, sC'] at h1 h2 h3 t1 t2 t3
  repeat' (first | exact True.intro | (exact Or.inr ⟨rfl, by decide⟩) | (refine PW.seqK ?_; intro K hK) | refine pwB ?_ | refine pwS ?_ | refine pwL ?_ | refine pwE ?_ | refine pwR ?_ | refine pwK ?_ | refine seqK_n ‹_› ?_ | refine seqK_r ‹_› ?_ | refine seqK_e ‹_› ?_ | refine PW.regionA ?_ | exact schedW_stop_i | refine schK_n ‹_› ?_ | (refine schedW_alt_k ?_ ?_; focus (intro K hK; simp only [PV.bin, PV.binOk, binI, hA, SA, Nat.reduceAdd, reduceIte, Nat.reduceEqDiff, Nat.reduceBEq, reduceCtorEq]; (try go_unwrap; try simp only [PV.bin, PV.binOk, binI, hA, RR, reduceCtorEq]))) | (refine PW.cond rfl ?_ ?_ <;> intro hcond <;> (try contradiction) <;> try simp only [DD] at hcond) | (apply goCall_V e18; (case hV => (simp only [PV.bin, PV.binOk, binI, hA, SA, Nat.reduceAdd, reduceIte, Nat.reduceEqDiff, Nat.reduceBEq, reduceCtorEq]; (try go_unwrap; try simp only [PV.bin, PV.binOk, binI, hA, RR, reduceCtorEq]); exact h1)); (try (case hs => rfl)); (try (case hf => first | exact Or.inl rfl | exact Or.inr ⟨rfl, rfl⟩ | (refine Or.inl ?_; simp only [PV.bin, PV.binOk, binI, hA, SA, Nat.reduceAdd, reduceIte, Nat.reduceEqDiff, Nat.reduceBEq, reduceCtorEq]; done) | (refine Or.inr ⟨rfl, ?_⟩; simp only [PV.bin, PV.binOk, binI, hA, SA, Nat.reduceAdd, reduceIte, Nat.reduceEqDiff, Nat.reduceBEq, reduceCtorEq]; done))); all_goals (first | (simp only [PV.bin, PV.binOk, binI, hA, SA, Nat.reduceAdd, reduceIte, Nat.reduceEqDiff, Nat.reduceBEq, reduceCtorEq]; (try go_unwrap; try simp only [PV.bin, PV.binOk, binI, hA, RR, reduceCtorEq])) | (show Env; skip) | (show Mem; skip))) | (apply goCall_V e18; (case hV => (simp only [PV.bin, PV.binOk, binI, hA, SA, Nat.reduceAdd, reduceIte, Nat.reduceEqDiff, Nat.reduceBEq, reduceCtorEq]; (try go_unwrap; try simp only [PV.bin, PV.binOk, binI, hA, RR, reduceCtorEq]); exact h2)); (try (case hs => rfl)); (try (case hf => first | exact Or.inl rfl | exact Or.inr ⟨rfl, rfl⟩ | (refine Or.inl ?_; simp only [PV.bin, PV.binOk, binI, hA, SA, Nat.reduceAdd, reduceIte, Nat.reduceEqDiff, Nat.reduceBEq, reduceCtorEq]; done) | (refine Or.inr ⟨rfl, ?_⟩; simp only [PV.bin, PV.binOk, binI, hA, SA, Nat.reduceAdd, reduceIte, Nat.reduceEqDiff, Nat.reduceBEq, reduceCtorEq]; done))); all_goals (first | (simp only [PV.bin, PV.binOk, binI, hA, SA, Nat.reduceAdd, reduceIte, Nat.reduceEqDiff, Nat.reduceBEq, reduceCtorEq]; (try go_unwrap; try simp only [PV.bin, PV.binOk, binI, hA, RR, reduceCtorEq])) | (show Env; skip) | (show Mem; skip))) | (apply goCall_V e18; (case hV => (simp only [PV.bin, PV.binOk, binI, hA, SA, Nat.reduceAdd, reduceIte, Nat.reduceEqDiff, Nat.reduceBEq, reduceCtorEq]; (try go_unwrap; try simp only [PV.bin, PV.binOk, binI, hA, RR, reduceCtorEq]); exact h3)); (try (case hs => rfl)); (try (case hf => first | exact Or.inl rfl | exact Or.inr ⟨rfl, rfl⟩ | (refine Or.inl ?_; simp only [PV.bin, PV.binOk, binI, hA, SA, Nat.reduceAdd, reduceIte, Nat.reduceEqDiff, Nat.reduceBEq, reduceCtorEq]; done) | (refine Or.inr ⟨rfl, ?_⟩; simp only [PV.bin, PV.binOk, binI, hA, SA, Nat.reduceAdd, reduceIte, Nat.reduceEqDiff, Nat.reduceBEq, reduceCtorEq]; done))); all_goals (first | (simp only [PV.bin, PV.binOk, binI, hA, SA, Nat.reduceAdd, reduceIte, Nat.reduceEqDiff, Nat.reduceBEq, reduceCtorEq]; (try go_unwrap; try simp only [PV.bin, PV.binOk, binI, hA, RR, reduceCtorEq])) | (show Env; skip) | (show Mem; skip))) | (apply goCallG_V e26; (case hV => (intro hg; simp only [hg, PV.bin, PV.binOk, binI, hA, SA, Nat.reduceAdd, reduceIte, Nat.reduceEqDiff, Nat.reduceBEq, reduceCtorEq]; (try go_unwrap; try simp only [PV.bin, PV.binOk, binI, hA, RR, reduceCtorEq]); exact t1)); (case hok => (intro hg; first | (simp only [hg, PV.bin, PV.binOk, binI, hA, SA, Nat.reduceAdd, reduceIte, Nat.reduceEqDiff, Nat.reduceBEq, reduceCtorEq]; done) | (simp_all [okAll, PV.okUnder]; done))); (case hs => (intro hg; simp only [hg, PV.bin, PV.binOk, binI, hA, SA, Nat.reduceAdd, reduceIte, Nat.reduceEqDiff, Nat.reduceBEq, reduceCtorEq])); (case hf => first | rfl | simp only [PV.bin, PV.binOk, binI, hA, SA, Nat.reduceAdd, reduceIte, Nat.reduceEqDiff, Nat.reduceBEq, reduceCtorEq]); (simp only [PV.bin, PV.binOk, binI, hA, SA, Nat.reduceAdd, reduceIte, Nat.reduceEqDiff, Nat.reduceBEq, reduceCtorEq]; (try go_unwrap; try simp only [PV.bin, PV.binOk, binI, hA, RR, reduceCtorEq]))) | (apply goCallG_V e26; (case hV => (intro hg; simp only [hg, PV.bin, PV.binOk, binI, hA, SA, Nat.reduceAdd, reduceIte, Nat.reduceEqDiff, Nat.reduceBEq, reduceCtorEq]; (try go_unwrap; try simp only [PV.bin, PV.binOk, binI, hA, RR, reduceCtorEq]); exact t2)); (case hok => (intro hg; first | (simp only [hg, PV.bin, PV.binOk, binI, hA, SA, Nat.reduceAdd, reduceIte, Nat.reduceEqDiff, Nat.reduceBEq, reduceCtorEq]; done) | (simp_all [okAll, PV.okUnder]; done))); (case hs => (intro hg; simp only [hg, PV.bin, PV.binOk, binI, hA, SA, Nat.reduceAdd, reduceIte, Nat.reduceEqDiff, Nat.reduceBEq, reduceCtorEq])); (case hf => first | rfl | simp only [PV.bin, PV.binOk, binI, hA, SA, Nat.reduceAdd, reduceIte, Nat.reduceEqDiff, Nat.reduceBEq, reduceCtorEq]); (simp only [PV.bin, PV.binOk, binI, hA, SA, Nat.reduceAdd, reduceIte, Nat.reduceEqDiff, Nat.reduceBEq, reduceCtorEq]; (try go_unwrap; try simp only [PV.bin, PV.binOk, binI, hA, RR, reduceCtorEq]))) | (apply goCallG_V e26; (case hV => (intro hg; simp only [hg, PV.bin, PV.binOk, binI, hA, SA, Nat.reduceAdd, reduceIte, Nat.reduceEqDiff, Nat.reduceBEq, reduceCtorEq]; (try go_unwrap; try simp only [PV.bin, PV.binOk, binI, hA, RR, reduceCtorEq]); exact t3)); (case hok => (intro hg; first | (simp only [hg, PV.bin, PV.binOk, binI, hA, SA, Nat.reduceAdd, reduceIte, Nat.reduceEqDiff, Nat.reduceBEq, reduceCtorEq]; done) | (simp_all [okAll, PV.okUnder]; done))); (case hs => (intro hg; simp only [hg, PV.bin, PV.binOk, binI, hA, SA, Nat.reduceAdd, reduceIte, Nat.reduceEqDiff, Nat.reduceBEq, reduceCtorEq])); (case hf => first | rfl | simp only [PV.bin, PV.binOk, binI, hA, SA, Nat.reduceAdd, reduceIte, Nat.reduceEqDiff, Nat.reduceBEq, reduceCtorEq]); (simp only [PV.bin, PV.binOk, binI, hA, SA, Nat.reduceAdd, reduceIte, Nat.reduceEqDiff, Nat.reduceBEq, reduceCtorEq]; (try go_unwrap; try simp only [PV.bin, PV.binOk, binI, hA, RR, reduceCtorEq]))) | (refine gd_i ?_; intro hg; try simp only [hg]) | ((first | show (_ : Nat) ≤ _ | show (_ : Nat) < _ | show (_ : Int) ≤ _ | show (_ : Int) < _ | show (_ : Nat) = _ | show (_ : Int) = _ | show (_ : Bool) = _ | show _ ∨ _ | show ¬ _); first | omega | (simp only [DD, LL] <;> omega) | (go_unwrap; omega)) | ((first | refine PW.region ?_ | refine PW.regionQ ?_ | refine schedW_done_i ?_ | show (_ : Post) _ _ _ | show @Eq (List PV) _ _ | show @Eq Bool _ _ | show opsW _ _ _ _ _ _ _ _ | show okAll _ | show @Eq Bool _ _ ∨ _); focus (simp only [PV.bin, PV.binOk, binI, hA, SA, Nat.reduceAdd, reduceIte, Nat.reduceEqDiff, Nat.reduceBEq, reduceCtorEq]; (try go_unwrap; try simp only [PV.bin, PV.binOk, binI, hA, RR, reduceCtorEq]))) | refine And.intro ?_ ?_ | exact Or.inr ⟨rfl, Nat.le_refl _⟩ | exact (fun h => Bool.noConfusion h))
  all_goals rfl
end Go.Proofs.YthekpjhffciakaaDoor

namespace Go.Proofs.YthekpjhffciakaaDoor
open Go PG Go.Proofs
set_option linter.unusedSimpArgs false
set_option linter.unusedVariables false
set_option maxHeartbeats 4000000
set_option maxRecDepth 100000
theorem e17 : Ent Tryd.prog 17 := ⟨Tryd.f17, Tryd.func17, by kernel_rfl, by kernel_rfl⟩
theorem e23 : Ent Tryd.prog 23 := ⟨Tryd.f23, Tryd.func23, by kernel_rfl, by kernel_rfl⟩
end Go.Proofs.YthekpjhffciakaaDoor

