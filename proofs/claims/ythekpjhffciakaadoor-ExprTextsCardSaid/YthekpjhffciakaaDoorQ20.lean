import Derived.Test.YthekpjhffciakaaDoorQ7
import Derived.Test.YthekpjhffciakaaDoorQ8
import Derived.Test.YthekpjhffciakaaDoorQ14
import Derived.Test.YthekpjhffciakaaDoorQ15
import Derived.Test.YthekpjhffciakaaDoorQ11
import Derived.Test.YthekpjhffciakaaDoorQ18
import Derived.Test.YthekpjhffciakaaDoorQ19
import Derived.Test.YthekpjhffciakaaDoorQ16
namespace Go.Proofs.YthekpjhffciakaaDoor
open Go PG Go.Proofs
set_option linter.unusedSimpArgs false
set_option linter.unusedVariables false
set_option maxHeartbeats 4000000
set_option maxRecDepth 100000
variable {G : Globs}
theorem take_snoc' {α : Type} {l : List α} {i : Nat} (h : i < l.length) : l.take (i + 1) = l.take i ++ [l[i]] := by
  rw [List.take_succ_eq_append_getElem h]
theorem v23 (l : List Nd) (hl : l.length ≤ 100000) : VCalls Tryd.prog G 23 [treeP l] (.list (some 4) (l.map ndP)) := by
  refine VCalls.of_PW Tryd.func23 k23 mix (by simp [c23]) ?_
  simp only [c23, L23, CC, argE, treeP]
  have hll : ((l.map ndP).length : Nat) = l.length := by simp
  repeat' (first | exact True.intro | (exact Or.inr ⟨rfl, by decide⟩) | (refine PW.stop (x := .seq (.region false (⟨some 4, none, .rd .mov [.pv (.int .i64 0)]⟩ :: _) _) _) ?_) | (refine PW.seqK ?_; intro K hK) | refine stp ?_ | refine seqK_n ‹_› ?_ | refine seqK_r ‹_› ?_ | refine seqK_e ‹_› ?_ | exact schedW_stop_i | refine schK_n ‹_› ?_ | (refine PW.cond rfl ?_ ?_ <;> intro hcond <;> (try contradiction) <;> try simp only [DD] at hcond) | (refine gd_i ?_; intro hg; try simp only [hg]) | (refine ari ?_; first | omega | (simp only [DD, LL] <;> omega) | (go_unwrap; omega)) | ((first | refine stq ?_ | show (_ : Post) _ _ _ | (refine schedW_alt_k ?_ ?_; intro K hK)); focus (simp only [SA, Nat.reduceAdd, reduceIte, Nat.reduceEqDiff, Nat.reduceBEq, reduceCtorEq]; (try go_unwrap; try simp only [RR, reduceCtorEq]))) | refine And.intro ?_ ?_ | exact Or.inr ⟨rfl, Nat.le_refl _⟩ | exact (fun h => Bool.noConfusion h))
  refine ⟨?_⟩
  refine PW.ownE 3 (some 4) rfl ?_
  simp only [List.cons_append, List.nil_append, List.length_cons, List.length_nil]
  repeat' (first | exact True.intro | (refine PW.seqK ?_; intro K hK) | refine stp ?_ | refine seqK_n ‹_› ?_ | refine seqK_r ‹_› ?_ | refine seqK_e ‹_› ?_ | exact schedW_stop_i | refine schK_n ‹_› ?_ | (refine PW.cond rfl ?_ ?_ <;> intro hcond <;> (try contradiction) <;> try simp only [DD] at hcond) | (refine gd_i ?_; intro hg; try simp only [hg]) | (refine ari ?_; first | omega | (simp only [DD, LL] <;> omega) | (go_unwrap; omega)) | ((first | refine stq ?_ | show (_ : Post) _ _ _ | (refine schedW_alt_k ?_ ?_; intro K hK)); focus (simp only [SA, Nat.reduceAdd, reduceIte, Nat.reduceEqDiff, Nat.reduceBEq, reduceCtorEq]; (try go_unwrap; try simp only [RR, reduceCtorEq]))) | refine And.intro ?_ ?_ | exact Or.inr ⟨rfl, Nat.le_refl _⟩ | exact (fun h => Bool.noConfusion h))
  refine PW.loopG (σ := Nat) 2 (fun _ _ => rfl) [1, 3, 4] (fun i => [.ref 0 0, .sl (some 4) 1 i, .int .i64 i]) (fun i => [some (.var (some 1) (.agg [.list (some 4) (l.map ndP)])), some (.row (some 4) ((l.take i).map ndP))]) (fun i => i ≤ l.length) (fun i => l.length - i) 0 ?_ (by simp) (by omega) ?_
  · simp only [SA, Nat.reduceAdd, reduceIte, Nat.reduceEqDiff, Nat.reduceBEq, reduceCtorEq]; rfl
  intro i hi
  simp only [List.zip_cons_cons, List.zip_nil_left]
  have hlt : (((l.take i).map ndP).length : Nat) = i := by simp; omega
  have htk : ((l.take i).map ndP).take i = (l.take i).map ndP := List.take_of_length_le (by omega)
  rcases Nat.lt_or_ge i l.length with h | h
  · have d1 : decide ((i : Int) < l.length) = true := by simp only [decide_eq_true_eq]; omega
    have hg : (l.map ndP).getD i .junk = .agg [.int .i64 l[i].op, .int .i64 l[i].num, .str l[i].name, .list none (l[i].kids.map (PV.int .i64))] := by simp [List.getD, h, ndP, ndC, kidsP]
    have hsn : (l.take i).map ndP ++ [.agg [.int .i64 l[i].op, .int .i64 l[i].num, .str l[i].name, .list none (l[i].kids.map (PV.int .i64))]] = (l.take (i + 1)).map ndP := by
      rw [take_snoc' h, List.map_append]; rfl
    have b1 : (i + 1) * 56 ≤ 140737488355328 := by omega
    have hsc : ∀ (a b : Int) (t : List UInt8) (ks : List PV), ∀ x ∈ [PV.int IntKind.i64 a, PV.int IntKind.i64 b, PV.str t, PV.list none ks], x.scalar = true := by
      intro a b t ks x hc; simp at hc; rcases hc with rfl | rfl | rfl | rfl <;> rfl
    generalize l[i] = x at hg hsn
    repeat' (first | exact True.intro | exact hsc _ _ _ _ | exact (rfl : (some 4 : Sh) = some 4) | (exact Or.inr ⟨rfl, by decide⟩) | (refine PW.seqK ?_; intro K hK) | refine stp ?_ | refine seqK_n ‹_› ?_ | refine seqK_r ‹_› ?_ | refine seqK_e ‹_› ?_ | exact schedW_stop_i | refine schK_n ‹_› ?_ | (refine PW.cond rfl ?_ ?_ <;> intro hcond <;> (try contradiction) <;> try simp only [DD] at hcond) | (refine gd_i ?_; intro hg; try simp only [hg]) | (refine ari ?_; first | omega | (simp only [DD, LL] <;> omega) | (go_unwrap; omega)) | ((first | refine stq ?_ | show (_ : Post) _ _ _ | (refine schedW_alt_k ?_ ?_; intro K hK)); focus (simp only [hll, hlt, htk, d1, hg, hsn, List.length_cons, List.length_nil, Nat.zero_add, SA, Nat.reduceAdd, reduceIte, Nat.reduceEqDiff, Nat.reduceBEq, reduceCtorEq]; (try go_unwrap; try simp only [hll, hlt, htk, d1, hg, hsn, List.length_cons, List.length_nil, Nat.zero_add, RR, reduceCtorEq]))) | refine And.intro ?_ ?_ | exact Or.inr ⟨rfl, Nat.le_refl _⟩ | exact (fun h => Bool.noConfusion h))
    all_goals exact ⟨i + 1, (by first | rfl | (simp only [TT, MObj.kill, PV.kill, Nat.reduceLeDiff, reduceIte, Nat.le_refl, Nat.zero_le, Nat.not_le, Nat.lt_irrefl]; done) | (simp [trimE, trimM, MObj.kill, PV.kill]; done)), (by first | rfl | (simp only [TT, MObj.kill, PV.kill, Nat.reduceLeDiff, reduceIte, Nat.le_refl, Nat.zero_le, Nat.not_le, Nat.lt_irrefl]; done) | (simp [trimE, trimM, MObj.kill, PV.kill]; done)), by omega, by omega⟩
  · have d1 : decide ((i : Int) < l.length) = false := by simp only [decide_eq_false_iff_not]; omega
    have hi' : i = l.length := by omega
    subst hi'
    rw [List.take_of_length_le (Nat.le_refl _)] at hlt htk
    simp only [List.take_length]
    repeat' (first | exact True.intro | (refine PW.stop (x := .seq (.region false (⟨some 30, none, .rd .mov [.tmp 3]⟩ :: _) _) _) ?_) | (refine PW.seqK ?_; intro K hK) | refine stp ?_ | refine seqK_n ‹_› ?_ | refine seqK_r ‹_› ?_ | refine seqK_e ‹_› ?_ | exact schedW_stop_i | refine schK_n ‹_› ?_ | (refine PW.cond rfl ?_ ?_ <;> intro hcond <;> (try contradiction) <;> try simp only [DD] at hcond) | (refine gd_i ?_; intro hg; try simp only [hg]) | (refine ari ?_; first | omega | (simp only [DD, LL] <;> omega) | (go_unwrap; omega)) | ((first | refine stq ?_ | show (_ : Post) _ _ _ | (refine schedW_alt_k ?_ ?_; intro K hK)); focus (simp only [hll, d1, SA, Nat.reduceAdd, reduceIte, Nat.reduceEqDiff, Nat.reduceBEq, reduceCtorEq]; (try go_unwrap; try simp only [hll, d1, RR, reduceCtorEq]))) | refine And.intro ?_ ?_ | exact Or.inr ⟨rfl, Nat.le_refl _⟩ | exact (fun h => Bool.noConfusion h))
    refine ⟨?_⟩
    refine PW.frz 1 (.row (some 4) (l.map ndP)) ?_ ?_ ?_
    · rfl
    · rfl
    simp only [SA, Nat.reduceAdd, reduceIte, Nat.reduceEqDiff, Nat.reduceBEq, reduceCtorEq, PV.frz, MObj.frz, frzM, frzSl, hlt, htk, Nat.le_refl, and_self, if_true]
    repeat' (first | exact True.intro | (refine PW.seqK ?_; intro K hK) | refine stp ?_ | refine seqK_n ‹_› ?_ | refine seqK_r ‹_› ?_ | refine seqK_e ‹_› ?_ | exact schedW_stop_i | refine schK_n ‹_› ?_ | (refine PW.cond rfl ?_ ?_ <;> intro hcond <;> (try contradiction) <;> try simp only [DD] at hcond) | (refine gd_i ?_; intro hg; try simp only [hg]) | (refine ari ?_; first | omega | (simp only [DD, LL] <;> omega) | (go_unwrap; omega)) | ((first | refine stq ?_ | show (_ : Post) _ _ _ | (refine schedW_alt_k ?_ ?_; intro K hK)); focus (simp only [SA, Nat.reduceAdd, reduceIte, Nat.reduceEqDiff, Nat.reduceBEq, reduceCtorEq]; (try go_unwrap; try simp only [RR, reduceCtorEq]))) | refine And.intro ?_ ?_ | exact Or.inr ⟨rfl, Nat.le_refl _⟩ | exact (fun h => Bool.noConfusion h))
    all_goals rfl
end Go.Proofs.YthekpjhffciakaaDoor

namespace Go.Proofs.YthekpjhffciakaaDoor
open Go PG Go.Proofs
set_option linter.unusedSimpArgs false
set_option linter.unusedVariables false
set_option maxRecDepth 100000
/-! The examples -/
def sA : List UInt8 := [97, 43, 50, 42, 40, 98, 45, 99, 41]
def sB : List UInt8 := [97, 45, 40, 98, 43, 99, 41]
def sC : List UInt8 := [40, 97, 45, 98, 41, 43, 99]
def sC' : List UInt8 := [97, 45, 98, 43, 99]
def tA : List Nd := [⟨1, 0, [97], []⟩, ⟨0, 2000000, [], []⟩, ⟨1, 0, [98], []⟩, ⟨1, 0, [99], []⟩, ⟨3, 0, [], [2, 3]⟩, ⟨4, 0, [], [1, 4]⟩, ⟨2, 0, [], [0, 5]⟩]
def tB : List Nd := [⟨1, 0, [97], []⟩, ⟨1, 0, [98], []⟩, ⟨1, 0, [99], []⟩, ⟨2, 0, [], [1, 2]⟩, ⟨3, 0, [], [0, 3]⟩]
def tC : List Nd := [⟨1, 0, [97], []⟩, ⟨1, 0, [98], []⟩, ⟨3, 0, [], [0, 1]⟩, ⟨1, 0, [99], []⟩, ⟨2, 0, [], [2, 3]⟩]
def lA : List Tok := [(1, [97], 0), (3, [43], 1), (2, [50], 2), (3, [42], 3), (3, [40], 4), (1, [98], 5), (3, [45], 6), (1, [99], 7), (3, [41], 8), (0, [], 9)]
def lB : List Tok := [(1, [97], 0), (3, [45], 1), (3, [40], 2), (1, [98], 3), (3, [43], 4), (1, [99], 5), (3, [41], 6), (0, [], 7)]
def lC : List Tok := [(3, [40], 0), (1, [97], 1), (3, [45], 2), (1, [98], 3), (3, [41], 4), (3, [43], 5), (1, [99], 6), (0, [], 7)]
theorem allA : allE sA = .ok lA := by
  unfold allE sA
  rw [if_neg (by decide)]
  rw [scanA, if_neg (by decide), show tokE 0 [97, 43, 50, 42, 40, 98, 45, 99, 41] = .ok (1, 1) from rfl]
  simp only [List.drop_succ_cons, List.drop_zero, Nat.add_one_sub_one, Nat.reduceSub, List.take_succ_cons, List.take_zero, Nat.zero_add, Nat.reduceAdd, List.nil_append]
  rw [scanA, if_neg (by decide), show tokE 1 [43, 50, 42, 40, 98, 45, 99, 41] = .ok (3, 1) from rfl]
  simp only [List.drop_succ_cons, List.drop_zero, Nat.add_one_sub_one, Nat.reduceSub, List.take_succ_cons, List.take_zero, Nat.zero_add, Nat.reduceAdd, List.nil_append]
  rw [scanA, if_neg (by decide), show tokE 2 [50, 42, 40, 98, 45, 99, 41] = .ok (2, 1) from rfl]
  simp only [List.drop_succ_cons, List.drop_zero, Nat.add_one_sub_one, Nat.reduceSub, List.take_succ_cons, List.take_zero, Nat.zero_add, Nat.reduceAdd, List.nil_append]
  rw [scanA, if_neg (by decide), show tokE 3 [42, 40, 98, 45, 99, 41] = .ok (3, 1) from rfl]
  simp only [List.drop_succ_cons, List.drop_zero, Nat.add_one_sub_one, Nat.reduceSub, List.take_succ_cons, List.take_zero, Nat.zero_add, Nat.reduceAdd, List.nil_append]
  rw [scanA, if_neg (by decide), show tokE 4 [40, 98, 45, 99, 41] = .ok (3, 1) from rfl]
  simp only [List.drop_succ_cons, List.drop_zero, Nat.add_one_sub_one, Nat.reduceSub, List.take_succ_cons, List.take_zero, Nat.zero_add, Nat.reduceAdd, List.nil_append]
  rw [scanA, if_neg (by decide), show tokE 5 [98, 45, 99, 41] = .ok (1, 1) from rfl]
  simp only [List.drop_succ_cons, List.drop_zero, Nat.add_one_sub_one, Nat.reduceSub, List.take_succ_cons, List.take_zero, Nat.zero_add, Nat.reduceAdd, List.nil_append]
  rw [scanA, if_neg (by decide), show tokE 6 [45, 99, 41] = .ok (3, 1) from rfl]
  simp only [List.drop_succ_cons, List.drop_zero, Nat.add_one_sub_one, Nat.reduceSub, List.take_succ_cons, List.take_zero, Nat.zero_add, Nat.reduceAdd, List.nil_append]
  rw [scanA, if_neg (by decide), show tokE 7 [99, 41] = .ok (1, 1) from rfl]
  simp only [List.drop_succ_cons, List.drop_zero, Nat.add_one_sub_one, Nat.reduceSub, List.take_succ_cons, List.take_zero, Nat.zero_add, Nat.reduceAdd, List.nil_append]
  rw [scanA, if_neg (by decide), show tokE 8 [41] = .ok (3, 1) from rfl]
  simp only [List.drop_succ_cons, List.drop_zero, Nat.add_one_sub_one, Nat.reduceSub, List.take_succ_cons, List.take_zero, Nat.zero_add, Nat.reduceAdd, List.nil_append]
  rw [scanA]
  rfl
theorem allB : allE sB = .ok lB := by
  unfold allE sB
  rw [if_neg (by decide)]
  rw [scanA, if_neg (by decide), show tokE 0 [97, 45, 40, 98, 43, 99, 41] = .ok (1, 1) from rfl]
  simp only [List.drop_succ_cons, List.drop_zero, Nat.add_one_sub_one, Nat.reduceSub, List.take_succ_cons, List.take_zero, Nat.zero_add, Nat.reduceAdd, List.nil_append]
  rw [scanA, if_neg (by decide), show tokE 1 [45, 40, 98, 43, 99, 41] = .ok (3, 1) from rfl]
  simp only [List.drop_succ_cons, List.drop_zero, Nat.add_one_sub_one, Nat.reduceSub, List.take_succ_cons, List.take_zero, Nat.zero_add, Nat.reduceAdd, List.nil_append]
  rw [scanA, if_neg (by decide), show tokE 2 [40, 98, 43, 99, 41] = .ok (3, 1) from rfl]
  simp only [List.drop_succ_cons, List.drop_zero, Nat.add_one_sub_one, Nat.reduceSub, List.take_succ_cons, List.take_zero, Nat.zero_add, Nat.reduceAdd, List.nil_append]
  rw [scanA, if_neg (by decide), show tokE 3 [98, 43, 99, 41] = .ok (1, 1) from rfl]
  simp only [List.drop_succ_cons, List.drop_zero, Nat.add_one_sub_one, Nat.reduceSub, List.take_succ_cons, List.take_zero, Nat.zero_add, Nat.reduceAdd, List.nil_append]
  rw [scanA, if_neg (by decide), show tokE 4 [43, 99, 41] = .ok (3, 1) from rfl]
  simp only [List.drop_succ_cons, List.drop_zero, Nat.add_one_sub_one, Nat.reduceSub, List.take_succ_cons, List.take_zero, Nat.zero_add, Nat.reduceAdd, List.nil_append]
  rw [scanA, if_neg (by decide), show tokE 5 [99, 41] = .ok (1, 1) from rfl]
  simp only [List.drop_succ_cons, List.drop_zero, Nat.add_one_sub_one, Nat.reduceSub, List.take_succ_cons, List.take_zero, Nat.zero_add, Nat.reduceAdd, List.nil_append]
  rw [scanA, if_neg (by decide), show tokE 6 [41] = .ok (3, 1) from rfl]
  simp only [List.drop_succ_cons, List.drop_zero, Nat.add_one_sub_one, Nat.reduceSub, List.take_succ_cons, List.take_zero, Nat.zero_add, Nat.reduceAdd, List.nil_append]
  rw [scanA]
  rfl
theorem allC : allE sC = .ok lC := by
  unfold allE sC
  rw [if_neg (by decide)]
  rw [scanA, if_neg (by decide), show tokE 0 [40, 97, 45, 98, 41, 43, 99] = .ok (3, 1) from rfl]
  simp only [List.drop_succ_cons, List.drop_zero, Nat.add_one_sub_one, Nat.reduceSub, List.take_succ_cons, List.take_zero, Nat.zero_add, Nat.reduceAdd, List.nil_append]
  rw [scanA, if_neg (by decide), show tokE 1 [97, 45, 98, 41, 43, 99] = .ok (1, 1) from rfl]
  simp only [List.drop_succ_cons, List.drop_zero, Nat.add_one_sub_one, Nat.reduceSub, List.take_succ_cons, List.take_zero, Nat.zero_add, Nat.reduceAdd, List.nil_append]
  rw [scanA, if_neg (by decide), show tokE 2 [45, 98, 41, 43, 99] = .ok (3, 1) from rfl]
  simp only [List.drop_succ_cons, List.drop_zero, Nat.add_one_sub_one, Nat.reduceSub, List.take_succ_cons, List.take_zero, Nat.zero_add, Nat.reduceAdd, List.nil_append]
  rw [scanA, if_neg (by decide), show tokE 3 [98, 41, 43, 99] = .ok (1, 1) from rfl]
  simp only [List.drop_succ_cons, List.drop_zero, Nat.add_one_sub_one, Nat.reduceSub, List.take_succ_cons, List.take_zero, Nat.zero_add, Nat.reduceAdd, List.nil_append]
  rw [scanA, if_neg (by decide), show tokE 4 [41, 43, 99] = .ok (3, 1) from rfl]
  simp only [List.drop_succ_cons, List.drop_zero, Nat.add_one_sub_one, Nat.reduceSub, List.take_succ_cons, List.take_zero, Nat.zero_add, Nat.reduceAdd, List.nil_append]
  rw [scanA, if_neg (by decide), show tokE 5 [43, 99] = .ok (3, 1) from rfl]
  simp only [List.drop_succ_cons, List.drop_zero, Nat.add_one_sub_one, Nat.reduceSub, List.take_succ_cons, List.take_zero, Nat.zero_add, Nat.reduceAdd, List.nil_append]
  rw [scanA, if_neg (by decide), show tokE 6 [99] = .ok (1, 1) from rfl]
  simp only [List.drop_succ_cons, List.drop_zero, Nat.add_one_sub_one, Nat.reduceSub, List.take_succ_cons, List.take_zero, Nat.zero_add, Nat.reduceAdd, List.nil_append]
  rw [scanA]
  rfl
theorem pA : parseS sA = .ok tA := by
  unfold parseS; rw [allA]; rfl
theorem pB : parseS sB = .ok tB := by
  unfold parseS; rw [allB]; rfl
theorem pC : parseS sC = .ok tC := by
  unfold parseS; rw [allC]; rfl
end Go.Proofs.YthekpjhffciakaaDoor

namespace Go.Proofs.YthekpjhffciakaaDoor
open Go PG Go.Proofs
set_option linter.unusedSimpArgs false
set_option linter.unusedVariables false
set_option maxHeartbeats 4000000
set_option maxRecDepth 100000
def ndOkB (n : Nd) : Bool := decide (0 ≤ n.op) && (decide (n.op ≤ 9) && ((decide (n.op ≠ 0) || (decide (0 ≤ n.num) && decide (n.num ≤ 1000000000000000000))) && (decide (n.name.length ≤ 100) && (decide (n.kids.length ≤ 3) && (decide (n.op < 2) || (decide (4 < n.op) || decide (n.kids.length = 2)))))))
theorem ndOkB_ok {n : Nd} (h : ndOkB n = true) : NdOk n := by
  simp only [ndOkB, Bool.and_eq_true, Bool.or_eq_true, decide_eq_true_eq] at h
  obtain ⟨h1, h2, h3, h4, h5, h6⟩ := h
  exact ⟨h1, h2, fun e => by rcases h3 with h3 | h3; exact absurd e h3; exact h3, h4, h5, fun a b => by rcases h6 with h6 | h6 | h6; omega; omega; exact h6⟩
def fitsB (l : List Nd) : Nat → Int → Bool
  | 0, _ => false
  | k + 1, i => decide (0 ≤ i) && (decide (i.toNat < l.length) && (ndOkB (l.getD i.toNat default) && (l.getD i.toNat default).kids.all (fitsB l k)))
theorem fitsB_ok (l : List Nd) : ∀ (k : Nat) (i : Int), fitsB l k i = true → fitsD l k i
  | 0, _, h => by cases h
  | k + 1, i, h => by
    simp only [fitsB, Bool.and_eq_true, decide_eq_true_eq, List.all_eq_true] at h
    exact ⟨h.1, h.2.1, ndOkB_ok h.2.2.1, fun c hc => fitsB_ok l k c (h.2.2.2 c hc)⟩
theorem numT2 : numT 2000000 = [50] := by
  unfold numT
  rw [if_pos (by decide), digT, if_pos (by decide)]
  rfl
theorem txA : VCalls Tryd.prog G0 26 [treeP tA] (.str sA) := by
  have h := v26 tA (by decide) (by decide) (by rfl) (fitsB_ok _ _ _ rfl)
  have e : textM tA 16 ((tA.length : Int) - 1) 0 = sA := by
    simp [textM, tA, strongM, wordM, wordsL, sA, numT2, List.getD]
  rw [e] at h
  exact h
theorem txB : VCalls Tryd.prog G0 26 [treeP tB] (.str sB) :=
  v26 tB (by decide) (by decide) (by rfl) (fitsB_ok _ _ _ rfl)
theorem txC : VCalls Tryd.prog G0 26 [treeP tC] (.str sC') :=
  v26 tC (by decide) (by decide) (by rfl) (fitsB_ok _ _ _ rfl)
theorem v17 : VCalls Tryd.prog G0 17 [] (.bool true) := by
  refine VCalls.of_PW Tryd.func17 k17 mix (by simp [c17]) ?_
  simp only [c17, L17, CC, argE]
  have h1 := v18 sA (by decide)
  have h2 := v18 sB (by decide)
  have h3 := v18 sC (by decide)
  have t1 := txA
  have t2 := txB
  have t3 := txC
  rw [pA] at h1
  rw [pB] at h2
  rw [pC] at h3
  simp only [parsePV, treeP] at h1 h2 h3 t1 t2 t3
  have hA : ((tA.map ndP).length : Nat) = 7 := rfl
  generalize tA.map ndP = XA at *
  generalize tB.map ndP = XB at *
  generalize tC.map ndP = XC at *
  simp only [sA, sB, sC, sC'] at h1 h2 h3 t1 t2 t3
  repeat' (first | exact True.intro | (exact Or.inr ⟨rfl, by decide⟩) | (refine PW.seqK ?_; intro K hK) | refine stp ?_ | refine seqK_n ‹_› ?_ | refine seqK_r ‹_› ?_ | refine seqK_e ‹_› ?_ | exact schedW_stop_i | refine schK_n ‹_› ?_ | (refine PW.cond rfl ?_ ?_ <;> intro hcond <;> (try contradiction) <;> try simp only [DD] at hcond) | (apply goCall_V e18; (case hV => (simp only [PV.bin, PV.binOk, binI, hA, SA, Nat.reduceAdd, reduceIte, Nat.reduceEqDiff, Nat.reduceBEq, reduceCtorEq]; (try go_unwrap; try simp only [PV.bin, PV.binOk, binI, hA, RR, reduceCtorEq]); exact h1)); (try (case hs => rfl)); (try (case hf => first | exact Or.inl rfl | exact Or.inr ⟨rfl, rfl⟩ | (refine Or.inl ?_; simp only [PV.bin, PV.binOk, binI, hA, SA, Nat.reduceAdd, reduceIte, Nat.reduceEqDiff, Nat.reduceBEq, reduceCtorEq]; done) | (refine Or.inr ⟨rfl, ?_⟩; simp only [PV.bin, PV.binOk, binI, hA, SA, Nat.reduceAdd, reduceIte, Nat.reduceEqDiff, Nat.reduceBEq, reduceCtorEq]; done))); all_goals (first | (simp only [PV.bin, PV.binOk, binI, hA, SA, Nat.reduceAdd, reduceIte, Nat.reduceEqDiff, Nat.reduceBEq, reduceCtorEq]; (try go_unwrap; try simp only [PV.bin, PV.binOk, binI, hA, RR, reduceCtorEq])) | (show Env; skip) | (show Mem; skip))) | (apply goCall_V e18; (case hV => (simp only [PV.bin, PV.binOk, binI, hA, SA, Nat.reduceAdd, reduceIte, Nat.reduceEqDiff, Nat.reduceBEq, reduceCtorEq]; (try go_unwrap; try simp only [PV.bin, PV.binOk, binI, hA, RR, reduceCtorEq]); exact h2)); (try (case hs => rfl)); (try (case hf => first | exact Or.inl rfl | exact Or.inr ⟨rfl, rfl⟩ | (refine Or.inl ?_; simp only [PV.bin, PV.binOk, binI, hA, SA, Nat.reduceAdd, reduceIte, Nat.reduceEqDiff, Nat.reduceBEq, reduceCtorEq]; done) | (refine Or.inr ⟨rfl, ?_⟩; simp only [PV.bin, PV.binOk, binI, hA, SA, Nat.reduceAdd, reduceIte, Nat.reduceEqDiff, Nat.reduceBEq, reduceCtorEq]; done))); all_goals (first | (simp only [PV.bin, PV.binOk, binI, hA, SA, Nat.reduceAdd, reduceIte, Nat.reduceEqDiff, Nat.reduceBEq, reduceCtorEq]; (try go_unwrap; try simp only [PV.bin, PV.binOk, binI, hA, RR, reduceCtorEq])) | (show Env; skip) | (show Mem; skip))) | (apply goCall_V e18; (case hV => (simp only [PV.bin, PV.binOk, binI, hA, SA, Nat.reduceAdd, reduceIte, Nat.reduceEqDiff, Nat.reduceBEq, reduceCtorEq]; (try go_unwrap; try simp only [PV.bin, PV.binOk, binI, hA, RR, reduceCtorEq]); exact h3)); (try (case hs => rfl)); (try (case hf => first | exact Or.inl rfl | exact Or.inr ⟨rfl, rfl⟩ | (refine Or.inl ?_; simp only [PV.bin, PV.binOk, binI, hA, SA, Nat.reduceAdd, reduceIte, Nat.reduceEqDiff, Nat.reduceBEq, reduceCtorEq]; done) | (refine Or.inr ⟨rfl, ?_⟩; simp only [PV.bin, PV.binOk, binI, hA, SA, Nat.reduceAdd, reduceIte, Nat.reduceEqDiff, Nat.reduceBEq, reduceCtorEq]; done))); all_goals (first | (simp only [PV.bin, PV.binOk, binI, hA, SA, Nat.reduceAdd, reduceIte, Nat.reduceEqDiff, Nat.reduceBEq, reduceCtorEq]; (try go_unwrap; try simp only [PV.bin, PV.binOk, binI, hA, RR, reduceCtorEq])) | (show Env; skip) | (show Mem; skip))) | (apply goCallG_V e26; (case hV => (intro hg; simp only [hg, PV.bin, PV.binOk, binI, hA, SA, Nat.reduceAdd, reduceIte, Nat.reduceEqDiff, Nat.reduceBEq, reduceCtorEq]; (try go_unwrap; try simp only [PV.bin, PV.binOk, binI, hA, RR, reduceCtorEq]); exact t1)); (case hok => (intro hg; first | (simp only [hg, PV.bin, PV.binOk, binI, hA, SA, Nat.reduceAdd, reduceIte, Nat.reduceEqDiff, Nat.reduceBEq, reduceCtorEq]; done) | (simp_all [okAll, PV.okUnder]; done))); (case hs => (intro hg; simp only [hg, PV.bin, PV.binOk, binI, hA, SA, Nat.reduceAdd, reduceIte, Nat.reduceEqDiff, Nat.reduceBEq, reduceCtorEq])); (case hf => first | rfl | simp only [PV.bin, PV.binOk, binI, hA, SA, Nat.reduceAdd, reduceIte, Nat.reduceEqDiff, Nat.reduceBEq, reduceCtorEq]); (simp only [PV.bin, PV.binOk, binI, hA, SA, Nat.reduceAdd, reduceIte, Nat.reduceEqDiff, Nat.reduceBEq, reduceCtorEq]; (try go_unwrap; try simp only [PV.bin, PV.binOk, binI, hA, RR, reduceCtorEq]))) | (apply goCallG_V e26; (case hV => (intro hg; simp only [hg, PV.bin, PV.binOk, binI, hA, SA, Nat.reduceAdd, reduceIte, Nat.reduceEqDiff, Nat.reduceBEq, reduceCtorEq]; (try go_unwrap; try simp only [PV.bin, PV.binOk, binI, hA, RR, reduceCtorEq]); exact t2)); (case hok => (intro hg; first | (simp only [hg, PV.bin, PV.binOk, binI, hA, SA, Nat.reduceAdd, reduceIte, Nat.reduceEqDiff, Nat.reduceBEq, reduceCtorEq]; done) | (simp_all [okAll, PV.okUnder]; done))); (case hs => (intro hg; simp only [hg, PV.bin, PV.binOk, binI, hA, SA, Nat.reduceAdd, reduceIte, Nat.reduceEqDiff, Nat.reduceBEq, reduceCtorEq])); (case hf => first | rfl | simp only [PV.bin, PV.binOk, binI, hA, SA, Nat.reduceAdd, reduceIte, Nat.reduceEqDiff, Nat.reduceBEq, reduceCtorEq]); (simp only [PV.bin, PV.binOk, binI, hA, SA, Nat.reduceAdd, reduceIte, Nat.reduceEqDiff, Nat.reduceBEq, reduceCtorEq]; (try go_unwrap; try simp only [PV.bin, PV.binOk, binI, hA, RR, reduceCtorEq]))) | (apply goCallG_V e26; (case hV => (intro hg; simp only [hg, PV.bin, PV.binOk, binI, hA, SA, Nat.reduceAdd, reduceIte, Nat.reduceEqDiff, Nat.reduceBEq, reduceCtorEq]; (try go_unwrap; try simp only [PV.bin, PV.binOk, binI, hA, RR, reduceCtorEq]); exact t3)); (case hok => (intro hg; first | (simp only [hg, PV.bin, PV.binOk, binI, hA, SA, Nat.reduceAdd, reduceIte, Nat.reduceEqDiff, Nat.reduceBEq, reduceCtorEq]; done) | (simp_all [okAll, PV.okUnder]; done))); (case hs => (intro hg; simp only [hg, PV.bin, PV.binOk, binI, hA, SA, Nat.reduceAdd, reduceIte, Nat.reduceEqDiff, Nat.reduceBEq, reduceCtorEq])); (case hf => first | rfl | simp only [PV.bin, PV.binOk, binI, hA, SA, Nat.reduceAdd, reduceIte, Nat.reduceEqDiff, Nat.reduceBEq, reduceCtorEq]); (simp only [PV.bin, PV.binOk, binI, hA, SA, Nat.reduceAdd, reduceIte, Nat.reduceEqDiff, Nat.reduceBEq, reduceCtorEq]; (try go_unwrap; try simp only [PV.bin, PV.binOk, binI, hA, RR, reduceCtorEq]))) | (refine gd_i ?_; intro hg; try simp only [hg]) | (refine ari ?_; first | omega | (simp only [DD, LL] <;> omega) | (go_unwrap; omega)) | ((first | refine stq ?_ | show (_ : Post) _ _ _ | (refine schedW_alt_k ?_ ?_; intro K hK)); focus (simp only [PV.bin, PV.binOk, binI, hA, SA, Nat.reduceAdd, reduceIte, Nat.reduceEqDiff, Nat.reduceBEq, reduceCtorEq]; (try go_unwrap; try simp only [PV.bin, PV.binOk, binI, hA, RR, reduceCtorEq]))) | refine And.intro ?_ ?_ | exact Or.inr ⟨rfl, Nat.le_refl _⟩ | exact (fun h => Bool.noConfusion h))
  all_goals rfl
end Go.Proofs.YthekpjhffciakaaDoor

namespace Go.Proofs.YthekpjhffciakaaDoor
open Go PG Go.Proofs
set_option linter.unusedSimpArgs false
set_option linter.unusedVariables false
set_option maxHeartbeats 4000000
set_option maxRecDepth 100000
theorem e17 : Ent Tryd.prog 17 := ⟨Tryd.f17, Tryd.func17, by kernel_rfl, by kernel_rfl⟩
theorem e22 : Ent Tryd.prog 22 := ⟨Tryd.f22, Tryd.func22, by kernel_rfl, by kernel_rfl⟩
theorem e23 : Ent Tryd.prog 23 := ⟨Tryd.f23, Tryd.func23, by kernel_rfl, by kernel_rfl⟩
end Go.Proofs.YthekpjhffciakaaDoor

namespace Go.Proofs.YthekpjhffciakaaDoor
open Go PG Go.Proofs
set_option linter.unusedSimpArgs false
set_option linter.unusedVariables false
set_option maxHeartbeats 4000000
set_option maxRecDepth 100000
theorem e24 : Ent Tryd.prog 24 := ⟨Tryd.f24, Tryd.func24, by kernel_rfl, by kernel_rfl⟩
theorem e25 : Ent Tryd.prog 25 := ⟨Tryd.f25, Tryd.func25, by kernel_rfl, by kernel_rfl⟩
theorem e54 : Ent Tryd.prog 54 := ⟨Tryd.f54, Tryd.func54, by kernel_rfl, by kernel_rfl⟩
/-- Are there more nodes than are asked of? (sums turn where they are too great) -/
def greatL : List Nd → Int → Int
  | [], n => n
  | x :: xs, n => if n ≤ 1000 then greatL xs (IntKind.i64.wrap (IntKind.i64.wrap (n + x.kids.length) + x.name.length)) else n
def greatB (l : List Nd) : Bool := decide (1000 < greatL l l.length)
theorem great_len {l : List Nd} (h : greatB l = false) : l.length ≤ 1000 := by
  unfold greatB at h
  simp only [decide_eq_false_iff_not] at h
  cases l with
  | nil => simp
  | cons x xs =>
    unfold greatL at h
    split at h
    · rename_i h1; omega
    · rename_i h1; exact absurd (by omega) h
theorem v24 (l : List Nd) (hl : l.length ≤ 9223372036854775807) : VCalls Tryd.prog G0 24 [treeP l] (.bool (greatB l)) := by
  refine VCalls.of_PW Tryd.func24 k24 mix (by simp [c24]) ?_
  simp only [c24, L24, CC, argE, treeP]
  have hll : ((l.map ndP).length : Nat) = l.length := by simp
  repeat' (first | exact True.intro | (refine PW.seqK ?_; intro K hK) | refine stp ?_ | refine seqK_n ‹_› ?_ | refine seqK_r ‹_› ?_ | refine seqK_e ‹_› ?_ | exact schedW_stop_i | refine schK_n ‹_› ?_ | (refine PW.cond rfl ?_ ?_ <;> intro hcond <;> (try contradiction) <;> try simp only [DD] at hcond) | (refine gd_i ?_; intro hg; try simp only [hg]) | (refine ari ?_; first | omega | (simp only [DD, LL] <;> omega) | (go_unwrap; omega)) | ((first | refine stq ?_ | show (_ : Post) _ _ _ | (refine schedW_alt_k ?_ ?_; intro K hK)); focus (simp only [hll, SA, Nat.reduceAdd, reduceIte, Nat.reduceEqDiff, Nat.reduceBEq, reduceCtorEq]; (try go_unwrap; try simp only [hll, RR, reduceCtorEq]))) | refine And.intro ?_ ?_ | exact Or.inr ⟨rfl, Nat.le_refl _⟩ | exact (fun h => Bool.noConfusion h))
  refine PW.loop (σ := Nat × Int) [1, 3, 4] (fun s => [.ref 0 0, .int .i64 s.2, .int .i64 s.1]) (fun _ => [some (.var (some 1) (.agg [.list (some 4) (l.map ndP)]))]) (fun s => s.1 ≤ l.length ∧ greatL l l.length = greatL (l.drop s.1) s.2) (fun s => l.length - s.1) (0, l.length) ?_ rfl ⟨by simp, by simp⟩ ?_
  · simp only [SA, Nat.reduceAdd, reduceIte, Nat.reduceEqDiff, Nat.reduceBEq, reduceCtorEq]; rfl
  rintro ⟨i, n⟩ ⟨hi, hn⟩
  simp only at hi hn
  simp only [List.zip_cons_cons, List.zip_nil_left]
  rcases Nat.lt_or_ge i l.length with h | h
  · obtain ⟨x, hd, hx, hg⟩ := drop_at h
    rw [hd, greatL] at hn
    have hgn := ((hg ndP).1).trans (ndP1 x)
    have d1 : decide ((i : Int) < l.length) = true := by simp only [decide_eq_true_eq]; omega
    have hkl : ((x.kids.map (PV.int .i64)).length : Nat) = x.kids.length := by simp
    by_cases h1 : n ≤ 1000
    · have d2 : decide (n ≤ 1000) = true := decide_eq_true h1
      rw [if_pos h1] at hn
      repeat' (first | exact True.intro | (refine PW.seqK ?_; intro K hK) | refine stp ?_ | refine seqK_n ‹_› ?_ | refine seqK_r ‹_› ?_ | refine seqK_e ‹_› ?_ | exact schedW_stop_i | refine schK_n ‹_› ?_ | (refine PW.cond rfl ?_ ?_ <;> intro hcond <;> (try contradiction) <;> try simp only [DD] at hcond) | (refine gd_i ?_; intro hg; try simp only [hg]) | (refine ari ?_; first | omega | (simp only [DD, LL] <;> omega) | (go_unwrap; omega)) | ((first | refine stq ?_ | show (_ : Post) _ _ _ | (refine schedW_alt_k ?_ ?_; intro K hK)); focus (simp only [PV.bin, PV.binOk, binI, hll, d1, d2, hgn, hkl, SA, Nat.reduceAdd, reduceIte, Nat.reduceEqDiff, Nat.reduceBEq, reduceCtorEq]; (try go_unwrap; try simp only [PV.bin, PV.binOk, binI, hll, d1, d2, hgn, hkl, RR, reduceCtorEq]))) | refine And.intro ?_ ?_ | exact Or.inr ⟨rfl, Nat.le_refl _⟩ | exact (fun h => Bool.noConfusion h))
      all_goals exact ⟨(i + 1, _), rfl, ⟨h, hn⟩, by simp only; omega⟩
    · have d2 : decide (n ≤ 1000) = false := decide_eq_false h1
      rw [if_neg h1] at hn
      repeat' (first | exact True.intro | (refine PW.seqK ?_; intro K hK) | refine stp ?_ | refine seqK_n ‹_› ?_ | refine seqK_r ‹_› ?_ | refine seqK_e ‹_› ?_ | exact schedW_stop_i | refine schK_n ‹_› ?_ | (refine PW.cond rfl ?_ ?_ <;> intro hcond <;> (try contradiction) <;> try simp only [DD] at hcond) | (refine gd_i ?_; intro hg; try simp only [hg]) | (refine ari ?_; first | omega | (simp only [DD, LL] <;> omega) | (go_unwrap; omega)) | ((first | refine stq ?_ | show (_ : Post) _ _ _ | (refine schedW_alt_k ?_ ?_; intro K hK)); focus (simp only [PV.bin, PV.binOk, binI, hll, d1, d2, SA, Nat.reduceAdd, reduceIte, Nat.reduceEqDiff, Nat.reduceBEq, reduceCtorEq]; (try go_unwrap; try simp only [PV.bin, PV.binOk, binI, hll, d1, d2, RR, reduceCtorEq]))) | refine And.intro ?_ ?_ | exact Or.inr ⟨rfl, Nat.le_refl _⟩ | exact (fun h => Bool.noConfusion h))
      all_goals rw [greatB, hn]
  · have d1 : decide ((i : Int) < l.length) = false := by simp only [decide_eq_false_iff_not]; omega
    rw [List.drop_eq_nil_of_le h, greatL] at hn
    repeat' (first | exact True.intro | (refine PW.seqK ?_; intro K hK) | refine stp ?_ | refine seqK_n ‹_› ?_ | refine seqK_r ‹_› ?_ | refine seqK_e ‹_› ?_ | exact schedW_stop_i | refine schK_n ‹_› ?_ | (refine PW.cond rfl ?_ ?_ <;> intro hcond <;> (try contradiction) <;> try simp only [DD] at hcond) | (refine gd_i ?_; intro hg; try simp only [hg]) | (refine ari ?_; first | omega | (simp only [DD, LL] <;> omega) | (go_unwrap; omega)) | ((first | refine stq ?_ | show (_ : Post) _ _ _ | (refine schedW_alt_k ?_ ?_; intro K hK)); focus (simp only [PV.bin, PV.binOk, binI, hll, d1, SA, Nat.reduceAdd, reduceIte, Nat.reduceEqDiff, Nat.reduceBEq, reduceCtorEq]; (try go_unwrap; try simp only [PV.bin, PV.binOk, binI, hll, d1, RR, reduceCtorEq]))) | refine And.intro ?_ ?_ | exact Or.inr ⟨rfl, Nat.le_refl _⟩ | exact (fun h => Bool.noConfusion h))
    all_goals rw [greatB, hn]
theorem v25 (l : List Nd) (hl : l.length ≤ 1000) (hs : ∀ n ∈ l, n.name.length ≤ 9223372036854775807 ∧ n.kids.length ≤ 9223372036854775807) : VCalls Tryd.prog G0 25 [treeP l] (.int .i64 (checkM l)) := by
  refine VCalls.of_PW Tryd.func25 k25 mix (by simp [c25]) ?_
  simp only [c25, L25, CC, argE]
  have h23 := v23 (G := G0) l (by omega)
  have h54 := v54 l (by omega) hs
  simp only [treeP] at h23 ⊢
  have hll : ((l.map ndP).length : Nat) = l.length := by simp
  repeat' (first | exact True.intro | (refine PW.seqK ?_; intro K hK) | refine stp ?_ | refine seqK_n ‹_› ?_ | refine seqK_r ‹_› ?_ | refine seqK_e ‹_› ?_ | exact schedW_stop_i | refine schK_n ‹_› ?_ | (refine PW.cond rfl ?_ ?_ <;> intro hcond <;> (try contradiction) <;> try simp only [DD] at hcond) | (refine gd_i ?_; intro hg; try simp only [hg]) | (refine ari ?_; first | omega | (simp only [DD, LL] <;> omega) | (go_unwrap; omega)) | ((first | refine stq ?_ | show (_ : Post) _ _ _ | (refine schedW_alt_k ?_ ?_; intro K hK)); focus (simp only [hll, SA, Nat.reduceAdd, reduceIte, Nat.reduceEqDiff, Nat.reduceBEq, reduceCtorEq]; (try go_unwrap; try simp only [hll, RR, reduceCtorEq]))) | refine And.intro ?_ ?_ | exact Or.inr ⟨rfl, Nat.le_refl _⟩ | exact (fun h => Bool.noConfusion h))
  refine PW.own none 3 rfl ?_
  refine PW.loopG (σ := Nat) 2 (fun _ _ => rfl) [1, 3, 4] (fun i => [.ref 0 0, .sl none 1 i, .int .i64 i])
    (fun i => [some (.var (some 1) (.agg [.list (some 4) (l.map ndP)])), some (.row none (((l.take i).map fun n => isName n.name).map PV.bool))]) (fun i => i ≤ l.length) (fun i => l.length - i) 0 ?_ (by simp) (by omega) ?_
  · simp only [SA, Nat.reduceAdd, reduceIte, Nat.reduceEqDiff, Nat.reduceBEq, reduceCtorEq]; rfl
  intro i hi
  simp only [List.zip_cons_cons, List.zip_nil_left]
  have hRl : ((((l.take i).map fun n => isName n.name).map PV.bool).length : Nat) = i := by simp; omega
  have hRt : (((l.take i).map fun n => isName n.name).map PV.bool).take i = ((l.take i).map fun n => isName n.name).map PV.bool := List.take_of_length_le (by rw [hRl]; exact Nat.le_refl _)
  rcases Nat.lt_or_ge i l.length with h | h
  · have hd : decide ((i : Int) < l.length) = true := by simp only [decide_eq_true_eq]; omega
    obtain ⟨n, -, hn, hg⟩ := drop_at h
    have hgn := ((hg ndP).1).trans (ndP1 n)
    have h53 := v53 (G := G0) n.name (hs n (List.mem_of_getElem? hn)).1
    have hst : (((l.take (i + 1)).map fun n => isName n.name).map PV.bool) = (((l.take i).map fun n => isName n.name).map PV.bool) ++ [.bool (isName n.name)] := by
      rw [List.take_succ_eq_append_getElem h]
      have : l[i] = n := by rw [List.getElem?_eq_getElem h] at hn; exact Option.some.inj hn
      rw [this]; simp
    have b1 : (i + 1) * 8 ≤ 281474976710656 := by omega
    generalize (((l.take i).map fun n => isName n.name).map PV.bool) = R at hRl hRt hst
    repeat' (first | exact True.intro | (refine PW.seqK ?_; intro K hK) | refine stp ?_ | refine seqK_n ‹_› ?_ | refine seqK_r ‹_› ?_ | refine seqK_e ‹_› ?_ | exact schedW_stop_i | refine schK_n ‹_› ?_ | (refine PW.cond rfl ?_ ?_ <;> intro hcond <;> (try contradiction) <;> try simp only [DD] at hcond) | (refine gd_i ?_; intro hg; try simp only [hg]) | refine goCall_W e53 (h53) ?_ ?_ ?_ ?_ | (refine ari ?_; first | omega | (simp only [DD, LL] <;> omega) | (go_unwrap; omega)) | ((first | refine stq ?_ | show (_ : Post) _ _ _ | (refine schedW_alt_k ?_ ?_; intro K hK)); focus (simp only [hll, hd, hgn, hRl, hRt, SA, Nat.reduceAdd, reduceIte, Nat.reduceEqDiff, Nat.reduceBEq, reduceCtorEq]; (try go_unwrap; try simp only [hll, hd, hgn, hRl, hRt, RR, reduceCtorEq]))) | refine And.intro ?_ ?_ | exact Or.inr ⟨rfl, Nat.le_refl _⟩ | exact (fun h => Bool.noConfusion h))
    all_goals exact ⟨i + 1, (by exact (by first | rfl | (simp only [TT, MObj.kill, PV.kill, Nat.reduceLeDiff, reduceIte, Nat.le_refl, Nat.zero_le, Nat.not_le, Nat.lt_irrefl]; done) | (simp [trimE, trimM, MObj.kill, PV.kill]; done))), (by rw [hst]; exact (by first | rfl | (simp only [TT, MObj.kill, PV.kill, Nat.reduceLeDiff, reduceIte, Nat.le_refl, Nat.zero_le, Nat.not_le, Nat.lt_irrefl]; done) | (simp [trimE, trimM, MObj.kill, PV.kill]; done))), by omega, by omega⟩
  · have hd : decide ((i : Int) < l.length) = false := by simp only [decide_eq_false_iff_not]; omega
    have hi' : i = l.length := by omega
    subst hi'
    rw [List.take_length] at hRl hRt ⊢
    repeat' (first | exact True.intro | (refine PW.stop (x := .seq (.region false (⟨some 22, none, .rd (.load (some 1)) [.tmp 1]⟩ :: _) _) _) ?_) | (refine PW.seqK ?_; intro K hK) | refine stp ?_ | refine seqK_n ‹_› ?_ | refine seqK_r ‹_› ?_ | refine seqK_e ‹_› ?_ | exact schedW_stop_i | refine schK_n ‹_› ?_ | (refine PW.cond rfl ?_ ?_ <;> intro hcond <;> (try contradiction) <;> try simp only [DD] at hcond) | (refine gd_i ?_; intro hg; try simp only [hg]) | (refine ari ?_; first | omega | (simp only [DD, LL] <;> omega) | (go_unwrap; omega)) | ((first | refine stq ?_ | show (_ : Post) _ _ _ | (refine schedW_alt_k ?_ ?_; intro K hK)); focus (simp only [hll, hd, SA, Nat.reduceAdd, reduceIte, Nat.reduceEqDiff, Nat.reduceBEq, reduceCtorEq]; (try go_unwrap; try simp only [hll, hd, RR, reduceCtorEq]))) | refine And.intro ?_ ?_ | exact Or.inr ⟨rfl, Nat.le_refl _⟩ | exact (fun h => Bool.noConfusion h))
    refine ⟨?_⟩
    refine PW.frz 1 (.row none ((l.map fun n => isName n.name).map PV.bool)) ?_ ?_ ?_
    · rfl
    · rfl
    simp only [SA, Nat.reduceAdd, reduceIte, Nat.reduceEqDiff, Nat.reduceBEq, reduceCtorEq, PV.frz, MObj.frz, frzM, frzSl, hRl, hRt, Nat.le_refl, and_self, if_true]
    repeat' (first | exact True.intro | (refine PW.seqK ?_; intro K hK) | refine stp ?_ | refine seqK_n ‹_› ?_ | refine seqK_r ‹_› ?_ | refine seqK_e ‹_› ?_ | exact schedW_stop_i | refine schK_n ‹_› ?_ | (refine PW.cond rfl ?_ ?_ <;> intro hcond <;> (try contradiction) <;> try simp only [DD] at hcond) | (refine gd_i ?_; intro hg; try simp only [hg]) | refine goCall_W e23 (h23) ?_ ?_ ?_ ?_ | refine goCall_W e54 (h54) ?_ ?_ ?_ ?_ | (refine ari ?_; first | omega | (simp only [DD, LL] <;> omega) | (go_unwrap; omega)) | ((first | refine stq ?_ | show (_ : Post) _ _ _ | (refine schedW_alt_k ?_ ?_; intro K hK)); focus (simp only [SA, Nat.reduceAdd, reduceIte, Nat.reduceEqDiff, Nat.reduceBEq, reduceCtorEq]; (try go_unwrap; try simp only [RR, reduceCtorEq]))) | refine And.intro ?_ ?_ | exact Or.inr ⟨rfl, Nat.le_refl _⟩ | exact (fun h => Bool.noConfusion h))
/-- What the document's search for the next name has come to. -/
structure VInv (l : List Nd) (O : List (List UInt8)) (s : Nat × Bool × List UInt8) : Prop where
  le : s.1 ≤ l.length
  no : s.2.1 = false → ∀ x ∈ namesV (l.take s.1), pastB O x = false
  yes : s.2.1 = true → s.2.2 ∈ namesV (l.take s.1) ∧ pastB O s.2.2 = true ∧ ∀ x ∈ namesV (l.take s.1), pastB O x = true → ¬ x < s.2.2
theorem names_next {l : List Nd} {i : Nat} {n : Nd} (h : i < l.length) (hn : l[i]? = some n) : namesV (l.take (i + 1)) = namesV (l.take i) ++ (if n.op = 1 then [n.name] else []) := by
  rw [List.take_succ_eq_append_getElem h, namesV_snoc]
  have : l[i] = n := by rw [List.getElem?_eq_getElem h] at hn; exact Option.some.inj hn
  rw [this]
theorem VInv.take {l : List Nd} {O : List (List UInt8)} {i : Nat} {is : Bool} {le : List UInt8} {n : Nd} (hI : VInv l O (i, is, le)) (h : i < l.length) (hn : l[i]? = some n) (ho : n.op = 1) (hp : pastB O n.name = true) (hh : is = false ∨ Op.bytesLess n.name le = true) : VInv l O (i + 1, true, n.name) := by
  obtain ⟨-, hA, hB⟩ := hI
  simp only at hA hB
  have hst := names_next h hn
  rw [if_pos ho] at hst
  refine ⟨h, (fun hf => by cases hf), fun _ => ?_⟩
  simp only
  rw [hst]
  refine ⟨by simp, hp, fun x hx hpx => ?_⟩
  rw [List.mem_append, List.mem_singleton] at hx
  rcases hx with hx | rfl
  · cases his : is with
    | false => rw [hA his x hx] at hpx; cases hpx
    | true =>
      rcases hh with hh | hh
      · rw [hh] at his; cases his
      · intro hlt
        exact (hB his).2.2 x hx hpx (lt_tr hlt ((bl_iff _ _).1 hh))
  · exact List.lt_irrefl _
end Go.Proofs.YthekpjhffciakaaDoor

namespace Go.Proofs.YthekpjhffciakaaDoor
open Go PG Go.Proofs
set_option linter.unusedSimpArgs false
set_option linter.unusedVariables false
set_option maxHeartbeats 4000000
set_option maxRecDepth 100000
theorem OkNds.sizes {nd : List Nd} (h : OkNds nd) : ∀ n ∈ nd, n.name.length ≤ 9223372036854775807 ∧ n.kids.length ≤ 9223372036854775807 := fun n hn => by
  have := h.small n hn; omega
theorem v22o {nd : List Nd} (h : OkNds nd) : VCalls Tryd.prog G0 22 [.list (some 4) (nd.map ndP), .list (some 4) (nd.map ndP)] (.bool true) := by
  have h22 := v22 (G := G0) nd nd (by have := h.len.1; omega) (by have := h.len.1; omega) (fun x hx => by have := h.small x hx; omega) (fun x hx => by have := h.small x hx; omega)
  simpa using h22
end Go.Proofs.YthekpjhffciakaaDoor

namespace Go.Proofs.YthekpjhffciakaaDoor
open Go PG Go.Proofs
set_option linter.unusedSimpArgs false
set_option linter.unusedVariables false
set_option maxHeartbeats 4000000
set_option maxRecDepth 100000
theorem v6 (l : List Nd) (hl : l.length ≤ 9223372036854775807) (hs : ∀ n ∈ l, n.name.length ≤ 9223372036854775807 ∧ n.kids.length ≤ 9223372036854775807) : VCalls Tryd.prog G0 6 [treeP l] (.bool true) := by
  refine VCalls.of_PW Tryd.func6 k6 mix (by simp [c6]) ?_
  simp only [c6, L6, CC, argE]
  have h17 := v17
  have h24 := v24 l hl
  have q0 : decide ((0 : Int) = 0) = true := rfl
  cases hg : greatB l with
  | true =>
    rw [hg] at h24
    simp only [treeP] at h24 ⊢
    repeat' (first | exact True.intro | (exact Or.inr ⟨rfl, by decide⟩) | (refine PW.seqK ?_; intro K hK) | refine stp ?_ | refine seqK_n ‹_› ?_ | refine seqK_r ‹_› ?_ | refine seqK_e ‹_› ?_ | exact schedW_stop_i | refine schK_n ‹_› ?_ | (refine PW.cond rfl ?_ ?_ <;> intro hcond <;> (try contradiction) <;> try simp only [DD] at hcond) | (refine goCallG_skip rfl ?_; simp only [SA, Nat.reduceAdd, reduceIte, Nat.reduceEqDiff, Nat.reduceBEq, reduceCtorEq]; (try go_unwrap; try simp only [RR, reduceCtorEq])) | (refine gd_i ?_; intro hg; try simp only [hg]) | refine goCall_W e24 (h24) ?_ ?_ ?_ ?_ | refine goCall_W e17 (h17) ?_ ?_ ?_ ?_ | (refine ari ?_; first | omega | (simp only [DD, LL] <;> omega) | (go_unwrap; omega)) | ((first | refine stq ?_ | show (_ : Post) _ _ _ | (refine schedW_alt_k ?_ ?_; intro K hK)); focus (simp only [SA, Nat.reduceAdd, reduceIte, Nat.reduceEqDiff, Nat.reduceBEq, reduceCtorEq]; (try go_unwrap; try simp only [RR, reduceCtorEq]))) | refine And.intro ?_ ?_ | exact Or.inr ⟨rfl, Nat.le_refl _⟩ | exact (fun h => Bool.noConfusion h))
  | false =>
    rw [hg] at h24
    have hlen := great_len hg
    have h25 := v25 l hlen hs
    by_cases hc : checkM l = 0
    case neg =>
      have hcd := decide_eq_false hc
      simp only [treeP] at h24 h25 ⊢
      generalize checkM l = e at *
      repeat' (first | exact True.intro | (exact Or.inr ⟨rfl, by decide⟩) | (refine PW.seqK ?_; intro K hK) | refine stp ?_ | refine seqK_n ‹_› ?_ | refine seqK_r ‹_› ?_ | refine seqK_e ‹_› ?_ | exact schedW_stop_i | refine schK_n ‹_› ?_ | (refine PW.cond rfl ?_ ?_ <;> intro hcond <;> (try contradiction) <;> try simp only [DD] at hcond) | (refine gd_i ?_; intro hg; try simp only [hg]) | refine goCall_W e24 (h24) ?_ ?_ ?_ ?_ | refine goCallG_W e25 (h25) ?_ ?_ ?_ ?_ ?_ | refine goCall_W e17 (h17) ?_ ?_ ?_ ?_ | (refine ari ?_; first | omega | (simp only [DD, LL] <;> omega) | (go_unwrap; omega)) | ((first | refine stq ?_ | show (_ : Post) _ _ _ | (refine schedW_alt_k ?_ ?_; intro K hK)); focus (simp only [hcd, SA, Nat.reduceAdd, reduceIte, Nat.reduceEqDiff, Nat.reduceBEq, reduceCtorEq]; (try go_unwrap; try simp only [hcd, RR, reduceCtorEq]))) | refine And.intro ?_ ?_ | exact Or.inr ⟨rfl, Nat.le_refl _⟩ | exact (fun h => Bool.noConfusion h))
    rw [hc] at h25
    obtain ⟨hf, hn1, hok, hdp, hsz⟩ := tree_ex hc
    have h1 := (checkM_ok hc).1
    have h23 := v23 (G := G0) l (by omega)
    have h26 := v26 l h1 hs hc hf
    have h27 := v27 l h1 hn1 hf
    have h28 := v28 l h1 hf
    have htx := textM_E hn1 (least := 0) hf
    have hso := sortM_E hn1 [] hf
    rw [List.nil_append, List.length_nil] at hso
    rw [htx] at h26 h27
    rw [hso] at h28
    clear htx hso hs hf hn1 hg
    generalize hE : exOf l 16 ((l.length : Int) - 1) = e at *
    have ke : decide (textE e 0 = textE e 0) = true := by simp
    by_cases h4000 : 4000 < (textE e 0).length
    · have d1 : decide ((4000 : Int) < (textE e 0).length) = true := by simp only [decide_eq_true_eq]; omega
      simp only [treeP] at h24 h25 h23 h26 ⊢
      generalize textE e 0 = T at *
      repeat' (first | exact True.intro | (exact Or.inr ⟨rfl, by decide⟩) | (refine PW.seqK ?_; intro K hK) | refine stp ?_ | refine seqK_n ‹_› ?_ | refine seqK_r ‹_› ?_ | refine seqK_e ‹_› ?_ | exact schedW_stop_i | refine schK_n ‹_› ?_ | (refine PW.cond rfl ?_ ?_ <;> intro hcond <;> (try contradiction) <;> try simp only [DD] at hcond) | (refine gd_i ?_; intro hg; try simp only [hg]) | refine goCall_W e24 (h24) ?_ ?_ ?_ ?_ | refine goCallG_W e25 (h25) ?_ ?_ ?_ ?_ ?_ | refine goCall_W e23 (h23) ?_ ?_ ?_ ?_ | refine goCall_W e26 (h26) ?_ ?_ ?_ ?_ | refine goCall_W e27 (h27) ?_ ?_ ?_ ?_ | refine goCall_W e17 (h17) ?_ ?_ ?_ ?_ | (refine ari ?_; first | omega | (simp only [DD, LL] <;> omega) | (go_unwrap; omega)) | ((first | refine stq ?_ | show (_ : Post) _ _ _ | (refine schedW_alt_k ?_ ?_; intro K hK)); focus (simp only [q0, ke, d1, SA, Nat.reduceAdd, reduceIte, Nat.reduceEqDiff, Nat.reduceBEq, reduceCtorEq]; (try go_unwrap; try simp only [q0, ke, d1, RR, reduceCtorEq]))) | refine And.intro ?_ ?_ | exact Or.inr ⟨rfl, Nat.le_refl _⟩ | exact (fun h => Bool.noConfusion h))
    · have d1 : decide ((4000 : Int) < (textE e 0).length) = false := by simp only [decide_eq_false_iff_not]; omega
      have hps := parse_text hok (by omega) hdp (by omega)
      have on := parse_ok hps
      have h18 := v18 (textE e 0) (by omega)
      rw [hps] at h18
      have h23' := v23 (G := G0) (e.nds 0) (by have := on.len.1; omega)
      have h22 := v22o on
      have hc' := on.check
      have h29 := v29 hasK0 (e.nds 0) (by have := on.len.1; omega) on.sizes
      rw [hc'] at h29
      obtain ⟨hf', hn1', -, -, -⟩ := tree_ex hc'
      have h26' := v26 (e.nds 0) on.len.1 on.sizes hc' hf'
      rw [textM_E hn1' (least := 0) hf', exOf_self hok hdp] at h26'
      simp only [parsePV, treeP] at h24 h25 h23 h26 h18 h23' h22 h29 h26' ⊢
      clear hps on hc' hf' hn1' hok hdp hE
      generalize textE e 0 = T at *
      generalize e.nds 0 = N at *
      repeat' (first | exact True.intro | (exact Or.inr ⟨rfl, by decide⟩) | (refine PW.seqK ?_; intro K hK) | refine stp ?_ | refine seqK_n ‹_› ?_ | refine seqK_r ‹_› ?_ | refine seqK_e ‹_› ?_ | exact schedW_stop_i | refine schK_n ‹_› ?_ | (refine PW.cond rfl ?_ ?_ <;> intro hcond <;> (try contradiction) <;> try simp only [DD] at hcond) | (apply goCall_V e23; (case hV => (simp only [q0, ke, d1, SA, Nat.reduceAdd, reduceIte, Nat.reduceEqDiff, Nat.reduceBEq, reduceCtorEq]; (try go_unwrap; try simp only [q0, ke, d1, RR, reduceCtorEq]); exact h23)); (try (case hs => rfl)); (try (case hf => first | exact Or.inl rfl | exact Or.inr ⟨rfl, rfl⟩ | (refine Or.inl ?_; simp only [q0, ke, d1, SA, Nat.reduceAdd, reduceIte, Nat.reduceEqDiff, Nat.reduceBEq, reduceCtorEq]; done) | (refine Or.inr ⟨rfl, ?_⟩; simp only [q0, ke, d1, SA, Nat.reduceAdd, reduceIte, Nat.reduceEqDiff, Nat.reduceBEq, reduceCtorEq]; done))); all_goals (first | (simp only [q0, ke, d1, SA, Nat.reduceAdd, reduceIte, Nat.reduceEqDiff, Nat.reduceBEq, reduceCtorEq]; (try go_unwrap; try simp only [q0, ke, d1, RR, reduceCtorEq])) | (show Env; skip) | (show Mem; skip))) | (apply goCall_V e26; (case hV => (simp only [q0, ke, d1, SA, Nat.reduceAdd, reduceIte, Nat.reduceEqDiff, Nat.reduceBEq, reduceCtorEq]; (try go_unwrap; try simp only [q0, ke, d1, RR, reduceCtorEq]); exact h26)); (try (case hs => rfl)); (try (case hf => first | exact Or.inl rfl | exact Or.inr ⟨rfl, rfl⟩ | (refine Or.inl ?_; simp only [q0, ke, d1, SA, Nat.reduceAdd, reduceIte, Nat.reduceEqDiff, Nat.reduceBEq, reduceCtorEq]; done) | (refine Or.inr ⟨rfl, ?_⟩; simp only [q0, ke, d1, SA, Nat.reduceAdd, reduceIte, Nat.reduceEqDiff, Nat.reduceBEq, reduceCtorEq]; done))); all_goals (first | (simp only [q0, ke, d1, SA, Nat.reduceAdd, reduceIte, Nat.reduceEqDiff, Nat.reduceBEq, reduceCtorEq]; (try go_unwrap; try simp only [q0, ke, d1, RR, reduceCtorEq])) | (show Env; skip) | (show Mem; skip))) | (apply goCallG_N e23; (case hV => (intro hg; simp only [hg, q0, ke, d1, SA, Nat.reduceAdd, reduceIte, Nat.reduceEqDiff, Nat.reduceBEq, reduceCtorEq]; (try go_unwrap; try simp only [q0, ke, d1, RR, reduceCtorEq]); exact h23')); (case hok => (intro hg; first | (simp only [hg, q0, ke, d1, SA, Nat.reduceAdd, reduceIte, Nat.reduceEqDiff, Nat.reduceBEq, reduceCtorEq]; done) | (simp_all [okAll, PV.okUnder]; done))); (case hs => (intro hg; simp only [hg, q0, ke, d1, SA, Nat.reduceAdd, reduceIte, Nat.reduceEqDiff, Nat.reduceBEq, reduceCtorEq])); (case hn => (intro hg; simp only [hg, q0, ke, d1, SA, Nat.reduceAdd, reduceIte, Nat.reduceEqDiff, Nat.reduceBEq, reduceCtorEq])); (case hq => rfl); (simp only [q0, ke, d1, SA, Nat.reduceAdd, reduceIte, Nat.reduceEqDiff, Nat.reduceBEq, reduceCtorEq]; (try go_unwrap; try simp only [q0, ke, d1, RR, reduceCtorEq]))) | (apply goCallG_V e26; (case hV => (intro hg; simp only [hg, q0, ke, d1, SA, Nat.reduceAdd, reduceIte, Nat.reduceEqDiff, Nat.reduceBEq, reduceCtorEq]; (try go_unwrap; try simp only [q0, ke, d1, RR, reduceCtorEq]); exact h26')); (case hok => (intro hg; first | (simp only [hg, q0, ke, d1, SA, Nat.reduceAdd, reduceIte, Nat.reduceEqDiff, Nat.reduceBEq, reduceCtorEq]; done) | (simp_all [okAll, PV.okUnder]; done))); (case hs => (intro hg; simp only [hg, q0, ke, d1, SA, Nat.reduceAdd, reduceIte, Nat.reduceEqDiff, Nat.reduceBEq, reduceCtorEq])); (case hf => first | rfl | simp only [q0, ke, d1, SA, Nat.reduceAdd, reduceIte, Nat.reduceEqDiff, Nat.reduceBEq, reduceCtorEq]); (simp only [q0, ke, d1, SA, Nat.reduceAdd, reduceIte, Nat.reduceEqDiff, Nat.reduceBEq, reduceCtorEq]; (try go_unwrap; try simp only [q0, ke, d1, RR, reduceCtorEq]))) | (refine gd_i ?_; intro hg; try simp only [hg]) | refine goCall_W e24 (h24) ?_ ?_ ?_ ?_ | refine goCallG_W e25 (h25) ?_ ?_ ?_ ?_ ?_ | refine goCall_W e27 (h27) ?_ ?_ ?_ ?_ | refine goCall_W e18 (h18) ?_ ?_ ?_ ?_ | refine goCallG_X e28 (h28) ?_ ?_ ?_ ?_ ?_ | refine goCallG_W e22 (h22) ?_ ?_ ?_ ?_ ?_ | refine goCallG_W e29 (h29) ?_ ?_ ?_ ?_ ?_ | refine goCallG_W e17 (h17) ?_ ?_ ?_ ?_ ?_ | (refine ari ?_; first | omega | (simp only [DD, LL] <;> omega) | (go_unwrap; omega)) | ((first | refine stq ?_ | show (_ : Post) _ _ _ | (refine schedW_alt_k ?_ ?_; intro K hK)); focus (simp only [q0, ke, d1, SA, Nat.reduceAdd, reduceIte, Nat.reduceEqDiff, Nat.reduceBEq, reduceCtorEq]; (try go_unwrap; try simp only [q0, ke, d1, RR, reduceCtorEq]))) | refine And.intro ?_ ?_ | exact Or.inr ⟨rfl, Nat.le_refl _⟩ | exact (fun h => Bool.noConfusion h))
      all_goals rfl
end Go.Proofs.YthekpjhffciakaaDoor

