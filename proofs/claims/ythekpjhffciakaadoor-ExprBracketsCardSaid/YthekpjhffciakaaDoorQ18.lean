import Derived.Test.YthekpjhffciakaaDoorQ15
import Derived.Test.YthekpjhffciakaaDoorQ16
namespace Go.Proofs.YthekpjhffciakaaDoor
open Go PG Go.Proofs
set_option linter.unusedSimpArgs false
set_option linter.unusedVariables false
set_option maxRecDepth 100000
/-! The examples -/
def sA : List UInt8 := [97, 43, 50, 42, 40, 98, 45, 99, 41]
def sB : List UInt8 := [97, 45, 40, 98, 43, 99, 41]
def sC : List UInt8 := [40, 97, 45, 98, 41, 43, 99]
def sC' : List UInt8 := [97, 45, 98, 43, 99]
def tA : List Nd := [⟨1, 0, [97], []⟩, ⟨0, 2000000, [], []⟩, ⟨1, 0, [98], []⟩, ⟨1, 0, [99], []⟩, ⟨3, 0, [], [2, 3]⟩, ⟨4, 0, [], [1, 4]⟩, ⟨2, 0, [], [0, 5]⟩]
def tB : List Nd := [⟨1, 0, [97], []⟩, ⟨1, 0, [98], []⟩, ⟨1, 0, [99], []⟩, ⟨2, 0, [], [1, 2]⟩, ⟨3, 0, [], [0, 3]⟩]
def tC : List Nd := [⟨1, 0, [97], []⟩, ⟨1, 0, [98], []⟩, ⟨3, 0, [], [0, 1]⟩, ⟨1, 0, [99], []⟩, ⟨2, 0, [], [2, 3]⟩]
def lA : List Tok := [(1, [97], 0), (3, [43], 1), (2, [50], 2), (3, [42], 3), (3, [40], 4), (1, [98], 5), (3, [45], 6), (1, [99], 7), (3, [41], 8), (0, [], 9)]
def lB : List Tok := [(1, [97], 0), (3, [45], 1), (3, [40], 2), (1, [98], 3), (3, [43], 4), (1, [99], 5), (3, [41], 6), (0, [], 7)]
def lC : List Tok := [(3, [40], 0), (1, [97], 1), (3, [45], 2), (1, [98], 3), (3, [41], 4), (3, [43], 5), (1, [99], 6), (0, [], 7)]
theorem allA : allE sA = .ok lA := by
  unfold allE sA
  rw [if_neg (by decide)]
  rw [scanA, if_neg (by decide), show tokE 0 [97, 43, 50, 42, 40, 98, 45, 99, 41] = .ok (1, 1) from rfl]
  simp only [List.drop_succ_cons, List.drop_zero, Nat.add_one_sub_one, Nat.reduceSub, List.take_succ_cons, List.take_zero, Nat.zero_add, Nat.reduceAdd, List.nil_append]
  rw [scanA, if_neg (by decide), show tokE 1 [43, 50, 42, 40, 98, 45, 99, 41] = .ok (3, 1) from rfl]
  simp only [List.drop_succ_cons, List.drop_zero, Nat.add_one_sub_one, Nat.reduceSub, List.take_succ_cons, List.take_zero, Nat.zero_add, Nat.reduceAdd, List.nil_append]
  rw [scanA, if_neg (by decide), show tokE 2 [50, 42, 40, 98, 45, 99, 41] = .ok (2, 1) from rfl]
  simp only [List.drop_succ_cons, List.drop_zero, Nat.add_one_sub_one, Nat.reduceSub, List.take_succ_cons, List.take_zero, Nat.zero_add, Nat.reduceAdd, List.nil_append]
  rw [scanA, if_neg (by decide), show tokE 3 [42, 40, 98, 45, 99, 41] = .ok (3, 1) from rfl]
  simp only [List.drop_succ_cons, List.drop_zero, Nat.add_one_sub_one, Nat.reduceSub, List.take_succ_cons, List.take_zero, Nat.zero_add, Nat.reduceAdd, List.nil_append]
  rw [scanA, if_neg (by decide), show tokE 4 [40, 98, 45, 99, 41] = .ok (3, 1) from rfl]
  simp only [List.drop_succ_cons, List.drop_zero, Nat.add_one_sub_one, Nat.reduceSub, List.take_succ_cons, List.take_zero, Nat.zero_add, Nat.reduceAdd, List.nil_append]
  rw [scanA, if_neg (by decide), show tokE 5 [98, 45, 99, 41] = .ok (1, 1) from rfl]
  simp only [List.drop_succ_cons, List.drop_zero, Nat.add_one_sub_one, Nat.reduceSub, List.take_succ_cons, List.take_zero, Nat.zero_add, Nat.reduceAdd, List.nil_append]
  rw [scanA, if_neg (by decide), show tokE 6 [45, 99, 41] = .ok (3, 1) from rfl]
  simp only [List.drop_succ_cons, List.drop_zero, Nat.add_one_sub_one, Nat.reduceSub, List.take_succ_cons, List.take_zero, Nat.zero_add, Nat.reduceAdd, List.nil_append]
  rw [scanA, if_neg (by decide), show tokE 7 [99, 41] = .ok (1, 1) from rfl]
  simp only [List.drop_succ_cons, List.drop_zero, Nat.add_one_sub_one, Nat.reduceSub, List.take_succ_cons, List.take_zero, Nat.zero_add, Nat.reduceAdd, List.nil_append]
  rw [scanA, if_neg (by decide), show tokE 8 [41] = .ok (3, 1) from rfl]
  simp only [List.drop_succ_cons, List.drop_zero, Nat.add_one_sub_one, Nat.reduceSub, List.take_succ_cons, List.take_zero, Nat.zero_add, Nat.reduceAdd, List.nil_append]
  rw [scanA]
  rfl
theorem allB : allE sB = .ok lB := by
  unfold allE sB
  rw [if_neg (by decide)]
  rw [scanA, if_neg (by decide), show tokE 0 [97, 45, 40, 98, 43, 99, 41] = .ok (1, 1) from rfl]
  simp only [List.drop_succ_cons, List.drop_zero, Nat.add_one_sub_one, Nat.reduceSub, List.take_succ_cons, List.take_zero, Nat.zero_add, Nat.reduceAdd, List.nil_append]
  rw [scanA, if_neg (by decide), show tokE 1 [45, 40, 98, 43, 99, 41] = .ok (3, 1) from rfl]
  simp only [List.drop_succ_cons, List.drop_zero, Nat.add_one_sub_one, Nat.reduceSub, List.take_succ_cons, List.take_zero, Nat.zero_add, Nat.reduceAdd, List.nil_append]
  rw [scanA, if_neg (by decide), show tokE 2 [40, 98, 43, 99, 41] = .ok (3, 1) from rfl]
  simp only [List.drop_succ_cons, List.drop_zero, Nat.add_one_sub_one, Nat.reduceSub, List.take_succ_cons, List.take_zero, Nat.zero_add, Nat.reduceAdd, List.nil_append]
  rw [scanA, if_neg (by decide), show tokE 3 [98, 43, 99, 41] = .ok (1, 1) from rfl]
  simp only [List.drop_succ_cons, List.drop_zero, Nat.add_one_sub_one, Nat.reduceSub, List.take_succ_cons, List.take_zero, Nat.zero_add, Nat.reduceAdd, List.nil_append]
  rw [scanA, if_neg (by decide), show tokE 4 [43, 99, 41] = .ok (3, 1) from rfl]
  simp only [List.drop_succ_cons, List.drop_zero, Nat.add_one_sub_one, Nat.reduceSub, List.take_succ_cons, List.take_zero, Nat.zero_add, Nat.reduceAdd, List.nil_append]
  rw [scanA, if_neg (by decide), show tokE 5 [99, 41] = .ok (1, 1) from rfl]
  simp only [List.drop_succ_cons, List.drop_zero, Nat.add_one_sub_one, Nat.reduceSub, List.take_succ_cons, List.take_zero, Nat.zero_add, Nat.reduceAdd, List.nil_append]
  rw [scanA, if_neg (by decide), show tokE 6 [41] = .ok (3, 1) from rfl]
  simp only [List.drop_succ_cons, List.drop_zero, Nat.add_one_sub_one, Nat.reduceSub, List.take_succ_cons, List.take_zero, Nat.zero_add, Nat.reduceAdd, List.nil_append]
  rw [scanA]
  rfl
theorem allC : allE sC = .ok lC := by
  unfold allE sC
  rw [if_neg (by decide)]
  rw [scanA, if_neg (by decide), show tokE 0 [40, 97, 45, 98, 41, 43, 99] = .ok (3, 1) from rfl]
  simp only [List.drop_succ_cons, List.drop_zero, Nat.add_one_sub_one, Nat.reduceSub, List.take_succ_cons, List.take_zero, Nat.zero_add, Nat.reduceAdd, List.nil_append]
  rw [scanA, if_neg (by decide), show tokE 1 [97, 45, 98, 41, 43, 99] = .ok (1, 1) from rfl]
  simp only [List.drop_succ_cons, List.drop_zero, Nat.add_one_sub_one, Nat.reduceSub, List.take_succ_cons, List.take_zero, Nat.zero_add, Nat.reduceAdd, List.nil_append]
  rw [scanA, if_neg (by decide), show tokE 2 [45, 98, 41, 43, 99] = .ok (3, 1) from rfl]
  simp only [List.drop_succ_cons, List.drop_zero, Nat.add_one_sub_one, Nat.reduceSub, List.take_succ_cons, List.take_zero, Nat.zero_add, Nat.reduceAdd, List.nil_append]
  rw [scanA, if_neg (by decide), show tokE 3 [98, 41, 43, 99] = .ok (1, 1) from rfl]
  simp only [List.drop_succ_cons, List.drop_zero, Nat.add_one_sub_one, Nat.reduceSub, List.take_succ_cons, List.take_zero, Nat.zero_add, Nat.reduceAdd, List.nil_append]
  rw [scanA, if_neg (by decide), show tokE 4 [41, 43, 99] = .ok (3, 1) from rfl]
  simp only [List.drop_succ_cons, List.drop_zero, Nat.add_one_sub_one, Nat.reduceSub, List.take_succ_cons, List.take_zero, Nat.zero_add, Nat.reduceAdd, List.nil_append]
  rw [scanA, if_neg (by decide), show tokE 5 [43, 99] = .ok (3, 1) from rfl]
  simp only [List.drop_succ_cons, List.drop_zero, Nat.add_one_sub_one, Nat.reduceSub, List.take_succ_cons, List.take_zero, Nat.zero_add, Nat.reduceAdd, List.nil_append]
  rw [scanA, if_neg (by decide), show tokE 6 [99] = .ok (1, 1) from rfl]
  simp only [List.drop_succ_cons, List.drop_zero, Nat.add_one_sub_one, Nat.reduceSub, List.take_succ_cons, List.take_zero, Nat.zero_add, Nat.reduceAdd, List.nil_append]
  rw [scanA]
  rfl
theorem pA : parseS sA = .ok tA := by
  unfold parseS; rw [allA]; rfl
theorem pB : parseS sB = .ok tB := by
  unfold parseS; rw [allB]; rfl
theorem pC : parseS sC = .ok tC := by
  unfold parseS; rw [allC]; rfl
end Go.Proofs.YthekpjhffciakaaDoor

namespace Go.Proofs.YthekpjhffciakaaDoor
open Go PG Go.Proofs
set_option linter.unusedSimpArgs false
set_option linter.unusedVariables false
set_option maxHeartbeats 4000000
set_option maxRecDepth 100000
theorem gW2 : G0 0 = some (some 10, wordsP) := rfl
abbrev trO (l : List Nd) : MObj := .var (some 1) (.agg [.list (some 4) (l.map ndP)])
abbrev txO : MObj := .var none (.fn 55 [] [.ref 0 0, .ref 1 0])
/-- A text, as a contract: the tree and the closure stay as they are. -/
def TxC (l : List Nd) (i least : Int) (ν : Mem) (r : List UInt8) : Prop :=
  PCalls Tryd.prog G0 55 [.int .i64 i, .int .i64 least, .ref 0 0, .ref 1 0] (some (trO l) :: some txO :: ν) (fun _ => false) (fun p μ' => p = .str r ∧ μ' = some (trO l) :: some txO :: ν)
theorem TxC.frame {l : List Nd} {i least : Int} {r : List UInt8} (h : TxC l i least [] r) (ν : Mem) (hν : ν.map (Option.map (MObj.kill fun _ => false)) = ν) : TxC l i least ν r := by
  have := PCalls.frame h ν (by rintro p μ' ⟨-, rfl⟩; rfl) (by simp [PV.kill]) (by simp [MObj.kill, PV.kill]) hν
  intro w κ vs hS hG hr
  refine (this w κ vs hS hG hr).mono ?_
  rintro e w' ⟨v, p, μ', κ', rfl, ⟨μ1, ⟨rfl, rfl⟩, rfl⟩, hS', hv, hg⟩
  exact ⟨v, _, _, κ', rfl, ⟨rfl, rfl⟩, hS', hv, hg⟩
theorem word_at (j : Nat) (h : j ≤ 9) : cut (some 10) none wordsP (0 + j * 1) = .str (wordM j) := by
  have : j = 0 ∨ j = 1 ∨ j = 2 ∨ j = 3 ∨ j = 4 ∨ j = 5 ∨ j = 6 ∨ j = 7 ∨ j = 8 ∨ j = 9 := by omega
  rcases this with rfl | rfl | rfl | rfl | rfl | rfl | rfl | rfl | rfl | rfl <;> rfl
theorem v55 (l : List Nd) (hl : l.length ≤ 256) : ∀ (k : Nat), k ≤ 16 → ∀ (i least : Int), fitsD l k i → TxC l i least [] (textM l k i least)
  | 0, _, i, least, h => h.elim
  | k + 1, hk16, i, least, h => by
    have ih : ∀ i least, fitsD l k i → TxC l i least [] (textM l k i least) := fun i least h => v55 l hl k (by omega) i least h
    have hle := text_le l k
    have hB : 100 * 4 ^ k ≤ 429496729600 := by
      have : 4 ^ k ≤ 4 ^ 16 := Nat.pow_le_pow_right (by omega) (by omega)
      have e : (4 : Nat) ^ 16 = 4294967296 := rfl
      omega
    generalize 100 * 4 ^ k = B at hle hB
    obtain ⟨h1, h2, h3, h4⟩ := h
    refine PCalls.moves (mv := fun t => decide (2 ≤ t)) (fun t ht h => ?_) ?_
    · simp only [List.length_cons, List.length_nil] at ht
      simp only [decide_eq_true_eq] at h; omega
    refine PCalls.of_PW Tryd.func55 k55d mix (by simp [c55d]) ?_
    simp only [c55d, L55d, CC, argE, trO, txO]
    obtain ⟨i, rfl⟩ : ∃ m : Nat, i = m := ⟨i.toNat, by omega⟩
    have hit : ((i : Int)).toNat = i := by omega
    rw [hit] at h2 h3 h4
    have hll : ((l.map ndP).length : Nat) = l.length := by simp
    have hgn : (l.map ndP).getD i .junk = .agg [.int .i64 (l.getD i default).op, .int .i64 (l.getD i default).num, .str (l.getD i default).name, .list none ((l.getD i default).kids.map (PV.int .i64))] := by simp [List.getD, h2, ndP, ndC, kidsP]
    unfold textM
    rw [hit]
    generalize l.getD i default = n at *
    obtain ⟨n0, n9, nnum, nname, nkids, ntwo⟩ := h3
    obtain ⟨op, hop⟩ : ∃ m : Nat, n.op = m := ⟨n.op.toNat, by omega⟩
    rw [hop] at n0 n9 nnum ntwo ⊢
    rw [hop] at hgn
    have hsc : ∀ (a b : Int) (t : List UInt8) (ks : List PV), ∀ x ∈ [PV.int IntKind.i64 a, PV.int IntKind.i64 b, PV.str t, PV.list none ks], x.scalar = true := by
      intro a b t ks x hc; simp at hc; rcases hc with rfl | rfl | rfl | rfl <;> rfl
    have hwa := word_at op (by omega)
    have hwl := word_le op
    have h56 := v56 (G := G0) op
    have hot : ((op : Int)).toNat = op := by omega
    have hkl : ((n.kids.map (PV.int .i64)).length : Nat) = n.kids.length := by simp
    have bw : 0 + op * 1 + 1 ≤ wordsP.cells.length := by
      have : wordsP.cells.length = 10 := rfl
      omega
    repeat' (first | exact True.intro | exact hsc _ _ _ _ | exact (rfl : (some 4 : Sh) = some 4) | (exact Or.inr ⟨rfl, by decide⟩) | (refine PW.stop (x := .seq (.region false (⟨some 17, none, .rd (.fldAddr 0) [.tmp 7]⟩ :: _) _) _) ?_) | (refine PW.seqK ?_; intro K hK) | refine pwB ?_ | refine pwS ?_ | refine pwL ?_ | refine pwE ?_ | refine pwR ?_ | refine pwK ?_ | refine seqK_n ‹_› ?_ | refine seqK_r ‹_› ?_ | refine seqK_e ‹_› ?_ | refine PW.regionA ?_ | exact schedW_stop_i | refine schK_n ‹_› ?_ | (refine schedW_alt_k ?_ ?_; focus (intro K hK; simp only [hll, hgn, SA, Nat.reduceAdd, reduceIte, Nat.reduceEqDiff, Nat.reduceBEq, reduceCtorEq]; (try go_unwrap; try simp only [hll, hgn, RR, reduceCtorEq]))) | (refine PW.cond rfl ?_ ?_ <;> intro hcond <;> (try contradiction) <;> try simp only [DD] at hcond) | (refine gd_i ?_; intro hg; try simp only [hg]) | ((first | show (_ : Nat) ≤ _ | show (_ : Nat) < _ | show (_ : Int) ≤ _ | show (_ : Int) < _ | show (_ : Nat) = _ | show (_ : Int) = _ | show (_ : Bool) = _ | show _ ∨ _ | show ¬ _); first | omega | (simp only [DD, LL] <;> omega) | (go_unwrap; omega)) | ((first | refine PW.region ?_ | refine PW.regionQ ?_ | refine schedW_done_i ?_ | show (_ : Post) _ _ _ | show @Eq (List PV) _ _ | show @Eq Bool _ _ | show opsW _ _ _ _ _ _ _ _ | show okAll _ | show @Eq Bool _ _ ∨ _); focus (simp only [hll, hgn, SA, Nat.reduceAdd, reduceIte, Nat.reduceEqDiff, Nat.reduceBEq, reduceCtorEq]; (try go_unwrap; try simp only [hll, hgn, RR, reduceCtorEq]))) | refine And.intro ?_ ?_ | exact Or.inr ⟨rfl, Nat.le_refl _⟩ | exact (fun h => Bool.noConfusion h))
    refine ⟨?_⟩
    refine PW.frzV 7 2 (some 4) _ rfl rfl ⟨_, rfl, rfl, hsc _ _ _ _⟩ (by intro c hc; simp only [PV.cells, List.mem_cons, List.not_mem_nil, or_false] at hc; rcases hc with rfl | rfl | rfl | rfl <;> simp [PV.noOwn]) rfl ?_
    simp only [frzE, frzMem, List.map_cons, List.map_nil, PV.frz, MObj.frz, frzM, frzSl, SA, Nat.reduceAdd, reduceIte, Nat.reduceEqDiff, Nat.reduceBEq, reduceCtorEq]
    refine PW.trim 2 (fun t h => by simp [h]) ?_
    simp only [trimE, trimM, List.take_succ_cons, List.take_zero, List.map_cons, List.map_nil, Option.map_some, Option.map_none, MObj.kill, PV.kill, Nat.reduceLeDiff, decide_true, decide_false, dec_true, dec_false, Bool.false_eq_true, if_false, if_true, reduceIte]
    by_cases o0 : op = 0
    · subst o0
      obtain ⟨m1, m2⟩ := nnum rfl
      have h57 := v57 (G := G0) n.num.toNat (by omega)
      have hnn : ((n.num.toNat : Nat) : Int) = n.num := by omega
      rw [hnn] at h57
      repeat' (first | exact True.intro | (exact Or.inr bw) | (exact Or.inr (by decide)) | (refine PW.seqK ?_; intro K hK) | refine pwB ?_ | refine pwS ?_ | refine pwL ?_ | refine pwE ?_ | refine pwR ?_ | refine pwK ?_ | refine seqK_n ‹_› ?_ | refine seqK_r ‹_› ?_ | refine seqK_e ‹_› ?_ | refine PW.regionA ?_ | exact schedW_stop_i | refine schK_n ‹_› ?_ | (refine schedW_alt_k ?_ ?_; focus (intro K hK; simp only [gW2, evalO, hot, hwa, SA, Nat.reduceAdd, reduceIte, Nat.reduceEqDiff, Nat.reduceBEq, reduceCtorEq]; (try go_unwrap; try simp only [gW2, evalO, hot, hwa, RR, reduceCtorEq]))) | (refine PW.cond rfl ?_ ?_ <;> intro hcond <;> (try contradiction) <;> try simp only [DD] at hcond) | (refine gd_i ?_; intro hg; try simp only [hg]) | refine goCall_W e56 (h56) ?_ ?_ ?_ ?_ | refine goCall_W e57 (h57) ?_ ?_ ?_ ?_ | ((first | show (_ : Nat) ≤ _ | show (_ : Nat) < _ | show (_ : Int) ≤ _ | show (_ : Int) < _ | show (_ : Nat) = _ | show (_ : Int) = _ | show (_ : Bool) = _ | show _ ∨ _ | show ¬ _); first | omega | (simp only [DD, LL] <;> omega) | (go_unwrap; omega)) | ((first | refine PW.region ?_ | refine PW.regionQ ?_ | refine schedW_done_i ?_ | show (_ : Post) _ _ _ | show @Eq (List PV) _ _ | show @Eq Bool _ _ | show opsW _ _ _ _ _ _ _ _ | show okAll _ | show @Eq Bool _ _ ∨ _); focus (simp only [gW2, evalO, hot, hwa, SA, Nat.reduceAdd, reduceIte, Nat.reduceEqDiff, Nat.reduceBEq, reduceCtorEq]; (try go_unwrap; try simp only [gW2, evalO, hot, hwa, RR, reduceCtorEq]))) | refine And.intro ?_ ?_ | exact Or.inr ⟨rfl, Nat.le_refl _⟩ | exact (fun h => Bool.noConfusion h))
      all_goals simp
    by_cases o1 : op = 1
    · subst o1
      repeat' (first | exact True.intro | (exact Or.inr bw) | (exact Or.inr (by decide)) | (refine PW.seqK ?_; intro K hK) | refine pwB ?_ | refine pwS ?_ | refine pwL ?_ | refine pwE ?_ | refine pwR ?_ | refine pwK ?_ | refine seqK_n ‹_› ?_ | refine seqK_r ‹_› ?_ | refine seqK_e ‹_› ?_ | refine PW.regionA ?_ | exact schedW_stop_i | refine schK_n ‹_› ?_ | (refine schedW_alt_k ?_ ?_; focus (intro K hK; simp only [gW2, evalO, hot, hwa, SA, Nat.reduceAdd, reduceIte, Nat.reduceEqDiff, Nat.reduceBEq, reduceCtorEq]; (try go_unwrap; try simp only [gW2, evalO, hot, hwa, RR, reduceCtorEq]))) | (refine PW.cond rfl ?_ ?_ <;> intro hcond <;> (try contradiction) <;> try simp only [DD] at hcond) | (refine gd_i ?_; intro hg; try simp only [hg]) | refine goCall_W e56 (h56) ?_ ?_ ?_ ?_ | ((first | show (_ : Nat) ≤ _ | show (_ : Nat) < _ | show (_ : Int) ≤ _ | show (_ : Int) < _ | show (_ : Nat) = _ | show (_ : Int) = _ | show (_ : Bool) = _ | show _ ∨ _ | show ¬ _); first | omega | (simp only [DD, LL] <;> omega) | (go_unwrap; omega)) | ((first | refine PW.region ?_ | refine PW.regionQ ?_ | refine schedW_done_i ?_ | show (_ : Post) _ _ _ | show @Eq (List PV) _ _ | show @Eq Bool _ _ | show opsW _ _ _ _ _ _ _ _ | show okAll _ | show @Eq Bool _ _ ∨ _); focus (simp only [gW2, evalO, hot, hwa, SA, Nat.reduceAdd, reduceIte, Nat.reduceEqDiff, Nat.reduceBEq, reduceCtorEq]; (try go_unwrap; try simp only [gW2, evalO, hot, hwa, RR, reduceCtorEq]))) | refine And.intro ?_ ?_ | exact Or.inr ⟨rfl, Nat.le_refl _⟩ | exact (fun h => Bool.noConfusion h))
      all_goals simp
    have q0 : decide ((op : Int) = 0) = false := by simp only [decide_eq_false_iff_not]; omega
    have q1 : decide ((op : Int) = 1) = false := by simp only [decide_eq_false_iff_not]; omega
    have z0 : ¬ ((op : Int) = 0) := by omega
    have z1 : ¬ ((op : Int) = 1) := by omega
    rw [if_neg z0, if_neg z1]
    by_cases o5 : 5 ≤ op
    · have hs3 : strongM op = 3 := by unfold strongM; rw [if_neg (by omega), if_neg (by omega)]
      rw [hs3] at h56
      rw [if_pos hs3]
      repeat' (first | exact True.intro | (exact Or.inr bw) | (exact Or.inr (by decide)) | (refine PW.seqK ?_; intro K hK) | refine pwB ?_ | refine pwS ?_ | refine pwL ?_ | refine pwE ?_ | refine pwR ?_ | refine pwK ?_ | refine seqK_n ‹_› ?_ | refine seqK_r ‹_› ?_ | refine seqK_e ‹_› ?_ | refine PW.regionA ?_ | exact schedW_stop_i | refine schK_n ‹_› ?_ | (refine schedW_alt_k ?_ ?_; focus (intro K hK; simp only [gW2, evalO, hot, hwa, hkl, q0, q1, SA, Nat.reduceAdd, reduceIte, Nat.reduceEqDiff, Nat.reduceBEq, reduceCtorEq]; (try go_unwrap; try simp only [gW2, evalO, hot, hwa, hkl, q0, q1, RR, reduceCtorEq]))) | (refine PW.cond rfl ?_ ?_ <;> intro hcond <;> (try contradiction) <;> try simp only [DD] at hcond) | (refine gd_i ?_; intro hg; try simp only [hg]) | refine goCall_W e56 (h56) ?_ ?_ ?_ ?_ | ((first | show (_ : Nat) ≤ _ | show (_ : Nat) < _ | show (_ : Int) ≤ _ | show (_ : Int) < _ | show (_ : Nat) = _ | show (_ : Int) = _ | show (_ : Bool) = _ | show _ ∨ _ | show ¬ _); first | omega | (simp only [DD, LL] <;> omega) | (go_unwrap; omega)) | ((first | refine PW.region ?_ | refine PW.regionQ ?_ | refine schedW_done_i ?_ | show (_ : Post) _ _ _ | show @Eq (List PV) _ _ | show @Eq Bool _ _ | show opsW _ _ _ _ _ _ _ _ | show okAll _ | show @Eq Bool _ _ ∨ _); focus (simp only [gW2, evalO, hot, hwa, hkl, q0, q1, SA, Nat.reduceAdd, reduceIte, Nat.reduceEqDiff, Nat.reduceBEq, reduceCtorEq]; (try go_unwrap; try simp only [gW2, evalO, hot, hwa, hkl, q0, q1, RR, reduceCtorEq]))) | refine And.intro ?_ ?_ | exact Or.inr ⟨rfl, Nat.le_refl _⟩ | exact (fun h => Bool.noConfusion h))
      refine PW.loop (σ := Nat × List UInt8) [2, 3, 9, 43, 44, 45] (fun q => [.ref 0 0, .ref 1 0, .str q.2, .list none (n.kids.map (PV.int .i64)), .int .i64 n.kids.length, .int .i64 q.1]) (fun _ => [some (.var (some 1) (.agg [.list (some 4) (l.map ndP)])), some (.var none (.fn 55 [] [.ref 0 0, .ref 1 0]))])
        (fun q => q.1 ≤ n.kids.length ∧ q.2.length ≤ 6 + q.1 * (B + 1) ∧ joinL (fun c => textM l k c 0) n.kids 0 (wordM op ++ [40]) = joinL (fun c => textM l k c 0) (n.kids.drop q.1) q.1 q.2) (fun q => n.kids.length - q.1) (0, wordM op ++ [40]) ?_ ?_ ⟨by simp, by simp; omega, by simp⟩ ?_
      · simp only [SA, Nat.reduceAdd, reduceIte, Nat.reduceEqDiff, Nat.reduceBEq, reduceCtorEq]; rfl
      · rfl
      rintro ⟨j, s⟩ ⟨hj, hsl, hjn⟩
      simp only at hj hsl hjn
      simp only [List.zip_cons_cons, List.zip_nil_left]
      rcases Nat.lt_or_ge j n.kids.length with h | h
      · obtain ⟨c, hd, hc, hg⟩ := drop_at h
        have hfc := h4 c (List.mem_of_getElem? hc)
        have htx := ih c 0 hfc
        have htl := hle c 0 hfc
        simp only [TxC, trO, txO] at htx
        have hgc := (hg (PV.int .i64)).1
        have dj : decide ((j : Int) < n.kids.length) = true := by simp only [decide_eq_true_eq]; omega
        rw [hd, joinL] at hjn
        generalize hT : textM l k c 0 = T at *
        have hmul : (j + 1) * (B + 1) = j * (B + 1) + (B + 1) := by rw [Nat.add_mul, Nat.one_mul]
        have hjb : j * (B + 1) ≤ 3 * (B + 1) := Nat.mul_le_mul_right _ (by omega)
        by_cases hj0 : 0 < j
        · have d0 : decide ((0 : Int) < j) = true := by simp only [decide_eq_true_eq]; omega
          rw [if_pos hj0] at hjn
          repeat' (first | exact True.intro | (refine PW.seqK ?_; intro K hK) | refine pwB ?_ | refine pwS ?_ | refine pwL ?_ | refine pwE ?_ | refine pwR ?_ | refine pwK ?_ | refine seqK_n ‹_› ?_ | refine seqK_r ‹_› ?_ | refine seqK_e ‹_› ?_ | refine PW.regionA ?_ | exact schedW_stop_i | refine schK_n ‹_› ?_ | (refine schedW_alt_k ?_ ?_; focus (intro K hK; simp only [hkl, hgc, dj, d0, SA, Nat.reduceAdd, reduceIte, Nat.reduceEqDiff, Nat.reduceBEq, reduceCtorEq]; (try go_unwrap; try simp only [hkl, hgc, dj, d0, RR, reduceCtorEq]))) | (refine PW.cond rfl ?_ ?_ <;> intro hcond <;> (try contradiction) <;> try simp only [DD] at hcond) | (refine goCall_P e55 htx ?_; rintro p μ' ⟨rfl, rfl⟩; simp only [hkl, hgc, dj, d0, SA, Nat.reduceAdd, reduceIte, Nat.reduceEqDiff, Nat.reduceBEq, reduceCtorEq]) | (refine gd_i ?_; intro hg; try simp only [hg]) | ((first | show (_ : Nat) ≤ _ | show (_ : Nat) < _ | show (_ : Int) ≤ _ | show (_ : Int) < _ | show (_ : Nat) = _ | show (_ : Int) = _ | show (_ : Bool) = _ | show _ ∨ _ | show ¬ _); first | omega | (simp only [DD, LL] <;> omega) | (go_unwrap; omega)) | ((first | refine PW.region ?_ | refine PW.regionQ ?_ | refine schedW_done_i ?_ | show (_ : Post) _ _ _ | show @Eq (List PV) _ _ | show @Eq Bool _ _ | show opsW _ _ _ _ _ _ _ _ | show okAll _ | show @Eq Bool _ _ ∨ _); focus (simp only [hkl, hgc, dj, d0, SA, Nat.reduceAdd, reduceIte, Nat.reduceEqDiff, Nat.reduceBEq, reduceCtorEq]; (try go_unwrap; try simp only [hkl, hgc, dj, d0, RR, reduceCtorEq]))) | refine And.intro ?_ ?_ | exact Or.inr ⟨rfl, Nat.le_refl _⟩ | exact (fun h => Bool.noConfusion h))
          all_goals first | exact ⟨(j + 1, (s ++ [44]) ++ T), rfl, ⟨by simp only; omega, by simp; omega, hjn⟩, by simp only; omega⟩ | (simp; omega)
        · have d0 : decide ((0 : Int) < j) = false := by simp only [decide_eq_false_iff_not]; omega
          rw [if_neg hj0] at hjn
          repeat' (first | exact True.intro | (refine PW.seqK ?_; intro K hK) | refine pwB ?_ | refine pwS ?_ | refine pwL ?_ | refine pwE ?_ | refine pwR ?_ | refine pwK ?_ | refine seqK_n ‹_› ?_ | refine seqK_r ‹_› ?_ | refine seqK_e ‹_› ?_ | refine PW.regionA ?_ | exact schedW_stop_i | refine schK_n ‹_› ?_ | (refine schedW_alt_k ?_ ?_; focus (intro K hK; simp only [hkl, hgc, dj, d0, SA, Nat.reduceAdd, reduceIte, Nat.reduceEqDiff, Nat.reduceBEq, reduceCtorEq]; (try go_unwrap; try simp only [hkl, hgc, dj, d0, RR, reduceCtorEq]))) | (refine PW.cond rfl ?_ ?_ <;> intro hcond <;> (try contradiction) <;> try simp only [DD] at hcond) | (refine goCall_P e55 htx ?_; rintro p μ' ⟨rfl, rfl⟩; simp only [hkl, hgc, dj, d0, SA, Nat.reduceAdd, reduceIte, Nat.reduceEqDiff, Nat.reduceBEq, reduceCtorEq]) | (refine gd_i ?_; intro hg; try simp only [hg]) | ((first | show (_ : Nat) ≤ _ | show (_ : Nat) < _ | show (_ : Int) ≤ _ | show (_ : Int) < _ | show (_ : Nat) = _ | show (_ : Int) = _ | show (_ : Bool) = _ | show _ ∨ _ | show ¬ _); first | omega | (simp only [DD, LL] <;> omega) | (go_unwrap; omega)) | ((first | refine PW.region ?_ | refine PW.regionQ ?_ | refine schedW_done_i ?_ | show (_ : Post) _ _ _ | show @Eq (List PV) _ _ | show @Eq Bool _ _ | show opsW _ _ _ _ _ _ _ _ | show okAll _ | show @Eq Bool _ _ ∨ _); focus (simp only [hkl, hgc, dj, d0, SA, Nat.reduceAdd, reduceIte, Nat.reduceEqDiff, Nat.reduceBEq, reduceCtorEq]; (try go_unwrap; try simp only [hkl, hgc, dj, d0, RR, reduceCtorEq]))) | refine And.intro ?_ ?_ | exact Or.inr ⟨rfl, Nat.le_refl _⟩ | exact (fun h => Bool.noConfusion h))
          all_goals first | exact ⟨(j + 1, s ++ T), rfl, ⟨by simp only; omega, by simp; omega, hjn⟩, by simp only; omega⟩ | (simp; omega)
      · have dj : decide ((j : Int) < n.kids.length) = false := by simp only [decide_eq_false_iff_not]; omega
        rw [List.drop_eq_nil_of_le h, joinL] at hjn
        have hjb : j * (B + 1) ≤ 3 * (B + 1) := Nat.mul_le_mul_right _ (by omega)
        repeat' (first | exact True.intro | (refine PW.seqK ?_; intro K hK) | refine pwB ?_ | refine pwS ?_ | refine pwL ?_ | refine pwE ?_ | refine pwR ?_ | refine pwK ?_ | refine seqK_n ‹_› ?_ | refine seqK_r ‹_› ?_ | refine seqK_e ‹_› ?_ | refine PW.regionA ?_ | exact schedW_stop_i | refine schK_n ‹_› ?_ | (refine schedW_alt_k ?_ ?_; focus (intro K hK; simp only [hkl, dj, SA, Nat.reduceAdd, reduceIte, Nat.reduceEqDiff, Nat.reduceBEq, reduceCtorEq]; (try go_unwrap; try simp only [hkl, dj, RR, reduceCtorEq]))) | (refine PW.cond rfl ?_ ?_ <;> intro hcond <;> (try contradiction) <;> try simp only [DD] at hcond) | (refine gd_i ?_; intro hg; try simp only [hg]) | ((first | show (_ : Nat) ≤ _ | show (_ : Nat) < _ | show (_ : Int) ≤ _ | show (_ : Int) < _ | show (_ : Nat) = _ | show (_ : Int) = _ | show (_ : Bool) = _ | show _ ∨ _ | show ¬ _); first | omega | (simp only [DD, LL] <;> omega) | (go_unwrap; omega)) | ((first | refine PW.region ?_ | refine PW.regionQ ?_ | refine schedW_done_i ?_ | show (_ : Post) _ _ _ | show @Eq (List PV) _ _ | show @Eq Bool _ _ | show opsW _ _ _ _ _ _ _ _ | show okAll _ | show @Eq Bool _ _ ∨ _); focus (simp only [hkl, dj, SA, Nat.reduceAdd, reduceIte, Nat.reduceEqDiff, Nat.reduceBEq, reduceCtorEq]; (try go_unwrap; try simp only [hkl, dj, RR, reduceCtorEq]))) | refine And.intro ?_ ?_ | exact Or.inr ⟨rfl, Nat.le_refl _⟩ | exact (fun h => Bool.noConfusion h))
        all_goals first | (rw [hjn]; done) | rfl | (simp; omega)
    have hst : 1 ≤ strongM op ∧ strongM op ≤ 2 := by
      unfold strongM
      by_cases a : (op : Int) = 2 ∨ (op : Int) = 3
      · rw [if_pos a]; omega
      · rw [if_neg a, if_pos (by omega)]; omega
    have hs3 : ¬ strongM op = 3 := by omega
    rw [if_neg hs3]
    have k2 := ntwo (by omega) (by omega)
    obtain ⟨a, b, hab⟩ : ∃ a b, n.kids = [a, b] := by
      match n.kids, k2 with
      | [a, b], _ => exact ⟨a, b, rfl⟩
    rw [hab] at h4 ⊢
    simp only [List.map_cons, List.map_nil, List.getD_cons_zero, List.getD_cons_succ]
    have hfa := h4 a (by simp)
    have hfb := h4 b (by simp)
    have hta := ih a (strongM op) hfa
    have htb := ih b (strongM op + 1) hfb
    have hla := hle a (strongM op) hfa
    have hlb := hle b (strongM op + 1) hfb
    simp only [TxC, trO, txO] at hta htb
    generalize textM l k a (strongM op) = Ta at *
    generalize textM l k b (strongM op + 1) = Tb at *
    have q3 : decide (strongM op = 3) = false := by simp only [decide_eq_false_iff_not]; exact hs3
    have wp : IntKind.i64.wrap (strongM op + 1) = strongM op + 1 := IntWalk.i64_in _ (by omega)
    generalize strongM op = st at *
    generalize wordM op = W at *
    by_cases hlt : st < least
    · rw [if_pos hlt]
      repeat' (first | exact True.intro | (refine PW.seqA (E := ?_) (M := ?_) ?_ ?_; rotate_left 2) | exact mergeQ_mk _ _ | (exact Or.inr bw) | (exact Or.inr (by decide)) | (refine PW.seqK ?_; intro K hK) | refine pwB ?_ | refine pwS ?_ | refine pwL ?_ | refine pwE ?_ | refine pwR ?_ | refine pwK ?_ | refine seqK_n ‹_› ?_ | refine seqK_r ‹_› ?_ | refine seqK_e ‹_› ?_ | refine PW.regionA ?_ | exact schedW_stop_i | refine schK_n ‹_› ?_ | (refine schedW_alt_k ?_ ?_; focus (intro K hK; simp only [PV.bin, PV.binOk, binI, gW2, evalO, hot, hwa, hkl, q0, q1, q3, wp, decide_eq_true hlt, SA, Nat.reduceAdd, reduceIte, Nat.reduceEqDiff, Nat.reduceBEq, reduceCtorEq]; (try go_unwrap; try simp only [PV.bin, PV.binOk, binI, gW2, evalO, hot, hwa, hkl, q0, q1, q3, wp, decide_eq_true hlt, RR, reduceCtorEq]))) | (refine PW.cond rfl ?_ ?_ <;> intro hcond <;> (try contradiction) <;> try simp only [DD] at hcond) | (refine goCall_P e55 hta ?_; rintro p μ' ⟨rfl, rfl⟩; simp only [PV.bin, PV.binOk, binI, gW2, evalO, hot, hwa, hkl, q0, q1, q3, wp, decide_eq_true hlt, SA, Nat.reduceAdd, reduceIte, Nat.reduceEqDiff, Nat.reduceBEq, reduceCtorEq]) | (refine goCall_P e55 htb ?_; rintro p μ' ⟨rfl, rfl⟩; simp only [PV.bin, PV.binOk, binI, gW2, evalO, hot, hwa, hkl, q0, q1, q3, wp, decide_eq_true hlt, SA, Nat.reduceAdd, reduceIte, Nat.reduceEqDiff, Nat.reduceBEq, reduceCtorEq]) | (refine gd_i ?_; intro hg; try simp only [hg]) | refine goCall_W e56 (h56) ?_ ?_ ?_ ?_ | ((first | show (_ : Nat) ≤ _ | show (_ : Nat) < _ | show (_ : Int) ≤ _ | show (_ : Int) < _ | show (_ : Nat) = _ | show (_ : Int) = _ | show (_ : Bool) = _ | show _ ∨ _ | show ¬ _); first | omega | (simp only [DD, LL] <;> omega) | (go_unwrap; omega)) | ((first | refine PW.region ?_ | refine PW.regionQ ?_ | refine schedW_done_i ?_ | show (_ : Post) _ _ _ | show @Eq (List PV) _ _ | show @Eq Bool _ _ | show opsW _ _ _ _ _ _ _ _ | show okAll _ | show @Eq Bool _ _ ∨ _); focus (simp only [PV.bin, PV.binOk, binI, gW2, evalO, hot, hwa, hkl, q0, q1, q3, wp, decide_eq_true hlt, SA, Nat.reduceAdd, reduceIte, Nat.reduceEqDiff, Nat.reduceBEq, reduceCtorEq]; (try go_unwrap; try simp only [PV.bin, PV.binOk, binI, gW2, evalO, hot, hwa, hkl, q0, q1, q3, wp, decide_eq_true hlt, RR, reduceCtorEq]))) | refine And.intro ?_ ?_ | exact Or.inr ⟨rfl, Nat.le_refl _⟩ | exact (fun h => Bool.noConfusion h))
      all_goals first | rfl | (simp; omega)
    · rw [if_neg hlt]
      repeat' (first | exact True.intro | (refine PW.seqA (E := ?_) (M := ?_) ?_ ?_; rotate_left 2) | exact mergeQ_mk _ _ | (exact Or.inr bw) | (exact Or.inr (by decide)) | (refine PW.seqK ?_; intro K hK) | refine pwB ?_ | refine pwS ?_ | refine pwL ?_ | refine pwE ?_ | refine pwR ?_ | refine pwK ?_ | refine seqK_n ‹_› ?_ | refine seqK_r ‹_› ?_ | refine seqK_e ‹_› ?_ | refine PW.regionA ?_ | exact schedW_stop_i | refine schK_n ‹_› ?_ | (refine schedW_alt_k ?_ ?_; focus (intro K hK; simp only [PV.bin, PV.binOk, binI, gW2, evalO, hot, hwa, hkl, q0, q1, q3, wp, decide_eq_false hlt, SA, Nat.reduceAdd, reduceIte, Nat.reduceEqDiff, Nat.reduceBEq, reduceCtorEq]; (try go_unwrap; try simp only [PV.bin, PV.binOk, binI, gW2, evalO, hot, hwa, hkl, q0, q1, q3, wp, decide_eq_false hlt, RR, reduceCtorEq]))) | (refine PW.cond rfl ?_ ?_ <;> intro hcond <;> (try contradiction) <;> try simp only [DD] at hcond) | (refine goCall_P e55 hta ?_; rintro p μ' ⟨rfl, rfl⟩; simp only [PV.bin, PV.binOk, binI, gW2, evalO, hot, hwa, hkl, q0, q1, q3, wp, decide_eq_false hlt, SA, Nat.reduceAdd, reduceIte, Nat.reduceEqDiff, Nat.reduceBEq, reduceCtorEq]) | (refine goCall_P e55 htb ?_; rintro p μ' ⟨rfl, rfl⟩; simp only [PV.bin, PV.binOk, binI, gW2, evalO, hot, hwa, hkl, q0, q1, q3, wp, decide_eq_false hlt, SA, Nat.reduceAdd, reduceIte, Nat.reduceEqDiff, Nat.reduceBEq, reduceCtorEq]) | (refine gd_i ?_; intro hg; try simp only [hg]) | refine goCall_W e56 (h56) ?_ ?_ ?_ ?_ | ((first | show (_ : Nat) ≤ _ | show (_ : Nat) < _ | show (_ : Int) ≤ _ | show (_ : Int) < _ | show (_ : Nat) = _ | show (_ : Int) = _ | show (_ : Bool) = _ | show _ ∨ _ | show ¬ _); first | omega | (simp only [DD, LL] <;> omega) | (go_unwrap; omega)) | ((first | refine PW.region ?_ | refine PW.regionQ ?_ | refine schedW_done_i ?_ | show (_ : Post) _ _ _ | show @Eq (List PV) _ _ | show @Eq Bool _ _ | show opsW _ _ _ _ _ _ _ _ | show okAll _ | show @Eq Bool _ _ ∨ _); focus (simp only [PV.bin, PV.binOk, binI, gW2, evalO, hot, hwa, hkl, q0, q1, q3, wp, decide_eq_false hlt, SA, Nat.reduceAdd, reduceIte, Nat.reduceEqDiff, Nat.reduceBEq, reduceCtorEq]; (try go_unwrap; try simp only [PV.bin, PV.binOk, binI, gW2, evalO, hot, hwa, hkl, q0, q1, q3, wp, decide_eq_false hlt, RR, reduceCtorEq]))) | refine And.intro ?_ ?_ | exact Or.inr ⟨rfl, Nat.le_refl _⟩ | exact (fun h => Bool.noConfusion h))
      all_goals first | rfl | (simp; omega)
end Go.Proofs.YthekpjhffciakaaDoor

namespace Go.Proofs.YthekpjhffciakaaDoor
open Go PG Go.Proofs
set_option linter.unusedSimpArgs false
set_option linter.unusedVariables false
set_option maxHeartbeats 4000000
set_option maxRecDepth 100000
theorem e26 : Ent Tryd.prog 26 := ⟨Tryd.f26, Tryd.func26, by kernel_rfl, by kernel_rfl⟩
theorem hasK0 : HasKids G0 := rfl
theorem v26 (l : List Nd) (hl : l.length ≤ 256) (hs : ∀ n ∈ l, n.name.length ≤ 9223372036854775807 ∧ n.kids.length ≤ 9223372036854775807) (hc : checkM l = 0) (hf : fitsD l 16 ((l.length : Int) - 1)) : VCalls Tryd.prog G0 26 [treeP l] (.str (textM l 16 ((l.length : Int) - 1) 0)) := by
  refine VCalls.of_PW Tryd.func26 k26 mix (by simp [c26]) ?_
  simp only [c26, L26, CC, argE]
  have h29 := v29 hasK0 l (by omega) hs
  rw [hc] at h29
  have htx := v55 l hl 16 (Nat.le_refl _) _ 0 hf
  simp only [TxC, trO, txO] at htx
  simp only [treeP] at h29 ⊢
  have hll : ((l.map ndP).length : Nat) = l.length := by simp
  have q0 : decide ((0 : Int) = 0) = true := rfl
  repeat' (first | exact True.intro | (exact Or.inr ⟨rfl, by decide⟩) | (refine PW.seqK ?_; intro K hK) | refine pwB ?_ | refine pwS ?_ | refine pwL ?_ | refine pwE ?_ | refine pwR ?_ | refine pwK ?_ | refine seqK_n ‹_› ?_ | refine seqK_r ‹_› ?_ | refine seqK_e ‹_› ?_ | refine PW.regionA ?_ | exact schedW_stop_i | refine schK_n ‹_› ?_ | (refine schedW_alt_k ?_ ?_; focus (intro K hK; simp only [hll, q0, SA, Nat.reduceAdd, reduceIte, Nat.reduceEqDiff, Nat.reduceBEq, reduceCtorEq]; (try go_unwrap; try simp only [hll, q0, RR, reduceCtorEq]))) | (refine PW.cond rfl ?_ ?_ <;> intro hcond <;> (try contradiction) <;> try simp only [DD] at hcond) | (refine goCall_P e55 htx ?_; rintro p μ' ⟨rfl, rfl⟩; simp only [hll, q0, SA, Nat.reduceAdd, reduceIte, Nat.reduceEqDiff, Nat.reduceBEq, reduceCtorEq]) | (refine gd_i ?_; intro hg; try simp only [hg]) | refine goCall_W e29 (h29) ?_ ?_ ?_ ?_ | ((first | show (_ : Nat) ≤ _ | show (_ : Nat) < _ | show (_ : Int) ≤ _ | show (_ : Int) < _ | show (_ : Nat) = _ | show (_ : Int) = _ | show (_ : Bool) = _ | show _ ∨ _ | show ¬ _); first | omega | (simp only [DD, LL] <;> omega) | (go_unwrap; omega)) | ((first | refine PW.region ?_ | refine PW.regionQ ?_ | refine schedW_done_i ?_ | show (_ : Post) _ _ _ | show @Eq (List PV) _ _ | show @Eq Bool _ _ | show opsW _ _ _ _ _ _ _ _ | show okAll _ | show @Eq Bool _ _ ∨ _); focus (simp only [hll, q0, SA, Nat.reduceAdd, reduceIte, Nat.reduceEqDiff, Nat.reduceBEq, reduceCtorEq]; (try go_unwrap; try simp only [hll, q0, RR, reduceCtorEq]))) | refine And.intro ?_ ?_ | exact Or.inr ⟨rfl, Nat.le_refl _⟩ | exact (fun h => Bool.noConfusion h))
end Go.Proofs.YthekpjhffciakaaDoor

namespace Go.Proofs.YthekpjhffciakaaDoor
open Go PG Go.Proofs
set_option linter.unusedSimpArgs false
set_option linter.unusedVariables false
set_option maxHeartbeats 4000000
set_option maxRecDepth 100000
def ndOkB (n : Nd) : Bool := decide (0 ≤ n.op) && (decide (n.op ≤ 9) && ((decide (n.op ≠ 0) || (decide (0 ≤ n.num) && decide (n.num ≤ 1000000000000000000))) && (decide (n.name.length ≤ 100) && (decide (n.kids.length ≤ 3) && (decide (n.op < 2) || (decide (4 < n.op) || decide (n.kids.length = 2)))))))
theorem ndOkB_ok {n : Nd} (h : ndOkB n = true) : NdOk n := by
  simp only [ndOkB, Bool.and_eq_true, Bool.or_eq_true, decide_eq_true_eq] at h
  obtain ⟨h1, h2, h3, h4, h5, h6⟩ := h
  exact ⟨h1, h2, fun e => by rcases h3 with h3 | h3; exact absurd e h3; exact h3, h4, h5, fun a b => by rcases h6 with h6 | h6 | h6; omega; omega; exact h6⟩
def fitsB (l : List Nd) : Nat → Int → Bool
  | 0, _ => false
  | k + 1, i => decide (0 ≤ i) && (decide (i.toNat < l.length) && (ndOkB (l.getD i.toNat default) && (l.getD i.toNat default).kids.all (fitsB l k)))
theorem fitsB_ok (l : List Nd) : ∀ (k : Nat) (i : Int), fitsB l k i = true → fitsD l k i
  | 0, _, h => by cases h
  | k + 1, i, h => by
    simp only [fitsB, Bool.and_eq_true, decide_eq_true_eq, List.all_eq_true] at h
    exact ⟨h.1, h.2.1, ndOkB_ok h.2.2.1, fun c hc => fitsB_ok l k c (h.2.2.2 c hc)⟩
theorem numT2 : numT 2000000 = [50] := by
  unfold numT
  rw [if_pos (by decide), digT, if_pos (by decide)]
  rfl
theorem txA : VCalls Tryd.prog G0 26 [treeP tA] (.str sA) := by
  have h := v26 tA (by decide) (by decide) (by rfl) (fitsB_ok _ _ _ rfl)
  have e : textM tA 16 ((tA.length : Int) - 1) 0 = sA := by
    simp [textM, tA, strongM, wordM, wordsL, sA, numT2, List.getD]
  rw [e] at h
  exact h
theorem txB : VCalls Tryd.prog G0 26 [treeP tB] (.str sB) :=
  v26 tB (by decide) (by decide) (by rfl) (fitsB_ok _ _ _ rfl)
theorem txC : VCalls Tryd.prog G0 26 [treeP tC] (.str sC') :=
  v26 tC (by decide) (by decide) (by rfl) (fitsB_ok _ _ _ rfl)
theorem v17 : VCalls Tryd.prog G0 17 [] (.bool true) := by
  refine VCalls.of_PW Tryd.func17 k17 mix (by simp [c17]) ?_
  simp only [c17, L17, CC, argE]
  have h1 := v18 sA (by decide)
  have h2 := v18 sB (by decide)
  have h3 := v18 sC (by decide)
  have t1 := txA
  have t2 := txB
  have t3 := txC
  rw [pA] at h1
  rw [pB] at h2
  rw [pC] at h3
  simp only [parsePV, treeP] at h1 h2 h3 t1 t2 t3
  have hA : ((tA.map ndP).length : Nat) = 7 := rfl
  generalize tA.map ndP = XA at *
  generalize tB.map ndP = XB at *
  generalize tC.map ndP = XC at *
  simp only [sA, sB, sC, sC'] at h1 h2 h3 t1 t2 t3
  repeat' (first | exact True.intro | (exact Or.inr ⟨rfl, by decide⟩) | (refine PW.seqK ?_; intro K hK) | refine pwB ?_ | refine pwS ?_ | refine pwL ?_ | refine pwE ?_ | refine pwR ?_ | refine pwK ?_ | refine seqK_n ‹_› ?_ | refine seqK_r ‹_› ?_ | refine seqK_e ‹_› ?_ | refine PW.regionA ?_ | exact schedW_stop_i | refine schK_n ‹_› ?_ | (refine schedW_alt_k ?_ ?_; focus (intro K hK; simp only [PV.bin, PV.binOk, binI, hA, SA, Nat.reduceAdd, reduceIte, Nat.reduceEqDiff, Nat.reduceBEq, reduceCtorEq]; (try go_unwrap; try simp only [PV.bin, PV.binOk, binI, hA, RR, reduceCtorEq]))) | (refine PW.cond rfl ?_ ?_ <;> intro hcond <;> (try contradiction) <;> try simp only [DD] at hcond) | (apply goCall_V e18; (case hV => (simp only [PV.bin, PV.binOk, binI, hA, SA, Nat.reduceAdd, reduceIte, Nat.reduceEqDiff, Nat.reduceBEq, reduceCtorEq]; (try go_unwrap; try simp only [PV.bin, PV.binOk, binI, hA, RR, reduceCtorEq]); exact h1)); (try (case hs => rfl)); (try (case hf => first | exact Or.inl rfl | exact Or.inr ⟨rfl, rfl⟩ | (refine Or.inl ?_; simp only [PV.bin, PV.binOk, binI, hA, SA, Nat.reduceAdd, reduceIte, Nat.reduceEqDiff, Nat.reduceBEq, reduceCtorEq]; done) | (refine Or.inr ⟨rfl, ?_⟩; simp only [PV.bin, PV.binOk, binI, hA, SA, Nat.reduceAdd, reduceIte, Nat.reduceEqDiff, Nat.reduceBEq, reduceCtorEq]; done))); all_goals (first | (simp only [PV.bin, PV.binOk, binI, hA, SA, Nat.reduceAdd, reduceIte, Nat.reduceEqDiff, Nat.reduceBEq, reduceCtorEq]; (try go_unwrap; try simp only [PV.bin, PV.binOk, binI, hA, RR, reduceCtorEq])) | (show Env; skip) | (show Mem; skip))) | (apply goCall_V e18; (case hV => (simp only [PV.bin, PV.binOk, binI, hA, SA, Nat.reduceAdd, reduceIte, Nat.reduceEqDiff, Nat.reduceBEq, reduceCtorEq]; (try go_unwrap; try simp only [PV.bin, PV.binOk, binI, hA, RR, reduceCtorEq]); exact h2)); (try (case hs => rfl)); (try (case hf => first | exact Or.inl rfl | exact Or.inr ⟨rfl, rfl⟩ | (refine Or.inl ?_; simp only [PV.bin, PV.binOk, binI, hA, SA, Nat.reduceAdd, reduceIte, Nat.reduceEqDiff, Nat.reduceBEq, reduceCtorEq]; done) | (refine Or.inr ⟨rfl, ?_⟩; simp only [PV.bin, PV.binOk, binI, hA, SA, Nat.reduceAdd, reduceIte, Nat.reduceEqDiff, Nat.reduceBEq, reduceCtorEq]; done))); all_goals (first | (simp only [PV.bin, PV.binOk, binI, hA, SA, Nat.reduceAdd, reduceIte, Nat.reduceEqDiff, Nat.reduceBEq, reduceCtorEq]; (try go_unwrap; try simp only [PV.bin, PV.binOk, binI, hA, RR, reduceCtorEq])) | (show Env; skip) | (show Mem; skip))) | (apply goCall_V e18; (case hV => (simp only [PV.bin, PV.binOk, binI, hA, SA, Nat.reduceAdd, reduceIte, Nat.reduceEqDiff, Nat.reduceBEq, reduceCtorEq]; (try go_unwrap; try simp only [PV.bin, PV.binOk, binI, hA, RR, reduceCtorEq]); exact h3)); (try (case hs => rfl)); (try (case hf => first | exact Or.inl rfl | exact Or.inr ⟨rfl, rfl⟩ | (refine Or.inl ?_; simp only [PV.bin, PV.binOk, binI, hA, SA, Nat.reduceAdd, reduceIte, Nat.reduceEqDiff, Nat.reduceBEq, reduceCtorEq]; done) | (refine Or.inr ⟨rfl, ?_⟩; simp only [PV.bin, PV.binOk, binI, hA, SA, Nat.reduceAdd, reduceIte, Nat.reduceEqDiff, Nat.reduceBEq, reduceCtorEq]; done))); all_goals (first | (simp only [PV.bin, PV.binOk, binI, hA, SA, Nat.reduceAdd, reduceIte, Nat.reduceEqDiff, Nat.reduceBEq, reduceCtorEq]; (try go_unwrap; try simp only [PV.bin, PV.binOk, binI, hA, RR, reduceCtorEq])) | (show Env; skip) | (show Mem; skip))) | (apply goCallG_V e26; (case hV => (intro hg; simp only [hg, PV.bin, PV.binOk, binI, hA, SA, Nat.reduceAdd, reduceIte, Nat.reduceEqDiff, Nat.reduceBEq, reduceCtorEq]; (try go_unwrap; try simp only [PV.bin, PV.binOk, binI, hA, RR, reduceCtorEq]); exact t1)); (case hok => (intro hg; first | (simp only [hg, PV.bin, PV.binOk, binI, hA, SA, Nat.reduceAdd, reduceIte, Nat.reduceEqDiff, Nat.reduceBEq, reduceCtorEq]; done) | (simp_all [okAll, PV.okUnder]; done))); (case hs => (intro hg; simp only [hg, PV.bin, PV.binOk, binI, hA, SA, Nat.reduceAdd, reduceIte, Nat.reduceEqDiff, Nat.reduceBEq, reduceCtorEq])); (case hf => first | rfl | simp only [PV.bin, PV.binOk, binI, hA, SA, Nat.reduceAdd, reduceIte, Nat.reduceEqDiff, Nat.reduceBEq, reduceCtorEq]); (simp only [PV.bin, PV.binOk, binI, hA, SA, Nat.reduceAdd, reduceIte, Nat.reduceEqDiff, Nat.reduceBEq, reduceCtorEq]; (try go_unwrap; try simp only [PV.bin, PV.binOk, binI, hA, RR, reduceCtorEq]))) | (apply goCallG_V e26; (case hV => (intro hg; simp only [hg, PV.bin, PV.binOk, binI, hA, SA, Nat.reduceAdd, reduceIte, Nat.reduceEqDiff, Nat.reduceBEq, reduceCtorEq]; (try go_unwrap; try simp only [PV.bin, PV.binOk, binI, hA, RR, reduceCtorEq]); exact t2)); (case hok => (intro hg; first | (simp only [hg, PV.bin, PV.binOk, binI, hA, SA, Nat.reduceAdd, reduceIte, Nat.reduceEqDiff, Nat.reduceBEq, reduceCtorEq]; done) | (simp_all [okAll, PV.okUnder]; done))); (case hs => (intro hg; simp only [hg, PV.bin, PV.binOk, binI, hA, SA, Nat.reduceAdd, reduceIte, Nat.reduceEqDiff, Nat.reduceBEq, reduceCtorEq])); (case hf => first | rfl | simp only [PV.bin, PV.binOk, binI, hA, SA, Nat.reduceAdd, reduceIte, Nat.reduceEqDiff, Nat.reduceBEq, reduceCtorEq]); (simp only [PV.bin, PV.binOk, binI, hA, SA, Nat.reduceAdd, reduceIte, Nat.reduceEqDiff, Nat.reduceBEq, reduceCtorEq]; (try go_unwrap; try simp only [PV.bin, PV.binOk, binI, hA, RR, reduceCtorEq]))) | (apply goCallG_V e26; (case hV => (intro hg; simp only [hg, PV.bin, PV.binOk, binI, hA, SA, Nat.reduceAdd, reduceIte, Nat.reduceEqDiff, Nat.reduceBEq, reduceCtorEq]; (try go_unwrap; try simp only [PV.bin, PV.binOk, binI, hA, RR, reduceCtorEq]); exact t3)); (case hok => (intro hg; first | (simp only [hg, PV.bin, PV.binOk, binI, hA, SA, Nat.reduceAdd, reduceIte, Nat.reduceEqDiff, Nat.reduceBEq, reduceCtorEq]; done) | (simp_all [okAll, PV.okUnder]; done))); (case hs => (intro hg; simp only [hg, PV.bin, PV.binOk, binI, hA, SA, Nat.reduceAdd, reduceIte, Nat.reduceEqDiff, Nat.reduceBEq, reduceCtorEq])); (case hf => first | rfl | simp only [PV.bin, PV.binOk, binI, hA, SA, Nat.reduceAdd, reduceIte, Nat.reduceEqDiff, Nat.reduceBEq, reduceCtorEq]); (simp only [PV.bin, PV.binOk, binI, hA, SA, Nat.reduceAdd, reduceIte, Nat.reduceEqDiff, Nat.reduceBEq, reduceCtorEq]; (try go_unwrap; try simp only [PV.bin, PV.binOk, binI, hA, RR, reduceCtorEq]))) | (refine gd_i ?_; intro hg; try simp only [hg]) | ((first | show (_ : Nat) ≤ _ | show (_ : Nat) < _ | show (_ : Int) ≤ _ | show (_ : Int) < _ | show (_ : Nat) = _ | show (_ : Int) = _ | show (_ : Bool) = _ | show _ ∨ _ | show ¬ _); first | omega | (simp only [DD, LL] <;> omega) | (go_unwrap; omega)) | ((first | refine PW.region ?_ | refine PW.regionQ ?_ | refine schedW_done_i ?_ | show (_ : Post) _ _ _ | show @Eq (List PV) _ _ | show @Eq Bool _ _ | show opsW _ _ _ _ _ _ _ _ | show okAll _ | show @Eq Bool _ _ ∨ _); focus (simp only [PV.bin, PV.binOk, binI, hA, SA, Nat.reduceAdd, reduceIte, Nat.reduceEqDiff, Nat.reduceBEq, reduceCtorEq]; (try go_unwrap; try simp only [PV.bin, PV.binOk, binI, hA, RR, reduceCtorEq]))) | refine And.intro ?_ ?_ | exact Or.inr ⟨rfl, Nat.le_refl _⟩ | exact (fun h => Bool.noConfusion h))
  all_goals rfl
end Go.Proofs.YthekpjhffciakaaDoor

