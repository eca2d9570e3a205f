import Derived.Test.YthekpjhffciakaaDoorProg
import Derived.KernelRfl
import Derived.Test.YthekpjhffciakaaDoorQ7
import Derived.Test.YthekpjhffciakaaDoorQ8
import Derived.Test.YthekpjhffciakaaDoorQ9
import Derived.Test.YthekpjhffciakaaDoorP4
namespace Go.Proofs.YthekpjhffciakaaDoor
open Go PG Go.Proofs
set_option linter.unusedSimpArgs false
set_option linter.unusedVariables false
set_option maxHeartbeats 4000000
set_option maxRecDepth 100000
/-! The program's reader: its leaves -/
def wordsP : PV := .agg [.str [], .str [], .str [43], .str [45], .str [42], .str [108, 101, 97, 115, 116], .str [109, 111, 115, 116], .str [105, 102], .str [108, 101, 115, 115], .str [101, 113, 117, 97, 108]]
abbrev G0 : Globs := fun g => if g = 0 then some (some 10, wordsP) else if g = 1 then some (some 10, kidsTabP) else none
theorem e40 : Ent Tryd.prog 40 := ⟨Tryd.f40, Tryd.func40, by kernel_rfl, by kernel_rfl⟩
theorem e41 : Ent Tryd.prog 41 := ⟨Tryd.f41, Tryd.func41, by kernel_rfl, by kernel_rfl⟩
theorem e71 : Ent Tryd.prog 71 := ⟨Tryd.f71, Tryd.func71, by kernel_rfl, by kernel_rfl⟩
theorem e72 : Ent Tryd.prog 72 := ⟨Tryd.f72, Tryd.func72, by kernel_rfl, by kernel_rfl⟩
theorem e73 : Ent Tryd.prog 73 := ⟨Tryd.f73, Tryd.func73, by kernel_rfl, by kernel_rfl⟩
theorem e98 : Ent Tryd.prog 98 := ⟨Tryd.f98, Tryd.func98, by kernel_rfl, by kernel_rfl⟩
theorem e99 : Ent Tryd.prog 99 := ⟨Tryd.f99, Tryd.func99, by kernel_rfl, by kernel_rfl⟩
theorem e100 : Ent Tryd.prog 100 := ⟨Tryd.f100, Tryd.func100, by kernel_rfl, by kernel_rfl⟩
theorem e126 : Ent Tryd.prog 126 := ⟨Tryd.f126, Tryd.func126, by kernel_rfl, by kernel_rfl⟩
abbrev tksP (l : List Tok) : PV := .list (some 3) (l.map tokP)
def rdP (l : List Tok) (s : PS) : MObj := .var (some 4) (.agg [tksP l, .sl (some 4) 1 s.out.length, .int .i64 s.at_, .int .i64 s.e])
def rowO (s : PS) : MObj := .row (some 4) (s.out.map ndP)
/-- A reading, as a contract: the reader and its nodes, and whatever stands behind. -/
def RdC (l : List Tok) (f : Nat) (as_ : List PV) (ν : Mem) (s : PS) (r : Int × PS) : Prop :=
  PCalls Tryd.prog G0 f as_ (some (rdP l s) :: some (rowO s) :: ν) (killTag 1) (fun p μ' => p = .int .i64 r.1 ∧ μ' = some (rdP l r.2) :: some (rowO r.2) :: ν)
theorem RdC.frame {l : List Tok} {f : Nat} {as_ : List PV} {s : PS} {r : Int × PS} (h : RdC l f as_ [] s r) (ν : Mem) (hν : ν.map (Option.map (MObj.kill (killTag 1))) = ν) (ha : as_.map (PV.kill fun t => decide (2 ≤ t)) = as_) : RdC l f as_ ν s r := by
  have := PCalls.frame h ν (by rintro p μ' ⟨-, rfl⟩; rfl) ha (by simp [rdP, rowO, MObj.kill, PV.kill]) hν
  intro w κ vs hS hG hr
  refine (this w κ vs hS hG hr).mono ?_
  rintro e w' ⟨v, p, μ', κ', rfl, ⟨μ1, ⟨rfl, rfl⟩, rfl⟩, hS', hv, hg⟩
  exact ⟨v, _, _, κ', rfl, ⟨rfl, rfl⟩, hS', hv, hg⟩
theorem tk_get (l : List Tok) (j : Nat) (h : j < l.length) : (l.map tokP).getD j .junk = .agg [.int .i64 (tkAt l j).1, .str (tkAt l j).2.1, .int .i64 (tkAt l j).2.2] := by
  simp [List.getD, tkAt, h, tokP]
theorem tks_len (l : List Tok) : ((l.map tokP).length : Nat) = l.length := by simp
theorem nd_len (l : List Nd) : ((l.map ndP).length : Nat) = l.length := by simp
theorem q1 (a b c d : PV) (sh : Sh) (t n : Nat) : putPart (some 4) none (.agg [a, b, c, d]) 1 (.sl sh t n) = .agg [a, .sl sh t n, c, d] := rfl
theorem q2 (a b c d : PV) (k : IntKind) (v : Int) : putPart (some 4) none (.agg [a, b, c, d]) 2 (.int k v) = .agg [a, b, .int k v, d] := rfl
theorem q3 (a b c d : PV) (k : IntKind) (v : Int) : putPart (some 4) none (.agg [a, b, c, d]) 3 (.int k v) = .agg [a, b, c, .int k v] := rfl
theorem v98 (l : List Tok) (s : PS) (x : List UInt8) (hlt : s.at_ < l.length) (hl : l.length ≤ 100000) :
    VCalls Tryd.prog G0 98 [.cptr (some 4) (.agg [tksP l, .list (some 4) (s.out.map ndP), .int .i64 s.at_, .int .i64 s.e]) 0, .str x] (.bool (sgn l s x)) := by
  refine VCalls.of_PW Tryd.func98 k98 mix (by simp [c98]) ?_
  simp only [c98, L98, CC, argE]
  have hg := tk_get l s.at_ hlt
  have hlen := tks_len l
  have hk : decide (((tkAt l s.at_).1 : Int) = 3) = decide ((tkAt l s.at_).1 = 3) := by rw [Bool.eq_iff_iff, decide_eq_true_eq, decide_eq_true_eq]; omega
  repeat' (first | exact True.intro | (refine PW.seqK ?_; intro K hK) | refine pwB ?_ | refine pwS ?_ | refine pwL ?_ | refine pwE ?_ | refine pwR ?_ | refine pwK ?_ | refine seqK_n ‹_› ?_ | refine seqK_r ‹_› ?_ | refine seqK_e ‹_› ?_ | refine PW.regionA ?_ | exact schedW_stop_i | refine schK_n ‹_› ?_ | (refine schedW_alt_k ?_ ?_; focus (intro K hK; simp only [hg, hlen, SA, Nat.reduceAdd, reduceIte, Nat.reduceEqDiff, Nat.reduceBEq, reduceCtorEq]; (try go_unwrap; try simp only [hg, hlen, RR, reduceCtorEq]))) | (refine PW.cond rfl ?_ ?_ <;> intro hcond <;> (try contradiction) <;> try simp only [DD] at hcond) | (refine gd_i ?_; intro hg; try simp only [hg]) | ((first | show (_ : Nat) ≤ _ | show (_ : Nat) < _ | show (_ : Int) ≤ _ | show (_ : Int) < _ | show (_ : Nat) = _ | show (_ : Int) = _ | show (_ : Bool) = _ | show _ ∨ _ | show ¬ _); first | omega | (simp only [DD, LL] <;> omega) | (go_unwrap; omega)) | ((first | refine PW.region ?_ | refine PW.regionQ ?_ | refine schedW_done_i ?_ | show (_ : Post) _ _ _ | show @Eq (List PV) _ _ | show @Eq Bool _ _ | show opsW _ _ _ _ _ _ _ _ | show okAll _ | show @Eq Bool _ _ ∨ _); focus (simp only [hg, hlen, SA, Nat.reduceAdd, reduceIte, Nat.reduceEqDiff, Nat.reduceBEq, reduceCtorEq]; (try go_unwrap; try simp only [hg, hlen, RR, reduceCtorEq]))) | refine And.intro ?_ ?_ | exact Or.inr ⟨rfl, Nat.le_refl _⟩ | exact (fun h => Bool.noConfusion h))
  simp only [sgn, hk]
theorem v41 (l : List Tok) (s : PS) (e : Int) : RdC l 41 [.ref 0 0, .int .i64 e] [] s (failP s e) := by
  refine PCalls.moves (mv := fun t => t == 1 || decide (2 ≤ t)) (fun t ht h => ?_) ?_
  · simp only [List.length_cons, List.length_nil] at ht
    simp only [Bool.or_eq_true, beq_iff_eq, decide_eq_true_eq] at h
    simp only [killTag, beq_iff_eq]; omega
  refine PCalls.of_PW Tryd.func41 k41 mix (by simp [c41]) ?_
  simp only [c41, L41, CC, argE, rdP, rowO]
  repeat' (first | exact True.intro | (refine PW.seqK ?_; intro K hK) | refine pwB ?_ | refine pwS ?_ | refine pwL ?_ | refine pwE ?_ | refine pwR ?_ | refine pwK ?_ | refine seqK_n ‹_› ?_ | refine seqK_r ‹_› ?_ | refine seqK_e ‹_› ?_ | refine PW.regionA ?_ | exact schedW_stop_i | refine schK_n ‹_› ?_ | (refine schedW_alt_k ?_ ?_; focus (intro K hK; simp only [q3, SA, Nat.reduceAdd, reduceIte, Nat.reduceEqDiff, Nat.reduceBEq, reduceCtorEq]; (try go_unwrap; try simp only [q3, RR, reduceCtorEq]))) | (refine PW.cond rfl ?_ ?_ <;> intro hcond <;> (try contradiction) <;> try simp only [DD] at hcond) | (refine gd_i ?_; intro hg; try simp only [hg]) | ((first | show (_ : Nat) ≤ _ | show (_ : Nat) < _ | show (_ : Int) ≤ _ | show (_ : Int) < _ | show (_ : Nat) = _ | show (_ : Int) = _ | show (_ : Bool) = _ | show _ ∨ _ | show ¬ _); first | omega | (simp only [DD, LL] <;> omega) | (go_unwrap; omega)) | ((first | refine PW.region ?_ | refine PW.regionQ ?_ | refine schedW_done_i ?_ | show (_ : Post) _ _ _ | show @Eq (List PV) _ _ | show @Eq Bool _ _ | show opsW _ _ _ _ _ _ _ _ | show okAll _ | show @Eq Bool _ _ ∨ _); focus (simp only [q3, SA, Nat.reduceAdd, reduceIte, Nat.reduceEqDiff, Nat.reduceBEq, reduceCtorEq]; (try go_unwrap; try simp only [q3, RR, reduceCtorEq]))) | refine And.intro ?_ ?_ | exact Or.inr ⟨rfl, Nat.le_refl _⟩ | exact (fun h => Bool.noConfusion h))
  · rfl
  · simp only [failP, if_pos hcond]
  · rfl
  · simp only [failP, if_neg hcond]
theorem v99 (l : List Tok) (s : PS) (n : Nd) (hs : s.out.length ≤ 100000) : RdC l 99 [.ref 0 0, ndP n] [] s (putP s n) := by
  refine PCalls.moves (mv := fun t => t == 1 || decide (2 ≤ t)) (fun t ht h => ?_) ?_
  · simp only [List.length_cons, List.length_nil] at ht
    simp only [Bool.or_eq_true, beq_iff_eq, decide_eq_true_eq] at h
    simp only [killTag, beq_iff_eq]; omega
  refine PCalls.of_PW Tryd.func99 k99 mix (by simp [c99]) ?_
  simp only [c99, L99, CC, argE, rdP, rowO]
  have hlen := nd_len s.out
  have htk : (s.out.map ndP).take s.out.length = s.out.map ndP := List.take_of_length_le (by simp)
  have b1 : (s.out.length + 1) * 56 ≤ 140737488355328 := by omega
  rw [ndP1]
  repeat' (first | exact True.intro | (refine PW.seqA (E := ?_) (M := ?_) ?_ ?_; rotate_left 2) | exact mergeQ_mk _ _ | (exact Or.inr ⟨rfl, by decide⟩) | (refine PW.stop (x := .ret) ?_) | (refine PW.seqK ?_; intro K hK) | refine pwB ?_ | refine pwS ?_ | refine pwL ?_ | refine pwE ?_ | refine pwR ?_ | refine pwK ?_ | refine seqK_n ‹_› ?_ | refine seqK_r ‹_› ?_ | refine seqK_e ‹_› ?_ | refine PW.regionA ?_ | exact schedW_stop_i | refine schK_n ‹_› ?_ | (refine schedW_alt_k ?_ ?_; focus (intro K hK; simp only [hlen, htk, q1, List.length_cons, List.length_nil, Nat.zero_add, SA, Nat.reduceAdd, reduceIte, Nat.reduceEqDiff, Nat.reduceBEq, reduceCtorEq]; (try go_unwrap; try simp only [hlen, htk, q1, List.length_cons, List.length_nil, Nat.zero_add, RR, reduceCtorEq]))) | (refine PW.cond rfl ?_ ?_ <;> intro hcond <;> (try contradiction) <;> try simp only [DD] at hcond) | (refine gd_i ?_; intro hg; try simp only [hg]) | ((first | show (_ : Nat) ≤ _ | show (_ : Nat) < _ | show (_ : Int) ≤ _ | show (_ : Int) < _ | show (_ : Nat) = _ | show (_ : Int) = _ | show (_ : Bool) = _ | show _ ∨ _ | show ¬ _); first | omega | (simp only [DD, LL] <;> omega) | (go_unwrap; omega)) | ((first | refine PW.region ?_ | refine PW.regionQ ?_ | refine schedW_done_i ?_ | show (_ : Post) _ _ _ | show @Eq (List PV) _ _ | show @Eq Bool _ _ | show opsW _ _ _ _ _ _ _ _ | show okAll _ | show @Eq Bool _ _ ∨ _); focus (simp only [hlen, htk, q1, List.length_cons, List.length_nil, Nat.zero_add, SA, Nat.reduceAdd, reduceIte, Nat.reduceEqDiff, Nat.reduceBEq, reduceCtorEq]; (try go_unwrap; try simp only [hlen, htk, q1, List.length_cons, List.length_nil, Nat.zero_add, RR, reduceCtorEq]))) | refine And.intro ?_ ?_ | exact Or.inr ⟨rfl, Nat.le_refl _⟩ | exact (fun h => Bool.noConfusion h))
  refine ⟨?_⟩
  refine PW.trim 2 (fun t h => by simp [h]) ?_
  simp only [trimE, trimM, List.take_succ_cons, List.take_zero, List.map_cons, List.map_nil, Option.map_some, Option.map_none, MObj.kill, PV.kill, Nat.reduceLeDiff, decide_true, decide_false, dec_true, dec_false, Bool.false_eq_true, if_false, if_true, reduceIte]
  repeat' (first | exact True.intro | (refine PW.seqK ?_; intro K hK) | refine pwB ?_ | refine pwS ?_ | refine pwL ?_ | refine pwE ?_ | refine pwR ?_ | refine pwK ?_ | refine seqK_n ‹_› ?_ | refine seqK_r ‹_› ?_ | refine seqK_e ‹_› ?_ | refine PW.regionA ?_ | exact schedW_stop_i | refine schK_n ‹_› ?_ | (refine schedW_alt_k ?_ ?_; focus (intro K hK; simp only [SA, Nat.reduceAdd, reduceIte, Nat.reduceEqDiff, Nat.reduceBEq, reduceCtorEq]; (try go_unwrap; try simp only [RR, reduceCtorEq]))) | (refine PW.cond rfl ?_ ?_ <;> intro hcond <;> (try contradiction) <;> try simp only [DD] at hcond) | (refine gd_i ?_; intro hg; try simp only [hg]) | ((first | show (_ : Nat) ≤ _ | show (_ : Nat) < _ | show (_ : Int) ≤ _ | show (_ : Int) < _ | show (_ : Nat) = _ | show (_ : Int) = _ | show (_ : Bool) = _ | show _ ∨ _ | show ¬ _); first | omega | (simp only [DD, LL] <;> omega) | (go_unwrap; omega)) | ((first | refine PW.region ?_ | refine PW.regionQ ?_ | refine schedW_done_i ?_ | show (_ : Post) _ _ _ | show @Eq (List PV) _ _ | show @Eq Bool _ _ | show opsW _ _ _ _ _ _ _ _ | show okAll _ | show @Eq Bool _ _ ∨ _); focus (simp only [SA, Nat.reduceAdd, reduceIte, Nat.reduceEqDiff, Nat.reduceBEq, reduceCtorEq]; (try go_unwrap; try simp only [RR, reduceCtorEq]))) | refine And.intro ?_ ?_ | exact Or.inr ⟨rfl, Nat.le_refl _⟩ | exact (fun h => Bool.noConfusion h))
  · simp [putP]
  · simp [putP, ndP, ndC, kidsP]
end Go.Proofs.YthekpjhffciakaaDoor

namespace Go.Proofs.YthekpjhffciakaaDoor
open Go PG Go.Proofs
set_option linter.unusedSimpArgs false
set_option linter.unusedVariables false
set_option maxHeartbeats 4000000
set_option maxRecDepth 100000
variable {G : Globs}
/-! The program's text of a number -/
theorem e56 : Ent Tryd.prog 56 := ⟨Tryd.f56, Tryd.func56, by kernel_rfl, by kernel_rfl⟩
theorem e57 : Ent Tryd.prog 57 := ⟨Tryd.f57, Tryd.func57, by kernel_rfl, by kernel_rfl⟩
theorem e86 : Ent Tryd.prog 86 := ⟨Tryd.f86, Tryd.func86, by kernel_rfl, by kernel_rfl⟩
def digT (n : Nat) : List UInt8 := if n ≤ 9 then [UInt8.ofNat (48 + n)] else digT (n / 10) ++ [UInt8.ofNat (48 + n % 10)]
termination_by n
decreasing_by omega
theorem chr_dig {d : Nat} (h : d ≤ 9) : (Utf8.encode (48 + (d : Int))).data.toList = [UInt8.ofNat (48 + d)] := by
  have : d = 0 ∨ d = 1 ∨ d = 2 ∨ d = 3 ∨ d = 4 ∨ d = 5 ∨ d = 6 ∨ d = 7 ∨ d = 8 ∨ d = 9 := by omega
  rcases this with rfl | rfl | rfl | rfl | rfl | rfl | rfl | rfl | rfl | rfl <;> decide
def strongM (op : Int) : Int := if op = 2 ∨ op = 3 then 1 else if op = 4 then 2 else 3
theorem v56 (op : Int) : VCalls Tryd.prog G 56 [.int .i64 op] (.int .i64 (strongM op)) := by
  refine VCalls.of_PW Tryd.func56 k56 mix (by simp [c56]) ?_
  simp only [c56, L56, CC, argE]
  unfold strongM
  by_cases h2 : op = 2
  · subst h2; repeat' (first | exact True.intro | (refine PW.seqK ?_; intro K hK) | refine pwB ?_ | refine pwS ?_ | refine pwL ?_ | refine pwE ?_ | refine pwR ?_ | refine pwK ?_ | refine seqK_n ‹_› ?_ | refine seqK_r ‹_› ?_ | refine seqK_e ‹_› ?_ | refine PW.regionA ?_ | exact schedW_stop_i | refine schK_n ‹_› ?_ | (refine schedW_alt_k ?_ ?_; focus (intro K hK; simp only [SA, Nat.reduceAdd, reduceIte, Nat.reduceEqDiff, Nat.reduceBEq, reduceCtorEq]; (try go_unwrap; try simp only [RR, reduceCtorEq]))) | (refine PW.cond rfl ?_ ?_ <;> intro hcond <;> (try contradiction) <;> try simp only [DD] at hcond) | (refine gd_i ?_; intro hg; try simp only [hg]) | ((first | show (_ : Nat) ≤ _ | show (_ : Nat) < _ | show (_ : Int) ≤ _ | show (_ : Int) < _ | show (_ : Nat) = _ | show (_ : Int) = _ | show (_ : Bool) = _ | show _ ∨ _ | show ¬ _); first | omega | (simp only [DD, LL] <;> omega) | (go_unwrap; omega)) | ((first | refine PW.region ?_ | refine PW.regionQ ?_ | refine schedW_done_i ?_ | show (_ : Post) _ _ _ | show @Eq (List PV) _ _ | show @Eq Bool _ _ | show opsW _ _ _ _ _ _ _ _ | show okAll _ | show @Eq Bool _ _ ∨ _); focus (simp only [SA, Nat.reduceAdd, reduceIte, Nat.reduceEqDiff, Nat.reduceBEq, reduceCtorEq]; (try go_unwrap; try simp only [RR, reduceCtorEq]))) | refine And.intro ?_ ?_ | exact Or.inr ⟨rfl, Nat.le_refl _⟩ | exact (fun h => Bool.noConfusion h))
    all_goals simp
  by_cases h3 : op = 3
  · subst h3; repeat' (first | exact True.intro | (refine PW.seqK ?_; intro K hK) | refine pwB ?_ | refine pwS ?_ | refine pwL ?_ | refine pwE ?_ | refine pwR ?_ | refine pwK ?_ | refine seqK_n ‹_› ?_ | refine seqK_r ‹_› ?_ | refine seqK_e ‹_› ?_ | refine PW.regionA ?_ | exact schedW_stop_i | refine schK_n ‹_› ?_ | (refine schedW_alt_k ?_ ?_; focus (intro K hK; simp only [SA, Nat.reduceAdd, reduceIte, Nat.reduceEqDiff, Nat.reduceBEq, reduceCtorEq]; (try go_unwrap; try simp only [RR, reduceCtorEq]))) | (refine PW.cond rfl ?_ ?_ <;> intro hcond <;> (try contradiction) <;> try simp only [DD] at hcond) | (refine gd_i ?_; intro hg; try simp only [hg]) | ((first | show (_ : Nat) ≤ _ | show (_ : Nat) < _ | show (_ : Int) ≤ _ | show (_ : Int) < _ | show (_ : Nat) = _ | show (_ : Int) = _ | show (_ : Bool) = _ | show _ ∨ _ | show ¬ _); first | omega | (simp only [DD, LL] <;> omega) | (go_unwrap; omega)) | ((first | refine PW.region ?_ | refine PW.regionQ ?_ | refine schedW_done_i ?_ | show (_ : Post) _ _ _ | show @Eq (List PV) _ _ | show @Eq Bool _ _ | show opsW _ _ _ _ _ _ _ _ | show okAll _ | show @Eq Bool _ _ ∨ _); focus (simp only [SA, Nat.reduceAdd, reduceIte, Nat.reduceEqDiff, Nat.reduceBEq, reduceCtorEq]; (try go_unwrap; try simp only [RR, reduceCtorEq]))) | refine And.intro ?_ ?_ | exact Or.inr ⟨rfl, Nat.le_refl _⟩ | exact (fun h => Bool.noConfusion h))
    all_goals simp
  by_cases h4 : op = 4
  · subst h4; repeat' (first | exact True.intro | (refine PW.seqK ?_; intro K hK) | refine pwB ?_ | refine pwS ?_ | refine pwL ?_ | refine pwE ?_ | refine pwR ?_ | refine pwK ?_ | refine seqK_n ‹_› ?_ | refine seqK_r ‹_› ?_ | refine seqK_e ‹_› ?_ | refine PW.regionA ?_ | exact schedW_stop_i | refine schK_n ‹_› ?_ | (refine schedW_alt_k ?_ ?_; focus (intro K hK; simp only [SA, Nat.reduceAdd, reduceIte, Nat.reduceEqDiff, Nat.reduceBEq, reduceCtorEq]; (try go_unwrap; try simp only [RR, reduceCtorEq]))) | (refine PW.cond rfl ?_ ?_ <;> intro hcond <;> (try contradiction) <;> try simp only [DD] at hcond) | (refine gd_i ?_; intro hg; try simp only [hg]) | ((first | show (_ : Nat) ≤ _ | show (_ : Nat) < _ | show (_ : Int) ≤ _ | show (_ : Int) < _ | show (_ : Nat) = _ | show (_ : Int) = _ | show (_ : Bool) = _ | show _ ∨ _ | show ¬ _); first | omega | (simp only [DD, LL] <;> omega) | (go_unwrap; omega)) | ((first | refine PW.region ?_ | refine PW.regionQ ?_ | refine schedW_done_i ?_ | show (_ : Post) _ _ _ | show @Eq (List PV) _ _ | show @Eq Bool _ _ | show opsW _ _ _ _ _ _ _ _ | show okAll _ | show @Eq Bool _ _ ∨ _); focus (simp only [SA, Nat.reduceAdd, reduceIte, Nat.reduceEqDiff, Nat.reduceBEq, reduceCtorEq]; (try go_unwrap; try simp only [RR, reduceCtorEq]))) | refine And.intro ?_ ?_ | exact Or.inr ⟨rfl, Nat.le_refl _⟩ | exact (fun h => Bool.noConfusion h))
    all_goals simp
  repeat' (first | exact True.intro | (refine PW.seqK ?_; intro K hK) | refine pwB ?_ | refine pwS ?_ | refine pwL ?_ | refine pwE ?_ | refine pwR ?_ | refine pwK ?_ | refine seqK_n ‹_› ?_ | refine seqK_r ‹_› ?_ | refine seqK_e ‹_› ?_ | refine PW.regionA ?_ | exact schedW_stop_i | refine schK_n ‹_› ?_ | (refine schedW_alt_k ?_ ?_; focus (intro K hK; simp only [decide_eq_false h2, decide_eq_false h3, decide_eq_false h4, SA, Nat.reduceAdd, reduceIte, Nat.reduceEqDiff, Nat.reduceBEq, reduceCtorEq]; (try go_unwrap; try simp only [decide_eq_false h2, decide_eq_false h3, decide_eq_false h4, RR, reduceCtorEq]))) | (refine PW.cond rfl ?_ ?_ <;> intro hcond <;> (try contradiction) <;> try simp only [DD] at hcond) | (refine gd_i ?_; intro hg; try simp only [hg]) | ((first | show (_ : Nat) ≤ _ | show (_ : Nat) < _ | show (_ : Int) ≤ _ | show (_ : Int) < _ | show (_ : Nat) = _ | show (_ : Int) = _ | show (_ : Bool) = _ | show _ ∨ _ | show ¬ _); first | omega | (simp only [DD, LL] <;> omega) | (go_unwrap; omega)) | ((first | refine PW.region ?_ | refine PW.regionQ ?_ | refine schedW_done_i ?_ | show (_ : Post) _ _ _ | show @Eq (List PV) _ _ | show @Eq Bool _ _ | show opsW _ _ _ _ _ _ _ _ | show okAll _ | show @Eq Bool _ _ ∨ _); focus (simp only [decide_eq_false h2, decide_eq_false h3, decide_eq_false h4, SA, Nat.reduceAdd, reduceIte, Nat.reduceEqDiff, Nat.reduceBEq, reduceCtorEq]; (try go_unwrap; try simp only [decide_eq_false h2, decide_eq_false h3, decide_eq_false h4, RR, reduceCtorEq]))) | refine And.intro ?_ ?_ | exact Or.inr ⟨rfl, Nat.le_refl _⟩ | exact (fun h => Bool.noConfusion h))
  all_goals simp [h2, h3, h4]
theorem v86 (n : Nat) (hn : n ≤ 2000000000000000000) : VCalls Tryd.prog G 86 [.int .i64 n] (.str (digT n)) := by
  refine VCalls.of_PW Tryd.func86 k86 mix (by simp [c86]) ?_
  simp only [c86, L86, CC, argE]
  repeat' (first | exact True.intro | (refine PW.seqK ?_; intro K hK) | refine pwB ?_ | refine pwS ?_ | refine pwL ?_ | refine pwE ?_ | refine pwR ?_ | refine pwK ?_ | refine seqK_n ‹_› ?_ | refine seqK_r ‹_› ?_ | refine seqK_e ‹_› ?_ | refine PW.regionA ?_ | exact schedW_stop_i | refine schK_n ‹_› ?_ | (refine schedW_alt_k ?_ ?_; focus (intro K hK; simp only [SA, Nat.reduceAdd, reduceIte, Nat.reduceEqDiff, Nat.reduceBEq, reduceCtorEq]; (try go_unwrap; try simp only [RR, reduceCtorEq]))) | (refine PW.cond rfl ?_ ?_ <;> intro hcond <;> (try contradiction) <;> try simp only [DD] at hcond) | (refine gd_i ?_; intro hg; try simp only [hg]) | ((first | show (_ : Nat) ≤ _ | show (_ : Nat) < _ | show (_ : Int) ≤ _ | show (_ : Int) < _ | show (_ : Nat) = _ | show (_ : Int) = _ | show (_ : Bool) = _ | show _ ∨ _ | show ¬ _); first | omega | (simp only [DD, LL] <;> omega) | (go_unwrap; omega)) | ((first | refine PW.region ?_ | refine PW.regionQ ?_ | refine schedW_done_i ?_ | show (_ : Post) _ _ _ | show @Eq (List PV) _ _ | show @Eq Bool _ _ | show opsW _ _ _ _ _ _ _ _ | show okAll _ | show @Eq Bool _ _ ∨ _); focus (simp only [SA, Nat.reduceAdd, reduceIte, Nat.reduceEqDiff, Nat.reduceBEq, reduceCtorEq]; (try go_unwrap; try simp only [RR, reduceCtorEq]))) | refine And.intro ?_ ?_ | exact Or.inr ⟨rfl, Nat.le_refl _⟩ | exact (fun h => Bool.noConfusion h))
  refine PW.loop (σ := Nat × List UInt8) [0, 3] (fun q => [.int .i64 q.1, .str q.2]) (fun _ => []) (fun q => q.1 + q.2.length ≤ n ∧ digT n = digT q.1 ++ q.2) (fun q => q.1) (n, []) ?_ rfl ⟨by simp, by simp⟩ ?_
  · simp only [SA, Nat.reduceAdd, reduceIte, Nat.reduceEqDiff, Nat.reduceBEq, reduceCtorEq]; rfl
  rintro ⟨m, s⟩ ⟨hm, hd⟩
  simp only at hm hd
  simp only [List.zip_cons_cons, List.zip_nil_left]
  rcases Nat.lt_or_ge 9 m with h | h
  · have d1 : decide ((9 : Int) < m) = true := by simp only [decide_eq_true_eq]; omega
    have q1 : (m : Int).tmod 10 = ((m % 10 : Nat) : Int) := by rw [Int.tmod_eq_emod_of_nonneg (by omega)]; simp
    have q2 : (m : Int).tdiv 10 = ((m / 10 : Nat) : Int) := by rw [Int.tdiv_eq_ediv_of_nonneg (by omega)]; simp
    have hln : ([UInt8.ofNat (48 + m % 10)].length + s.length ≤ 9223372036854775807) := by simp; omega
    have w1 : IntKind.i32.wrap (48 + ((m % 10 : Nat) : Int)) = 48 + ((m % 10 : Nat) : Int) := IntWalk.i32_in _ (by omega)
    have w2 : IntKind.i64.wrap (48 + ((m % 10 : Nat) : Int)) = 48 + ((m % 10 : Nat) : Int) := IntWalk.i64_in _ (by omega)
    have w3 : IntKind.i64.wrap ((m % 10 : Nat) : Int) = ((m % 10 : Nat) : Int) := IntWalk.i64_in _ (by omega)
    have w4 : IntKind.i64.wrap ((m / 10 : Nat) : Int) = ((m / 10 : Nat) : Int) := IntWalk.i64_in _ (by omega)
    have hu : digT m = digT (m / 10) ++ [UInt8.ofNat (48 + m % 10)] := by rw [digT]; rw [if_neg (by omega)]
    rw [hu, List.append_assoc] at hd
    repeat' (first | exact True.intro | exact hln | (refine PW.seqK ?_; intro K hK) | refine pwB ?_ | refine pwS ?_ | refine pwL ?_ | refine pwE ?_ | refine pwR ?_ | refine pwK ?_ | refine seqK_n ‹_› ?_ | refine seqK_r ‹_› ?_ | refine seqK_e ‹_› ?_ | refine PW.regionA ?_ | exact schedW_stop_i | refine schK_n ‹_› ?_ | (refine schedW_alt_k ?_ ?_; focus (intro K hK; simp only [PV.bin, PV.binOk, binI, d1, q1, q2, w1, w2, w3, w4, chr_dig (show m % 10 ≤ 9 by omega), SA, Nat.reduceAdd, reduceIte, Nat.reduceEqDiff, Nat.reduceBEq, reduceCtorEq]; (try go_unwrap; try simp only [PV.bin, PV.binOk, binI, d1, q1, q2, w1, w2, w3, w4, chr_dig (show m % 10 ≤ 9 by omega), RR, reduceCtorEq]))) | (refine PW.cond rfl ?_ ?_ <;> intro hcond <;> (try contradiction) <;> try simp only [DD] at hcond) | (refine gd_i ?_; intro hg; try simp only [hg]) | ((first | show (_ : Nat) ≤ _ | show (_ : Nat) < _ | show (_ : Int) ≤ _ | show (_ : Int) < _ | show (_ : Nat) = _ | show (_ : Int) = _ | show (_ : Bool) = _ | show _ ∨ _ | show ¬ _); first | omega | (simp only [DD, LL] <;> omega) | (go_unwrap; omega)) | ((first | refine PW.region ?_ | refine PW.regionQ ?_ | refine schedW_done_i ?_ | show (_ : Post) _ _ _ | show @Eq (List PV) _ _ | show @Eq Bool _ _ | show opsW _ _ _ _ _ _ _ _ | show okAll _ | show @Eq Bool _ _ ∨ _); focus (simp only [PV.bin, PV.binOk, binI, d1, q1, q2, w1, w2, w3, w4, chr_dig (show m % 10 ≤ 9 by omega), SA, Nat.reduceAdd, reduceIte, Nat.reduceEqDiff, Nat.reduceBEq, reduceCtorEq]; (try go_unwrap; try simp only [PV.bin, PV.binOk, binI, d1, q1, q2, w1, w2, w3, w4, chr_dig (show m % 10 ≤ 9 by omega), RR, reduceCtorEq]))) | refine And.intro ?_ ?_ | exact Or.inr ⟨rfl, Nat.le_refl _⟩ | exact (fun h => Bool.noConfusion h))
    all_goals exact ⟨(m / 10, [UInt8.ofNat (48 + m % 10)] ++ s), rfl, ⟨by simp; omega, hd⟩, by simp only; omega⟩
  · have d1 : decide ((9 : Int) < m) = false := by simp only [decide_eq_false_iff_not]; omega
    have hln : ([UInt8.ofNat (48 + m)].length + s.length ≤ 9223372036854775807) := by simp; omega
    have w1 : IntKind.i32.wrap (48 + (m : Int)) = 48 + (m : Int) := IntWalk.i32_in _ (by omega)
    have w2 : IntKind.i64.wrap (48 + (m : Int)) = 48 + (m : Int) := IntWalk.i64_in _ (by omega)
    have hu : digT m = [UInt8.ofNat (48 + m)] := by rw [digT]; rw [if_pos h]
    rw [hu] at hd
    repeat' (first | exact True.intro | exact hln | (refine PW.seqK ?_; intro K hK) | refine pwB ?_ | refine pwS ?_ | refine pwL ?_ | refine pwE ?_ | refine pwR ?_ | refine pwK ?_ | refine seqK_n ‹_› ?_ | refine seqK_r ‹_› ?_ | refine seqK_e ‹_› ?_ | refine PW.regionA ?_ | exact schedW_stop_i | refine schK_n ‹_› ?_ | (refine schedW_alt_k ?_ ?_; focus (intro K hK; simp only [PV.bin, PV.binOk, binI, d1, w1, w2, chr_dig h, SA, Nat.reduceAdd, reduceIte, Nat.reduceEqDiff, Nat.reduceBEq, reduceCtorEq]; (try go_unwrap; try simp only [PV.bin, PV.binOk, binI, d1, w1, w2, chr_dig h, RR, reduceCtorEq]))) | (refine PW.cond rfl ?_ ?_ <;> intro hcond <;> (try contradiction) <;> try simp only [DD] at hcond) | (refine gd_i ?_; intro hg; try simp only [hg]) | ((first | show (_ : Nat) ≤ _ | show (_ : Nat) < _ | show (_ : Int) ≤ _ | show (_ : Int) < _ | show (_ : Nat) = _ | show (_ : Int) = _ | show (_ : Bool) = _ | show _ ∨ _ | show ¬ _); first | omega | (simp only [DD, LL] <;> omega) | (go_unwrap; omega)) | ((first | refine PW.region ?_ | refine PW.regionQ ?_ | refine schedW_done_i ?_ | show (_ : Post) _ _ _ | show @Eq (List PV) _ _ | show @Eq Bool _ _ | show opsW _ _ _ _ _ _ _ _ | show okAll _ | show @Eq Bool _ _ ∨ _); focus (simp only [PV.bin, PV.binOk, binI, d1, w1, w2, chr_dig h, SA, Nat.reduceAdd, reduceIte, Nat.reduceEqDiff, Nat.reduceBEq, reduceCtorEq]; (try go_unwrap; try simp only [PV.bin, PV.binOk, binI, d1, w1, w2, chr_dig h, RR, reduceCtorEq]))) | refine And.intro ?_ ?_ | exact Or.inr ⟨rfl, Nat.le_refl _⟩ | exact (fun h => Bool.noConfusion h))
    all_goals rw [hd]
end Go.Proofs.YthekpjhffciakaaDoor

namespace Go.Proofs.YthekpjhffciakaaDoor
open Go PG Go.Proofs
set_option linter.unusedSimpArgs false
set_option linter.unusedVariables false
set_option maxHeartbeats 4000000
set_option maxRecDepth 100000
variable {G : Globs}
def stripZ (l : List UInt8) : List UInt8 := (l.reverse.dropWhile (fun b => b == 48)).reverse
theorem stripZ_snoc (l : List UInt8) (b : UInt8) : stripZ (l ++ [b]) = if b = 48 then stripZ l else l ++ [b] := by
  unfold stripZ
  rw [List.reverse_append]
  by_cases h : b = 48
  · subst h; simp
  · rw [if_neg h]; simp [h]
def numT (n : Nat) : List UInt8 := if n % 1000000 / 100 = 0 then digT (n / 1000000) else (digT (n / 1000000) ++ [46]) ++ stripZ ((digT (10000 + n % 1000000 / 100)).drop 1)
theorem digT_len : ∀ (k n : Nat), n < 10 ^ (k + 1) → (digT n).length ≤ k + 1
  | 0, n, h => by rw [digT, if_pos (by omega)]; simp
  | k + 1, n, h => by
    rw [digT]
    split
    · simp
    · have := digT_len k (n / 10) (by rw [Nat.pow_succ] at h; omega)
      simp; omega
theorem dig5 (r : Nat) (h : r ≤ 9999) : digT (10000 + r) = [UInt8.ofNat (48 + 1), UInt8.ofNat (48 + r / 1000), UInt8.ofNat (48 + r / 100 % 10), UInt8.ofNat (48 + r / 10 % 10), UInt8.ofNat (48 + r % 10)] := by
  rw [digT, if_neg (by omega), digT, if_neg (by omega), digT, if_neg (by omega), digT, if_neg (by omega), digT, if_pos (by omega)]
  have e1 : (10000 + r) / 10 / 10 / 10 / 10 = 1 := by omega
  have e2 : (10000 + r) / 10 / 10 / 10 % 10 = r / 1000 := by omega
  have e3 : (10000 + r) / 10 / 10 % 10 = r / 100 % 10 := by omega
  have e4 : (10000 + r) / 10 % 10 = r / 10 % 10 := by omega
  have e5 : (10000 + r) % 10 = r % 10 := by omega
  rw [e1, e2, e3, e4, e5]
  rfl
theorem ofNat48 {d : Nat} (h : d ≤ 9) : (UInt8.ofNat (48 + d)).toNat = 48 + d := by
  simp [UInt8.toNat_ofNat]; omega
theorem v57 (n : Nat) (hn : n ≤ 1000000000000000000) : VCalls Tryd.prog G 57 [.int .i64 n] (.str (numT n)) := by
  refine VCalls.of_PW Tryd.func57 k57 mix (by simp [c57]) ?_
  simp only [c57, L57, CC, argE]
  have q1 : (n : Int).tdiv 1000000 = ((n / 1000000 : Nat) : Int) := by rw [Int.tdiv_eq_ediv_of_nonneg (by omega)]; simp
  have q2 : (n : Int).tmod 1000000 = ((n % 1000000 : Nat) : Int) := by rw [Int.tmod_eq_emod_of_nonneg (by omega)]; simp
  have q3 : ((n % 1000000 : Nat) : Int).tdiv 100 = ((n % 1000000 / 100 : Nat) : Int) := by rw [Int.tdiv_eq_ediv_of_nonneg (by omega)]; simp
  have h1 := v86 (G := G) (n / 1000000) (by omega)
  have h2 := v86 (G := G) (10000 + n % 1000000 / 100) (by omega)
  have hl1 := digT_len 18 (n / 1000000) (by have : (10 : Nat) ^ 19 = 10000000000000000000 := rfl; omega)
  have hr : n % 1000000 / 100 ≤ 9999 := by omega
  have h5 := dig5 _ hr
  unfold numT
  generalize n % 1000000 / 100 = r at *
  have w1 : IntKind.i64.wrap ((n / 1000000 : Nat) : Int) = ((n / 1000000 : Nat) : Int) := IntWalk.i64_in _ (by omega)
  have w2 : IntKind.i64.wrap ((n % 1000000 : Nat) : Int) = ((n % 1000000 : Nat) : Int) := IntWalk.i64_in _ (by omega)
  have w3 : IntKind.i64.wrap (r : Int) = (r : Int) := IntWalk.i64_in _ (by omega)
  have w4 : IntKind.i64.wrap (10000 + (r : Int)) = ((10000 + r : Nat) : Int) := by rw [IntWalk.i64_in _ (by omega)]; simp
  generalize digT (n / 1000000) = S at *
  by_cases hz : r = 0
  · have d1 : decide ((r : Int) = 0) = true := by simp only [decide_eq_true_eq]; omega
    repeat' (first | exact True.intro | (refine PW.seqK ?_; intro K hK) | refine pwB ?_ | refine pwS ?_ | refine pwL ?_ | refine pwE ?_ | refine pwR ?_ | refine pwK ?_ | refine seqK_n ‹_› ?_ | refine seqK_r ‹_› ?_ | refine seqK_e ‹_› ?_ | refine PW.regionA ?_ | exact schedW_stop_i | refine schK_n ‹_› ?_ | (refine schedW_alt_k ?_ ?_; focus (intro K hK; simp only [PV.bin, PV.binOk, binI, q1, q2, q3, w1, w2, w3, d1, SA, Nat.reduceAdd, reduceIte, Nat.reduceEqDiff, Nat.reduceBEq, reduceCtorEq]; (try go_unwrap; try simp only [PV.bin, PV.binOk, binI, q1, q2, q3, w1, w2, w3, d1, RR, reduceCtorEq]))) | (refine PW.cond rfl ?_ ?_ <;> intro hcond <;> (try contradiction) <;> try simp only [DD] at hcond) | (refine gd_i ?_; intro hg; try simp only [hg]) | refine goCall_W e86 (h1) ?_ ?_ ?_ ?_ | ((first | show (_ : Nat) ≤ _ | show (_ : Nat) < _ | show (_ : Int) ≤ _ | show (_ : Int) < _ | show (_ : Nat) = _ | show (_ : Int) = _ | show (_ : Bool) = _ | show _ ∨ _ | show ¬ _); first | omega | (simp only [DD, LL] <;> omega) | (go_unwrap; omega)) | ((first | refine PW.region ?_ | refine PW.regionQ ?_ | refine schedW_done_i ?_ | show (_ : Post) _ _ _ | show @Eq (List PV) _ _ | show @Eq Bool _ _ | show opsW _ _ _ _ _ _ _ _ | show okAll _ | show @Eq Bool _ _ ∨ _); focus (simp only [PV.bin, PV.binOk, binI, q1, q2, q3, w1, w2, w3, d1, SA, Nat.reduceAdd, reduceIte, Nat.reduceEqDiff, Nat.reduceBEq, reduceCtorEq]; (try go_unwrap; try simp only [PV.bin, PV.binOk, binI, q1, q2, q3, w1, w2, w3, d1, RR, reduceCtorEq]))) | refine And.intro ?_ ?_ | exact Or.inr ⟨rfl, Nat.le_refl _⟩ | exact (fun h => Bool.noConfusion h))
    all_goals rw [if_pos hz]
  · have d1 : decide ((r : Int) = 0) = false := by simp only [decide_eq_false_iff_not]; omega
    rw [if_neg hz]
    have hL : ((digT (10000 + r)).length : Nat) = 5 := by rw [h5]; rfl
    have hNZ : ∃ c ∈ (digT (10000 + r)).drop (Int.toNat 1), c ≠ 48 := by
      rw [h5]
      have key : ∀ d, d ≤ 9 → d ≠ 0 → UInt8.ofNat (48 + d) ≠ 48 := fun d hd hd0 e => by
        have := congrArg UInt8.toNat e
        rw [ofNat48 hd] at this
        have : (48 : UInt8).toNat = 48 := rfl
        omega
      by_cases c1 : r / 1000 = 0
      · by_cases c2 : r / 100 % 10 = 0
        · by_cases c3 : r / 10 % 10 = 0
          · exact ⟨_, by simp, key (r % 10) (by omega) (by omega)⟩
          · exact ⟨_, by simp, key (r / 10 % 10) (by omega) c3⟩
        · exact ⟨_, by simp, key (r / 100 % 10) (by omega) c2⟩
      · exact ⟨_, by simp, key (r / 1000) (by omega) c1⟩
    have hdr : (digT (10000 + r)).drop 1 = (digT (10000 + r)).drop (Int.toNat 1) := rfl
    rw [hdr]
    have hdl : ((digT (10000 + r)).drop (Int.toNat 1)).length ≤ 4 := by rw [List.length_drop, hL]; decide
    clear h5 hdr
    repeat' (first | exact True.intro | (refine PW.seqK ?_; intro K hK) | refine pwB ?_ | refine pwS ?_ | refine pwL ?_ | refine pwE ?_ | refine pwR ?_ | refine pwK ?_ | refine seqK_n ‹_› ?_ | refine seqK_r ‹_› ?_ | refine seqK_e ‹_› ?_ | refine PW.regionA ?_ | exact schedW_stop_i | refine schK_n ‹_› ?_ | (refine schedW_alt_k ?_ ?_; focus (intro K hK; simp only [PV.bin, PV.binOk, binI, q1, q2, q3, w1, w2, w3, w4, d1, hL, SA, Nat.reduceAdd, reduceIte, Nat.reduceEqDiff, Nat.reduceBEq, reduceCtorEq]; (try go_unwrap; try simp only [PV.bin, PV.binOk, binI, q1, q2, q3, w1, w2, w3, w4, d1, hL, RR, reduceCtorEq]))) | (refine PW.cond rfl ?_ ?_ <;> intro hcond <;> (try contradiction) <;> try simp only [DD] at hcond) | (apply goCall_V e86; (case hV => (simp only [PV.bin, PV.binOk, binI, q1, q2, q3, w1, w2, w3, w4, d1, hL, SA, Nat.reduceAdd, reduceIte, Nat.reduceEqDiff, Nat.reduceBEq, reduceCtorEq]; (try go_unwrap; try simp only [PV.bin, PV.binOk, binI, q1, q2, q3, w1, w2, w3, w4, d1, hL, RR, reduceCtorEq]); exact h1)); (try (case hs => rfl)); (try (case hf => first | exact Or.inl rfl | exact Or.inr ⟨rfl, rfl⟩ | (refine Or.inl ?_; simp only [PV.bin, PV.binOk, binI, q1, q2, q3, w1, w2, w3, w4, d1, hL, SA, Nat.reduceAdd, reduceIte, Nat.reduceEqDiff, Nat.reduceBEq, reduceCtorEq]; done) | (refine Or.inr ⟨rfl, ?_⟩; simp only [PV.bin, PV.binOk, binI, q1, q2, q3, w1, w2, w3, w4, d1, hL, SA, Nat.reduceAdd, reduceIte, Nat.reduceEqDiff, Nat.reduceBEq, reduceCtorEq]; done))); all_goals (first | (simp only [PV.bin, PV.binOk, binI, q1, q2, q3, w1, w2, w3, w4, d1, hL, SA, Nat.reduceAdd, reduceIte, Nat.reduceEqDiff, Nat.reduceBEq, reduceCtorEq]; (try go_unwrap; try simp only [PV.bin, PV.binOk, binI, q1, q2, q3, w1, w2, w3, w4, d1, hL, RR, reduceCtorEq])) | (show Env; skip) | (show Mem; skip))) | (apply goCall_V e86; (case hV => (simp only [PV.bin, PV.binOk, binI, q1, q2, q3, w1, w2, w3, w4, d1, hL, SA, Nat.reduceAdd, reduceIte, Nat.reduceEqDiff, Nat.reduceBEq, reduceCtorEq]; (try go_unwrap; try simp only [PV.bin, PV.binOk, binI, q1, q2, q3, w1, w2, w3, w4, d1, hL, RR, reduceCtorEq]); exact h2)); (try (case hs => rfl)); (try (case hf => first | exact Or.inl rfl | exact Or.inr ⟨rfl, rfl⟩ | (refine Or.inl ?_; simp only [PV.bin, PV.binOk, binI, q1, q2, q3, w1, w2, w3, w4, d1, hL, SA, Nat.reduceAdd, reduceIte, Nat.reduceEqDiff, Nat.reduceBEq, reduceCtorEq]; done) | (refine Or.inr ⟨rfl, ?_⟩; simp only [PV.bin, PV.binOk, binI, q1, q2, q3, w1, w2, w3, w4, d1, hL, SA, Nat.reduceAdd, reduceIte, Nat.reduceEqDiff, Nat.reduceBEq, reduceCtorEq]; done))); all_goals (first | (simp only [PV.bin, PV.binOk, binI, q1, q2, q3, w1, w2, w3, w4, d1, hL, SA, Nat.reduceAdd, reduceIte, Nat.reduceEqDiff, Nat.reduceBEq, reduceCtorEq]; (try go_unwrap; try simp only [PV.bin, PV.binOk, binI, q1, q2, q3, w1, w2, w3, w4, d1, hL, RR, reduceCtorEq])) | (show Env; skip) | (show Mem; skip))) | (refine gd_i ?_; intro hg; try simp only [hg]) | ((first | show (_ : Nat) ≤ _ | show (_ : Nat) < _ | show (_ : Int) ≤ _ | show (_ : Int) < _ | show (_ : Nat) = _ | show (_ : Int) = _ | show (_ : Bool) = _ | show _ ∨ _ | show ¬ _); first | omega | (simp only [DD, LL] <;> omega) | (go_unwrap; omega)) | ((first | refine PW.region ?_ | refine PW.regionQ ?_ | refine schedW_done_i ?_ | show (_ : Post) _ _ _ | show @Eq (List PV) _ _ | show @Eq Bool _ _ | show opsW _ _ _ _ _ _ _ _ | show okAll _ | show @Eq Bool _ _ ∨ _); focus (simp only [PV.bin, PV.binOk, binI, q1, q2, q3, w1, w2, w3, w4, d1, hL, SA, Nat.reduceAdd, reduceIte, Nat.reduceEqDiff, Nat.reduceBEq, reduceCtorEq]; (try go_unwrap; try simp only [PV.bin, PV.binOk, binI, q1, q2, q3, w1, w2, w3, w4, d1, hL, RR, reduceCtorEq]))) | refine And.intro ?_ ?_ | exact Or.inr ⟨rfl, Nat.le_refl _⟩ | exact (fun h => Bool.noConfusion h))
    generalize (digT (10000 + r)).drop (Int.toNat 1) = b0 at *
    refine PW.loop (σ := List UInt8) [3, 5] (fun b => [.str S, .str b]) (fun _ => []) (fun b => stripZ b0 = stripZ b ∧ (∃ c ∈ b, c ≠ 48) ∧ b.length ≤ 4) (fun b => b.length) b0 ?_ rfl ⟨rfl, hNZ, hdl⟩ ?_
    · simp only [SA, Nat.reduceAdd, reduceIte, Nat.reduceEqDiff, Nat.reduceBEq, reduceCtorEq]; rfl
    rintro b ⟨hb1, hb2, hb3⟩
    simp only [List.zip_cons_cons, List.zip_nil_left]
    rcases List.eq_nil_or_concat b with rfl | ⟨b', c, rfl⟩
    · obtain ⟨c, hc, -⟩ := hb2; simp at hc
    rw [List.concat_eq_append] at *
    have hlen : ((b' ++ [c]).length : Nat) = b'.length + 1 := by simp
    have hg : (b' ++ [c]).getD b'.length 0 = c := by simp [List.getD]
    have hti : (((b'.length + 1 : Nat) : Int) - 1).toNat = b'.length := by omega
    have htk : (b' ++ [c]).take b'.length = b' := by simp
    rw [stripZ_snoc] at hb1
    by_cases h48 : c = 48
    · subst h48
      rw [if_pos rfl] at hb1
      have d2 : decide (((48 : UInt8).toNat : Int) = 48) = true := rfl
      repeat' (first | exact True.intro | (refine PW.seqK ?_; intro K hK) | refine pwB ?_ | refine pwS ?_ | refine pwL ?_ | refine pwE ?_ | refine pwR ?_ | refine pwK ?_ | refine seqK_n ‹_› ?_ | refine seqK_r ‹_› ?_ | refine seqK_e ‹_› ?_ | refine PW.regionA ?_ | exact schedW_stop_i | refine schK_n ‹_› ?_ | (refine schedW_alt_k ?_ ?_; focus (intro K hK; simp only [PV.bin, PV.binOk, binI, hlen, hti, hg, htk, d2, SA, Nat.reduceAdd, reduceIte, Nat.reduceEqDiff, Nat.reduceBEq, reduceCtorEq]; (try go_unwrap; try simp only [PV.bin, PV.binOk, binI, hlen, hti, hg, htk, d2, RR, reduceCtorEq]))) | (refine PW.cond rfl ?_ ?_ <;> intro hcond <;> (try contradiction) <;> try simp only [DD] at hcond) | (refine gd_i ?_; intro hg; try simp only [hg]) | ((first | show (_ : Nat) ≤ _ | show (_ : Nat) < _ | show (_ : Int) ≤ _ | show (_ : Int) < _ | show (_ : Nat) = _ | show (_ : Int) = _ | show (_ : Bool) = _ | show _ ∨ _ | show ¬ _); first | omega | (simp only [DD, LL] <;> omega) | (go_unwrap; omega)) | ((first | refine PW.region ?_ | refine PW.regionQ ?_ | refine schedW_done_i ?_ | show (_ : Post) _ _ _ | show @Eq (List PV) _ _ | show @Eq Bool _ _ | show opsW _ _ _ _ _ _ _ _ | show okAll _ | show @Eq Bool _ _ ∨ _); focus (simp only [PV.bin, PV.binOk, binI, hlen, hti, hg, htk, d2, SA, Nat.reduceAdd, reduceIte, Nat.reduceEqDiff, Nat.reduceBEq, reduceCtorEq]; (try go_unwrap; try simp only [PV.bin, PV.binOk, binI, hlen, hti, hg, htk, d2, RR, reduceCtorEq]))) | refine And.intro ?_ ?_ | exact Or.inr ⟨rfl, Nat.le_refl _⟩ | exact (fun h => Bool.noConfusion h))
      all_goals first | exact ⟨b', rfl, ⟨hb1, by
        obtain ⟨x, hx, hx2⟩ := hb2
        rcases List.mem_append.1 hx with hx | hx
        · exact ⟨x, hx, hx2⟩
        · simp at hx; exact absurd hx hx2, by simp at hb3; omega⟩, by simp⟩ | omega
    · rw [if_neg h48] at hb1
      have d2 : decide ((c.toNat : Int) = 48) = false := by
        rw [decide_eq_false_iff_not]; exact fun h => h48 (UInt8.toNat_inj.1 (Int.ofNat.inj h))
      have hl2 : (b' ++ [c]).length ≤ 4 := hb3
      repeat' (first | exact True.intro | (refine PW.seqK ?_; intro K hK) | refine pwB ?_ | refine pwS ?_ | refine pwL ?_ | refine pwE ?_ | refine pwR ?_ | refine pwK ?_ | refine seqK_n ‹_› ?_ | refine seqK_r ‹_› ?_ | refine seqK_e ‹_› ?_ | refine PW.regionA ?_ | exact schedW_stop_i | refine schK_n ‹_› ?_ | (refine schedW_alt_k ?_ ?_; focus (intro K hK; simp only [PV.bin, PV.binOk, binI, hlen, hti, hg, htk, d2, SA, Nat.reduceAdd, reduceIte, Nat.reduceEqDiff, Nat.reduceBEq, reduceCtorEq]; (try go_unwrap; try simp only [PV.bin, PV.binOk, binI, hlen, hti, hg, htk, d2, RR, reduceCtorEq]))) | (refine PW.cond rfl ?_ ?_ <;> intro hcond <;> (try contradiction) <;> try simp only [DD] at hcond) | (refine gd_i ?_; intro hg; try simp only [hg]) | ((first | show (_ : Nat) ≤ _ | show (_ : Nat) < _ | show (_ : Int) ≤ _ | show (_ : Int) < _ | show (_ : Nat) = _ | show (_ : Int) = _ | show (_ : Bool) = _ | show _ ∨ _ | show ¬ _); first | omega | (simp only [DD, LL] <;> omega) | (go_unwrap; omega)) | ((first | refine PW.region ?_ | refine PW.regionQ ?_ | refine schedW_done_i ?_ | show (_ : Post) _ _ _ | show @Eq (List PV) _ _ | show @Eq Bool _ _ | show opsW _ _ _ _ _ _ _ _ | show okAll _ | show @Eq Bool _ _ ∨ _); focus (simp only [PV.bin, PV.binOk, binI, hlen, hti, hg, htk, d2, SA, Nat.reduceAdd, reduceIte, Nat.reduceEqDiff, Nat.reduceBEq, reduceCtorEq]; (try go_unwrap; try simp only [PV.bin, PV.binOk, binI, hlen, hti, hg, htk, d2, RR, reduceCtorEq]))) | refine And.intro ?_ ?_ | exact Or.inr ⟨rfl, Nat.le_refl _⟩ | exact (fun h => Bool.noConfusion h))
      all_goals first | (rw [hb1]; done) | (simp at hb3 ⊢; omega)
end Go.Proofs.YthekpjhffciakaaDoor

namespace Go.Proofs.YthekpjhffciakaaDoor
open PG Go.Proofs
-- (wagebook/expr.Tree).Text$1
def L55d : List Nat := [0, 1, 2, 3, 6, 7, 8, 9, 10, 11, 24, 31, 37, 43, 44, 45, 46, 51, 82]
def c55d : CF := ⟨87,
  .seq (.region false [⟨some 6, none, .rd .mov [.pv (.str [])]⟩] L55d)
  (.seq (.region false [oF 0 12 2,
     oL 13 12,
     oM 14 0,
     ⟨some 15, none, .rd (.idxAddr (some 4)) [.tmp 13, .tmp 14]⟩,
     ⟨some 16, none, .rd (.load (some 4)) [.tmp 15]⟩,
     ⟨some 7, none, .eff (.alloc (some 4) (.agg [(.int .i64 0), (.int .i64 0), (.str []), .nilSl])) []⟩,
     ⟨none, none, .eff (.store (some 4)) [.tmp 7, .tmp 16]⟩] L55d)
  (.seq (.region false [oF 0 17 7,
     oL 18 17,
     ⟨some 19, none, .call (.pv (.fn 56 [] [])) [.tmp 18]⟩,
     oM 8 19] L55d)
  (.seq (.region false [oF 0 20 7,
     oL 21 20,
     ⟨some 22, none, .rd (.idxAddrA 10 none) [.glob 0, .tmp 21]⟩,
     oL 23 22,
     oM 9 23] L55d)
  (.seq (.block 0
    (.seq (.region false [oF 0 25 7,
        oL 26 25,
        ⟨some 27, none, .rd (.bin .eql) [.tmp 26, .pv (.int .i64 0)]⟩,
        oM 24 27] L55d)
     (.cond (.tmp 24)
      (.seq (.region false [oF 1 28 7,
          oL 29 28,
          ⟨some 30, none, .call (.pv (.fn 57 [] [])) [.tmp 29]⟩,
          oM 6 30] L55d)
       (.ret))
      (.seq (.region false [oF 0 32 7,
          oL 33 32,
          ⟨some 34, none, .rd (.bin .eql) [.tmp 33, .pv (.int .i64 1)]⟩,
          oM 31 34] L55d)
       (.cond (.tmp 31)
        (.seq (.region false [oF 2 35 7,
            oL 36 35,
            oM 6 36] L55d)
         (.ret))
        (.seq (.region false [oM 38 8,
            ⟨some 39, none, .rd (.bin .eql) [.tmp 38, .pv (.int .i64 3)]⟩,
            oM 37 39] L55d)
         (.cond (.tmp 37)
          (.seq (.region false [oM 40 9,
              ⟨some 41, none, .rd (.bin .add) [.tmp 40, .pv (.str [40])]⟩,
              oM 9 41] L55d)
           (.seq (.seq (.region false [oF 3 42 7,
               oL 43 42,
               ⟨some 44, none, .rd .lenL [.tmp 43]⟩,
               ⟨some 45, none, .rd .mov [.pv (.int .i64 0)]⟩] L55d)
            (.block 1
             (.loop
               (.seq (.region false [⟨some 46, none, .rd (.bin .lss) [.tmp 45, .tmp 44]⟩] L55d)
                (.seq (.cond (.tmp 46)
                  (.skip)
                  (.exit 1))
                (.seq (.block 2
                  (.seq (.region false [oM 47 45,
                      ⟨some 48, none, .rd (.idxAddr none) [.tmp 43, .tmp 45]⟩,
                      oL 49 48,
                      oM 10 47,
                      oM 11 49] L55d)
                   (.seq (.seq (.region false [oM 50 10,
                       ⟨some 51, none, .rd (.bin .gtr) [.tmp 50, .pv (.int .i64 0)]⟩] L55d)
                    (.cond (.tmp 51)
                     (.region false [oM 52 9,
                        ⟨some 53, none, .rd (.bin .add) [.tmp 52, .pv (.str [44])]⟩,
                        oM 9 53] L55d)
                     (.skip)))
                   (.region false [oM 54 9,
                     oL 55 3,
                     oM 56 11,
                     ⟨some 57, none, .call (.tmp 55) [.tmp 56, .pv (.int .i64 0)]⟩,
                     ⟨some 58, none, .rd (.bin .add) [.tmp 54, .tmp 57]⟩,
                     oM 9 58] L55d))))
                (.region false [⟨some 59, none, .rd (.bin .add) [.tmp 45, .pv (.int .i64 1)]⟩,
                  oM 45 59] L55d)))))))
           (.seq (.region false [oM 60 9,
              ⟨some 61, none, .rd (.bin .add) [.tmp 60, .pv (.str [41])]⟩,
              oM 6 61] L55d)
           (.ret))))
          (.skip))))))))
  (.seq (.regionA (.alt [oF 3 63 7,
      ⟨some 64, none, .rd .loadC [.tmp 63]⟩,
      ⟨some 65, none, .rd (.idxAddr none) [.tmp 64, .pv (.int .i64 0)]⟩,
      ⟨some 66, none, .rd .loadC [.tmp 65]⟩,
      oM 67 8,
      oM 69 9,
      oF 3 72 7,
      ⟨some 73, none, .rd .loadC [.tmp 72]⟩,
      ⟨some 74, none, .rd (.idxAddr none) [.tmp 73, .pv (.int .i64 1)]⟩,
      ⟨some 75, none, .rd .loadC [.tmp 74]⟩,
      oM 76 8,
      ⟨some 77, none, .rd (.bin .add) [.tmp 76, .pv (.int .i64 1)]⟩]
     (.alt [oL 62 3]
      (.alt [⟨some 68, none, .call (.tmp 62) [.tmp 66, .tmp 67]⟩,
        ⟨some 70, none, .rd (.bin .add) [.tmp 68, .tmp 69]⟩,
        oL 71 3,
        ⟨some 78, none, .call (.tmp 71) [.tmp 75, .tmp 77]⟩,
        ⟨some 79, none, .rd (.bin .add) [.tmp 70, .tmp 78]⟩,
        oM 9 79]
       .done
       (.alt [oL 71 3,
         ⟨some 68, none, .call (.tmp 62) [.tmp 66, .tmp 67]⟩,
         ⟨some 70, none, .rd (.bin .add) [.tmp 68, .tmp 69]⟩,
         ⟨some 78, none, .call (.tmp 71) [.tmp 75, .tmp 77]⟩,
         ⟨some 79, none, .rd (.bin .add) [.tmp 70, .tmp 78]⟩,
         oM 9 79]
        .done
        .stop))
      (.alt [oL 71 3,
        oL 62 3,
        ⟨some 68, none, .call (.tmp 62) [.tmp 66, .tmp 67]⟩,
        ⟨some 70, none, .rd (.bin .add) [.tmp 68, .tmp 69]⟩,
        ⟨some 78, none, .call (.tmp 71) [.tmp 75, .tmp 77]⟩,
        ⟨some 79, none, .rd (.bin .add) [.tmp 70, .tmp 78]⟩,
        oM 9 79]
       .done
       .stop))
     .stop) L55d)
  (.seq (.seq (.region false [oM 80 8,
      oM 81 1,
      ⟨some 82, none, .rd (.bin .lss) [.tmp 80, .tmp 81]⟩] L55d)
   (.cond (.tmp 82)
    (.seq (.region false [oM 83 9,
        ⟨some 84, none, .rd (.bin .add) [.pv (.str [40]), .tmp 83]⟩,
        ⟨some 85, none, .rd (.bin .add) [.tmp 84, .pv (.str [41])]⟩,
        oM 6 85] L55d)
     (.ret))
    (.skip)))
  (.seq (.region false [oM 86 9,
     oM 6 86] L55d)
  (.ret)))))))),
  [.tmp 6]⟩
theorem k55d : compileF Tryd.prog [999999, 888888, 100062, 100071] L55d Tryd.f55 = some c55d := by kernel_rfl
end Go.Proofs.YthekpjhffciakaaDoor

