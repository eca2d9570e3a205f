import Derived.Test.YthekpjhffciakaaDoorQ10
import Derived.Test.YthekpjhffciakaaDoorQ7
import Derived.Test.YthekpjhffciakaaDoorQ11
import Derived.Test.YthekpjhffciakaaDoorP4
namespace Go.Proofs.YthekpjhffciakaaDoor
open Go PG Go.Proofs
set_option linter.unusedSimpArgs false
set_option linter.unusedVariables false
set_option maxHeartbeats 4000000
set_option maxRecDepth 100000
/-! The program's reader: its leaves -/
def wordsP : PV := .agg [.str [], .str [], .str [43], .str [45], .str [42], .str [108, 101, 97, 115, 116], .str [109, 111, 115, 116], .str [105, 102], .str [108, 101, 115, 115], .str [101, 113, 117, 97, 108]]
abbrev G0 : Globs := fun g => if g = 0 then some (some 10, wordsP) else if g = 1 then some (some 10, kidsTabP) else none
theorem e40 : Ent Tryd.prog 40 := ⟨Tryd.f40, Tryd.func40, by kernel_rfl, by kernel_rfl⟩
theorem e41 : Ent Tryd.prog 41 := ⟨Tryd.f41, Tryd.func41, by kernel_rfl, by kernel_rfl⟩
theorem e71 : Ent Tryd.prog 71 := ⟨Tryd.f71, Tryd.func71, by kernel_rfl, by kernel_rfl⟩
theorem e72 : Ent Tryd.prog 72 := ⟨Tryd.f72, Tryd.func72, by kernel_rfl, by kernel_rfl⟩
theorem e73 : Ent Tryd.prog 73 := ⟨Tryd.f73, Tryd.func73, by kernel_rfl, by kernel_rfl⟩
theorem e98 : Ent Tryd.prog 98 := ⟨Tryd.f98, Tryd.func98, by kernel_rfl, by kernel_rfl⟩
theorem e99 : Ent Tryd.prog 99 := ⟨Tryd.f99, Tryd.func99, by kernel_rfl, by kernel_rfl⟩
theorem e100 : Ent Tryd.prog 100 := ⟨Tryd.f100, Tryd.func100, by kernel_rfl, by kernel_rfl⟩
theorem e126 : Ent Tryd.prog 126 := ⟨Tryd.f126, Tryd.func126, by kernel_rfl, by kernel_rfl⟩
abbrev tksP (l : List Tok) : PV := .list (some 3) (l.map tokP)
def rdP (l : List Tok) (s : PS) : MObj := .var (some 4) (.agg [tksP l, .sl (some 4) 1 s.out.length, .int .i64 s.at_, .int .i64 s.e])
def rowO (s : PS) : MObj := .row (some 4) (s.out.map ndP)
/-- A reading, as a contract: the reader and its nodes, and whatever stands behind. -/
def RdC (l : List Tok) (f : Nat) (as_ : List PV) (ν : Mem) (s : PS) (r : Int × PS) : Prop :=
  PCalls Tryd.prog G0 f as_ (some (rdP l s) :: some (rowO s) :: ν) (killTag 1) (fun p μ' => p = .int .i64 r.1 ∧ μ' = some (rdP l r.2) :: some (rowO r.2) :: ν)
theorem RdC.frame {l : List Tok} {f : Nat} {as_ : List PV} {s : PS} {r : Int × PS} (h : RdC l f as_ [] s r) (ν : Mem) (hν : ν.map (Option.map (MObj.kill (killTag 1))) = ν) (ha : as_.map (PV.kill fun t => decide (2 ≤ t)) = as_) : RdC l f as_ ν s r := by
  have := PCalls.frame h ν (by rintro p μ' ⟨-, rfl⟩; rfl) ha (by simp [rdP, rowO, MObj.kill, PV.kill]) hν
  intro w κ vs hS hG hr
  refine (this w κ vs hS hG hr).mono ?_
  rintro e w' ⟨v, p, μ', κ', rfl, ⟨μ1, ⟨rfl, rfl⟩, rfl⟩, hS', hv, hg⟩
  exact ⟨v, _, _, κ', rfl, ⟨rfl, rfl⟩, hS', hv, hg⟩
theorem tk_get (l : List Tok) (j : Nat) (h : j < l.length) : (l.map tokP).getD j .junk = .agg [.int .i64 (tkAt l j).1, .str (tkAt l j).2.1, .int .i64 (tkAt l j).2.2] := by
  simp [List.getD, tkAt, h, tokP]
theorem tks_len (l : List Tok) : ((l.map tokP).length : Nat) = l.length := by simp
theorem nd_len (l : List Nd) : ((l.map ndP).length : Nat) = l.length := by simp
theorem q1 (a b c d : PV) (sh : Sh) (t n : Nat) : putPart (some 4) none (.agg [a, b, c, d]) 1 (.sl sh t n) = .agg [a, .sl sh t n, c, d] := rfl
theorem q2 (a b c d : PV) (k : IntKind) (v : Int) : putPart (some 4) none (.agg [a, b, c, d]) 2 (.int k v) = .agg [a, b, .int k v, d] := rfl
theorem q3 (a b c d : PV) (k : IntKind) (v : Int) : putPart (some 4) none (.agg [a, b, c, d]) 3 (.int k v) = .agg [a, b, c, .int k v] := rfl
theorem v98 (l : List Tok) (s : PS) (x : List UInt8) (hlt : s.at_ < l.length) (hl : l.length ≤ 100000) :
    VCalls Tryd.prog G0 98 [.cptr (some 4) (.agg [tksP l, .list (some 4) (s.out.map ndP), .int .i64 s.at_, .int .i64 s.e]) 0, .str x] (.bool (sgn l s x)) := by
  refine VCalls.of_PW Tryd.func98 k98 mix (by simp [c98]) ?_
  simp only [c98, L98, CC, argE]
  have hg := tk_get l s.at_ hlt
  have hlen := tks_len l
  have hk : decide (((tkAt l s.at_).1 : Int) = 3) = decide ((tkAt l s.at_).1 = 3) := by rw [Bool.eq_iff_iff, decide_eq_true_eq, decide_eq_true_eq]; omega
  repeat' (first | exact True.intro | (refine PW.seqK ?_; intro K hK) | refine pwB ?_ | refine pwS ?_ | refine pwL ?_ | refine pwE ?_ | refine pwR ?_ | refine pwK ?_ | refine seqK_n ‹_› ?_ | refine seqK_r ‹_› ?_ | refine seqK_e ‹_› ?_ | refine PW.regionA ?_ | exact schedW_stop_i | refine schK_n ‹_› ?_ | (refine schedW_alt_k ?_ ?_; focus (intro K hK; simp only [hg, hlen, SA, Nat.reduceAdd, reduceIte, Nat.reduceEqDiff, Nat.reduceBEq, reduceCtorEq]; (try go_unwrap; try simp only [hg, hlen, RR, reduceCtorEq]))) | (refine PW.cond rfl ?_ ?_ <;> intro hcond <;> (try contradiction) <;> try simp only [DD] at hcond) | (refine gd_i ?_; intro hg; try simp only [hg]) | ((first | show (_ : Nat) ≤ _ | show (_ : Nat) < _ | show (_ : Int) ≤ _ | show (_ : Int) < _ | show (_ : Nat) = _ | show (_ : Int) = _ | show (_ : Bool) = _ | show _ ∨ _ | show ¬ _); first | omega | (simp only [DD, LL] <;> omega) | (go_unwrap; omega)) | ((first | refine PW.region ?_ | refine PW.regionQ ?_ | refine schedW_done_i ?_ | show (_ : Post) _ _ _ | show @Eq (List PV) _ _ | show @Eq Bool _ _ | show opsW _ _ _ _ _ _ _ _ | show okAll _ | show @Eq Bool _ _ ∨ _); focus (simp only [hg, hlen, SA, Nat.reduceAdd, reduceIte, Nat.reduceEqDiff, Nat.reduceBEq, reduceCtorEq]; (try go_unwrap; try simp only [hg, hlen, RR, reduceCtorEq]))) | refine And.intro ?_ ?_ | exact Or.inr ⟨rfl, Nat.le_refl _⟩ | exact (fun h => Bool.noConfusion h))
  simp only [sgn, hk]
theorem v41 (l : List Tok) (s : PS) (e : Int) : RdC l 41 [.ref 0 0, .int .i64 e] [] s (failP s e) := by
  refine PCalls.moves (mv := fun t => t == 1 || decide (2 ≤ t)) (fun t ht h => ?_) ?_
  · simp only [List.length_cons, List.length_nil] at ht
    simp only [Bool.or_eq_true, beq_iff_eq, decide_eq_true_eq] at h
    simp only [killTag, beq_iff_eq]; omega
  refine PCalls.of_PW Tryd.func41 k41 mix (by simp [c41]) ?_
  simp only [c41, L41, CC, argE, rdP, rowO]
  repeat' (first | exact True.intro | (refine PW.seqK ?_; intro K hK) | refine pwB ?_ | refine pwS ?_ | refine pwL ?_ | refine pwE ?_ | refine pwR ?_ | refine pwK ?_ | refine seqK_n ‹_› ?_ | refine seqK_r ‹_› ?_ | refine seqK_e ‹_› ?_ | refine PW.regionA ?_ | exact schedW_stop_i | refine schK_n ‹_› ?_ | (refine schedW_alt_k ?_ ?_; focus (intro K hK; simp only [q3, SA, Nat.reduceAdd, reduceIte, Nat.reduceEqDiff, Nat.reduceBEq, reduceCtorEq]; (try go_unwrap; try simp only [q3, RR, reduceCtorEq]))) | (refine PW.cond rfl ?_ ?_ <;> intro hcond <;> (try contradiction) <;> try simp only [DD] at hcond) | (refine gd_i ?_; intro hg; try simp only [hg]) | ((first | show (_ : Nat) ≤ _ | show (_ : Nat) < _ | show (_ : Int) ≤ _ | show (_ : Int) < _ | show (_ : Nat) = _ | show (_ : Int) = _ | show (_ : Bool) = _ | show _ ∨ _ | show ¬ _); first | omega | (simp only [DD, LL] <;> omega) | (go_unwrap; omega)) | ((first | refine PW.region ?_ | refine PW.regionQ ?_ | refine schedW_done_i ?_ | show (_ : Post) _ _ _ | show @Eq (List PV) _ _ | show @Eq Bool _ _ | show opsW _ _ _ _ _ _ _ _ | show okAll _ | show @Eq Bool _ _ ∨ _); focus (simp only [q3, SA, Nat.reduceAdd, reduceIte, Nat.reduceEqDiff, Nat.reduceBEq, reduceCtorEq]; (try go_unwrap; try simp only [q3, RR, reduceCtorEq]))) | refine And.intro ?_ ?_ | exact Or.inr ⟨rfl, Nat.le_refl _⟩ | exact (fun h => Bool.noConfusion h))
  · rfl
  · simp only [failP, if_pos hcond]
  · rfl
  · simp only [failP, if_neg hcond]
theorem v99 (l : List Tok) (s : PS) (n : Nd) (hs : s.out.length ≤ 100000) : RdC l 99 [.ref 0 0, ndP n] [] s (putP s n) := by
  refine PCalls.moves (mv := fun t => t == 1 || decide (2 ≤ t)) (fun t ht h => ?_) ?_
  · simp only [List.length_cons, List.length_nil] at ht
    simp only [Bool.or_eq_true, beq_iff_eq, decide_eq_true_eq] at h
    simp only [killTag, beq_iff_eq]; omega
  refine PCalls.of_PW Tryd.func99 k99 mix (by simp [c99]) ?_
  simp only [c99, L99, CC, argE, rdP, rowO]
  have hlen := nd_len s.out
  have htk : (s.out.map ndP).take s.out.length = s.out.map ndP := List.take_of_length_le (by simp)
  have b1 : (s.out.length + 1) * 56 ≤ 140737488355328 := by omega
  rw [ndP1]
  repeat' (first | exact True.intro | (refine PW.seqA (E := ?_) (M := ?_) ?_ ?_; rotate_left 2) | exact mergeQ_mk _ _ | (exact Or.inr ⟨rfl, by decide⟩) | (refine PW.stop (x := .ret) ?_) | (refine PW.seqK ?_; intro K hK) | refine pwB ?_ | refine pwS ?_ | refine pwL ?_ | refine pwE ?_ | refine pwR ?_ | refine pwK ?_ | refine seqK_n ‹_› ?_ | refine seqK_r ‹_› ?_ | refine seqK_e ‹_› ?_ | refine PW.regionA ?_ | exact schedW_stop_i | refine schK_n ‹_› ?_ | (refine schedW_alt_k ?_ ?_; focus (intro K hK; simp only [hlen, htk, q1, List.length_cons, List.length_nil, Nat.zero_add, SA, Nat.reduceAdd, reduceIte, Nat.reduceEqDiff, Nat.reduceBEq, reduceCtorEq]; (try go_unwrap; try simp only [hlen, htk, q1, List.length_cons, List.length_nil, Nat.zero_add, RR, reduceCtorEq]))) | (refine PW.cond rfl ?_ ?_ <;> intro hcond <;> (try contradiction) <;> try simp only [DD] at hcond) | (refine gd_i ?_; intro hg; try simp only [hg]) | ((first | show (_ : Nat) ≤ _ | show (_ : Nat) < _ | show (_ : Int) ≤ _ | show (_ : Int) < _ | show (_ : Nat) = _ | show (_ : Int) = _ | show (_ : Bool) = _ | show _ ∨ _ | show ¬ _); first | omega | (simp only [DD, LL] <;> omega) | (go_unwrap; omega)) | ((first | refine PW.region ?_ | refine PW.regionQ ?_ | refine schedW_done_i ?_ | show (_ : Post) _ _ _ | show @Eq (List PV) _ _ | show @Eq Bool _ _ | show opsW _ _ _ _ _ _ _ _ | show okAll _ | show @Eq Bool _ _ ∨ _); focus (simp only [hlen, htk, q1, List.length_cons, List.length_nil, Nat.zero_add, SA, Nat.reduceAdd, reduceIte, Nat.reduceEqDiff, Nat.reduceBEq, reduceCtorEq]; (try go_unwrap; try simp only [hlen, htk, q1, List.length_cons, List.length_nil, Nat.zero_add, RR, reduceCtorEq]))) | refine And.intro ?_ ?_ | exact Or.inr ⟨rfl, Nat.le_refl _⟩ | exact (fun h => Bool.noConfusion h))
  refine ⟨?_⟩
  refine PW.trim 2 (fun t h => by simp [h]) ?_
  simp only [trimE, trimM, List.take_succ_cons, List.take_zero, List.map_cons, List.map_nil, Option.map_some, Option.map_none, MObj.kill, PV.kill, Nat.reduceLeDiff, decide_true, decide_false, dec_true, dec_false, Bool.false_eq_true, if_false, if_true, reduceIte]
  repeat' (first | exact True.intro | (refine PW.seqK ?_; intro K hK) | refine pwB ?_ | refine pwS ?_ | refine pwL ?_ | refine pwE ?_ | refine pwR ?_ | refine pwK ?_ | refine seqK_n ‹_› ?_ | refine seqK_r ‹_› ?_ | refine seqK_e ‹_› ?_ | refine PW.regionA ?_ | exact schedW_stop_i | refine schK_n ‹_› ?_ | (refine schedW_alt_k ?_ ?_; focus (intro K hK; simp only [SA, Nat.reduceAdd, reduceIte, Nat.reduceEqDiff, Nat.reduceBEq, reduceCtorEq]; (try go_unwrap; try simp only [RR, reduceCtorEq]))) | (refine PW.cond rfl ?_ ?_ <;> intro hcond <;> (try contradiction) <;> try simp only [DD] at hcond) | (refine gd_i ?_; intro hg; try simp only [hg]) | ((first | show (_ : Nat) ≤ _ | show (_ : Nat) < _ | show (_ : Int) ≤ _ | show (_ : Int) < _ | show (_ : Nat) = _ | show (_ : Int) = _ | show (_ : Bool) = _ | show _ ∨ _ | show ¬ _); first | omega | (simp only [DD, LL] <;> omega) | (go_unwrap; omega)) | ((first | refine PW.region ?_ | refine PW.regionQ ?_ | refine schedW_done_i ?_ | show (_ : Post) _ _ _ | show @Eq (List PV) _ _ | show @Eq Bool _ _ | show opsW _ _ _ _ _ _ _ _ | show okAll _ | show @Eq Bool _ _ ∨ _); focus (simp only [SA, Nat.reduceAdd, reduceIte, Nat.reduceEqDiff, Nat.reduceBEq, reduceCtorEq]; (try go_unwrap; try simp only [RR, reduceCtorEq]))) | refine And.intro ?_ ?_ | exact Or.inr ⟨rfl, Nat.le_refl _⟩ | exact (fun h => Bool.noConfusion h))
  · simp [putP]
  · simp [putP, ndP, ndC, kidsP]
end Go.Proofs.YthekpjhffciakaaDoor

namespace Go.Proofs.YthekpjhffciakaaDoor
open Go PG Go.Proofs
set_option linter.unusedSimpArgs false
set_option linter.unusedVariables false
set_option maxHeartbeats 4000000
set_option maxRecDepth 100000
theorem cw2 : cut (some 10) none wordsP (0 + Int.toNat 2 * 1) = .str [43] := rfl
theorem cw3 : cut (some 10) none wordsP (0 + Int.toNat 3 * 1) = .str [45] := rfl
theorem cw4 : cut (some 10) none wordsP (0 + Int.toNat 4 * 1) = .str [42] := rfl
theorem gW : G0 0 = some (some 10, wordsP) := rfl
theorem v72A (l : List Tok) (hl : l.length ≤ 100000) (f : Nat) (first caps : List PV) (hE : Ent Tryd.prog f) (part : PS → Int × PS) (m : Nat) (ν : Mem) (hν : ν.map (Option.map (MObj.kill (killTag 1))) = ν)
    (hpart : ∀ s, Inv l s → l.length - s.at_ ≤ m → RdC l f (first ++ [] ++ caps) ν s (part s)) (hgood : GoodF l part m) (hno : (PV.fn f first caps).kill (killTag 1) = .fn f first caps) (s0 : PS) (hI : Inv l s0) (hm : l.length - s0.at_ ≤ m) :
    RdC l 72 [.ref 0 0, .fn f first caps, .list none [.int .i64 2, .int .i64 3]] ν s0 (rowP l part opsA s0) := by
  refine PCalls.of_PW Tryd.func72 k72 mix (by simp [c72]) ?_
  simp only [c72, L72, CC, argE]
  have hp := hpart s0 hI hm
  have hg0 := hgood s0 hI hm
  have h0 := hI.end0
  have hr := rowL_good (ops := opsA) hgood h0 s0 hI.le hm
  unfold rowP
  have hkk : ∃ k, l.length - (part s0).2.at_ ≤ k ∧ rowL l part opsA (l.length - (part s0).2.at_) (part s0).1 (part s0).2 = rowL l part opsA k (part s0).1 (part s0).2 := ⟨_, Nat.le_refl _, rfl⟩
  generalize rowL l part opsA (l.length - (part s0).2.at_) (part s0).1 (part s0).2 = R at hkk
  generalize part s0 = r0 at hp hg0 hkk
  obtain ⟨n0, s1⟩ := r0
  repeat' (first | exact True.intro | (refine PW.seqK ?_; intro K hK) | refine pwB ?_ | refine pwS ?_ | refine pwL ?_ | refine pwE ?_ | refine pwR ?_ | refine pwK ?_ | refine seqK_n ‹_› ?_ | refine seqK_r ‹_› ?_ | refine seqK_e ‹_› ?_ | refine PW.regionA ?_ | exact schedW_stop_i | refine schK_n ‹_› ?_ | (refine schedW_alt_k ?_ ?_; focus (intro K hK; simp only [SA, Nat.reduceAdd, reduceIte, Nat.reduceEqDiff, Nat.reduceBEq, reduceCtorEq]; (try go_unwrap; try simp only [RR, reduceCtorEq]))) | (refine PW.cond rfl ?_ ?_ <;> intro hcond <;> (try contradiction) <;> try simp only [DD] at hcond) | (refine goCall_K 1 hE hp rfl ?_; rintro p μ' ⟨rfl, rfl⟩; simp only [hno, SA, Nat.reduceAdd, reduceIte, Nat.reduceEqDiff, Nat.reduceBEq, reduceCtorEq]) | (refine gd_i ?_; intro hg; try simp only [hg]) | ((first | show (_ : Nat) ≤ _ | show (_ : Nat) < _ | show (_ : Int) ≤ _ | show (_ : Int) < _ | show (_ : Nat) = _ | show (_ : Int) = _ | show (_ : Bool) = _ | show _ ∨ _ | show ¬ _); first | omega | (simp only [DD, LL] <;> omega) | (go_unwrap; omega)) | ((first | refine PW.region ?_ | refine PW.regionQ ?_ | refine schedW_done_i ?_ | show (_ : Post) _ _ _ | show @Eq (List PV) _ _ | show @Eq Bool _ _ | show opsW _ _ _ _ _ _ _ _ | show okAll _ | show @Eq Bool _ _ ∨ _); focus (simp only [SA, Nat.reduceAdd, reduceIte, Nat.reduceEqDiff, Nat.reduceBEq, reduceCtorEq]; (try go_unwrap; try simp only [RR, reduceCtorEq]))) | refine And.intro ?_ ?_ | exact Or.inr ⟨rfl, Nat.le_refl _⟩ | exact (fun h => Bool.noConfusion h))
  refine PW.loop (σ := Int × PS) [0, 1, 2, 7] (fun q => [.ref 0 0, .fn f first caps, .list none [.int .i64 2, .int .i64 3], .int .i64 q.1]) (fun q => some (rdP l q.2) :: some (rowO q.2) :: ν)
    (fun q => Good l s0 q ∧ ∃ k, l.length - q.2.at_ ≤ k ∧ R = rowL l part opsA k q.1 q.2) (fun q => l.length - q.2.at_) (n0, s1) ?_ rfl ⟨hg0, hkk⟩ ?_
  · simp only [SA, Nat.reduceAdd, reduceIte, Nat.reduceEqDiff, Nat.reduceBEq, reduceCtorEq]; rfl
  clear hp hkk hg0
  rintro ⟨n, s⟩ ⟨hg, k, hk, hR⟩
  simp only at hk hR
  simp only [List.zip_cons_cons, List.zip_nil_left]
  simp only [rdP, rowO]
  by_cases he : s.e = 0
  case neg =>
    have d1 : decide (s.e = 0) = false := by simp only [decide_eq_false_iff_not]; exact he
    have hRR : R = (n, s) := by rw [hR]; cases k <;> simp [rowL, he]
    subst hRR
    repeat' (first | exact True.intro | (refine PW.seqK ?_; intro K hK) | refine pwB ?_ | refine pwS ?_ | refine pwL ?_ | refine pwE ?_ | refine pwR ?_ | refine pwK ?_ | refine seqK_n ‹_› ?_ | refine seqK_r ‹_› ?_ | refine seqK_e ‹_› ?_ | refine PW.regionA ?_ | exact schedW_stop_i | refine schK_n ‹_› ?_ | (refine schedW_alt_k ?_ ?_; focus (intro K hK; simp only [d1, SA, Nat.reduceAdd, reduceIte, Nat.reduceEqDiff, Nat.reduceBEq, reduceCtorEq]; (try go_unwrap; try simp only [d1, RR, reduceCtorEq]))) | (refine PW.cond rfl ?_ ?_ <;> intro hcond <;> (try contradiction) <;> try simp only [DD] at hcond) | (refine gd_i ?_; intro hg; try simp only [hg]) | ((first | show (_ : Nat) ≤ _ | show (_ : Nat) < _ | show (_ : Int) ≤ _ | show (_ : Int) < _ | show (_ : Nat) = _ | show (_ : Int) = _ | show (_ : Bool) = _ | show _ ∨ _ | show ¬ _); first | omega | (simp only [DD, LL] <;> omega) | (go_unwrap; omega)) | ((first | refine PW.region ?_ | refine PW.regionQ ?_ | refine schedW_done_i ?_ | show (_ : Post) _ _ _ | show @Eq (List PV) _ _ | show @Eq Bool _ _ | show opsW _ _ _ _ _ _ _ _ | show okAll _ | show @Eq Bool _ _ ∨ _); focus (simp only [d1, SA, Nat.reduceAdd, reduceIte, Nat.reduceEqDiff, Nat.reduceBEq, reduceCtorEq]; (try go_unwrap; try simp only [d1, RR, reduceCtorEq]))) | refine And.intro ?_ ?_ | exact Or.inr ⟨rfl, Nat.le_refl _⟩ | exact (fun h => Bool.noConfusion h))
    all_goals rfl
  have d1 : decide (s.e = 0) = true := by simp only [decide_eq_true_eq]; exact he
  have hg' := hg
  obtain ⟨hlt, hle, hout, hn0, hn1, hgo, -⟩ := hg
  simp only at hlt hle hout hn0 hn1 hgo
  have htk : (s.out.map ndP).take s.out.length = s.out.map ndP := List.take_of_length_le (by simp)
  have hadv : s.at_ + 1 < l.length → Inv l (adv s 1) := fun h => ⟨by simpa [adv] using h, by have := hI.le; simp [adv]; omega, he, h0⟩
  obtain ⟨k', rfl⟩ : ∃ k', k = k' + 1 := ⟨k - 1, by omega⟩
  have wa : IntKind.i64.wrap ((s.at_ : Int) + 1) = ((s.at_ + 1 : Nat) : Int) := by rw [IntWalk.i64_in _ (by omega)]; simp
  repeat' (first | exact True.intro | (refine PW.seqK ?_; intro K hK) | refine pwB ?_ | refine pwS ?_ | refine pwL ?_ | refine pwE ?_ | refine pwR ?_ | refine pwK ?_ | refine seqK_n ‹_› ?_ | refine seqK_r ‹_› ?_ | refine seqK_e ‹_› ?_ | refine PW.regionA ?_ | exact schedW_stop_i | refine schK_n ‹_› ?_ | (refine schedW_alt_k ?_ ?_; focus (intro K hK; simp only [d1, SA, Nat.reduceAdd, reduceIte, Nat.reduceEqDiff, Nat.reduceBEq, reduceCtorEq]; (try go_unwrap; try simp only [d1, RR, reduceCtorEq]))) | (refine PW.cond rfl ?_ ?_ <;> intro hcond <;> (try contradiction) <;> try simp only [DD] at hcond) | (refine gd_i ?_; intro hg; try simp only [hg]) | ((first | show (_ : Nat) ≤ _ | show (_ : Nat) < _ | show (_ : Int) ≤ _ | show (_ : Int) < _ | show (_ : Nat) = _ | show (_ : Int) = _ | show (_ : Bool) = _ | show _ ∨ _ | show ¬ _); first | omega | (simp only [DD, LL] <;> omega) | (go_unwrap; omega)) | ((first | refine PW.region ?_ | refine PW.regionQ ?_ | refine schedW_done_i ?_ | show (_ : Post) _ _ _ | show @Eq (List PV) _ _ | show @Eq Bool _ _ | show opsW _ _ _ _ _ _ _ _ | show okAll _ | show @Eq Bool _ _ ∨ _); focus (simp only [d1, SA, Nat.reduceAdd, reduceIte, Nat.reduceEqDiff, Nat.reduceBEq, reduceCtorEq]; (try go_unwrap; try simp only [d1, RR, reduceCtorEq]))) | refine And.intro ?_ ?_ | exact Or.inr ⟨rfl, Nat.le_refl _⟩ | exact (fun h => Bool.noConfusion h))
  refine PW.loop (σ := Nat) [0, 1, 2, 7, 17, 18, 19] (fun j => [.ref 0 0, .fn f first caps, .list none [.int .i64 2, .int .i64 3], .int .i64 n, .list none [.int .i64 2, .int .i64 3], .int .i64 2, .int .i64 j]) (fun _ => some (rdP l s) :: some (rowO s) :: ν)
    (fun j => j ≤ 2 ∧ (0 < j → sgn l s [43] = false) ∧ (1 < j → sgn l s [45] = false)) (fun j => 2 - j) 0 ?_ rfl ⟨by omega, by omega, by omega⟩ ?_
  · simp only [SA, Nat.reduceAdd, reduceIte, Nat.reduceEqDiff, Nat.reduceBEq, reduceCtorEq]; rfl
  rintro j ⟨hj, hsn⟩
  simp only [List.zip_cons_cons, List.zip_nil_left]
  simp only [rdP, rowO]
  rcases j with _ | _ | j
  · have hv := v98 l s [43] hlt hl
    by_cases hs : sgn l s [43] = true
    · rw [hs] at hv
      have h1 := sgn_lt h0 hlt hs
      have hIa := hadv h1
      have hpa := hpart (adv s 1) hIa (by simp [adv]; omega)
      have hga := hgood (adv s 1) hIa (by simp [adv]; omega)
      have hRn : R = rowL l part opsA k' (putP (part (adv s 1)).2 ⟨2, 0, [], [n, (part (adv s 1)).1]⟩).1 (putP (part (adv s 1)).2 ⟨2, 0, [], [n, (part (adv s 1)).1]⟩).2 := by
        rw [hR]; simp [rowL, he, opsA, hs]
      have hle2 : s.at_ + 1 ≤ (part (adv s 1)).2.at_ := hga.le
      have hoo : (part (adv s 1)).2.out.length + (s.at_ + 1) ≤ s.out.length + (part (adv s 1)).2.at_ := hga.out
      generalize part (adv s 1) = r at hpa hga hRn hle2 hoo
      obtain ⟨rn, rs⟩ := r
      simp only at hRn hle2 hoo
      have hga2 := hga.lt
      simp only at hga2
      have hgood2 : Good l s0 (putP rs ⟨2, 0, [], [n, rn]⟩) := good_put (s := s0) hga.lt (by omega) (by omega) hI.le hga.er
      have hpt := (v99 l rs ⟨2, 0, [], [n, rn]⟩ (by have := hI.le; omega)).frame ν hν (by simp [PV.kill, ndP, ndC, kidsP])
      simp only [ndP, ndC, kidsP, List.map_cons, List.map_nil] at hpt
      simp only [RdC, rdP, rowO, adv] at hpa hpt
      repeat' (first | exact True.intro | (exact Or.inr (by decide)) | (exact Or.inr ⟨rfl, by decide⟩) | (refine PW.seqK ?_; intro K hK) | refine pwB ?_ | refine pwS ?_ | refine pwL ?_ | refine pwE ?_ | refine pwR ?_ | refine pwK ?_ | refine seqK_n ‹_› ?_ | refine seqK_r ‹_› ?_ | refine seqK_e ‹_› ?_ | refine PW.regionA ?_ | exact schedW_stop_i | refine schK_n ‹_› ?_ | (refine schedW_alt_k ?_ ?_; focus (intro K hK; simp only [gW, evalO, cw2, cw3, cw4, q2, wa, List.length_cons, List.length_nil, SA, Nat.reduceAdd, reduceIte, Nat.reduceEqDiff, Nat.reduceBEq, reduceCtorEq]; (try go_unwrap; try simp only [gW, evalO, cw2, cw3, cw4, q2, wa, List.length_cons, List.length_nil, RR, reduceCtorEq]))) | (refine PW.cond rfl ?_ ?_ <;> intro hcond <;> (try contradiction) <;> try simp only [DD] at hcond) | (refine goCall_K 1 hE hpa rfl ?_; rintro p μ' ⟨rfl, rfl⟩; simp only [hno, gW, evalO, cw2, cw3, cw4, q2, wa, List.length_cons, List.length_nil, SA, Nat.reduceAdd, reduceIte, Nat.reduceEqDiff, Nat.reduceBEq, reduceCtorEq]) | (refine goCall_K 1 e99 hpt rfl ?_; rintro p μ' ⟨rfl, rfl⟩; simp only [hno, gW, evalO, cw2, cw3, cw4, q2, wa, List.length_cons, List.length_nil, SA, Nat.reduceAdd, reduceIte, Nat.reduceEqDiff, Nat.reduceBEq, reduceCtorEq]) | (refine gd_i ?_; intro hg; try simp only [hg]) | refine goCall_L 1 e98 hv (by simp [PV.lend, PV.view, Mem.get, htk]) (by simp [PV.lends, PV.lend, PV.view, PV.seen, fitB, PV.scalar, Mem.get, Sh.size, htk]) (by simp [PV.flat]) ?_ | ((first | show (_ : Nat) ≤ _ | show (_ : Nat) < _ | show (_ : Int) ≤ _ | show (_ : Int) < _ | show (_ : Nat) = _ | show (_ : Int) = _ | show (_ : Bool) = _ | show _ ∨ _ | show ¬ _); first | omega | (simp only [DD, LL] <;> omega) | (go_unwrap; omega)) | ((first | refine PW.region ?_ | refine PW.regionQ ?_ | refine schedW_done_i ?_ | show (_ : Post) _ _ _ | show @Eq (List PV) _ _ | show @Eq Bool _ _ | show opsW _ _ _ _ _ _ _ _ | show okAll _ | show @Eq Bool _ _ ∨ _); focus (simp only [gW, evalO, cw2, cw3, cw4, q2, wa, List.length_cons, List.length_nil, SA, Nat.reduceAdd, reduceIte, Nat.reduceEqDiff, Nat.reduceBEq, reduceCtorEq]; (try go_unwrap; try simp only [gW, evalO, cw2, cw3, cw4, q2, wa, List.length_cons, List.length_nil, RR, reduceCtorEq]))) | refine And.intro ?_ ?_ | exact Or.inr ⟨rfl, Nat.le_refl _⟩ | exact (fun h => Bool.noConfusion h))
      all_goals exact ⟨putP rs ⟨2, 0, [], [n, rn]⟩, rfl, rfl, ⟨hgood2, k', by simp [putP]; omega, hRn⟩, by simp [putP]; omega⟩
    · have hs' : sgn l s [43] = false := by simpa using hs
      rw [hs'] at hv
      repeat' (first | exact True.intro | (exact Or.inr (by decide)) | (refine PW.seqK ?_; intro K hK) | refine pwB ?_ | refine pwS ?_ | refine pwL ?_ | refine pwE ?_ | refine pwR ?_ | refine pwK ?_ | refine seqK_n ‹_› ?_ | refine seqK_r ‹_› ?_ | refine seqK_e ‹_› ?_ | refine PW.regionA ?_ | exact schedW_stop_i | refine schK_n ‹_› ?_ | (refine schedW_alt_k ?_ ?_; focus (intro K hK; simp only [gW, evalO, cw2, cw3, cw4, List.length_cons, List.length_nil, SA, Nat.reduceAdd, reduceIte, Nat.reduceEqDiff, Nat.reduceBEq, reduceCtorEq]; (try go_unwrap; try simp only [gW, evalO, cw2, cw3, cw4, List.length_cons, List.length_nil, RR, reduceCtorEq]))) | (refine PW.cond rfl ?_ ?_ <;> intro hcond <;> (try contradiction) <;> try simp only [DD] at hcond) | (refine gd_i ?_; intro hg; try simp only [hg]) | refine goCall_L 1 e98 hv (by simp [PV.lend, PV.view, Mem.get, htk]) (by simp [PV.lends, PV.lend, PV.view, PV.seen, fitB, PV.scalar, Mem.get, Sh.size, htk]) (by simp [PV.flat]) ?_ | ((first | show (_ : Nat) ≤ _ | show (_ : Nat) < _ | show (_ : Int) ≤ _ | show (_ : Int) < _ | show (_ : Nat) = _ | show (_ : Int) = _ | show (_ : Bool) = _ | show _ ∨ _ | show ¬ _); first | omega | (simp only [DD, LL] <;> omega) | (go_unwrap; omega)) | ((first | refine PW.region ?_ | refine PW.regionQ ?_ | refine schedW_done_i ?_ | show (_ : Post) _ _ _ | show @Eq (List PV) _ _ | show @Eq Bool _ _ | show opsW _ _ _ _ _ _ _ _ | show okAll _ | show @Eq Bool _ _ ∨ _); focus (simp only [gW, evalO, cw2, cw3, cw4, List.length_cons, List.length_nil, SA, Nat.reduceAdd, reduceIte, Nat.reduceEqDiff, Nat.reduceBEq, reduceCtorEq]; (try go_unwrap; try simp only [gW, evalO, cw2, cw3, cw4, List.length_cons, List.length_nil, RR, reduceCtorEq]))) | refine And.intro ?_ ?_ | exact Or.inr ⟨rfl, Nat.le_refl _⟩ | exact (fun h => Bool.noConfusion h))
      all_goals exact ⟨1, rfl, ⟨by omega, fun _ => hs', fun h => absurd h (by omega)⟩, by omega⟩
  · have n0 : sgn l s [43] = false := hsn.1 (by omega)
    have hv := v98 l s [45] hlt hl
    by_cases hs : sgn l s [45] = true
    · rw [hs] at hv
      have h1 := sgn_lt h0 hlt hs
      have hIa := hadv h1
      have hpa := hpart (adv s 1) hIa (by simp [adv]; omega)
      have hga := hgood (adv s 1) hIa (by simp [adv]; omega)
      have hRn : R = rowL l part opsA k' (putP (part (adv s 1)).2 ⟨3, 0, [], [n, (part (adv s 1)).1]⟩).1 (putP (part (adv s 1)).2 ⟨3, 0, [], [n, (part (adv s 1)).1]⟩).2 := by
        rw [hR]; simp [rowL, he, opsA, hs, n0]
      have hle2 : s.at_ + 1 ≤ (part (adv s 1)).2.at_ := hga.le
      have hoo : (part (adv s 1)).2.out.length + (s.at_ + 1) ≤ s.out.length + (part (adv s 1)).2.at_ := hga.out
      generalize part (adv s 1) = r at hpa hga hRn hle2 hoo
      obtain ⟨rn, rs⟩ := r
      simp only at hRn hle2 hoo
      have hga2 := hga.lt
      simp only at hga2
      have hgood2 : Good l s0 (putP rs ⟨3, 0, [], [n, rn]⟩) := good_put (s := s0) hga.lt (by omega) (by omega) hI.le hga.er
      have hpt := (v99 l rs ⟨3, 0, [], [n, rn]⟩ (by have := hI.le; omega)).frame ν hν (by simp [PV.kill, ndP, ndC, kidsP])
      simp only [ndP, ndC, kidsP, List.map_cons, List.map_nil] at hpt
      simp only [RdC, rdP, rowO, adv] at hpa hpt
      repeat' (first | exact True.intro | (exact Or.inr (by decide)) | (exact Or.inr ⟨rfl, by decide⟩) | (refine PW.seqK ?_; intro K hK) | refine pwB ?_ | refine pwS ?_ | refine pwL ?_ | refine pwE ?_ | refine pwR ?_ | refine pwK ?_ | refine seqK_n ‹_› ?_ | refine seqK_r ‹_› ?_ | refine seqK_e ‹_› ?_ | refine PW.regionA ?_ | exact schedW_stop_i | refine schK_n ‹_› ?_ | (refine schedW_alt_k ?_ ?_; focus (intro K hK; simp only [gW, evalO, cw2, cw3, cw4, q2, wa, List.length_cons, List.length_nil, SA, Nat.reduceAdd, reduceIte, Nat.reduceEqDiff, Nat.reduceBEq, reduceCtorEq]; (try go_unwrap; try simp only [gW, evalO, cw2, cw3, cw4, q2, wa, List.length_cons, List.length_nil, RR, reduceCtorEq]))) | (refine PW.cond rfl ?_ ?_ <;> intro hcond <;> (try contradiction) <;> try simp only [DD] at hcond) | (refine goCall_K 1 hE hpa rfl ?_; rintro p μ' ⟨rfl, rfl⟩; simp only [hno, gW, evalO, cw2, cw3, cw4, q2, wa, List.length_cons, List.length_nil, SA, Nat.reduceAdd, reduceIte, Nat.reduceEqDiff, Nat.reduceBEq, reduceCtorEq]) | (refine goCall_K 1 e99 hpt rfl ?_; rintro p μ' ⟨rfl, rfl⟩; simp only [hno, gW, evalO, cw2, cw3, cw4, q2, wa, List.length_cons, List.length_nil, SA, Nat.reduceAdd, reduceIte, Nat.reduceEqDiff, Nat.reduceBEq, reduceCtorEq]) | (refine gd_i ?_; intro hg; try simp only [hg]) | refine goCall_L 1 e98 hv (by simp [PV.lend, PV.view, Mem.get, htk]) (by simp [PV.lends, PV.lend, PV.view, PV.seen, fitB, PV.scalar, Mem.get, Sh.size, htk]) (by simp [PV.flat]) ?_ | ((first | show (_ : Nat) ≤ _ | show (_ : Nat) < _ | show (_ : Int) ≤ _ | show (_ : Int) < _ | show (_ : Nat) = _ | show (_ : Int) = _ | show (_ : Bool) = _ | show _ ∨ _ | show ¬ _); first | omega | (simp only [DD, LL] <;> omega) | (go_unwrap; omega)) | ((first | refine PW.region ?_ | refine PW.regionQ ?_ | refine schedW_done_i ?_ | show (_ : Post) _ _ _ | show @Eq (List PV) _ _ | show @Eq Bool _ _ | show opsW _ _ _ _ _ _ _ _ | show okAll _ | show @Eq Bool _ _ ∨ _); focus (simp only [gW, evalO, cw2, cw3, cw4, q2, wa, List.length_cons, List.length_nil, SA, Nat.reduceAdd, reduceIte, Nat.reduceEqDiff, Nat.reduceBEq, reduceCtorEq]; (try go_unwrap; try simp only [gW, evalO, cw2, cw3, cw4, q2, wa, List.length_cons, List.length_nil, RR, reduceCtorEq]))) | refine And.intro ?_ ?_ | exact Or.inr ⟨rfl, Nat.le_refl _⟩ | exact (fun h => Bool.noConfusion h))
      all_goals exact ⟨putP rs ⟨3, 0, [], [n, rn]⟩, rfl, rfl, ⟨hgood2, k', by simp [putP]; omega, hRn⟩, by simp [putP]; omega⟩
    · have hs' : sgn l s [45] = false := by simpa using hs
      rw [hs'] at hv
      repeat' (first | exact True.intro | (exact Or.inr (by decide)) | (refine PW.seqK ?_; intro K hK) | refine pwB ?_ | refine pwS ?_ | refine pwL ?_ | refine pwE ?_ | refine pwR ?_ | refine pwK ?_ | refine seqK_n ‹_› ?_ | refine seqK_r ‹_› ?_ | refine seqK_e ‹_› ?_ | refine PW.regionA ?_ | exact schedW_stop_i | refine schK_n ‹_› ?_ | (refine schedW_alt_k ?_ ?_; focus (intro K hK; simp only [gW, evalO, cw2, cw3, cw4, List.length_cons, List.length_nil, SA, Nat.reduceAdd, reduceIte, Nat.reduceEqDiff, Nat.reduceBEq, reduceCtorEq]; (try go_unwrap; try simp only [gW, evalO, cw2, cw3, cw4, List.length_cons, List.length_nil, RR, reduceCtorEq]))) | (refine PW.cond rfl ?_ ?_ <;> intro hcond <;> (try contradiction) <;> try simp only [DD] at hcond) | (refine gd_i ?_; intro hg; try simp only [hg]) | refine goCall_L 1 e98 hv (by simp [PV.lend, PV.view, Mem.get, htk]) (by simp [PV.lends, PV.lend, PV.view, PV.seen, fitB, PV.scalar, Mem.get, Sh.size, htk]) (by simp [PV.flat]) ?_ | ((first | show (_ : Nat) ≤ _ | show (_ : Nat) < _ | show (_ : Int) ≤ _ | show (_ : Int) < _ | show (_ : Nat) = _ | show (_ : Int) = _ | show (_ : Bool) = _ | show _ ∨ _ | show ¬ _); first | omega | (simp only [DD, LL] <;> omega) | (go_unwrap; omega)) | ((first | refine PW.region ?_ | refine PW.regionQ ?_ | refine schedW_done_i ?_ | show (_ : Post) _ _ _ | show @Eq (List PV) _ _ | show @Eq Bool _ _ | show opsW _ _ _ _ _ _ _ _ | show okAll _ | show @Eq Bool _ _ ∨ _); focus (simp only [gW, evalO, cw2, cw3, cw4, List.length_cons, List.length_nil, SA, Nat.reduceAdd, reduceIte, Nat.reduceEqDiff, Nat.reduceBEq, reduceCtorEq]; (try go_unwrap; try simp only [gW, evalO, cw2, cw3, cw4, List.length_cons, List.length_nil, RR, reduceCtorEq]))) | refine And.intro ?_ ?_ | exact Or.inr ⟨rfl, Nat.le_refl _⟩ | exact (fun h => Bool.noConfusion h))
      all_goals exact ⟨2, rfl, ⟨by omega, fun _ => n0, fun _ => hs'⟩, by omega⟩
  · have hj0 : j = 0 := by omega
    subst hj0
    have n0 : sgn l s [43] = false := hsn.1 (by omega)
    have n1 : sgn l s [45] = false := hsn.2 (by omega)
    have hRR : R = (n, s) := by rw [hR]; simp [rowL, he, opsA, n0, n1]
    subst hRR
    repeat' (first | exact True.intro | (refine PW.seqK ?_; intro K hK) | refine pwB ?_ | refine pwS ?_ | refine pwL ?_ | refine pwE ?_ | refine pwR ?_ | refine pwK ?_ | refine seqK_n ‹_› ?_ | refine seqK_r ‹_› ?_ | refine seqK_e ‹_› ?_ | refine PW.regionA ?_ | exact schedW_stop_i | refine schK_n ‹_› ?_ | (refine schedW_alt_k ?_ ?_; focus (intro K hK; simp only [List.length_cons, List.length_nil, SA, Nat.reduceAdd, reduceIte, Nat.reduceEqDiff, Nat.reduceBEq, reduceCtorEq]; (try go_unwrap; try simp only [List.length_cons, List.length_nil, RR, reduceCtorEq]))) | (refine PW.cond rfl ?_ ?_ <;> intro hcond <;> (try contradiction) <;> try simp only [DD] at hcond) | (refine gd_i ?_; intro hg; try simp only [hg]) | ((first | show (_ : Nat) ≤ _ | show (_ : Nat) < _ | show (_ : Int) ≤ _ | show (_ : Int) < _ | show (_ : Nat) = _ | show (_ : Int) = _ | show (_ : Bool) = _ | show _ ∨ _ | show ¬ _); first | omega | (simp only [DD, LL] <;> omega) | (go_unwrap; omega)) | ((first | refine PW.region ?_ | refine PW.regionQ ?_ | refine schedW_done_i ?_ | show (_ : Post) _ _ _ | show @Eq (List PV) _ _ | show @Eq Bool _ _ | show opsW _ _ _ _ _ _ _ _ | show okAll _ | show @Eq Bool _ _ ∨ _); focus (simp only [List.length_cons, List.length_nil, SA, Nat.reduceAdd, reduceIte, Nat.reduceEqDiff, Nat.reduceBEq, reduceCtorEq]; (try go_unwrap; try simp only [List.length_cons, List.length_nil, RR, reduceCtorEq]))) | refine And.intro ?_ ?_ | exact Or.inr ⟨rfl, Nat.le_refl _⟩ | exact (fun h => Bool.noConfusion h))
    all_goals rfl
theorem v72M (l : List Tok) (hl : l.length ≤ 100000) (f : Nat) (first caps : List PV) (hE : Ent Tryd.prog f) (part : PS → Int × PS) (m : Nat) (ν : Mem) (hν : ν.map (Option.map (MObj.kill (killTag 1))) = ν)
    (hpart : ∀ s, Inv l s → l.length - s.at_ ≤ m → RdC l f (first ++ [] ++ caps) ν s (part s)) (hgood : GoodF l part m) (hno : (PV.fn f first caps).kill (killTag 1) = .fn f first caps) (s0 : PS) (hI : Inv l s0) (hm : l.length - s0.at_ ≤ m) :
    RdC l 72 [.ref 0 0, .fn f first caps, .list none [.int .i64 4]] ν s0 (rowP l part opsM s0) := by
  refine PCalls.of_PW Tryd.func72 k72 mix (by simp [c72]) ?_
  simp only [c72, L72, CC, argE]
  have hp := hpart s0 hI hm
  have hg0 := hgood s0 hI hm
  have h0 := hI.end0
  have hr := rowL_good (ops := opsM) hgood h0 s0 hI.le hm
  unfold rowP
  have hkk : ∃ k, l.length - (part s0).2.at_ ≤ k ∧ rowL l part opsM (l.length - (part s0).2.at_) (part s0).1 (part s0).2 = rowL l part opsM k (part s0).1 (part s0).2 := ⟨_, Nat.le_refl _, rfl⟩
  generalize rowL l part opsM (l.length - (part s0).2.at_) (part s0).1 (part s0).2 = R at hkk
  generalize part s0 = r0 at hp hg0 hkk
  obtain ⟨n0, s1⟩ := r0
  repeat' (first | exact True.intro | (refine PW.seqK ?_; intro K hK) | refine pwB ?_ | refine pwS ?_ | refine pwL ?_ | refine pwE ?_ | refine pwR ?_ | refine pwK ?_ | refine seqK_n ‹_› ?_ | refine seqK_r ‹_› ?_ | refine seqK_e ‹_› ?_ | refine PW.regionA ?_ | exact schedW_stop_i | refine schK_n ‹_› ?_ | (refine schedW_alt_k ?_ ?_; focus (intro K hK; simp only [SA, Nat.reduceAdd, reduceIte, Nat.reduceEqDiff, Nat.reduceBEq, reduceCtorEq]; (try go_unwrap; try simp only [RR, reduceCtorEq]))) | (refine PW.cond rfl ?_ ?_ <;> intro hcond <;> (try contradiction) <;> try simp only [DD] at hcond) | (refine goCall_K 1 hE hp rfl ?_; rintro p μ' ⟨rfl, rfl⟩; simp only [hno, SA, Nat.reduceAdd, reduceIte, Nat.reduceEqDiff, Nat.reduceBEq, reduceCtorEq]) | (refine gd_i ?_; intro hg; try simp only [hg]) | ((first | show (_ : Nat) ≤ _ | show (_ : Nat) < _ | show (_ : Int) ≤ _ | show (_ : Int) < _ | show (_ : Nat) = _ | show (_ : Int) = _ | show (_ : Bool) = _ | show _ ∨ _ | show ¬ _); first | omega | (simp only [DD, LL] <;> omega) | (go_unwrap; omega)) | ((first | refine PW.region ?_ | refine PW.regionQ ?_ | refine schedW_done_i ?_ | show (_ : Post) _ _ _ | show @Eq (List PV) _ _ | show @Eq Bool _ _ | show opsW _ _ _ _ _ _ _ _ | show okAll _ | show @Eq Bool _ _ ∨ _); focus (simp only [SA, Nat.reduceAdd, reduceIte, Nat.reduceEqDiff, Nat.reduceBEq, reduceCtorEq]; (try go_unwrap; try simp only [RR, reduceCtorEq]))) | refine And.intro ?_ ?_ | exact Or.inr ⟨rfl, Nat.le_refl _⟩ | exact (fun h => Bool.noConfusion h))
  refine PW.loop (σ := Int × PS) [0, 1, 2, 7] (fun q => [.ref 0 0, .fn f first caps, .list none [.int .i64 4], .int .i64 q.1]) (fun q => some (rdP l q.2) :: some (rowO q.2) :: ν)
    (fun q => Good l s0 q ∧ ∃ k, l.length - q.2.at_ ≤ k ∧ R = rowL l part opsM k q.1 q.2) (fun q => l.length - q.2.at_) (n0, s1) ?_ rfl ⟨hg0, hkk⟩ ?_
  · simp only [SA, Nat.reduceAdd, reduceIte, Nat.reduceEqDiff, Nat.reduceBEq, reduceCtorEq]; rfl
  clear hp hkk hg0
  rintro ⟨n, s⟩ ⟨hg, k, hk, hR⟩
  simp only at hk hR
  simp only [List.zip_cons_cons, List.zip_nil_left]
  simp only [rdP, rowO]
  by_cases he : s.e = 0
  case neg =>
    have d1 : decide (s.e = 0) = false := by simp only [decide_eq_false_iff_not]; exact he
    have hRR : R = (n, s) := by rw [hR]; cases k <;> simp [rowL, he]
    subst hRR
    repeat' (first | exact True.intro | (refine PW.seqK ?_; intro K hK) | refine pwB ?_ | refine pwS ?_ | refine pwL ?_ | refine pwE ?_ | refine pwR ?_ | refine pwK ?_ | refine seqK_n ‹_› ?_ | refine seqK_r ‹_› ?_ | refine seqK_e ‹_› ?_ | refine PW.regionA ?_ | exact schedW_stop_i | refine schK_n ‹_› ?_ | (refine schedW_alt_k ?_ ?_; focus (intro K hK; simp only [d1, SA, Nat.reduceAdd, reduceIte, Nat.reduceEqDiff, Nat.reduceBEq, reduceCtorEq]; (try go_unwrap; try simp only [d1, RR, reduceCtorEq]))) | (refine PW.cond rfl ?_ ?_ <;> intro hcond <;> (try contradiction) <;> try simp only [DD] at hcond) | (refine gd_i ?_; intro hg; try simp only [hg]) | ((first | show (_ : Nat) ≤ _ | show (_ : Nat) < _ | show (_ : Int) ≤ _ | show (_ : Int) < _ | show (_ : Nat) = _ | show (_ : Int) = _ | show (_ : Bool) = _ | show _ ∨ _ | show ¬ _); first | omega | (simp only [DD, LL] <;> omega) | (go_unwrap; omega)) | ((first | refine PW.region ?_ | refine PW.regionQ ?_ | refine schedW_done_i ?_ | show (_ : Post) _ _ _ | show @Eq (List PV) _ _ | show @Eq Bool _ _ | show opsW _ _ _ _ _ _ _ _ | show okAll _ | show @Eq Bool _ _ ∨ _); focus (simp only [d1, SA, Nat.reduceAdd, reduceIte, Nat.reduceEqDiff, Nat.reduceBEq, reduceCtorEq]; (try go_unwrap; try simp only [d1, RR, reduceCtorEq]))) | refine And.intro ?_ ?_ | exact Or.inr ⟨rfl, Nat.le_refl _⟩ | exact (fun h => Bool.noConfusion h))
    all_goals rfl
  have d1 : decide (s.e = 0) = true := by simp only [decide_eq_true_eq]; exact he
  have hg' := hg
  obtain ⟨hlt, hle, hout, hn0, hn1, hgo, -⟩ := hg
  simp only at hlt hle hout hn0 hn1 hgo
  have htk : (s.out.map ndP).take s.out.length = s.out.map ndP := List.take_of_length_le (by simp)
  have hadv : s.at_ + 1 < l.length → Inv l (adv s 1) := fun h => ⟨by simpa [adv] using h, by have := hI.le; simp [adv]; omega, he, h0⟩
  obtain ⟨k', rfl⟩ : ∃ k', k = k' + 1 := ⟨k - 1, by omega⟩
  have wa : IntKind.i64.wrap ((s.at_ : Int) + 1) = ((s.at_ + 1 : Nat) : Int) := by rw [IntWalk.i64_in _ (by omega)]; simp
  repeat' (first | exact True.intro | (refine PW.seqK ?_; intro K hK) | refine pwB ?_ | refine pwS ?_ | refine pwL ?_ | refine pwE ?_ | refine pwR ?_ | refine pwK ?_ | refine seqK_n ‹_› ?_ | refine seqK_r ‹_› ?_ | refine seqK_e ‹_› ?_ | refine PW.regionA ?_ | exact schedW_stop_i | refine schK_n ‹_› ?_ | (refine schedW_alt_k ?_ ?_; focus (intro K hK; simp only [d1, SA, Nat.reduceAdd, reduceIte, Nat.reduceEqDiff, Nat.reduceBEq, reduceCtorEq]; (try go_unwrap; try simp only [d1, RR, reduceCtorEq]))) | (refine PW.cond rfl ?_ ?_ <;> intro hcond <;> (try contradiction) <;> try simp only [DD] at hcond) | (refine gd_i ?_; intro hg; try simp only [hg]) | ((first | show (_ : Nat) ≤ _ | show (_ : Nat) < _ | show (_ : Int) ≤ _ | show (_ : Int) < _ | show (_ : Nat) = _ | show (_ : Int) = _ | show (_ : Bool) = _ | show _ ∨ _ | show ¬ _); first | omega | (simp only [DD, LL] <;> omega) | (go_unwrap; omega)) | ((first | refine PW.region ?_ | refine PW.regionQ ?_ | refine schedW_done_i ?_ | show (_ : Post) _ _ _ | show @Eq (List PV) _ _ | show @Eq Bool _ _ | show opsW _ _ _ _ _ _ _ _ | show okAll _ | show @Eq Bool _ _ ∨ _); focus (simp only [d1, SA, Nat.reduceAdd, reduceIte, Nat.reduceEqDiff, Nat.reduceBEq, reduceCtorEq]; (try go_unwrap; try simp only [d1, RR, reduceCtorEq]))) | refine And.intro ?_ ?_ | exact Or.inr ⟨rfl, Nat.le_refl _⟩ | exact (fun h => Bool.noConfusion h))
  refine PW.loop (σ := Nat) [0, 1, 2, 7, 17, 18, 19] (fun j => [.ref 0 0, .fn f first caps, .list none [.int .i64 4], .int .i64 n, .list none [.int .i64 4], .int .i64 1, .int .i64 j]) (fun _ => some (rdP l s) :: some (rowO s) :: ν)
    (fun j => j ≤ 1 ∧ (0 < j → sgn l s [42] = false)) (fun j => 1 - j) 0 ?_ rfl ⟨by omega, by omega⟩ ?_
  · simp only [SA, Nat.reduceAdd, reduceIte, Nat.reduceEqDiff, Nat.reduceBEq, reduceCtorEq]; rfl
  rintro j ⟨hj, hsn⟩
  simp only [List.zip_cons_cons, List.zip_nil_left]
  simp only [rdP, rowO]
  rcases j with _ | j
  · have hv := v98 l s [42] hlt hl
    by_cases hs : sgn l s [42] = true
    · rw [hs] at hv
      have h1 := sgn_lt h0 hlt hs
      have hIa := hadv h1
      have hpa := hpart (adv s 1) hIa (by simp [adv]; omega)
      have hga := hgood (adv s 1) hIa (by simp [adv]; omega)
      have hRn : R = rowL l part opsM k' (putP (part (adv s 1)).2 ⟨4, 0, [], [n, (part (adv s 1)).1]⟩).1 (putP (part (adv s 1)).2 ⟨4, 0, [], [n, (part (adv s 1)).1]⟩).2 := by
        rw [hR]; simp [rowL, he, opsM, hs]
      have hle2 : s.at_ + 1 ≤ (part (adv s 1)).2.at_ := hga.le
      have hoo : (part (adv s 1)).2.out.length + (s.at_ + 1) ≤ s.out.length + (part (adv s 1)).2.at_ := hga.out
      generalize part (adv s 1) = r at hpa hga hRn hle2 hoo
      obtain ⟨rn, rs⟩ := r
      simp only at hRn hle2 hoo
      have hga2 := hga.lt
      simp only at hga2
      have hgood2 : Good l s0 (putP rs ⟨4, 0, [], [n, rn]⟩) := good_put (s := s0) hga.lt (by omega) (by omega) hI.le hga.er
      have hpt := (v99 l rs ⟨4, 0, [], [n, rn]⟩ (by have := hI.le; omega)).frame ν hν (by simp [PV.kill, ndP, ndC, kidsP])
      simp only [ndP, ndC, kidsP, List.map_cons, List.map_nil] at hpt
      simp only [RdC, rdP, rowO, adv] at hpa hpt
      repeat' (first | exact True.intro | (exact Or.inr (by decide)) | (exact Or.inr ⟨rfl, by decide⟩) | (refine PW.seqK ?_; intro K hK) | refine pwB ?_ | refine pwS ?_ | refine pwL ?_ | refine pwE ?_ | refine pwR ?_ | refine pwK ?_ | refine seqK_n ‹_› ?_ | refine seqK_r ‹_› ?_ | refine seqK_e ‹_› ?_ | refine PW.regionA ?_ | exact schedW_stop_i | refine schK_n ‹_› ?_ | (refine schedW_alt_k ?_ ?_; focus (intro K hK; simp only [gW, evalO, cw2, cw3, cw4, q2, wa, List.length_cons, List.length_nil, SA, Nat.reduceAdd, reduceIte, Nat.reduceEqDiff, Nat.reduceBEq, reduceCtorEq]; (try go_unwrap; try simp only [gW, evalO, cw2, cw3, cw4, q2, wa, List.length_cons, List.length_nil, RR, reduceCtorEq]))) | (refine PW.cond rfl ?_ ?_ <;> intro hcond <;> (try contradiction) <;> try simp only [DD] at hcond) | (refine goCall_K 1 hE hpa rfl ?_; rintro p μ' ⟨rfl, rfl⟩; simp only [hno, gW, evalO, cw2, cw3, cw4, q2, wa, List.length_cons, List.length_nil, SA, Nat.reduceAdd, reduceIte, Nat.reduceEqDiff, Nat.reduceBEq, reduceCtorEq]) | (refine goCall_K 1 e99 hpt rfl ?_; rintro p μ' ⟨rfl, rfl⟩; simp only [hno, gW, evalO, cw2, cw3, cw4, q2, wa, List.length_cons, List.length_nil, SA, Nat.reduceAdd, reduceIte, Nat.reduceEqDiff, Nat.reduceBEq, reduceCtorEq]) | (refine gd_i ?_; intro hg; try simp only [hg]) | refine goCall_L 1 e98 hv (by simp [PV.lend, PV.view, Mem.get, htk]) (by simp [PV.lends, PV.lend, PV.view, PV.seen, fitB, PV.scalar, Mem.get, Sh.size, htk]) (by simp [PV.flat]) ?_ | ((first | show (_ : Nat) ≤ _ | show (_ : Nat) < _ | show (_ : Int) ≤ _ | show (_ : Int) < _ | show (_ : Nat) = _ | show (_ : Int) = _ | show (_ : Bool) = _ | show _ ∨ _ | show ¬ _); first | omega | (simp only [DD, LL] <;> omega) | (go_unwrap; omega)) | ((first | refine PW.region ?_ | refine PW.regionQ ?_ | refine schedW_done_i ?_ | show (_ : Post) _ _ _ | show @Eq (List PV) _ _ | show @Eq Bool _ _ | show opsW _ _ _ _ _ _ _ _ | show okAll _ | show @Eq Bool _ _ ∨ _); focus (simp only [gW, evalO, cw2, cw3, cw4, q2, wa, List.length_cons, List.length_nil, SA, Nat.reduceAdd, reduceIte, Nat.reduceEqDiff, Nat.reduceBEq, reduceCtorEq]; (try go_unwrap; try simp only [gW, evalO, cw2, cw3, cw4, q2, wa, List.length_cons, List.length_nil, RR, reduceCtorEq]))) | refine And.intro ?_ ?_ | exact Or.inr ⟨rfl, Nat.le_refl _⟩ | exact (fun h => Bool.noConfusion h))
      all_goals exact ⟨putP rs ⟨4, 0, [], [n, rn]⟩, rfl, rfl, ⟨hgood2, k', by simp [putP]; omega, hRn⟩, by simp [putP]; omega⟩
    · have hs' : sgn l s [42] = false := by simpa using hs
      rw [hs'] at hv
      repeat' (first | exact True.intro | (exact Or.inr (by decide)) | (refine PW.seqK ?_; intro K hK) | refine pwB ?_ | refine pwS ?_ | refine pwL ?_ | refine pwE ?_ | refine pwR ?_ | refine pwK ?_ | refine seqK_n ‹_› ?_ | refine seqK_r ‹_› ?_ | refine seqK_e ‹_› ?_ | refine PW.regionA ?_ | exact schedW_stop_i | refine schK_n ‹_› ?_ | (refine schedW_alt_k ?_ ?_; focus (intro K hK; simp only [gW, evalO, cw2, cw3, cw4, List.length_cons, List.length_nil, SA, Nat.reduceAdd, reduceIte, Nat.reduceEqDiff, Nat.reduceBEq, reduceCtorEq]; (try go_unwrap; try simp only [gW, evalO, cw2, cw3, cw4, List.length_cons, List.length_nil, RR, reduceCtorEq]))) | (refine PW.cond rfl ?_ ?_ <;> intro hcond <;> (try contradiction) <;> try simp only [DD] at hcond) | (refine gd_i ?_; intro hg; try simp only [hg]) | refine goCall_L 1 e98 hv (by simp [PV.lend, PV.view, Mem.get, htk]) (by simp [PV.lends, PV.lend, PV.view, PV.seen, fitB, PV.scalar, Mem.get, Sh.size, htk]) (by simp [PV.flat]) ?_ | ((first | show (_ : Nat) ≤ _ | show (_ : Nat) < _ | show (_ : Int) ≤ _ | show (_ : Int) < _ | show (_ : Nat) = _ | show (_ : Int) = _ | show (_ : Bool) = _ | show _ ∨ _ | show ¬ _); first | omega | (simp only [DD, LL] <;> omega) | (go_unwrap; omega)) | ((first | refine PW.region ?_ | refine PW.regionQ ?_ | refine schedW_done_i ?_ | show (_ : Post) _ _ _ | show @Eq (List PV) _ _ | show @Eq Bool _ _ | show opsW _ _ _ _ _ _ _ _ | show okAll _ | show @Eq Bool _ _ ∨ _); focus (simp only [gW, evalO, cw2, cw3, cw4, List.length_cons, List.length_nil, SA, Nat.reduceAdd, reduceIte, Nat.reduceEqDiff, Nat.reduceBEq, reduceCtorEq]; (try go_unwrap; try simp only [gW, evalO, cw2, cw3, cw4, List.length_cons, List.length_nil, RR, reduceCtorEq]))) | refine And.intro ?_ ?_ | exact Or.inr ⟨rfl, Nat.le_refl _⟩ | exact (fun h => Bool.noConfusion h))
      all_goals exact ⟨1, rfl, ⟨by omega, fun _ => hs'⟩, by omega⟩
  · have hj0 : j = 0 := by omega
    subst hj0
    have n0 : sgn l s [42] = false := hsn (by omega)
    have hRR : R = (n, s) := by rw [hR]; simp [rowL, he, opsM, n0]
    subst hRR
    repeat' (first | exact True.intro | (refine PW.seqK ?_; intro K hK) | refine pwB ?_ | refine pwS ?_ | refine pwL ?_ | refine pwE ?_ | refine pwR ?_ | refine pwK ?_ | refine seqK_n ‹_› ?_ | refine seqK_r ‹_› ?_ | refine seqK_e ‹_› ?_ | refine PW.regionA ?_ | exact schedW_stop_i | refine schK_n ‹_› ?_ | (refine schedW_alt_k ?_ ?_; focus (intro K hK; simp only [List.length_cons, List.length_nil, SA, Nat.reduceAdd, reduceIte, Nat.reduceEqDiff, Nat.reduceBEq, reduceCtorEq]; (try go_unwrap; try simp only [List.length_cons, List.length_nil, RR, reduceCtorEq]))) | (refine PW.cond rfl ?_ ?_ <;> intro hcond <;> (try contradiction) <;> try simp only [DD] at hcond) | (refine gd_i ?_; intro hg; try simp only [hg]) | ((first | show (_ : Nat) ≤ _ | show (_ : Nat) < _ | show (_ : Int) ≤ _ | show (_ : Int) < _ | show (_ : Nat) = _ | show (_ : Int) = _ | show (_ : Bool) = _ | show _ ∨ _ | show ¬ _); first | omega | (simp only [DD, LL] <;> omega) | (go_unwrap; omega)) | ((first | refine PW.region ?_ | refine PW.regionQ ?_ | refine schedW_done_i ?_ | show (_ : Post) _ _ _ | show @Eq (List PV) _ _ | show @Eq Bool _ _ | show opsW _ _ _ _ _ _ _ _ | show okAll _ | show @Eq Bool _ _ ∨ _); focus (simp only [List.length_cons, List.length_nil, SA, Nat.reduceAdd, reduceIte, Nat.reduceEqDiff, Nat.reduceBEq, reduceCtorEq]; (try go_unwrap; try simp only [List.length_cons, List.length_nil, RR, reduceCtorEq]))) | refine And.intro ?_ ?_ | exact Or.inr ⟨rfl, Nat.le_refl _⟩ | exact (fun h => Bool.noConfusion h))
    all_goals rfl
end Go.Proofs.YthekpjhffciakaaDoor

