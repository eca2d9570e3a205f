import Derived.Test.YthekpjhffciakaaDoorQ7
import Derived.Test.YthekpjhffciakaaDoorQ9
import Derived.Test.YthekpjhffciakaaDoorQ10
namespace Go.Proofs.YthekpjhffciakaaDoor
open Go PG Go.Proofs
set_option linter.unusedSimpArgs false
set_option linter.unusedVariables false
set_option maxHeartbeats 4000000
set_option maxRecDepth 100000
variable {G : Globs}
theorem take_snoc' {α : Type} {l : List α} {i : Nat} (h : i < l.length) : l.take (i + 1) = l.take i ++ [l[i]] := by
  rw [List.take_succ_eq_append_getElem h]
theorem v23 (l : List Nd) (hl : l.length ≤ 100000) : VCalls Tryd.prog G 23 [treeP l] (.list (some 4) (l.map ndP)) := by
  refine VCalls.of_PW Tryd.func23 k23 mix (by simp [c23]) ?_
  simp only [c23, L23, CC, argE, treeP]
  have hll : ((l.map ndP).length : Nat) = l.length := by simp
  repeat' (first | exact True.intro | (exact Or.inr ⟨rfl, by decide⟩) | (refine PW.stop (x := .seq (.region false (⟨some 4, none, .rd .mov [.pv (.int .i64 0)]⟩ :: _) _) _) ?_) | (refine PW.seqK ?_; intro K hK) | refine pwB ?_ | refine pwS ?_ | refine pwL ?_ | refine pwE ?_ | refine pwR ?_ | refine pwK ?_ | refine seqK_n ‹_› ?_ | refine seqK_r ‹_› ?_ | refine seqK_e ‹_› ?_ | refine PW.regionA ?_ | exact schedW_stop_i | refine schK_n ‹_› ?_ | (refine schedW_alt_k ?_ ?_; focus (intro K hK; simp only [SA, Nat.reduceAdd, reduceIte, Nat.reduceEqDiff, Nat.reduceBEq, reduceCtorEq]; (try go_unwrap; try simp only [RR, reduceCtorEq]))) | (refine PW.cond rfl ?_ ?_ <;> intro hcond <;> (try contradiction) <;> try simp only [DD] at hcond) | (refine gd_i ?_; intro hg; try simp only [hg]) | ((first | show (_ : Nat) ≤ _ | show (_ : Nat) < _ | show (_ : Int) ≤ _ | show (_ : Int) < _ | show (_ : Nat) = _ | show (_ : Int) = _ | show (_ : Bool) = _ | show _ ∨ _ | show ¬ _); first | omega | (simp only [DD, LL] <;> omega) | (go_unwrap; omega)) | ((first | refine PW.region ?_ | refine PW.regionQ ?_ | refine schedW_done_i ?_ | show (_ : Post) _ _ _ | show @Eq (List PV) _ _ | show @Eq Bool _ _ | show opsW _ _ _ _ _ _ _ _ | show okAll _ | show @Eq Bool _ _ ∨ _); focus (simp only [SA, Nat.reduceAdd, reduceIte, Nat.reduceEqDiff, Nat.reduceBEq, reduceCtorEq]; (try go_unwrap; try simp only [RR, reduceCtorEq]))) | refine And.intro ?_ ?_ | exact Or.inr ⟨rfl, Nat.le_refl _⟩ | exact (fun h => Bool.noConfusion h))
  refine ⟨?_⟩
  refine PW.ownE 3 (some 4) rfl ?_
  simp only [List.cons_append, List.nil_append, List.length_cons, List.length_nil]
  repeat' (first | exact True.intro | (refine PW.seqK ?_; intro K hK) | refine pwB ?_ | refine pwS ?_ | refine pwL ?_ | refine pwE ?_ | refine pwR ?_ | refine pwK ?_ | refine seqK_n ‹_› ?_ | refine seqK_r ‹_› ?_ | refine seqK_e ‹_› ?_ | refine PW.regionA ?_ | exact schedW_stop_i | refine schK_n ‹_› ?_ | (refine schedW_alt_k ?_ ?_; focus (intro K hK; simp only [SA, Nat.reduceAdd, reduceIte, Nat.reduceEqDiff, Nat.reduceBEq, reduceCtorEq]; (try go_unwrap; try simp only [RR, reduceCtorEq]))) | (refine PW.cond rfl ?_ ?_ <;> intro hcond <;> (try contradiction) <;> try simp only [DD] at hcond) | (refine gd_i ?_; intro hg; try simp only [hg]) | ((first | show (_ : Nat) ≤ _ | show (_ : Nat) < _ | show (_ : Int) ≤ _ | show (_ : Int) < _ | show (_ : Nat) = _ | show (_ : Int) = _ | show (_ : Bool) = _ | show _ ∨ _ | show ¬ _); first | omega | (simp only [DD, LL] <;> omega) | (go_unwrap; omega)) | ((first | refine PW.region ?_ | refine PW.regionQ ?_ | refine schedW_done_i ?_ | show (_ : Post) _ _ _ | show @Eq (List PV) _ _ | show @Eq Bool _ _ | show opsW _ _ _ _ _ _ _ _ | show okAll _ | show @Eq Bool _ _ ∨ _); focus (simp only [SA, Nat.reduceAdd, reduceIte, Nat.reduceEqDiff, Nat.reduceBEq, reduceCtorEq]; (try go_unwrap; try simp only [RR, reduceCtorEq]))) | refine And.intro ?_ ?_ | exact Or.inr ⟨rfl, Nat.le_refl _⟩ | exact (fun h => Bool.noConfusion h))
  refine PW.loopG (σ := Nat) 2 (fun _ _ => rfl) [1, 3, 4] (fun i => [.ref 0 0, .sl (some 4) 1 i, .int .i64 i]) (fun i => [some (.var (some 1) (.agg [.list (some 4) (l.map ndP)])), some (.row (some 4) ((l.take i).map ndP))]) (fun i => i ≤ l.length) (fun i => l.length - i) 0 ?_ (by simp) (by omega) ?_
  · simp only [SA, Nat.reduceAdd, reduceIte, Nat.reduceEqDiff, Nat.reduceBEq, reduceCtorEq]; rfl
  intro i hi
  simp only [List.zip_cons_cons, List.zip_nil_left]
  have hlt : (((l.take i).map ndP).length : Nat) = i := by simp; omega
  have htk : ((l.take i).map ndP).take i = (l.take i).map ndP := List.take_of_length_le (by omega)
  rcases Nat.lt_or_ge i l.length with h | h
  · have d1 : decide ((i : Int) < l.length) = true := by simp only [decide_eq_true_eq]; omega
    have hg : (l.map ndP).getD i .junk = .agg [.int .i64 l[i].op, .int .i64 l[i].num, .str l[i].name, .list none (l[i].kids.map (PV.int .i64))] := by simp [List.getD, h, ndP, ndC, kidsP]
    have hsn : (l.take i).map ndP ++ [.agg [.int .i64 l[i].op, .int .i64 l[i].num, .str l[i].name, .list none (l[i].kids.map (PV.int .i64))]] = (l.take (i + 1)).map ndP := by
      rw [take_snoc' h, List.map_append]; rfl
    have b1 : (i + 1) * 56 ≤ 140737488355328 := by omega
    have hsc : ∀ (a b : Int) (t : List UInt8) (ks : List PV), ∀ x ∈ [PV.int IntKind.i64 a, PV.int IntKind.i64 b, PV.str t, PV.list none ks], x.scalar = true := by
      intro a b t ks x hc; simp at hc; rcases hc with rfl | rfl | rfl | rfl <;> rfl
    generalize l[i] = x at hg hsn
    repeat' (first | exact True.intro | exact hsc _ _ _ _ | exact (rfl : (some 4 : Sh) = some 4) | (exact Or.inr ⟨rfl, by decide⟩) | (refine PW.seqK ?_; intro K hK) | refine pwB ?_ | refine pwS ?_ | refine pwL ?_ | refine pwE ?_ | refine pwR ?_ | refine pwK ?_ | refine seqK_n ‹_› ?_ | refine seqK_r ‹_› ?_ | refine seqK_e ‹_› ?_ | refine PW.regionA ?_ | exact schedW_stop_i | refine schK_n ‹_› ?_ | (refine schedW_alt_k ?_ ?_; focus (intro K hK; simp only [hll, hlt, htk, d1, hg, hsn, List.length_cons, List.length_nil, Nat.zero_add, SA, Nat.reduceAdd, reduceIte, Nat.reduceEqDiff, Nat.reduceBEq, reduceCtorEq]; (try go_unwrap; try simp only [hll, hlt, htk, d1, hg, hsn, List.length_cons, List.length_nil, Nat.zero_add, RR, reduceCtorEq]))) | (refine PW.cond rfl ?_ ?_ <;> intro hcond <;> (try contradiction) <;> try simp only [DD] at hcond) | (refine gd_i ?_; intro hg; try simp only [hg]) | ((first | show (_ : Nat) ≤ _ | show (_ : Nat) < _ | show (_ : Int) ≤ _ | show (_ : Int) < _ | show (_ : Nat) = _ | show (_ : Int) = _ | show (_ : Bool) = _ | show _ ∨ _ | show ¬ _); first | omega | (simp only [DD, LL] <;> omega) | (go_unwrap; omega)) | ((first | refine PW.region ?_ | refine PW.regionQ ?_ | refine schedW_done_i ?_ | show (_ : Post) _ _ _ | show @Eq (List PV) _ _ | show @Eq Bool _ _ | show opsW _ _ _ _ _ _ _ _ | show okAll _ | show @Eq Bool _ _ ∨ _); focus (simp only [hll, hlt, htk, d1, hg, hsn, List.length_cons, List.length_nil, Nat.zero_add, SA, Nat.reduceAdd, reduceIte, Nat.reduceEqDiff, Nat.reduceBEq, reduceCtorEq]; (try go_unwrap; try simp only [hll, hlt, htk, d1, hg, hsn, List.length_cons, List.length_nil, Nat.zero_add, RR, reduceCtorEq]))) | refine And.intro ?_ ?_ | exact Or.inr ⟨rfl, Nat.le_refl _⟩ | exact (fun h => Bool.noConfusion h))
    all_goals exact ⟨i + 1, (by first | rfl | (simp only [trimE, trimM, List.take_succ_cons, List.take_zero, List.take_nil, List.map_cons, List.map_nil, Option.map_some, Option.map_none, MObj.kill, PV.kill, Nat.reduceLeDiff, decide_true, decide_false, dec_true, dec_false, Bool.false_eq_true, if_false, if_true, reduceIte, List.zip_cons_cons, List.zip_nil_left, Nat.le_refl, Nat.zero_le, Nat.not_le, Nat.lt_irrefl]; done) | (simp [trimE, trimM, MObj.kill, PV.kill]; done)), (by first | rfl | (simp only [trimE, trimM, List.take_succ_cons, List.take_zero, List.take_nil, List.map_cons, List.map_nil, Option.map_some, Option.map_none, MObj.kill, PV.kill, Nat.reduceLeDiff, decide_true, decide_false, dec_true, dec_false, Bool.false_eq_true, if_false, if_true, reduceIte, List.zip_cons_cons, List.zip_nil_left, Nat.le_refl, Nat.zero_le, Nat.not_le, Nat.lt_irrefl]; done) | (simp [trimE, trimM, MObj.kill, PV.kill]; done)), by omega, by omega⟩
  · have d1 : decide ((i : Int) < l.length) = false := by simp only [decide_eq_false_iff_not]; omega
    have hi' : i = l.length := by omega
    subst hi'
    rw [List.take_of_length_le (Nat.le_refl _)] at hlt htk
    simp only [List.take_length]
    repeat' (first | exact True.intro | (refine PW.stop (x := .seq (.region false (⟨some 30, none, .rd .mov [.tmp 3]⟩ :: _) _) _) ?_) | (refine PW.seqK ?_; intro K hK) | refine pwB ?_ | refine pwS ?_ | refine pwL ?_ | refine pwE ?_ | refine pwR ?_ | refine pwK ?_ | refine seqK_n ‹_› ?_ | refine seqK_r ‹_› ?_ | refine seqK_e ‹_› ?_ | refine PW.regionA ?_ | exact schedW_stop_i | refine schK_n ‹_› ?_ | (refine schedW_alt_k ?_ ?_; focus (intro K hK; simp only [hll, d1, SA, Nat.reduceAdd, reduceIte, Nat.reduceEqDiff, Nat.reduceBEq, reduceCtorEq]; (try go_unwrap; try simp only [hll, d1, RR, reduceCtorEq]))) | (refine PW.cond rfl ?_ ?_ <;> intro hcond <;> (try contradiction) <;> try simp only [DD] at hcond) | (refine gd_i ?_; intro hg; try simp only [hg]) | ((first | show (_ : Nat) ≤ _ | show (_ : Nat) < _ | show (_ : Int) ≤ _ | show (_ : Int) < _ | show (_ : Nat) = _ | show (_ : Int) = _ | show (_ : Bool) = _ | show _ ∨ _ | show ¬ _); first | omega | (simp only [DD, LL] <;> omega) | (go_unwrap; omega)) | ((first | refine PW.region ?_ | refine PW.regionQ ?_ | refine schedW_done_i ?_ | show (_ : Post) _ _ _ | show @Eq (List PV) _ _ | show @Eq Bool _ _ | show opsW _ _ _ _ _ _ _ _ | show okAll _ | show @Eq Bool _ _ ∨ _); focus (simp only [hll, d1, SA, Nat.reduceAdd, reduceIte, Nat.reduceEqDiff, Nat.reduceBEq, reduceCtorEq]; (try go_unwrap; try simp only [hll, d1, RR, reduceCtorEq]))) | refine And.intro ?_ ?_ | exact Or.inr ⟨rfl, Nat.le_refl _⟩ | exact (fun h => Bool.noConfusion h))
    refine ⟨?_⟩
    refine PW.frz 1 (.row (some 4) (l.map ndP)) ?_ ?_ ?_
    · rfl
    · rfl
    simp only [SA, Nat.reduceAdd, reduceIte, Nat.reduceEqDiff, Nat.reduceBEq, reduceCtorEq, PV.frz, MObj.frz, frzM, frzSl, hlt, htk, Nat.le_refl, and_self, if_true]
    repeat' (first | exact True.intro | (refine PW.seqK ?_; intro K hK) | refine pwB ?_ | refine pwS ?_ | refine pwL ?_ | refine pwE ?_ | refine pwR ?_ | refine pwK ?_ | refine seqK_n ‹_› ?_ | refine seqK_r ‹_› ?_ | refine seqK_e ‹_› ?_ | refine PW.regionA ?_ | exact schedW_stop_i | refine schK_n ‹_› ?_ | (refine schedW_alt_k ?_ ?_; focus (intro K hK; simp only [SA, Nat.reduceAdd, reduceIte, Nat.reduceEqDiff, Nat.reduceBEq, reduceCtorEq]; (try go_unwrap; try simp only [RR, reduceCtorEq]))) | (refine PW.cond rfl ?_ ?_ <;> intro hcond <;> (try contradiction) <;> try simp only [DD] at hcond) | (refine gd_i ?_; intro hg; try simp only [hg]) | ((first | show (_ : Nat) ≤ _ | show (_ : Nat) < _ | show (_ : Int) ≤ _ | show (_ : Int) < _ | show (_ : Nat) = _ | show (_ : Int) = _ | show (_ : Bool) = _ | show _ ∨ _ | show ¬ _); first | omega | (simp only [DD, LL] <;> omega) | (go_unwrap; omega)) | ((first | refine PW.region ?_ | refine PW.regionQ ?_ | refine schedW_done_i ?_ | show (_ : Post) _ _ _ | show @Eq (List PV) _ _ | show @Eq Bool _ _ | show opsW _ _ _ _ _ _ _ _ | show okAll _ | show @Eq Bool _ _ ∨ _); focus (simp only [SA, Nat.reduceAdd, reduceIte, Nat.reduceEqDiff, Nat.reduceBEq, reduceCtorEq]; (try go_unwrap; try simp only [RR, reduceCtorEq]))) | refine And.intro ?_ ?_ | exact Or.inr ⟨rfl, Nat.le_refl _⟩ | exact (fun h => Bool.noConfusion h))
    all_goals rfl
end Go.Proofs.YthekpjhffciakaaDoor

namespace Go.Proofs.YthekpjhffciakaaDoor
open Go PG Go.Proofs
set_option linter.unusedSimpArgs false
set_option linter.unusedVariables false
set_option maxHeartbeats 4000000
set_option maxRecDepth 100000
theorem cw2 : cut (some 10) none wordsP (0 + Int.toNat 2 * 1) = .str [43] := rfl
theorem cw3 : cut (some 10) none wordsP (0 + Int.toNat 3 * 1) = .str [45] := rfl
theorem cw4 : cut (some 10) none wordsP (0 + Int.toNat 4 * 1) = .str [42] := rfl
theorem gW : G0 0 = some (some 10, wordsP) := rfl
theorem v72A (l : List Tok) (hl : l.length ≤ 100000) (f : Nat) (first caps : List PV) (hE : Ent Tryd.prog f) (part : PS → Int × PS) (m : Nat) (ν : Mem) (hν : ν.map (Option.map (MObj.kill (killTag 1))) = ν)
    (hpart : ∀ s, Inv l s → l.length - s.at_ ≤ m → RdC l f (first ++ [] ++ caps) ν s (part s)) (hgood : GoodF l part m) (hno : (PV.fn f first caps).kill (killTag 1) = .fn f first caps) (s0 : PS) (hI : Inv l s0) (hm : l.length - s0.at_ ≤ m) :
    RdC l 72 [.ref 0 0, .fn f first caps, .list none [.int .i64 2, .int .i64 3]] ν s0 (rowP l part opsA s0) := by
  refine PCalls.of_PW Tryd.func72 k72 mix (by simp [c72]) ?_
  simp only [c72, L72, CC, argE]
  have hp := hpart s0 hI hm
  have hg0 := hgood s0 hI hm
  have h0 := hI.end0
  have hr := rowL_good (ops := opsA) hgood h0 s0 hI.le hm
  unfold rowP
  have hkk : ∃ k, l.length - (part s0).2.at_ ≤ k ∧ rowL l part opsA (l.length - (part s0).2.at_) (part s0).1 (part s0).2 = rowL l part opsA k (part s0).1 (part s0).2 := ⟨_, Nat.le_refl _, rfl⟩
  generalize rowL l part opsA (l.length - (part s0).2.at_) (part s0).1 (part s0).2 = R at hkk
  generalize part s0 = r0 at hp hg0 hkk
  obtain ⟨n0, s1⟩ := r0
  repeat' (first | exact True.intro | (refine PW.seqK ?_; intro K hK) | refine pwB ?_ | refine pwS ?_ | refine pwL ?_ | refine pwE ?_ | refine pwR ?_ | refine pwK ?_ | refine seqK_n ‹_› ?_ | refine seqK_r ‹_› ?_ | refine seqK_e ‹_› ?_ | refine PW.regionA ?_ | exact schedW_stop_i | refine schK_n ‹_› ?_ | (refine schedW_alt_k ?_ ?_; focus (intro K hK; simp only [SA, Nat.reduceAdd, reduceIte, Nat.reduceEqDiff, Nat.reduceBEq, reduceCtorEq]; (try go_unwrap; try simp only [RR, reduceCtorEq]))) | (refine PW.cond rfl ?_ ?_ <;> intro hcond <;> (try contradiction) <;> try simp only [DD] at hcond) | (refine goCall_K 1 hE hp rfl ?_; rintro p μ' ⟨rfl, rfl⟩; simp only [hno, SA, Nat.reduceAdd, reduceIte, Nat.reduceEqDiff, Nat.reduceBEq, reduceCtorEq]) | (refine gd_i ?_; intro hg; try simp only [hg]) | ((first | show (_ : Nat) ≤ _ | show (_ : Nat) < _ | show (_ : Int) ≤ _ | show (_ : Int) < _ | show (_ : Nat) = _ | show (_ : Int) = _ | show (_ : Bool) = _ | show _ ∨ _ | show ¬ _); first | omega | (simp only [DD, LL] <;> omega) | (go_unwrap; omega)) | ((first | refine PW.region ?_ | refine PW.regionQ ?_ | refine schedW_done_i ?_ | show (_ : Post) _ _ _ | show @Eq (List PV) _ _ | show @Eq Bool _ _ | show opsW _ _ _ _ _ _ _ _ | show okAll _ | show @Eq Bool _ _ ∨ _); focus (simp only [SA, Nat.reduceAdd, reduceIte, Nat.reduceEqDiff, Nat.reduceBEq, reduceCtorEq]; (try go_unwrap; try simp only [RR, reduceCtorEq]))) | refine And.intro ?_ ?_ | exact Or.inr ⟨rfl, Nat.le_refl _⟩ | exact (fun h => Bool.noConfusion h))
  refine PW.loop (σ := Int × PS) [0, 1, 2, 7] (fun q => [.ref 0 0, .fn f first caps, .list none [.int .i64 2, .int .i64 3], .int .i64 q.1]) (fun q => some (rdP l q.2) :: some (rowO q.2) :: ν)
    (fun q => Good l s0 q ∧ ∃ k, l.length - q.2.at_ ≤ k ∧ R = rowL l part opsA k q.1 q.2) (fun q => l.length - q.2.at_) (n0, s1) ?_ rfl ⟨hg0, hkk⟩ ?_
  · simp only [SA, Nat.reduceAdd, reduceIte, Nat.reduceEqDiff, Nat.reduceBEq, reduceCtorEq]; rfl
  clear hp hkk hg0
  rintro ⟨n, s⟩ ⟨hg, k, hk, hR⟩
  simp only at hk hR
  simp only [List.zip_cons_cons, List.zip_nil_left]
  simp only [rdP, rowO]
  by_cases he : s.e = 0
  case neg =>
    have d1 : decide (s.e = 0) = false := by simp only [decide_eq_false_iff_not]; exact he
    have hRR : R = (n, s) := by rw [hR]; cases k <;> simp [rowL, he]
    subst hRR
    repeat' (first | exact True.intro | (refine PW.seqK ?_; intro K hK) | refine pwB ?_ | refine pwS ?_ | refine pwL ?_ | refine pwE ?_ | refine pwR ?_ | refine pwK ?_ | refine seqK_n ‹_› ?_ | refine seqK_r ‹_› ?_ | refine seqK_e ‹_› ?_ | refine PW.regionA ?_ | exact schedW_stop_i | refine schK_n ‹_› ?_ | (refine schedW_alt_k ?_ ?_; focus (intro K hK; simp only [d1, SA, Nat.reduceAdd, reduceIte, Nat.reduceEqDiff, Nat.reduceBEq, reduceCtorEq]; (try go_unwrap; try simp only [d1, RR, reduceCtorEq]))) | (refine PW.cond rfl ?_ ?_ <;> intro hcond <;> (try contradiction) <;> try simp only [DD] at hcond) | (refine gd_i ?_; intro hg; try simp only [hg]) | ((first | show (_ : Nat) ≤ _ | show (_ : Nat) < _ | show (_ : Int) ≤ _ | show (_ : Int) < _ | show (_ : Nat) = _ | show (_ : Int) = _ | show (_ : Bool) = _ | show _ ∨ _ | show ¬ _); first | omega | (simp only [DD, LL] <;> omega) | (go_unwrap; omega)) | ((first | refine PW.region ?_ | refine PW.regionQ ?_ | refine schedW_done_i ?_ | show (_ : Post) _ _ _ | show @Eq (List PV) _ _ | show @Eq Bool _ _ | show opsW _ _ _ _ _ _ _ _ | show okAll _ | show @Eq Bool _ _ ∨ _); focus (simp only [d1, SA, Nat.reduceAdd, reduceIte, Nat.reduceEqDiff, Nat.reduceBEq, reduceCtorEq]; (try go_unwrap; try simp only [d1, RR, reduceCtorEq]))) | refine And.intro ?_ ?_ | exact Or.inr ⟨rfl, Nat.le_refl _⟩ | exact (fun h => Bool.noConfusion h))
    all_goals rfl
  have d1 : decide (s.e = 0) = true := by simp only [decide_eq_true_eq]; exact he
  have hg' := hg
  obtain ⟨hlt, hle, hout, hn0, hn1, hgo, -⟩ := hg
  simp only at hlt hle hout hn0 hn1 hgo
  have htk : (s.out.map ndP).take s.out.length = s.out.map ndP := List.take_of_length_le (by simp)
  have hadv : s.at_ + 1 < l.length → Inv l (adv s 1) := fun h => ⟨by simpa [adv] using h, by have := hI.le; simp [adv]; omega, he, h0⟩
  obtain ⟨k', rfl⟩ : ∃ k', k = k' + 1 := ⟨k - 1, by omega⟩
  have wa : IntKind.i64.wrap ((s.at_ : Int) + 1) = ((s.at_ + 1 : Nat) : Int) := by rw [IntWalk.i64_in _ (by omega)]; simp
  repeat' (first | exact True.intro | (refine PW.seqK ?_; intro K hK) | refine pwB ?_ | refine pwS ?_ | refine pwL ?_ | refine pwE ?_ | refine pwR ?_ | refine pwK ?_ | refine seqK_n ‹_› ?_ | refine seqK_r ‹_› ?_ | refine seqK_e ‹_› ?_ | refine PW.regionA ?_ | exact schedW_stop_i | refine schK_n ‹_› ?_ | (refine schedW_alt_k ?_ ?_; focus (intro K hK; simp only [d1, SA, Nat.reduceAdd, reduceIte, Nat.reduceEqDiff, Nat.reduceBEq, reduceCtorEq]; (try go_unwrap; try simp only [d1, RR, reduceCtorEq]))) | (refine PW.cond rfl ?_ ?_ <;> intro hcond <;> (try contradiction) <;> try simp only [DD] at hcond) | (refine gd_i ?_; intro hg; try simp only [hg]) | ((first | show (_ : Nat) ≤ _ | show (_ : Nat) < _ | show (_ : Int) ≤ _ | show (_ : Int) < _ | show (_ : Nat) = _ | show (_ : Int) = _ | show (_ : Bool) = _ | show _ ∨ _ | show ¬ _); first | omega | (simp only [DD, LL] <;> omega) | (go_unwrap; omega)) | ((first | refine PW.region ?_ | refine PW.regionQ ?_ | refine schedW_done_i ?_ | show (_ : Post) _ _ _ | show @Eq (List PV) _ _ | show @Eq Bool _ _ | show opsW _ _ _ _ _ _ _ _ | show okAll _ | show @Eq Bool _ _ ∨ _); focus (simp only [d1, SA, Nat.reduceAdd, reduceIte, Nat.reduceEqDiff, Nat.reduceBEq, reduceCtorEq]; (try go_unwrap; try simp only [d1, RR, reduceCtorEq]))) | refine And.intro ?_ ?_ | exact Or.inr ⟨rfl, Nat.le_refl _⟩ | exact (fun h => Bool.noConfusion h))
  refine PW.loop (σ := Nat) [0, 1, 2, 7, 17, 18, 19] (fun j => [.ref 0 0, .fn f first caps, .list none [.int .i64 2, .int .i64 3], .int .i64 n, .list none [.int .i64 2, .int .i64 3], .int .i64 2, .int .i64 j]) (fun _ => some (rdP l s) :: some (rowO s) :: ν)
    (fun j => j ≤ 2 ∧ (0 < j → sgn l s [43] = false) ∧ (1 < j → sgn l s [45] = false)) (fun j => 2 - j) 0 ?_ rfl ⟨by omega, by omega, by omega⟩ ?_
  · simp only [SA, Nat.reduceAdd, reduceIte, Nat.reduceEqDiff, Nat.reduceBEq, reduceCtorEq]; rfl
  rintro j ⟨hj, hsn⟩
  simp only [List.zip_cons_cons, List.zip_nil_left]
  simp only [rdP, rowO]
  rcases j with _ | _ | j
  · have hv := v98 l s [43] hlt hl
    by_cases hs : sgn l s [43] = true
    · rw [hs] at hv
      have h1 := sgn_lt h0 hlt hs
      have hIa := hadv h1
      have hpa := hpart (adv s 1) hIa (by simp [adv]; omega)
      have hga := hgood (adv s 1) hIa (by simp [adv]; omega)
      have hRn : R = rowL l part opsA k' (putP (part (adv s 1)).2 ⟨2, 0, [], [n, (part (adv s 1)).1]⟩).1 (putP (part (adv s 1)).2 ⟨2, 0, [], [n, (part (adv s 1)).1]⟩).2 := by
        rw [hR]; simp [rowL, he, opsA, hs]
      have hle2 : s.at_ + 1 ≤ (part (adv s 1)).2.at_ := hga.le
      have hoo : (part (adv s 1)).2.out.length + (s.at_ + 1) ≤ s.out.length + (part (adv s 1)).2.at_ := hga.out
      generalize part (adv s 1) = r at hpa hga hRn hle2 hoo
      obtain ⟨rn, rs⟩ := r
      simp only at hRn hle2 hoo
      have hga2 := hga.lt
      simp only at hga2
      have hgood2 : Good l s0 (putP rs ⟨2, 0, [], [n, rn]⟩) := good_put (s := s0) hga.lt (by omega) (by omega) hI.le hga.er
      have hpt := (v99 l rs ⟨2, 0, [], [n, rn]⟩ (by have := hI.le; omega)).frame ν hν (by simp [PV.kill, ndP, ndC, kidsP])
      simp only [ndP, ndC, kidsP, List.map_cons, List.map_nil] at hpt
      simp only [RdC, rdP, rowO, adv] at hpa hpt
      repeat' (first | exact True.intro | (exact Or.inr (by decide)) | (exact Or.inr ⟨rfl, by decide⟩) | (refine PW.seqK ?_; intro K hK) | refine pwB ?_ | refine pwS ?_ | refine pwL ?_ | refine pwE ?_ | refine pwR ?_ | refine pwK ?_ | refine seqK_n ‹_› ?_ | refine seqK_r ‹_› ?_ | refine seqK_e ‹_› ?_ | refine PW.regionA ?_ | exact schedW_stop_i | refine schK_n ‹_› ?_ | (refine schedW_alt_k ?_ ?_; focus (intro K hK; simp only [gW, evalO, cw2, cw3, cw4, q2, wa, List.length_cons, List.length_nil, SA, Nat.reduceAdd, reduceIte, Nat.reduceEqDiff, Nat.reduceBEq, reduceCtorEq]; (try go_unwrap; try simp only [gW, evalO, cw2, cw3, cw4, q2, wa, List.length_cons, List.length_nil, RR, reduceCtorEq]))) | (refine PW.cond rfl ?_ ?_ <;> intro hcond <;> (try contradiction) <;> try simp only [DD] at hcond) | (refine goCall_K 1 hE hpa rfl ?_; rintro p μ' ⟨rfl, rfl⟩; simp only [hno, gW, evalO, cw2, cw3, cw4, q2, wa, List.length_cons, List.length_nil, SA, Nat.reduceAdd, reduceIte, Nat.reduceEqDiff, Nat.reduceBEq, reduceCtorEq]) | (refine goCall_K 1 e99 hpt rfl ?_; rintro p μ' ⟨rfl, rfl⟩; simp only [hno, gW, evalO, cw2, cw3, cw4, q2, wa, List.length_cons, List.length_nil, SA, Nat.reduceAdd, reduceIte, Nat.reduceEqDiff, Nat.reduceBEq, reduceCtorEq]) | (refine gd_i ?_; intro hg; try simp only [hg]) | refine goCall_L 1 e98 hv (by simp [PV.lend, PV.view, Mem.get, htk]) (by simp [PV.lends, PV.lend, PV.view, PV.seen, fitB, PV.scalar, Mem.get, Sh.size, htk]) (by simp [PV.flat]) ?_ | ((first | show (_ : Nat) ≤ _ | show (_ : Nat) < _ | show (_ : Int) ≤ _ | show (_ : Int) < _ | show (_ : Nat) = _ | show (_ : Int) = _ | show (_ : Bool) = _ | show _ ∨ _ | show ¬ _); first | omega | (simp only [DD, LL] <;> omega) | (go_unwrap; omega)) | ((first | refine PW.region ?_ | refine PW.regionQ ?_ | refine schedW_done_i ?_ | show (_ : Post) _ _ _ | show @Eq (List PV) _ _ | show @Eq Bool _ _ | show opsW _ _ _ _ _ _ _ _ | show okAll _ | show @Eq Bool _ _ ∨ _); focus (simp only [gW, evalO, cw2, cw3, cw4, q2, wa, List.length_cons, List.length_nil, SA, Nat.reduceAdd, reduceIte, Nat.reduceEqDiff, Nat.reduceBEq, reduceCtorEq]; (try go_unwrap; try simp only [gW, evalO, cw2, cw3, cw4, q2, wa, List.length_cons, List.length_nil, RR, reduceCtorEq]))) | refine And.intro ?_ ?_ | exact Or.inr ⟨rfl, Nat.le_refl _⟩ | exact (fun h => Bool.noConfusion h))
      all_goals exact ⟨putP rs ⟨2, 0, [], [n, rn]⟩, rfl, rfl, ⟨hgood2, k', by simp [putP]; omega, hRn⟩, by simp [putP]; omega⟩
    · have hs' : sgn l s [43] = false := by simpa using hs
      rw [hs'] at hv
      repeat' (first | exact True.intro | (exact Or.inr (by decide)) | (refine PW.seqK ?_; intro K hK) | refine pwB ?_ | refine pwS ?_ | refine pwL ?_ | refine pwE ?_ | refine pwR ?_ | refine pwK ?_ | refine seqK_n ‹_› ?_ | refine seqK_r ‹_› ?_ | refine seqK_e ‹_› ?_ | refine PW.regionA ?_ | exact schedW_stop_i | refine schK_n ‹_› ?_ | (refine schedW_alt_k ?_ ?_; focus (intro K hK; simp only [gW, evalO, cw2, cw3, cw4, List.length_cons, List.length_nil, SA, Nat.reduceAdd, reduceIte, Nat.reduceEqDiff, Nat.reduceBEq, reduceCtorEq]; (try go_unwrap; try simp only [gW, evalO, cw2, cw3, cw4, List.length_cons, List.length_nil, RR, reduceCtorEq]))) | (refine PW.cond rfl ?_ ?_ <;> intro hcond <;> (try contradiction) <;> try simp only [DD] at hcond) | (refine gd_i ?_; intro hg; try simp only [hg]) | refine goCall_L 1 e98 hv (by simp [PV.lend, PV.view, Mem.get, htk]) (by simp [PV.lends, PV.lend, PV.view, PV.seen, fitB, PV.scalar, Mem.get, Sh.size, htk]) (by simp [PV.flat]) ?_ | ((first | show (_ : Nat) ≤ _ | show (_ : Nat) < _ | show (_ : Int) ≤ _ | show (_ : Int) < _ | show (_ : Nat) = _ | show (_ : Int) = _ | show (_ : Bool) = _ | show _ ∨ _ | show ¬ _); first | omega | (simp only [DD, LL] <;> omega) | (go_unwrap; omega)) | ((first | refine PW.region ?_ | refine PW.regionQ ?_ | refine schedW_done_i ?_ | show (_ : Post) _ _ _ | show @Eq (List PV) _ _ | show @Eq Bool _ _ | show opsW _ _ _ _ _ _ _ _ | show okAll _ | show @Eq Bool _ _ ∨ _); focus (simp only [gW, evalO, cw2, cw3, cw4, List.length_cons, List.length_nil, SA, Nat.reduceAdd, reduceIte, Nat.reduceEqDiff, Nat.reduceBEq, reduceCtorEq]; (try go_unwrap; try simp only [gW, evalO, cw2, cw3, cw4, List.length_cons, List.length_nil, RR, reduceCtorEq]))) | refine And.intro ?_ ?_ | exact Or.inr ⟨rfl, Nat.le_refl _⟩ | exact (fun h => Bool.noConfusion h))
      all_goals exact ⟨1, rfl, ⟨by omega, fun _ => hs', fun h => absurd h (by omega)⟩, by omega⟩
  · have n0 : sgn l s [43] = false := hsn.1 (by omega)
    have hv := v98 l s [45] hlt hl
    by_cases hs : sgn l s [45] = true
    · rw [hs] at hv
      have h1 := sgn_lt h0 hlt hs
      have hIa := hadv h1
      have hpa := hpart (adv s 1) hIa (by simp [adv]; omega)
      have hga := hgood (adv s 1) hIa (by simp [adv]; omega)
      have hRn : R = rowL l part opsA k' (putP (part (adv s 1)).2 ⟨3, 0, [], [n, (part (adv s 1)).1]⟩).1 (putP (part (adv s 1)).2 ⟨3, 0, [], [n, (part (adv s 1)).1]⟩).2 := by
        rw [hR]; simp [rowL, he, opsA, hs, n0]
      have hle2 : s.at_ + 1 ≤ (part (adv s 1)).2.at_ := hga.le
      have hoo : (part (adv s 1)).2.out.length + (s.at_ + 1) ≤ s.out.length + (part (adv s 1)).2.at_ := hga.out
      generalize part (adv s 1) = r at hpa hga hRn hle2 hoo
      obtain ⟨rn, rs⟩ := r
      simp only at hRn hle2 hoo
      have hga2 := hga.lt
      simp only at hga2
      have hgood2 : Good l s0 (putP rs ⟨3, 0, [], [n, rn]⟩) := good_put (s := s0) hga.lt (by omega) (by omega) hI.le hga.er
      have hpt := (v99 l rs ⟨3, 0, [], [n, rn]⟩ (by have := hI.le; omega)).frame ν hν (by simp [PV.kill, ndP, ndC, kidsP])
      simp only [ndP, ndC, kidsP, List.map_cons, List.map_nil] at hpt
      simp only [RdC, rdP, rowO, adv] at hpa hpt
      repeat' (first | exact True.intro | (exact Or.inr (by decide)) | (exact Or.inr ⟨rfl, by decide⟩) | (refine PW.seqK ?_; intro K hK) | refine pwB ?_ | refine pwS ?_ | refine pwL ?_ | refine pwE ?_ | refine pwR ?_ | refine pwK ?_ | refine seqK_n ‹_› ?_ | refine seqK_r ‹_› ?_ | refine seqK_e ‹_› ?_ | refine PW.regionA ?_ | exact schedW_stop_i | refine schK_n ‹_› ?_ | (refine schedW_alt_k ?_ ?_; focus (intro K hK; simp only [gW, evalO, cw2, cw3, cw4, q2, wa, List.length_cons, List.length_nil, SA, Nat.reduceAdd, reduceIte, Nat.reduceEqDiff, Nat.reduceBEq, reduceCtorEq]; (try go_unwrap; try simp only [gW, evalO, cw2, cw3, cw4, q2, wa, List.length_cons, List.length_nil, RR, reduceCtorEq]))) | (refine PW.cond rfl ?_ ?_ <;> intro hcond <;> (try contradiction) <;> try simp only [DD] at hcond) | (refine goCall_K 1 hE hpa rfl ?_; rintro p μ' ⟨rfl, rfl⟩; simp only [hno, gW, evalO, cw2, cw3, cw4, q2, wa, List.length_cons, List.length_nil, SA, Nat.reduceAdd, reduceIte, Nat.reduceEqDiff, Nat.reduceBEq, reduceCtorEq]) | (refine goCall_K 1 e99 hpt rfl ?_; rintro p μ' ⟨rfl, rfl⟩; simp only [hno, gW, evalO, cw2, cw3, cw4, q2, wa, List.length_cons, List.length_nil, SA, Nat.reduceAdd, reduceIte, Nat.reduceEqDiff, Nat.reduceBEq, reduceCtorEq]) | (refine gd_i ?_; intro hg; try simp only [hg]) | refine goCall_L 1 e98 hv (by simp [PV.lend, PV.view, Mem.get, htk]) (by simp [PV.lends, PV.lend, PV.view, PV.seen, fitB, PV.scalar, Mem.get, Sh.size, htk]) (by simp [PV.flat]) ?_ | ((first | show (_ : Nat) ≤ _ | show (_ : Nat) < _ | show (_ : Int) ≤ _ | show (_ : Int) < _ | show (_ : Nat) = _ | show (_ : Int) = _ | show (_ : Bool) = _ | show _ ∨ _ | show ¬ _); first | omega | (simp only [DD, LL] <;> omega) | (go_unwrap; omega)) | ((first | refine PW.region ?_ | refine PW.regionQ ?_ | refine schedW_done_i ?_ | show (_ : Post) _ _ _ | show @Eq (List PV) _ _ | show @Eq Bool _ _ | show opsW _ _ _ _ _ _ _ _ | show okAll _ | show @Eq Bool _ _ ∨ _); focus (simp only [gW, evalO, cw2, cw3, cw4, q2, wa, List.length_cons, List.length_nil, SA, Nat.reduceAdd, reduceIte, Nat.reduceEqDiff, Nat.reduceBEq, reduceCtorEq]; (try go_unwrap; try simp only [gW, evalO, cw2, cw3, cw4, q2, wa, List.length_cons, List.length_nil, RR, reduceCtorEq]))) | refine And.intro ?_ ?_ | exact Or.inr ⟨rfl, Nat.le_refl _⟩ | exact (fun h => Bool.noConfusion h))
      all_goals exact ⟨putP rs ⟨3, 0, [], [n, rn]⟩, rfl, rfl, ⟨hgood2, k', by simp [putP]; omega, hRn⟩, by simp [putP]; omega⟩
    · have hs' : sgn l s [45] = false := by simpa using hs
      rw [hs'] at hv
      repeat' (first | exact True.intro | (exact Or.inr (by decide)) | (refine PW.seqK ?_; intro K hK) | refine pwB ?_ | refine pwS ?_ | refine pwL ?_ | refine pwE ?_ | refine pwR ?_ | refine pwK ?_ | refine seqK_n ‹_› ?_ | refine seqK_r ‹_› ?_ | refine seqK_e ‹_› ?_ | refine PW.regionA ?_ | exact schedW_stop_i | refine schK_n ‹_› ?_ | (refine schedW_alt_k ?_ ?_; focus (intro K hK; simp only [gW, evalO, cw2, cw3, cw4, List.length_cons, List.length_nil, SA, Nat.reduceAdd, reduceIte, Nat.reduceEqDiff, Nat.reduceBEq, reduceCtorEq]; (try go_unwrap; try simp only [gW, evalO, cw2, cw3, cw4, List.length_cons, List.length_nil, RR, reduceCtorEq]))) | (refine PW.cond rfl ?_ ?_ <;> intro hcond <;> (try contradiction) <;> try simp only [DD] at hcond) | (refine gd_i ?_; intro hg; try simp only [hg]) | refine goCall_L 1 e98 hv (by simp [PV.lend, PV.view, Mem.get, htk]) (by simp [PV.lends, PV.lend, PV.view, PV.seen, fitB, PV.scalar, Mem.get, Sh.size, htk]) (by simp [PV.flat]) ?_ | ((first | show (_ : Nat) ≤ _ | show (_ : Nat) < _ | show (_ : Int) ≤ _ | show (_ : Int) < _ | show (_ : Nat) = _ | show (_ : Int) = _ | show (_ : Bool) = _ | show _ ∨ _ | show ¬ _); first | omega | (simp only [DD, LL] <;> omega) | (go_unwrap; omega)) | ((first | refine PW.region ?_ | refine PW.regionQ ?_ | refine schedW_done_i ?_ | show (_ : Post) _ _ _ | show @Eq (List PV) _ _ | show @Eq Bool _ _ | show opsW _ _ _ _ _ _ _ _ | show okAll _ | show @Eq Bool _ _ ∨ _); focus (simp only [gW, evalO, cw2, cw3, cw4, List.length_cons, List.length_nil, SA, Nat.reduceAdd, reduceIte, Nat.reduceEqDiff, Nat.reduceBEq, reduceCtorEq]; (try go_unwrap; try simp only [gW, evalO, cw2, cw3, cw4, List.length_cons, List.length_nil, RR, reduceCtorEq]))) | refine And.intro ?_ ?_ | exact Or.inr ⟨rfl, Nat.le_refl _⟩ | exact (fun h => Bool.noConfusion h))
      all_goals exact ⟨2, rfl, ⟨by omega, fun _ => n0, fun _ => hs'⟩, by omega⟩
  · have hj0 : j = 0 := by omega
    subst hj0
    have n0 : sgn l s [43] = false := hsn.1 (by omega)
    have n1 : sgn l s [45] = false := hsn.2 (by omega)
    have hRR : R = (n, s) := by rw [hR]; simp [rowL, he, opsA, n0, n1]
    subst hRR
    repeat' (first | exact True.intro | (refine PW.seqK ?_; intro K hK) | refine pwB ?_ | refine pwS ?_ | refine pwL ?_ | refine pwE ?_ | refine pwR ?_ | refine pwK ?_ | refine seqK_n ‹_› ?_ | refine seqK_r ‹_› ?_ | refine seqK_e ‹_› ?_ | refine PW.regionA ?_ | exact schedW_stop_i | refine schK_n ‹_› ?_ | (refine schedW_alt_k ?_ ?_; focus (intro K hK; simp only [List.length_cons, List.length_nil, SA, Nat.reduceAdd, reduceIte, Nat.reduceEqDiff, Nat.reduceBEq, reduceCtorEq]; (try go_unwrap; try simp only [List.length_cons, List.length_nil, RR, reduceCtorEq]))) | (refine PW.cond rfl ?_ ?_ <;> intro hcond <;> (try contradiction) <;> try simp only [DD] at hcond) | (refine gd_i ?_; intro hg; try simp only [hg]) | ((first | show (_ : Nat) ≤ _ | show (_ : Nat) < _ | show (_ : Int) ≤ _ | show (_ : Int) < _ | show (_ : Nat) = _ | show (_ : Int) = _ | show (_ : Bool) = _ | show _ ∨ _ | show ¬ _); first | omega | (simp only [DD, LL] <;> omega) | (go_unwrap; omega)) | ((first | refine PW.region ?_ | refine PW.regionQ ?_ | refine schedW_done_i ?_ | show (_ : Post) _ _ _ | show @Eq (List PV) _ _ | show @Eq Bool _ _ | show opsW _ _ _ _ _ _ _ _ | show okAll _ | show @Eq Bool _ _ ∨ _); focus (simp only [List.length_cons, List.length_nil, SA, Nat.reduceAdd, reduceIte, Nat.reduceEqDiff, Nat.reduceBEq, reduceCtorEq]; (try go_unwrap; try simp only [List.length_cons, List.length_nil, RR, reduceCtorEq]))) | refine And.intro ?_ ?_ | exact Or.inr ⟨rfl, Nat.le_refl _⟩ | exact (fun h => Bool.noConfusion h))
    all_goals rfl
theorem v72M (l : List Tok) (hl : l.length ≤ 100000) (f : Nat) (first caps : List PV) (hE : Ent Tryd.prog f) (part : PS → Int × PS) (m : Nat) (ν : Mem) (hν : ν.map (Option.map (MObj.kill (killTag 1))) = ν)
    (hpart : ∀ s, Inv l s → l.length - s.at_ ≤ m → RdC l f (first ++ [] ++ caps) ν s (part s)) (hgood : GoodF l part m) (hno : (PV.fn f first caps).kill (killTag 1) = .fn f first caps) (s0 : PS) (hI : Inv l s0) (hm : l.length - s0.at_ ≤ m) :
    RdC l 72 [.ref 0 0, .fn f first caps, .list none [.int .i64 4]] ν s0 (rowP l part opsM s0) := by
  refine PCalls.of_PW Tryd.func72 k72 mix (by simp [c72]) ?_
  simp only [c72, L72, CC, argE]
  have hp := hpart s0 hI hm
  have hg0 := hgood s0 hI hm
  have h0 := hI.end0
  have hr := rowL_good (ops := opsM) hgood h0 s0 hI.le hm
  unfold rowP
  have hkk : ∃ k, l.length - (part s0).2.at_ ≤ k ∧ rowL l part opsM (l.length - (part s0).2.at_) (part s0).1 (part s0).2 = rowL l part opsM k (part s0).1 (part s0).2 := ⟨_, Nat.le_refl _, rfl⟩
  generalize rowL l part opsM (l.length - (part s0).2.at_) (part s0).1 (part s0).2 = R at hkk
  generalize part s0 = r0 at hp hg0 hkk
  obtain ⟨n0, s1⟩ := r0
  repeat' (first | exact True.intro | (refine PW.seqK ?_; intro K hK) | refine pwB ?_ | refine pwS ?_ | refine pwL ?_ | refine pwE ?_ | refine pwR ?_ | refine pwK ?_ | refine seqK_n ‹_› ?_ | refine seqK_r ‹_› ?_ | refine seqK_e ‹_› ?_ | refine PW.regionA ?_ | exact schedW_stop_i | refine schK_n ‹_› ?_ | (refine schedW_alt_k ?_ ?_; focus (intro K hK; simp only [SA, Nat.reduceAdd, reduceIte, Nat.reduceEqDiff, Nat.reduceBEq, reduceCtorEq]; (try go_unwrap; try simp only [RR, reduceCtorEq]))) | (refine PW.cond rfl ?_ ?_ <;> intro hcond <;> (try contradiction) <;> try simp only [DD] at hcond) | (refine goCall_K 1 hE hp rfl ?_; rintro p μ' ⟨rfl, rfl⟩; simp only [hno, SA, Nat.reduceAdd, reduceIte, Nat.reduceEqDiff, Nat.reduceBEq, reduceCtorEq]) | (refine gd_i ?_; intro hg; try simp only [hg]) | ((first | show (_ : Nat) ≤ _ | show (_ : Nat) < _ | show (_ : Int) ≤ _ | show (_ : Int) < _ | show (_ : Nat) = _ | show (_ : Int) = _ | show (_ : Bool) = _ | show _ ∨ _ | show ¬ _); first | omega | (simp only [DD, LL] <;> omega) | (go_unwrap; omega)) | ((first | refine PW.region ?_ | refine PW.regionQ ?_ | refine schedW_done_i ?_ | show (_ : Post) _ _ _ | show @Eq (List PV) _ _ | show @Eq Bool _ _ | show opsW _ _ _ _ _ _ _ _ | show okAll _ | show @Eq Bool _ _ ∨ _); focus (simp only [SA, Nat.reduceAdd, reduceIte, Nat.reduceEqDiff, Nat.reduceBEq, reduceCtorEq]; (try go_unwrap; try simp only [RR, reduceCtorEq]))) | refine And.intro ?_ ?_ | exact Or.inr ⟨rfl, Nat.le_refl _⟩ | exact (fun h => Bool.noConfusion h))
  refine PW.loop (σ := Int × PS) [0, 1, 2, 7] (fun q => [.ref 0 0, .fn f first caps, .list none [.int .i64 4], .int .i64 q.1]) (fun q => some (rdP l q.2) :: some (rowO q.2) :: ν)
    (fun q => Good l s0 q ∧ ∃ k, l.length - q.2.at_ ≤ k ∧ R = rowL l part opsM k q.1 q.2) (fun q => l.length - q.2.at_) (n0, s1) ?_ rfl ⟨hg0, hkk⟩ ?_
  · simp only [SA, Nat.reduceAdd, reduceIte, Nat.reduceEqDiff, Nat.reduceBEq, reduceCtorEq]; rfl
  clear hp hkk hg0
  rintro ⟨n, s⟩ ⟨hg, k, hk, hR⟩
  simp only at hk hR
  simp only [List.zip_cons_cons, List.zip_nil_left]
  simp only [rdP, rowO]
  by_cases he : s.e = 0
  case neg =>
    have d1 : decide (s.e = 0) = false := by simp only [decide_eq_false_iff_not]; exact he
    have hRR : R = (n, s) := by rw [hR]; cases k <;> simp [rowL, he]
    subst hRR
    repeat' (first | exact True.intro | (refine PW.seqK ?_; intro K hK) | refine pwB ?_ | refine pwS ?_ | refine pwL ?_ | refine pwE ?_ | refine pwR ?_ | refine pwK ?_ | refine seqK_n ‹_› ?_ | refine seqK_r ‹_› ?_ | refine seqK_e ‹_› ?_ | refine PW.regionA ?_ | exact schedW_stop_i | refine schK_n ‹_› ?_ | (refine schedW_alt_k ?_ ?_; focus (intro K hK; simp only [d1, SA, Nat.reduceAdd, reduceIte, Nat.reduceEqDiff, Nat.reduceBEq, reduceCtorEq]; (try go_unwrap; try simp only [d1, RR, reduceCtorEq]))) | (refine PW.cond rfl ?_ ?_ <;> intro hcond <;> (try contradiction) <;> try simp only [DD] at hcond) | (refine gd_i ?_; intro hg; try simp only [hg]) | ((first | show (_ : Nat) ≤ _ | show (_ : Nat) < _ | show (_ : Int) ≤ _ | show (_ : Int) < _ | show (_ : Nat) = _ | show (_ : Int) = _ | show (_ : Bool) = _ | show _ ∨ _ | show ¬ _); first | omega | (simp only [DD, LL] <;> omega) | (go_unwrap; omega)) | ((first | refine PW.region ?_ | refine PW.regionQ ?_ | refine schedW_done_i ?_ | show (_ : Post) _ _ _ | show @Eq (List PV) _ _ | show @Eq Bool _ _ | show opsW _ _ _ _ _ _ _ _ | show okAll _ | show @Eq Bool _ _ ∨ _); focus (simp only [d1, SA, Nat.reduceAdd, reduceIte, Nat.reduceEqDiff, Nat.reduceBEq, reduceCtorEq]; (try go_unwrap; try simp only [d1, RR, reduceCtorEq]))) | refine And.intro ?_ ?_ | exact Or.inr ⟨rfl, Nat.le_refl _⟩ | exact (fun h => Bool.noConfusion h))
    all_goals rfl
  have d1 : decide (s.e = 0) = true := by simp only [decide_eq_true_eq]; exact he
  have hg' := hg
  obtain ⟨hlt, hle, hout, hn0, hn1, hgo, -⟩ := hg
  simp only at hlt hle hout hn0 hn1 hgo
  have htk : (s.out.map ndP).take s.out.length = s.out.map ndP := List.take_of_length_le (by simp)
  have hadv : s.at_ + 1 < l.length → Inv l (adv s 1) := fun h => ⟨by simpa [adv] using h, by have := hI.le; simp [adv]; omega, he, h0⟩
  obtain ⟨k', rfl⟩ : ∃ k', k = k' + 1 := ⟨k - 1, by omega⟩
  have wa : IntKind.i64.wrap ((s.at_ : Int) + 1) = ((s.at_ + 1 : Nat) : Int) := by rw [IntWalk.i64_in _ (by omega)]; simp
  repeat' (first | exact True.intro | (refine PW.seqK ?_; intro K hK) | refine pwB ?_ | refine pwS ?_ | refine pwL ?_ | refine pwE ?_ | refine pwR ?_ | refine pwK ?_ | refine seqK_n ‹_› ?_ | refine seqK_r ‹_› ?_ | refine seqK_e ‹_› ?_ | refine PW.regionA ?_ | exact schedW_stop_i | refine schK_n ‹_› ?_ | (refine schedW_alt_k ?_ ?_; focus (intro K hK; simp only [d1, SA, Nat.reduceAdd, reduceIte, Nat.reduceEqDiff, Nat.reduceBEq, reduceCtorEq]; (try go_unwrap; try simp only [d1, RR, reduceCtorEq]))) | (refine PW.cond rfl ?_ ?_ <;> intro hcond <;> (try contradiction) <;> try simp only [DD] at hcond) | (refine gd_i ?_; intro hg; try simp only [hg]) | ((first | show (_ : Nat) ≤ _ | show (_ : Nat) < _ | show (_ : Int) ≤ _ | show (_ : Int) < _ | show (_ : Nat) = _ | show (_ : Int) = _ | show (_ : Bool) = _ | show _ ∨ _ | show ¬ _); first | omega | (simp only [DD, LL] <;> omega) | (go_unwrap; omega)) | ((first | refine PW.region ?_ | refine PW.regionQ ?_ | refine schedW_done_i ?_ | show (_ : Post) _ _ _ | show @Eq (List PV) _ _ | show @Eq Bool _ _ | show opsW _ _ _ _ _ _ _ _ | show okAll _ | show @Eq Bool _ _ ∨ _); focus (simp only [d1, SA, Nat.reduceAdd, reduceIte, Nat.reduceEqDiff, Nat.reduceBEq, reduceCtorEq]; (try go_unwrap; try simp only [d1, RR, reduceCtorEq]))) | refine And.intro ?_ ?_ | exact Or.inr ⟨rfl, Nat.le_refl _⟩ | exact (fun h => Bool.noConfusion h))
  refine PW.loop (σ := Nat) [0, 1, 2, 7, 17, 18, 19] (fun j => [.ref 0 0, .fn f first caps, .list none [.int .i64 4], .int .i64 n, .list none [.int .i64 4], .int .i64 1, .int .i64 j]) (fun _ => some (rdP l s) :: some (rowO s) :: ν)
    (fun j => j ≤ 1 ∧ (0 < j → sgn l s [42] = false)) (fun j => 1 - j) 0 ?_ rfl ⟨by omega, by omega⟩ ?_
  · simp only [SA, Nat.reduceAdd, reduceIte, Nat.reduceEqDiff, Nat.reduceBEq, reduceCtorEq]; rfl
  rintro j ⟨hj, hsn⟩
  simp only [List.zip_cons_cons, List.zip_nil_left]
  simp only [rdP, rowO]
  rcases j with _ | j
  · have hv := v98 l s [42] hlt hl
    by_cases hs : sgn l s [42] = true
    · rw [hs] at hv
      have h1 := sgn_lt h0 hlt hs
      have hIa := hadv h1
      have hpa := hpart (adv s 1) hIa (by simp [adv]; omega)
      have hga := hgood (adv s 1) hIa (by simp [adv]; omega)
      have hRn : R = rowL l part opsM k' (putP (part (adv s 1)).2 ⟨4, 0, [], [n, (part (adv s 1)).1]⟩).1 (putP (part (adv s 1)).2 ⟨4, 0, [], [n, (part (adv s 1)).1]⟩).2 := by
        rw [hR]; simp [rowL, he, opsM, hs]
      have hle2 : s.at_ + 1 ≤ (part (adv s 1)).2.at_ := hga.le
      have hoo : (part (adv s 1)).2.out.length + (s.at_ + 1) ≤ s.out.length + (part (adv s 1)).2.at_ := hga.out
      generalize part (adv s 1) = r at hpa hga hRn hle2 hoo
      obtain ⟨rn, rs⟩ := r
      simp only at hRn hle2 hoo
      have hga2 := hga.lt
      simp only at hga2
      have hgood2 : Good l s0 (putP rs ⟨4, 0, [], [n, rn]⟩) := good_put (s := s0) hga.lt (by omega) (by omega) hI.le hga.er
      have hpt := (v99 l rs ⟨4, 0, [], [n, rn]⟩ (by have := hI.le; omega)).frame ν hν (by simp [PV.kill, ndP, ndC, kidsP])
      simp only [ndP, ndC, kidsP, List.map_cons, List.map_nil] at hpt
      simp only [RdC, rdP, rowO, adv] at hpa hpt
      repeat' (first | exact True.intro | (exact Or.inr (by decide)) | (exact Or.inr ⟨rfl, by decide⟩) | (refine PW.seqK ?_; intro K hK) | refine pwB ?_ | refine pwS ?_ | refine pwL ?_ | refine pwE ?_ | refine pwR ?_ | refine pwK ?_ | refine seqK_n ‹_› ?_ | refine seqK_r ‹_› ?_ | refine seqK_e ‹_› ?_ | refine PW.regionA ?_ | exact schedW_stop_i | refine schK_n ‹_› ?_ | (refine schedW_alt_k ?_ ?_; focus (intro K hK; simp only [gW, evalO, cw2, cw3, cw4, q2, wa, List.length_cons, List.length_nil, SA, Nat.reduceAdd, reduceIte, Nat.reduceEqDiff, Nat.reduceBEq, reduceCtorEq]; (try go_unwrap; try simp only [gW, evalO, cw2, cw3, cw4, q2, wa, List.length_cons, List.length_nil, RR, reduceCtorEq]))) | (refine PW.cond rfl ?_ ?_ <;> intro hcond <;> (try contradiction) <;> try simp only [DD] at hcond) | (refine goCall_K 1 hE hpa rfl ?_; rintro p μ' ⟨rfl, rfl⟩; simp only [hno, gW, evalO, cw2, cw3, cw4, q2, wa, List.length_cons, List.length_nil, SA, Nat.reduceAdd, reduceIte, Nat.reduceEqDiff, Nat.reduceBEq, reduceCtorEq]) | (refine goCall_K 1 e99 hpt rfl ?_; rintro p μ' ⟨rfl, rfl⟩; simp only [hno, gW, evalO, cw2, cw3, cw4, q2, wa, List.length_cons, List.length_nil, SA, Nat.reduceAdd, reduceIte, Nat.reduceEqDiff, Nat.reduceBEq, reduceCtorEq]) | (refine gd_i ?_; intro hg; try simp only [hg]) | refine goCall_L 1 e98 hv (by simp [PV.lend, PV.view, Mem.get, htk]) (by simp [PV.lends, PV.lend, PV.view, PV.seen, fitB, PV.scalar, Mem.get, Sh.size, htk]) (by simp [PV.flat]) ?_ | ((first | show (_ : Nat) ≤ _ | show (_ : Nat) < _ | show (_ : Int) ≤ _ | show (_ : Int) < _ | show (_ : Nat) = _ | show (_ : Int) = _ | show (_ : Bool) = _ | show _ ∨ _ | show ¬ _); first | omega | (simp only [DD, LL] <;> omega) | (go_unwrap; omega)) | ((first | refine PW.region ?_ | refine PW.regionQ ?_ | refine schedW_done_i ?_ | show (_ : Post) _ _ _ | show @Eq (List PV) _ _ | show @Eq Bool _ _ | show opsW _ _ _ _ _ _ _ _ | show okAll _ | show @Eq Bool _ _ ∨ _); focus (simp only [gW, evalO, cw2, cw3, cw4, q2, wa, List.length_cons, List.length_nil, SA, Nat.reduceAdd, reduceIte, Nat.reduceEqDiff, Nat.reduceBEq, reduceCtorEq]; (try go_unwrap; try simp only [gW, evalO, cw2, cw3, cw4, q2, wa, List.length_cons, List.length_nil, RR, reduceCtorEq]))) | refine And.intro ?_ ?_ | exact Or.inr ⟨rfl, Nat.le_refl _⟩ | exact (fun h => Bool.noConfusion h))
      all_goals exact ⟨putP rs ⟨4, 0, [], [n, rn]⟩, rfl, rfl, ⟨hgood2, k', by simp [putP]; omega, hRn⟩, by simp [putP]; omega⟩
    · have hs' : sgn l s [42] = false := by simpa using hs
      rw [hs'] at hv
      repeat' (first | exact True.intro | (exact Or.inr (by decide)) | (refine PW.seqK ?_; intro K hK) | refine pwB ?_ | refine pwS ?_ | refine pwL ?_ | refine pwE ?_ | refine pwR ?_ | refine pwK ?_ | refine seqK_n ‹_› ?_ | refine seqK_r ‹_› ?_ | refine seqK_e ‹_› ?_ | refine PW.regionA ?_ | exact schedW_stop_i | refine schK_n ‹_› ?_ | (refine schedW_alt_k ?_ ?_; focus (intro K hK; simp only [gW, evalO, cw2, cw3, cw4, List.length_cons, List.length_nil, SA, Nat.reduceAdd, reduceIte, Nat.reduceEqDiff, Nat.reduceBEq, reduceCtorEq]; (try go_unwrap; try simp only [gW, evalO, cw2, cw3, cw4, List.length_cons, List.length_nil, RR, reduceCtorEq]))) | (refine PW.cond rfl ?_ ?_ <;> intro hcond <;> (try contradiction) <;> try simp only [DD] at hcond) | (refine gd_i ?_; intro hg; try simp only [hg]) | refine goCall_L 1 e98 hv (by simp [PV.lend, PV.view, Mem.get, htk]) (by simp [PV.lends, PV.lend, PV.view, PV.seen, fitB, PV.scalar, Mem.get, Sh.size, htk]) (by simp [PV.flat]) ?_ | ((first | show (_ : Nat) ≤ _ | show (_ : Nat) < _ | show (_ : Int) ≤ _ | show (_ : Int) < _ | show (_ : Nat) = _ | show (_ : Int) = _ | show (_ : Bool) = _ | show _ ∨ _ | show ¬ _); first | omega | (simp only [DD, LL] <;> omega) | (go_unwrap; omega)) | ((first | refine PW.region ?_ | refine PW.regionQ ?_ | refine schedW_done_i ?_ | show (_ : Post) _ _ _ | show @Eq (List PV) _ _ | show @Eq Bool _ _ | show opsW _ _ _ _ _ _ _ _ | show okAll _ | show @Eq Bool _ _ ∨ _); focus (simp only [gW, evalO, cw2, cw3, cw4, List.length_cons, List.length_nil, SA, Nat.reduceAdd, reduceIte, Nat.reduceEqDiff, Nat.reduceBEq, reduceCtorEq]; (try go_unwrap; try simp only [gW, evalO, cw2, cw3, cw4, List.length_cons, List.length_nil, RR, reduceCtorEq]))) | refine And.intro ?_ ?_ | exact Or.inr ⟨rfl, Nat.le_refl _⟩ | exact (fun h => Bool.noConfusion h))
      all_goals exact ⟨1, rfl, ⟨by omega, fun _ => hs'⟩, by omega⟩
  · have hj0 : j = 0 := by omega
    subst hj0
    have n0 : sgn l s [42] = false := hsn (by omega)
    have hRR : R = (n, s) := by rw [hR]; simp [rowL, he, opsM, n0]
    subst hRR
    repeat' (first | exact True.intro | (refine PW.seqK ?_; intro K hK) | refine pwB ?_ | refine pwS ?_ | refine pwL ?_ | refine pwE ?_ | refine pwR ?_ | refine pwK ?_ | refine seqK_n ‹_› ?_ | refine seqK_r ‹_› ?_ | refine seqK_e ‹_› ?_ | refine PW.regionA ?_ | exact schedW_stop_i | refine schK_n ‹_› ?_ | (refine schedW_alt_k ?_ ?_; focus (intro K hK; simp only [List.length_cons, List.length_nil, SA, Nat.reduceAdd, reduceIte, Nat.reduceEqDiff, Nat.reduceBEq, reduceCtorEq]; (try go_unwrap; try simp only [List.length_cons, List.length_nil, RR, reduceCtorEq]))) | (refine PW.cond rfl ?_ ?_ <;> intro hcond <;> (try contradiction) <;> try simp only [DD] at hcond) | (refine gd_i ?_; intro hg; try simp only [hg]) | ((first | show (_ : Nat) ≤ _ | show (_ : Nat) < _ | show (_ : Int) ≤ _ | show (_ : Int) < _ | show (_ : Nat) = _ | show (_ : Int) = _ | show (_ : Bool) = _ | show _ ∨ _ | show ¬ _); first | omega | (simp only [DD, LL] <;> omega) | (go_unwrap; omega)) | ((first | refine PW.region ?_ | refine PW.regionQ ?_ | refine schedW_done_i ?_ | show (_ : Post) _ _ _ | show @Eq (List PV) _ _ | show @Eq Bool _ _ | show opsW _ _ _ _ _ _ _ _ | show okAll _ | show @Eq Bool _ _ ∨ _); focus (simp only [List.length_cons, List.length_nil, SA, Nat.reduceAdd, reduceIte, Nat.reduceEqDiff, Nat.reduceBEq, reduceCtorEq]; (try go_unwrap; try simp only [List.length_cons, List.length_nil, RR, reduceCtorEq]))) | refine And.intro ?_ ?_ | exact Or.inr ⟨rfl, Nat.le_refl _⟩ | exact (fun h => Bool.noConfusion h))
    all_goals rfl
end Go.Proofs.YthekpjhffciakaaDoor

