import Derived.Test.YthekpjhffciakaaDoorQ14
import Derived.Test.YthekpjhffciakaaDoorQ12
import Derived.Test.YthekpjhffciakaaDoorQ13
namespace Go.Proofs.YthekpjhffciakaaDoor
open Go PG Go.Proofs
set_option linter.unusedSimpArgs false
set_option linter.unusedVariables false
set_option maxHeartbeats 4000000
set_option maxRecDepth 100000
theorem gW' : G0 0 = some (some 10, wordsP) := rfl
theorem gK' : G0 1 = some (some 10, kidsTabP) := rfl
theorem words_drop : wordsP.cells.drop (Int.toNat 5) = callWords.map PV.str := rfl
theorem kids_get {op : Nat} (h5 : 5 ≤ op) (h9 : op ≤ 9) : kidsTab.getD op 0 = (kidN op : Int) := by
  have : op = 5 ∨ op = 6 ∨ op = 7 ∨ op = 8 ∨ op = 9 := by omega
  rcases this with rfl | rfl | rfl | rfl | rfl <;> rfl
theorem v100 (l : List Tok) (hl : l.length ≤ 100000) (sum : PS → Int × PS) (m : Nat) (hsum : ∀ s, Inv l s → l.length - s.at_ ≤ m → ∀ ν : Mem, ν.map (Option.map (MObj.kill (killTag 1))) = ν → RdC l 40 [.ref 0 0] ν s (sum s)) (hgood : GoodF l sum m)
    (s : PS) (hI : Inv l s) (hI2 : Inv l (adv s 2)) (hm : l.length - s.at_ ≤ m + 1) : RdC l 100 [.ref 0 0] [] s (callP l sum s) := by
  refine PCalls.moves (mv := fun t => t == 1 || decide (2 ≤ t)) (fun t ht h => ?_) ?_
  · simp only [List.length_cons, List.length_nil] at ht
    simp only [Bool.or_eq_true, beq_iff_eq, decide_eq_true_eq] at h
    simp only [killTag, beq_iff_eq]; omega
  refine PCalls.of_PW Tryd.func100 k100 mix (by simp [c100]) ?_
  simp only [c100, L100, CC, argE, rdP, rowO]
  obtain ⟨hlt, hle, he, h0⟩ := hI
  have hg := tk_get l s.at_ hlt
  have hlen := tks_len l
  have h126 := v126 callWords (tkAt l s.at_).2.1 (by decide)
  rw [idx_call] at h126
  have wa : IntKind.i64.wrap ((s.at_ : Int) + 2) = ((s.at_ + 2 : Nat) : Int) := by rw [IntWalk.i64_in _ (by omega)]; simp
  cases hc : callNo (tkAt l s.at_).2.1 with
  | none =>
    have hF : callP l sum s = failP s 21 := by unfold callP; rw [hc]
    rw [hF]
    rw [hc] at h126
    have hf := v41 l s 21
    generalize failP s 21 = q at hf
    simp only [RdC, rdP, rowO] at hf
    repeat' (first | exact True.intro | (refine PW.seqA (E := ?_) (M := ?_) ?_ ?_; rotate_left 2) | exact mergeQ_mk _ _ | (exact Or.inr ⟨rfl, by decide⟩) | (exact Or.inr (by decide)) | exact (Nat.le_of_ble_eq_true rfl : 10 ≤ maxLen) | (refine PW.stop (x := .ret) ?_) | (refine PW.seqK ?_; intro K hK) | refine stp ?_ | refine seqK_n ‹_› ?_ | refine seqK_r ‹_› ?_ | refine seqK_e ‹_› ?_ | exact schedW_stop_i | refine schK_n ‹_› ?_ | (refine PW.cond rfl ?_ ?_ <;> intro hcond <;> (try contradiction) <;> try simp only [DD] at hcond) | (refine goCall_K 1 e41 hf rfl ?_; rintro p μ' ⟨rfl, rfl⟩; simp only [hg, hlen, gW', evalO, words_drop, SA, Nat.reduceAdd, reduceIte, Nat.reduceEqDiff, Nat.reduceBEq, reduceCtorEq]) | (refine gd_i ?_; intro hg; try simp only [hg]) | refine goCall_W e126 (h126) ?_ ?_ ?_ ?_ | (refine ari ?_; first | omega | (simp only [DD, LL] <;> omega) | (go_unwrap; omega)) | ((first | refine stq ?_ | show (_ : Post) _ _ _ | (refine schedW_alt_k ?_ ?_; intro K hK)); focus (simp only [hg, hlen, gW', evalO, words_drop, SA, Nat.reduceAdd, reduceIte, Nat.reduceEqDiff, Nat.reduceBEq, reduceCtorEq]; (try go_unwrap; try simp only [hg, hlen, gW', evalO, words_drop, RR, reduceCtorEq]))) | refine And.intro ?_ ?_ | exact Or.inr ⟨rfl, Nat.le_refl _⟩ | exact (fun h => Bool.noConfusion h))
    refine ⟨?_⟩
    refine PW.trim 2 (fun t h => by simp [h]) ?_
    simp only [rdP, rowO, TT, MObj.kill, PV.kill, Nat.reduceLeDiff, reduceIte]
    repeat' (first | exact True.intro | (refine PW.seqK ?_; intro K hK) | refine stp ?_ | refine seqK_n ‹_› ?_ | refine seqK_r ‹_› ?_ | refine seqK_e ‹_› ?_ | exact schedW_stop_i | refine schK_n ‹_› ?_ | (refine PW.cond rfl ?_ ?_ <;> intro hcond <;> (try contradiction) <;> try simp only [DD] at hcond) | (refine gd_i ?_; intro hg; try simp only [hg]) | (refine ari ?_; first | omega | (simp only [DD, LL] <;> omega) | (go_unwrap; omega)) | ((first | refine stq ?_ | show (_ : Post) _ _ _ | (refine schedW_alt_k ?_ ?_; intro K hK)); focus (simp only [SA, Nat.reduceAdd, reduceIte, Nat.reduceEqDiff, Nat.reduceBEq, reduceCtorEq]; (try go_unwrap; try simp only [RR, reduceCtorEq]))) | refine And.intro ?_ ?_ | exact Or.inr ⟨rfl, Nat.le_refl _⟩ | exact (fun h => Bool.noConfusion h))
    all_goals rfl
  | some i =>
    have hi := callNo_lt hc
    have hF : callP l sum s = callL l sum (i + 5) (kidN (i + 5)) [] (adv s 2) := by unfold callP; rw [hc]
    rw [hF]
    rw [hc] at h126
    simp only at h126
    have w5 : IntKind.i64.wrap ((i : Int) + 5) = ((i + 5 : Nat) : Int) := by rw [IntWalk.i64_in _ (by omega)]; simp
    have d5 : decide (((i + 5 : Nat) : Int) < 5) = false := by simp only [decide_eq_false_iff_not]; omega
    have hkn := kids_get (op := i + 5) (by omega) (by omega)
    have hgood2 := callL_good (op := i + 5) hgood h0 (kidN (i + 5)) [] s (adv s 2) (by unfold kidN; split <;> omega) (by simp [adv]) hle hI2 (by simp [adv]) (by simp [adv]; omega)
    generalize hop : i + 5 = op at *
    generalize hR : callL l sum op (kidN op) [] (adv s 2) = R at *
    repeat' (first | exact True.intro | (refine PW.seqA (E := ?_) (M := ?_) ?_ ?_; rotate_left 2) | exact mergeQ_mk _ _ | (exact Or.inr ⟨rfl, by decide⟩) | (exact Or.inr (by decide)) | exact (Nat.le_of_ble_eq_true rfl : 10 ≤ maxLen) | (refine PW.seqK ?_; intro K hK) | refine stp ?_ | refine seqK_n ‹_› ?_ | refine seqK_r ‹_› ?_ | refine seqK_e ‹_› ?_ | exact schedW_stop_i | refine schK_n ‹_› ?_ | (refine PW.cond rfl ?_ ?_ <;> intro hcond <;> (try contradiction) <;> try simp only [DD] at hcond) | (refine gd_i ?_; intro hg; try simp only [hg]) | refine goCall_W e126 (h126) ?_ ?_ ?_ ?_ | (refine ari ?_; first | omega | (simp only [DD, LL] <;> omega) | (go_unwrap; omega)) | ((first | refine stq ?_ | show (_ : Post) _ _ _ | (refine schedW_alt_k ?_ ?_; intro K hK)); focus (simp only [hg, hlen, gW', evalO, words_drop, w5, d5, wa, q2, SA, Nat.reduceAdd, reduceIte, Nat.reduceEqDiff, Nat.reduceBEq, reduceCtorEq]; (try go_unwrap; try simp only [hg, hlen, gW', evalO, words_drop, w5, d5, wa, q2, RR, reduceCtorEq]))) | refine And.intro ?_ ?_ | exact Or.inr ⟨rfl, Nat.le_refl _⟩ | exact (fun h => Bool.noConfusion h))
    refine PW.ownE 4 none rfl ?_
    simp only [List.cons_append, List.nil_append, List.length_cons, List.length_nil]
    refine PW.loop (σ := List Int × PS) [0, 3, 4] (fun q => [.ref 0 0, .int .i64 op, .sl none 2 q.1.length]) (fun q => [some (rdP l q.2), some (rowO q.2), some (.row none (q.1.map (PV.int .i64)))])
      (fun q => ∃ k, 0 < k ∧ q.1.length + k = kidN op ∧ Inv l q.2 ∧ l.length - q.2.at_ ≤ m ∧ callL l sum op k q.1 q.2 = R) (fun q => l.length - q.2.at_) ([], adv s 2) ?_ ?_ ⟨kidN op, by unfold kidN; split <;> omega, by simp, hI2, by simp [adv]; omega, hR⟩ ?_
    · simp only [SA, Nat.reduceAdd, reduceIte, Nat.reduceEqDiff, Nat.reduceBEq, reduceCtorEq]; rfl
    · simp [rdP, rowO, adv]
    clear hR hgood2 hg wa h126 hF hm hlt hle he
    rintro ⟨ks, s1⟩ ⟨k, hk0, hkl, hI1, hm1, hR⟩
    simp only at hkl hI1 hm1 hR
    simp only [List.zip_cons_cons, List.zip_nil_left, rdP, rowO]
    obtain ⟨k, rfl⟩ : ∃ k', k = k' + 1 := ⟨k - 1, by omega⟩
    have hkn3 : kidN op ≤ 3 := by unfold kidN; split <;> omega
    have hsm := hsum s1 hI1 hm1 [some (.row none (ks.map (PV.int .i64)))] rfl
    have hga := hgood s1 hI1 hm1
    unfold callL at hR
    generalize sum s1 = r at hsm hga hR
    obtain ⟨n, r⟩ := r
    simp only at hR
    have hrl := hga.lt
    have hro := hga.out
    have hrle := hga.le
    simp only at hrl hro hrle
    have hile := hI1.le
    have hrk : (r.out.map ndP).take r.out.length = r.out.map ndP := List.take_of_length_le (by simp)
    have wr : IntKind.i64.wrap ((r.at_ : Int) + 1) = ((r.at_ + 1 : Nat) : Int) := by rw [IntWalk.i64_in _ (by omega)]; simp
    have hk1 : (ks.map (PV.int .i64)).take ks.length = ks.map (PV.int .i64) := List.take_of_length_le (by simp)
    have hk1' : ((ks.map (PV.int .i64)).length : Nat) = ks.length := by simp
    have hka : ks.map (PV.int .i64) ++ [.int .i64 n] = (ks ++ [n]).map (PV.int .i64) := by simp
    have hk2 : (((ks ++ [n]).map (PV.int .i64)).length : Nat) = ks.length + 1 := by simp
    have hk3 : ((ks ++ [n]).map (PV.int .i64)).take (ks.length + 1) = (ks ++ [n]).map (PV.int .i64) := List.take_of_length_le (by simp)
    have b1 : (ks.length + 1) * 8 ≤ 140737488355328 := by omega
    obtain ⟨hget, hlt10⟩ := kidsTab_get (op := (op : Int)) (by omega) (by omega)
    have hto : ((op : Int)).toNat = op := by omega
    rw [hto, hkn] at hget
    have hi3 : (0 + op * 1 + 1 ≤ (List.map (PV.int IntKind.i64) kidsTab).length) := by
      have : (List.map (PV.int IntKind.i64) kidsTab).length = 10 := rfl
      omega
    have hget2 := hget
    rw [Nat.zero_add] at hget2
    have hi4 := hi3
    rw [Nat.zero_add] at hi4
    simp only [RdC, rdP, rowO] at hsm
    by_cases hre : r.e = 0
    case neg =>
      have d6 : decide (r.e = 0) = false := by simp only [decide_eq_false_iff_not]; exact hre
      rw [if_pos hre] at hR
      subst hR
      repeat' (first | exact True.intro | (exact Or.inr ⟨rfl, by decide⟩) | (exact Or.inr (by decide)) | exact (Nat.le_of_ble_eq_true rfl : 10 ≤ maxLen) | (refine PW.stop (x := .ret) ?_) | (refine PW.seqK ?_; intro K hK) | refine stp ?_ | refine seqK_n ‹_› ?_ | refine seqK_r ‹_› ?_ | refine seqK_e ‹_› ?_ | exact schedW_stop_i | refine schK_n ‹_› ?_ | (refine PW.cond rfl ?_ ?_ <;> intro hcond <;> (try contradiction) <;> try simp only [DD] at hcond) | (refine goCall_K 1 e40 hsm rfl ?_; rintro p μ' ⟨rfl, rfl⟩; simp only [hk1, hk1', hka, d6, Nat.zero_add, List.length_cons, List.length_nil, SA, Nat.reduceAdd, reduceIte, Nat.reduceEqDiff, Nat.reduceBEq, reduceCtorEq]) | (refine gd_i ?_; intro hg; try simp only [hg]) | (refine ari ?_; first | omega | (simp only [DD, LL] <;> omega) | (go_unwrap; omega)) | ((first | refine stq ?_ | show (_ : Post) _ _ _ | (refine schedW_alt_k ?_ ?_; intro K hK)); focus (simp only [hk1, hk1', hka, d6, Nat.zero_add, List.length_cons, List.length_nil, SA, Nat.reduceAdd, reduceIte, Nat.reduceEqDiff, Nat.reduceBEq, reduceCtorEq]; (try go_unwrap; try simp only [hk1, hk1', hka, d6, Nat.zero_add, List.length_cons, List.length_nil, RR, reduceCtorEq]))) | refine And.intro ?_ ?_ | exact Or.inr ⟨rfl, Nat.le_refl _⟩ | exact (fun h => Bool.noConfusion h))
      refine ⟨?_⟩
      refine PW.trim 2 (fun t h => by simp [h]) ?_
      simp only [rdP, rowO, TT, MObj.kill, PV.kill, Nat.reduceLeDiff, reduceIte]
      repeat' (first | exact True.intro | (refine PW.seqK ?_; intro K hK) | refine stp ?_ | refine seqK_n ‹_› ?_ | refine seqK_r ‹_› ?_ | refine seqK_e ‹_› ?_ | exact schedW_stop_i | refine schK_n ‹_› ?_ | (refine PW.cond rfl ?_ ?_ <;> intro hcond <;> (try contradiction) <;> try simp only [DD] at hcond) | (refine gd_i ?_; intro hg; try simp only [hg]) | (refine ari ?_; first | omega | (simp only [DD, LL] <;> omega) | (go_unwrap; omega)) | ((first | refine stq ?_ | show (_ : Post) _ _ _ | (refine schedW_alt_k ?_ ?_; intro K hK)); focus (simp only [SA, Nat.reduceAdd, reduceIte, Nat.reduceEqDiff, Nat.reduceBEq, reduceCtorEq]; (try go_unwrap; try simp only [RR, reduceCtorEq]))) | refine And.intro ?_ ?_ | exact Or.inr ⟨rfl, Nat.le_refl _⟩ | exact (fun h => Bool.noConfusion h))
      all_goals rfl
    have d6 : decide (r.e = 0) = true := by simp only [decide_eq_true_eq]; exact hre
    rw [if_neg (by simp [hre])] at hR
    have hva := v98 l r [44] hrl hl
    have hvb := v98 l r [41] hrl hl
    by_cases hk : k = 0
    · rw [if_pos hk] at hR
      have dlt : decide (((ks.length + 1 : Nat) : Int) < (kidN op : Int)) = false := by simp only [decide_eq_false_iff_not]; omega
      have deq : decide (((ks.length + 1 : Nat) : Int) = (kidN op : Int)) = true := by simp only [decide_eq_true_eq]; omega
      by_cases hs2 : sgn l r [41] = true
      · rw [hs2] at hvb
        rw [if_pos hs2] at hR
        have h1 := sgn_lt h0 hrl hs2
        have hpt := (v99 l (adv r 1) ⟨op, 0, [], ks ++ [n]⟩ (by simp [adv]; omega)).frame [none] rfl (by simp [PV.kill, ndP, ndC, kidsP])
        rw [hR] at hpt
        simp only [ndP, ndC, kidsP] at hpt
        simp only [RdC, rdP, rowO, adv] at hpt
        repeat' (first | exact True.intro | (exact Or.inr ⟨rfl, by decide⟩) | (refine PW.stop (x := .seq (.region false (⟨some 79, none, .rd .mov [.tmp 0]⟩ :: _) _) _) ?_) | (refine PW.seqK ?_; intro K hK) | refine stp ?_ | refine seqK_n ‹_› ?_ | refine seqK_r ‹_› ?_ | refine seqK_e ‹_› ?_ | exact schedW_stop_i | refine schK_n ‹_› ?_ | (refine PW.cond rfl ?_ ?_ <;> intro hcond <;> (try contradiction) <;> try simp only [DD] at hcond) | (refine goCall_K 1 e40 hsm rfl ?_; rintro p μ' ⟨rfl, rfl⟩; simp only [hk1, hk1', hka, d6, gK', evalO, kidsTabP, hget, hto, hi3, hget2, hi4, Bool.and_false, Bool.false_and, Bool.and_true, dlt, deq, wr, q2, Nat.zero_add, List.length_cons, List.length_nil, SA, Nat.reduceAdd, reduceIte, Nat.reduceEqDiff, Nat.reduceBEq, reduceCtorEq]) | (refine goCall_L 1 e98 hva ?_ ?_ ?_ ?_; (focus (simp [PV.lend, PV.view, Mem.get, hrk]; done)); (focus (simp [PV.lends, PV.lend, PV.view, PV.seen, fitB, PV.scalar, Mem.get, Sh.size, hrk]; done)); (focus (simp [PV.flat]; done)); simp only [hk1, hk1', hka, d6, gK', evalO, kidsTabP, hget, hto, hi3, hget2, hi4, Bool.and_false, Bool.false_and, Bool.and_true, dlt, deq, wr, q2, Nat.zero_add, List.length_cons, List.length_nil, SA, Nat.reduceAdd, reduceIte, Nat.reduceEqDiff, Nat.reduceBEq, reduceCtorEq]) | (refine goCall_L 1 e98 hvb ?_ ?_ ?_ ?_; (focus (simp [PV.lend, PV.view, Mem.get, hrk]; done)); (focus (simp [PV.lends, PV.lend, PV.view, PV.seen, fitB, PV.scalar, Mem.get, Sh.size, hrk]; done)); (focus (simp [PV.flat]; done)); simp only [hk1, hk1', hka, d6, gK', evalO, kidsTabP, hget, hto, hi3, hget2, hi4, Bool.and_false, Bool.false_and, Bool.and_true, dlt, deq, wr, q2, Nat.zero_add, List.length_cons, List.length_nil, SA, Nat.reduceAdd, reduceIte, Nat.reduceEqDiff, Nat.reduceBEq, reduceCtorEq]) | (refine gd_i ?_; intro hg; try simp only [hg]) | (refine ari ?_; first | omega | (simp only [DD, LL] <;> omega) | (go_unwrap; omega)) | ((first | refine stq ?_ | show (_ : Post) _ _ _ | (refine schedW_alt_k ?_ ?_; intro K hK)); focus (simp only [hk1, hk1', hka, d6, gK', evalO, kidsTabP, hget, hto, hi3, hget2, hi4, Bool.and_false, Bool.false_and, Bool.and_true, dlt, deq, wr, q2, Nat.zero_add, List.length_cons, List.length_nil, SA, Nat.reduceAdd, reduceIte, Nat.reduceEqDiff, Nat.reduceBEq, reduceCtorEq]; (try go_unwrap; try simp only [hk1, hk1', hka, d6, gK', evalO, kidsTabP, hget, hto, hi3, hget2, hi4, Bool.and_false, Bool.false_and, Bool.and_true, dlt, deq, wr, q2, Nat.zero_add, List.length_cons, List.length_nil, RR, reduceCtorEq]))) | refine And.intro ?_ ?_ | exact Or.inr ⟨rfl, Nat.le_refl _⟩ | exact (fun h => Bool.noConfusion h))
        refine ⟨?_⟩
        refine PW.frz 2 (.row none ((ks ++ [n]).map (PV.int .i64))) ?_ ?_ ?_
        · rfl
        · rfl
        simp only [SA, Nat.reduceAdd, reduceIte, Nat.reduceEqDiff, Nat.reduceBEq, reduceCtorEq, PV.frz, MObj.frz, frzM, frzSl, hk2, hk3, Nat.le_refl, and_self, if_true]
        repeat' (first | exact True.intro | (exact Or.inr ⟨rfl, by decide⟩) | (exact Or.inr (by decide)) | exact (Nat.le_of_ble_eq_true rfl : 10 ≤ maxLen) | (refine PW.stop (x := .ret) ?_) | (refine PW.seqK ?_; intro K hK) | refine stp ?_ | refine seqK_n ‹_› ?_ | refine seqK_r ‹_› ?_ | refine seqK_e ‹_› ?_ | exact schedW_stop_i | refine schK_n ‹_› ?_ | (refine PW.cond rfl ?_ ?_ <;> intro hcond <;> (try contradiction) <;> try simp only [DD] at hcond) | (refine goCall_K 1 e99 hpt rfl ?_; rintro p μ' ⟨rfl, rfl⟩; simp only [List.length_cons, List.length_nil, SA, Nat.reduceAdd, reduceIte, Nat.reduceEqDiff, Nat.reduceBEq, reduceCtorEq]) | (refine gd_i ?_; intro hg; try simp only [hg]) | (refine ari ?_; first | omega | (simp only [DD, LL] <;> omega) | (go_unwrap; omega)) | ((first | refine stq ?_ | show (_ : Post) _ _ _ | (refine schedW_alt_k ?_ ?_; intro K hK)); focus (simp only [List.length_cons, List.length_nil, SA, Nat.reduceAdd, reduceIte, Nat.reduceEqDiff, Nat.reduceBEq, reduceCtorEq]; (try go_unwrap; try simp only [List.length_cons, List.length_nil, RR, reduceCtorEq]))) | refine And.intro ?_ ?_ | exact Or.inr ⟨rfl, Nat.le_refl _⟩ | exact (fun h => Bool.noConfusion h))
        refine ⟨?_⟩
        refine PW.trim 2 (fun t h => by simp [h]) ?_
        simp only [rdP, rowO, TT, MObj.kill, PV.kill, Nat.reduceLeDiff, reduceIte]
        repeat' (first | exact True.intro | (refine PW.seqK ?_; intro K hK) | refine stp ?_ | refine seqK_n ‹_› ?_ | refine seqK_r ‹_› ?_ | refine seqK_e ‹_› ?_ | exact schedW_stop_i | refine schK_n ‹_› ?_ | (refine PW.cond rfl ?_ ?_ <;> intro hcond <;> (try contradiction) <;> try simp only [DD] at hcond) | (refine gd_i ?_; intro hg; try simp only [hg]) | (refine ari ?_; first | omega | (simp only [DD, LL] <;> omega) | (go_unwrap; omega)) | ((first | refine stq ?_ | show (_ : Post) _ _ _ | (refine schedW_alt_k ?_ ?_; intro K hK)); focus (simp only [SA, Nat.reduceAdd, reduceIte, Nat.reduceEqDiff, Nat.reduceBEq, reduceCtorEq]; (try go_unwrap; try simp only [RR, reduceCtorEq]))) | refine And.intro ?_ ?_ | exact Or.inr ⟨rfl, Nat.le_refl _⟩ | exact (fun h => Bool.noConfusion h))
        all_goals rfl
      · have hs2' : sgn l r [41] = false := by simpa using hs2
        rw [hs2'] at hvb
        rw [if_neg hs2] at hR
        have hf := (v41 l r 3).frame [some (.row none ((ks ++ [n]).map (PV.int .i64)))] rfl (by simp [PV.kill])
        rw [hR] at hf
        simp only [RdC, rdP, rowO] at hf
        repeat' (first | exact True.intro | (exact Or.inr ⟨rfl, by decide⟩) | (exact Or.inr (by decide)) | exact (Nat.le_of_ble_eq_true rfl : 10 ≤ maxLen) | (refine PW.stop (x := .ret) ?_) | (refine PW.seqK ?_; intro K hK) | refine stp ?_ | refine seqK_n ‹_› ?_ | refine seqK_r ‹_› ?_ | refine seqK_e ‹_› ?_ | exact schedW_stop_i | refine schK_n ‹_› ?_ | (refine PW.cond rfl ?_ ?_ <;> intro hcond <;> (try contradiction) <;> try simp only [DD] at hcond) | (refine goCall_K 1 e40 hsm rfl ?_; rintro p μ' ⟨rfl, rfl⟩; simp only [hk1, hk1', hka, d6, gK', evalO, kidsTabP, hget, hto, hi3, hget2, hi4, Bool.and_false, Bool.false_and, Bool.and_true, dlt, deq, wr, q2, Nat.zero_add, List.length_cons, List.length_nil, SA, Nat.reduceAdd, reduceIte, Nat.reduceEqDiff, Nat.reduceBEq, reduceCtorEq]) | (refine goCall_L 1 e98 hva ?_ ?_ ?_ ?_; (focus (simp [PV.lend, PV.view, Mem.get, hrk]; done)); (focus (simp [PV.lends, PV.lend, PV.view, PV.seen, fitB, PV.scalar, Mem.get, Sh.size, hrk]; done)); (focus (simp [PV.flat]; done)); simp only [hk1, hk1', hka, d6, gK', evalO, kidsTabP, hget, hto, hi3, hget2, hi4, Bool.and_false, Bool.false_and, Bool.and_true, dlt, deq, wr, q2, Nat.zero_add, List.length_cons, List.length_nil, SA, Nat.reduceAdd, reduceIte, Nat.reduceEqDiff, Nat.reduceBEq, reduceCtorEq]) | (refine goCall_L 1 e98 hvb ?_ ?_ ?_ ?_; (focus (simp [PV.lend, PV.view, Mem.get, hrk]; done)); (focus (simp [PV.lends, PV.lend, PV.view, PV.seen, fitB, PV.scalar, Mem.get, Sh.size, hrk]; done)); (focus (simp [PV.flat]; done)); simp only [hk1, hk1', hka, d6, gK', evalO, kidsTabP, hget, hto, hi3, hget2, hi4, Bool.and_false, Bool.false_and, Bool.and_true, dlt, deq, wr, q2, Nat.zero_add, List.length_cons, List.length_nil, SA, Nat.reduceAdd, reduceIte, Nat.reduceEqDiff, Nat.reduceBEq, reduceCtorEq]) | (refine goCall_K 1 e41 hf rfl ?_; rintro p μ' ⟨rfl, rfl⟩; simp only [hk1, hk1', hka, d6, gK', evalO, kidsTabP, hget, hto, hi3, hget2, hi4, Bool.and_false, Bool.false_and, Bool.and_true, dlt, deq, wr, q2, Nat.zero_add, List.length_cons, List.length_nil, SA, Nat.reduceAdd, reduceIte, Nat.reduceEqDiff, Nat.reduceBEq, reduceCtorEq]) | (refine gd_i ?_; intro hg; try simp only [hg]) | (refine ari ?_; first | omega | (simp only [DD, LL] <;> omega) | (go_unwrap; omega)) | ((first | refine stq ?_ | show (_ : Post) _ _ _ | (refine schedW_alt_k ?_ ?_; intro K hK)); focus (simp only [hk1, hk1', hka, d6, gK', evalO, kidsTabP, hget, hto, hi3, hget2, hi4, Bool.and_false, Bool.false_and, Bool.and_true, dlt, deq, wr, q2, Nat.zero_add, List.length_cons, List.length_nil, SA, Nat.reduceAdd, reduceIte, Nat.reduceEqDiff, Nat.reduceBEq, reduceCtorEq]; (try go_unwrap; try simp only [hk1, hk1', hka, d6, gK', evalO, kidsTabP, hget, hto, hi3, hget2, hi4, Bool.and_false, Bool.false_and, Bool.and_true, dlt, deq, wr, q2, Nat.zero_add, List.length_cons, List.length_nil, RR, reduceCtorEq]))) | refine And.intro ?_ ?_ | exact Or.inr ⟨rfl, Nat.le_refl _⟩ | exact (fun h => Bool.noConfusion h))
        refine ⟨?_⟩
        refine PW.trim 2 (fun t h => by simp [h]) ?_
        simp only [rdP, rowO, TT, MObj.kill, PV.kill, Nat.reduceLeDiff, reduceIte]
        repeat' (first | exact True.intro | (refine PW.seqK ?_; intro K hK) | refine stp ?_ | refine seqK_n ‹_› ?_ | refine seqK_r ‹_› ?_ | refine seqK_e ‹_› ?_ | exact schedW_stop_i | refine schK_n ‹_› ?_ | (refine PW.cond rfl ?_ ?_ <;> intro hcond <;> (try contradiction) <;> try simp only [DD] at hcond) | (refine gd_i ?_; intro hg; try simp only [hg]) | (refine ari ?_; first | omega | (simp only [DD, LL] <;> omega) | (go_unwrap; omega)) | ((first | refine stq ?_ | show (_ : Post) _ _ _ | (refine schedW_alt_k ?_ ?_; intro K hK)); focus (simp only [SA, Nat.reduceAdd, reduceIte, Nat.reduceEqDiff, Nat.reduceBEq, reduceCtorEq]; (try go_unwrap; try simp only [RR, reduceCtorEq]))) | refine And.intro ?_ ?_ | exact Or.inr ⟨rfl, Nat.le_refl _⟩ | exact (fun h => Bool.noConfusion h))
        all_goals rfl
    · rw [if_neg hk] at hR
      have dlt : decide (((ks.length + 1 : Nat) : Int) < (kidN op : Int)) = true := by simp only [decide_eq_true_eq]; omega
      have deq : decide (((ks.length + 1 : Nat) : Int) = (kidN op : Int)) = false := by simp only [decide_eq_false_iff_not]; omega
      by_cases hs1 : sgn l r [44] = true
      · rw [hs1] at hva
        rw [if_pos hs1] at hR
        have h1 := sgn_lt h0 hrl hs1
        have hgo := hga.go hre
        simp only at hgo
        repeat' (first | exact True.intro | (exact Or.inr ⟨rfl, by decide⟩) | (refine PW.seqK ?_; intro K hK) | refine stp ?_ | refine seqK_n ‹_› ?_ | refine seqK_r ‹_› ?_ | refine seqK_e ‹_› ?_ | exact schedW_stop_i | refine schK_n ‹_› ?_ | (refine PW.cond rfl ?_ ?_ <;> intro hcond <;> (try contradiction) <;> try simp only [DD] at hcond) | (refine goCall_K 1 e40 hsm rfl ?_; rintro p μ' ⟨rfl, rfl⟩; simp only [hk1, hk1', hka, d6, gK', evalO, kidsTabP, hget, hto, hi3, hget2, hi4, Bool.and_false, Bool.false_and, Bool.and_true, dlt, deq, wr, q2, Nat.zero_add, List.length_cons, List.length_nil, SA, Nat.reduceAdd, reduceIte, Nat.reduceEqDiff, Nat.reduceBEq, reduceCtorEq]) | (refine goCall_L 1 e98 hva ?_ ?_ ?_ ?_; (focus (simp [PV.lend, PV.view, Mem.get, hrk]; done)); (focus (simp [PV.lends, PV.lend, PV.view, PV.seen, fitB, PV.scalar, Mem.get, Sh.size, hrk]; done)); (focus (simp [PV.flat]; done)); simp only [hk1, hk1', hka, d6, gK', evalO, kidsTabP, hget, hto, hi3, hget2, hi4, Bool.and_false, Bool.false_and, Bool.and_true, dlt, deq, wr, q2, Nat.zero_add, List.length_cons, List.length_nil, SA, Nat.reduceAdd, reduceIte, Nat.reduceEqDiff, Nat.reduceBEq, reduceCtorEq]) | (refine gd_i ?_; intro hg; try simp only [hg]) | (refine ari ?_; first | omega | (simp only [DD, LL] <;> omega) | (go_unwrap; omega)) | ((first | refine stq ?_ | show (_ : Post) _ _ _ | (refine schedW_alt_k ?_ ?_; intro K hK)); focus (simp only [hk1, hk1', hka, d6, gK', evalO, kidsTabP, hget, hto, hi3, hget2, hi4, Bool.and_false, Bool.false_and, Bool.and_true, dlt, deq, wr, q2, Nat.zero_add, List.length_cons, List.length_nil, SA, Nat.reduceAdd, reduceIte, Nat.reduceEqDiff, Nat.reduceBEq, reduceCtorEq]; (try go_unwrap; try simp only [hk1, hk1', hka, d6, gK', evalO, kidsTabP, hget, hto, hi3, hget2, hi4, Bool.and_false, Bool.false_and, Bool.and_true, dlt, deq, wr, q2, Nat.zero_add, List.length_cons, List.length_nil, RR, reduceCtorEq]))) | refine And.intro ?_ ?_ | exact Or.inr ⟨rfl, Nat.le_refl _⟩ | exact (fun h => Bool.noConfusion h))
        all_goals exact ⟨(ks ++ [n], adv r 1), by simp, rfl, ⟨k, by omega, by simp; omega, ⟨by simpa [adv] using h1, by simp [adv]; omega, hre, h0⟩, by simp [adv]; omega, hR⟩, by simp [adv]; omega⟩
      · have hs1' : sgn l r [44] = false := by simpa using hs1
        rw [hs1'] at hva
        rw [if_neg hs1] at hR
        have hf := (v41 l r 3).frame [some (.row none ((ks ++ [n]).map (PV.int .i64)))] rfl (by simp [PV.kill])
        rw [hR] at hf
        simp only [RdC, rdP, rowO] at hf
        repeat' (first | exact True.intro | (exact Or.inr ⟨rfl, by decide⟩) | (exact Or.inr (by decide)) | exact (Nat.le_of_ble_eq_true rfl : 10 ≤ maxLen) | (refine PW.stop (x := .ret) ?_) | (refine PW.seqK ?_; intro K hK) | refine stp ?_ | refine seqK_n ‹_› ?_ | refine seqK_r ‹_› ?_ | refine seqK_e ‹_› ?_ | exact schedW_stop_i | refine schK_n ‹_› ?_ | (refine PW.cond rfl ?_ ?_ <;> intro hcond <;> (try contradiction) <;> try simp only [DD] at hcond) | (refine goCall_K 1 e40 hsm rfl ?_; rintro p μ' ⟨rfl, rfl⟩; simp only [hk1, hk1', hka, d6, gK', evalO, kidsTabP, hget, hto, hi3, hget2, hi4, Bool.and_false, Bool.false_and, Bool.and_true, dlt, deq, wr, q2, Nat.zero_add, List.length_cons, List.length_nil, SA, Nat.reduceAdd, reduceIte, Nat.reduceEqDiff, Nat.reduceBEq, reduceCtorEq]) | (refine goCall_L 1 e98 hva ?_ ?_ ?_ ?_; (focus (simp [PV.lend, PV.view, Mem.get, hrk]; done)); (focus (simp [PV.lends, PV.lend, PV.view, PV.seen, fitB, PV.scalar, Mem.get, Sh.size, hrk]; done)); (focus (simp [PV.flat]; done)); simp only [hk1, hk1', hka, d6, gK', evalO, kidsTabP, hget, hto, hi3, hget2, hi4, Bool.and_false, Bool.false_and, Bool.and_true, dlt, deq, wr, q2, Nat.zero_add, List.length_cons, List.length_nil, SA, Nat.reduceAdd, reduceIte, Nat.reduceEqDiff, Nat.reduceBEq, reduceCtorEq]) | (refine goCall_L 1 e98 hvb ?_ ?_ ?_ ?_; (focus (simp [PV.lend, PV.view, Mem.get, hrk]; done)); (focus (simp [PV.lends, PV.lend, PV.view, PV.seen, fitB, PV.scalar, Mem.get, Sh.size, hrk]; done)); (focus (simp [PV.flat]; done)); simp only [hk1, hk1', hka, d6, gK', evalO, kidsTabP, hget, hto, hi3, hget2, hi4, Bool.and_false, Bool.false_and, Bool.and_true, dlt, deq, wr, q2, Nat.zero_add, List.length_cons, List.length_nil, SA, Nat.reduceAdd, reduceIte, Nat.reduceEqDiff, Nat.reduceBEq, reduceCtorEq]) | (refine goCall_K 1 e41 hf rfl ?_; rintro p μ' ⟨rfl, rfl⟩; simp only [hk1, hk1', hka, d6, gK', evalO, kidsTabP, hget, hto, hi3, hget2, hi4, Bool.and_false, Bool.false_and, Bool.and_true, dlt, deq, wr, q2, Nat.zero_add, List.length_cons, List.length_nil, SA, Nat.reduceAdd, reduceIte, Nat.reduceEqDiff, Nat.reduceBEq, reduceCtorEq]) | (refine gd_i ?_; intro hg; try simp only [hg]) | (refine ari ?_; first | omega | (simp only [DD, LL] <;> omega) | (go_unwrap; omega)) | ((first | refine stq ?_ | show (_ : Post) _ _ _ | (refine schedW_alt_k ?_ ?_; intro K hK)); focus (simp only [hk1, hk1', hka, d6, gK', evalO, kidsTabP, hget, hto, hi3, hget2, hi4, Bool.and_false, Bool.false_and, Bool.and_true, dlt, deq, wr, q2, Nat.zero_add, List.length_cons, List.length_nil, SA, Nat.reduceAdd, reduceIte, Nat.reduceEqDiff, Nat.reduceBEq, reduceCtorEq]; (try go_unwrap; try simp only [hk1, hk1', hka, d6, gK', evalO, kidsTabP, hget, hto, hi3, hget2, hi4, Bool.and_false, Bool.false_and, Bool.and_true, dlt, deq, wr, q2, Nat.zero_add, List.length_cons, List.length_nil, RR, reduceCtorEq]))) | refine And.intro ?_ ?_ | exact Or.inr ⟨rfl, Nat.le_refl _⟩ | exact (fun h => Bool.noConfusion h))
        refine ⟨?_⟩
        refine PW.trim 2 (fun t h => by simp [h]) ?_
        simp only [rdP, rowO, TT, MObj.kill, PV.kill, Nat.reduceLeDiff, reduceIte]
        repeat' (first | exact True.intro | (refine PW.seqK ?_; intro K hK) | refine stp ?_ | refine seqK_n ‹_› ?_ | refine seqK_r ‹_› ?_ | refine seqK_e ‹_› ?_ | exact schedW_stop_i | refine schK_n ‹_› ?_ | (refine PW.cond rfl ?_ ?_ <;> intro hcond <;> (try contradiction) <;> try simp only [DD] at hcond) | (refine gd_i ?_; intro hg; try simp only [hg]) | (refine ari ?_; first | omega | (simp only [DD, LL] <;> omega) | (go_unwrap; omega)) | ((first | refine stq ?_ | show (_ : Post) _ _ _ | (refine schedW_alt_k ?_ ?_; intro K hK)); focus (simp only [SA, Nat.reduceAdd, reduceIte, Nat.reduceEqDiff, Nat.reduceBEq, reduceCtorEq]; (try go_unwrap; try simp only [RR, reduceCtorEq]))) | refine And.intro ?_ ?_ | exact Or.inr ⟨rfl, Nat.le_refl _⟩ | exact (fun h => Bool.noConfusion h))
        all_goals rfl
end Go.Proofs.YthekpjhffciakaaDoor

namespace Go.Proofs.YthekpjhffciakaaDoor
open Go PG Go.Proofs
set_option linter.unusedSimpArgs false
set_option linter.unusedVariables false
set_option maxHeartbeats 4000000
set_option maxRecDepth 100000
/-! Parse -/
theorem prog_sum (l : List Tok) (hl : l.length ≤ 100000) (htx : ∀ i, (tkAt l i).2.1.length ≤ 100000) : ∀ (k : Nat) (s : PS), Inv l s → l.length - s.at_ ≤ k → ∀ ν : Mem, ν.map (Option.map (MObj.kill (killTag 1))) = ν → RdC l 40 [.ref 0 0] ν s (sumP nmP l true k s)
  | 0, s, hI, hm => absurd hI.lt (by omega)
  | k + 1, s, hI, hm => fun ν hν => by
    have ih := prog_sum l hl htx k
    have hgood := sumP_good (nm := nmP) (l := l) (jk := true) k
    refine (v40 l hl (factorP nmP l true (sumP nmP l true k)) (k + 1) (fun s hI hm => ?_) (factor_good hgood) s hI hm).frame ν hν (by simp [PV.kill])
    exact (v73 l hl htx _ k ih hgood (fun s h1 h2 h3 => v100 l hl _ k ih hgood s h1 h2 h3) s hI hm).frame varR (by simp [varR, MObj.kill, PV.kill, killTag]) (by simp [PV.kill])
def parseS (s : List UInt8) : Except (Nat × Int) (List Nd) :=
  match allE s with
  | .error (o, e) => .error (o, e)
  | .ok l => parseR nmP l true
def parsePV : Except (Nat × Int) (List Nd) → PV
  | .error (a, e) => .tup [treeP [], .int .i64 a, .int .i64 e]
  | .ok nd => .tup [treeP nd, .int .i64 0, .int .i64 0]
theorem e18 : Ent Tryd.prog 18 := ⟨Tryd.f18, Tryd.func18, by kernel_rfl, by kernel_rfl⟩
theorem v18 (s : List UInt8) (hs : s.length ≤ 9223372036854775800) : VCalls Tryd.prog G0 18 [.str s] (parsePV (parseS s)) := by
  have h19 := v19 (G := G0) s hs
  unfold parseS
  cases hA : allE s with
  | error p =>
    obtain ⟨o, e⟩ := p
    have he := (all_errs hA).2
    rw [hA] at h19
    simp only [allP] at h19
    have d1 : decide ((e : Int) = 0) = false := by simp only [decide_eq_false_iff_not]; omega
    refine VCalls.of_PW Tryd.func18 k18 mix (by simp [c18]) ?_
    simp only [c18, L18, CC, argE]
    repeat' (first | exact True.intro | (exact Or.inr ⟨rfl, by decide⟩) | (refine PW.stop (x := .ret) ?_) | (refine PW.seqK ?_; intro K hK) | refine stp ?_ | refine seqK_n ‹_› ?_ | refine seqK_r ‹_› ?_ | refine seqK_e ‹_› ?_ | exact schedW_stop_i | refine schK_n ‹_› ?_ | (refine PW.cond rfl ?_ ?_ <;> intro hcond <;> (try contradiction) <;> try simp only [DD] at hcond) | (refine gd_i ?_; intro hg; try simp only [hg]) | refine goCall_W e19 (h19) ?_ ?_ ?_ ?_ | (refine ari ?_; first | omega | (simp only [DD, LL] <;> omega) | (go_unwrap; omega)) | ((first | refine stq ?_ | show (_ : Post) _ _ _ | (refine schedW_alt_k ?_ ?_; intro K hK)); focus (simp only [d1, SA, Nat.reduceAdd, reduceIte, Nat.reduceEqDiff, Nat.reduceBEq, reduceCtorEq]; (try go_unwrap; try simp only [d1, RR, reduceCtorEq]))) | refine And.intro ?_ ?_ | exact Or.inr ⟨rfl, Nat.le_refl _⟩ | exact (fun h => Bool.noConfusion h))
    refine ⟨?_⟩
    refine PW.subM 0 1 _ [.list (some 4) []] (.nilto (some 4) .nil) rfl ?_
    simp only [List.set_cons_zero]
    repeat' (first | exact True.intro | (refine PW.seqK ?_; intro K hK) | refine stp ?_ | refine seqK_n ‹_› ?_ | refine seqK_r ‹_› ?_ | refine seqK_e ‹_› ?_ | exact schedW_stop_i | refine schK_n ‹_› ?_ | (refine PW.cond rfl ?_ ?_ <;> intro hcond <;> (try contradiction) <;> try simp only [DD] at hcond) | (refine gd_i ?_; intro hg; try simp only [hg]) | (refine ari ?_; first | omega | (simp only [DD, LL] <;> omega) | (go_unwrap; omega)) | ((first | refine stq ?_ | show (_ : Post) _ _ _ | (refine schedW_alt_k ?_ ?_; intro K hK)); focus (simp only [SA, Nat.reduceAdd, reduceIte, Nat.reduceEqDiff, Nat.reduceBEq, reduceCtorEq]; (try go_unwrap; try simp only [RR, reduceCtorEq]))) | refine And.intro ?_ ?_ | exact Or.inr ⟨rfl, Nat.le_refl _⟩ | exact (fun h => Bool.noConfusion h))
    all_goals rfl
  | ok l =>
    rw [hA] at h19
    simp only [allP] at h19
    obtain ⟨l', hl', hll, hsl, -⟩ := toks_of hA
    have hI := inv_start hA
    have htx := tx_le hA
    have hlen := tks_len l
    have hsm := prog_sum l (by omega) htx l.length ⟨0, 0, []⟩ hI (by simp) [some (.var (some 1) (.agg [.nilSl]))] (by simp [MObj.kill, PV.kill])
    have hgd := sumP_good (nm := nmP) (l := l) (jk := true) l.length ⟨0, 0, []⟩ hI (by simp)
    have hwf := sumP_wf (nm := nmP) (l := l) (jk := true) l.length ⟨0, 0, []⟩ rfl trivial
    refine VCalls.of_PW Tryd.func18 k18 mix (by simp [c18]) ?_
    simp only [c18, L18, CC, argE]
    have d1 : decide ((0 : Int) = 0) = true := rfl
    repeat' (first | exact True.intro | (refine PW.stop (x := .seq (.region false (⟨some 24, none, .rd .mov [.tmp 8]⟩ :: _) _) _) ?_) | (refine PW.seqK ?_; intro K hK) | refine stp ?_ | refine seqK_n ‹_› ?_ | refine seqK_r ‹_› ?_ | refine seqK_e ‹_› ?_ | exact schedW_stop_i | refine schK_n ‹_› ?_ | (refine PW.cond rfl ?_ ?_ <;> intro hcond <;> (try contradiction) <;> try simp only [DD] at hcond) | (refine gd_i ?_; intro hg; try simp only [hg]) | refine goCall_W e19 (h19) ?_ ?_ ?_ ?_ | (refine ari ?_; first | omega | (simp only [DD, LL] <;> omega) | (go_unwrap; omega)) | ((first | refine stq ?_ | show (_ : Post) _ _ _ | (refine schedW_alt_k ?_ ?_; intro K hK)); focus (simp only [d1, SA, Nat.reduceAdd, reduceIte, Nat.reduceEqDiff, Nat.reduceBEq, reduceCtorEq]; (try go_unwrap; try simp only [d1, RR, reduceCtorEq]))) | refine And.intro ?_ ?_ | exact Or.inr ⟨rfl, Nat.le_refl _⟩ | exact (fun h => Bool.noConfusion h))
    refine ⟨?_⟩
    refine PW.ownF 1 1 (some 4) 4 _ rfl rfl ?_
    simp only [List.cons_append, List.nil_append, List.set_cons_zero, List.set_cons_succ, List.length_cons, List.length_nil]
    refine PW.sw 0 1 (by simp) (by simp) rfl rfl ?_
    simp only [swE, swM, swL, List.map_cons, List.map_nil, Option.map_some, Option.map_none, MObj.ren, PV.ren, swp, List.set_cons_zero, List.set_cons_succ, List.getD_cons_zero, List.getD_cons_succ, Nat.reduceEqDiff, if_true, if_false, reduceIte]
    refine PW.sw 1 2 (by simp) (by simp) rfl rfl ?_
    simp only [swE, swM, swL, List.map_cons, List.map_nil, Option.map_some, Option.map_none, MObj.ren, PV.ren, swp, List.set_cons_zero, List.set_cons_succ, List.getD_cons_zero, List.getD_cons_succ, Nat.reduceEqDiff, if_true, if_false, reduceIte]
    unfold parseR
    generalize hsr : sumP nmP l true l.length ⟨0, 0, []⟩ = r at hsm hgd hwf
    obtain ⟨v, r⟩ := r
    have hrl := hgd.lt
    have hro := hgd.out
    simp only at hrl hro ⊢
    have hg := tk_get l r.at_ hrl
    have hok : (r.out.map ndP).take r.out.length = r.out.map ndP := List.take_of_length_le (by simp)
    have hol := nd_len r.out
    simp only [RdC, rdP, rowO, List.map_nil, List.length_nil] at hsm
    have d6 : decide (r.e = 0) = decide (r.e = 0) := rfl
    by_cases hre : r.e = 0
    case neg =>
      have d6 : decide (r.e = 0) = false := by simp only [decide_eq_false_iff_not]; exact hre
      rw [if_pos hre]
      repeat' (first | exact True.intro | (refine PW.stop (x := .seq (.region false (⟨some 47, none, .rd .mov [.tmp 8]⟩ :: _) _) _) ?_) | (refine PW.seqK ?_; intro K hK) | refine stp ?_ | refine seqK_n ‹_› ?_ | refine seqK_r ‹_› ?_ | refine seqK_e ‹_› ?_ | exact schedW_stop_i | refine schK_n ‹_› ?_ | (refine PW.cond rfl ?_ ?_ <;> intro hcond <;> (try contradiction) <;> try simp only [DD] at hcond) | (refine goCall_K 1 e40 hsm rfl ?_; rintro p μ' ⟨rfl, rfl⟩; simp only [PV.bin, PV.binOk, binI, decide_eq_false hre, hlen, hg, Bool.false_and, Bool.and_false, Bool.true_and, Bool.and_true, Bool.not_true, Bool.not_false, SA, Nat.reduceAdd, reduceIte, Nat.reduceEqDiff, Nat.reduceBEq, reduceCtorEq]) | (refine gd_i ?_; intro hg; try simp only [hg]) | (refine ari ?_; first | omega | (simp only [DD, LL] <;> omega) | (go_unwrap; omega)) | ((first | refine stq ?_ | show (_ : Post) _ _ _ | (refine schedW_alt_k ?_ ?_; intro K hK)); focus (simp only [PV.bin, PV.binOk, binI, decide_eq_false hre, hlen, hg, Bool.false_and, Bool.and_false, Bool.true_and, Bool.and_true, Bool.not_true, Bool.not_false, SA, Nat.reduceAdd, reduceIte, Nat.reduceEqDiff, Nat.reduceBEq, reduceCtorEq]; (try go_unwrap; try simp only [PV.bin, PV.binOk, binI, decide_eq_false hre, hlen, hg, Bool.false_and, Bool.and_false, Bool.true_and, Bool.and_true, Bool.not_true, Bool.not_false, RR, reduceCtorEq]))) | refine And.intro ?_ ?_ | exact Or.inr ⟨rfl, Nat.le_refl _⟩ | exact (fun h => Bool.noConfusion h))
      refine ⟨?_⟩
      refine PW.frz 1 (.row (some 4) (r.out.map ndP)) ?_ ?_ ?_
      · rfl
      · rfl
      simp only [SA, Nat.reduceAdd, reduceIte, Nat.reduceEqDiff, Nat.reduceBEq, reduceCtorEq, PV.frz, MObj.frz, frzM, frzSl, hol, hok, Nat.le_refl, and_self, if_true]
      repeat' (first | exact True.intro | (refine PW.seqA (E := ?_) (M := ?_) ?_ ?_; rotate_left 2) | exact mergeQ_mk _ _ | (exact Or.inr ⟨rfl, by decide⟩) | (refine PW.stop (x := .ret) ?_) | (refine PW.seqK ?_; intro K hK) | refine stp ?_ | refine seqK_n ‹_› ?_ | refine seqK_r ‹_› ?_ | refine seqK_e ‹_› ?_ | exact schedW_stop_i | refine schK_n ‹_› ?_ | (refine PW.cond rfl ?_ ?_ <;> intro hcond <;> (try contradiction) <;> try simp only [DD] at hcond) | (refine gd_i ?_; intro hg; try simp only [hg]) | (refine ari ?_; first | omega | (simp only [DD, LL] <;> omega) | (go_unwrap; omega)) | ((first | refine stq ?_ | show (_ : Post) _ _ _ | (refine schedW_alt_k ?_ ?_; intro K hK)); focus (simp only [PV.bin, PV.binOk, binI, decide_eq_false hre, hlen, hg, hol, SA, Nat.reduceAdd, reduceIte, Nat.reduceEqDiff, Nat.reduceBEq, reduceCtorEq]; (try go_unwrap; try simp only [PV.bin, PV.binOk, binI, decide_eq_false hre, hlen, hg, hol, RR, reduceCtorEq]))) | refine And.intro ?_ ?_ | exact Or.inr ⟨rfl, Nat.le_refl _⟩ | exact (fun h => Bool.noConfusion h))
      refine ⟨?_⟩
      refine PW.subM 2 1 _ [.list (some 4) []] (.nilto (some 4) .nil) rfl ?_
      simp only [List.set_cons_zero, List.set_cons_succ]
      repeat' (first | exact True.intro | (refine PW.seqK ?_; intro K hK) | refine stp ?_ | refine seqK_n ‹_› ?_ | refine seqK_r ‹_› ?_ | refine seqK_e ‹_› ?_ | exact schedW_stop_i | refine schK_n ‹_› ?_ | (refine PW.cond rfl ?_ ?_ <;> intro hcond <;> (try contradiction) <;> try simp only [DD] at hcond) | (refine gd_i ?_; intro hg; try simp only [hg]) | (refine ari ?_; first | omega | (simp only [DD, LL] <;> omega) | (go_unwrap; omega)) | ((first | refine stq ?_ | show (_ : Post) _ _ _ | (refine schedW_alt_k ?_ ?_; intro K hK)); focus (simp only [SA, Nat.reduceAdd, reduceIte, Nat.reduceEqDiff, Nat.reduceBEq, reduceCtorEq]; (try go_unwrap; try simp only [RR, reduceCtorEq]))) | refine And.intro ?_ ?_ | exact Or.inr ⟨rfl, Nat.le_refl _⟩ | exact (fun h => Bool.noConfusion h))
      all_goals rfl
    have d6 : decide (r.e = 0) = true := decide_eq_true hre
    rw [if_neg (by simp [hre])]
    by_cases hk : (tkAt l r.at_).1 = 0
    case neg =>
      have d7 : decide (((tkAt l r.at_).1 : Int) = 0) = false := by simp only [decide_eq_false_iff_not]; omega
      have hf := (v41 l r 3).frame [some (.var (some 1) (.agg [.nilSl]))] (by simp [MObj.kill, PV.kill]) (by simp [PV.kill])
      have hF : failP r 3 = (0, ⟨r.at_, 3, r.out⟩) := by simp [failP, hre]
      rw [hF] at hf
      simp only [RdC, rdP, rowO] at hf
      rw [if_pos hk]
      repeat' (first | exact True.intro | (refine PW.stop (x := .seq (.region false (⟨some 47, none, .rd .mov [.tmp 8]⟩ :: _) _) _) ?_) | (refine PW.seqK ?_; intro K hK) | refine stp ?_ | refine seqK_n ‹_› ?_ | refine seqK_r ‹_› ?_ | refine seqK_e ‹_› ?_ | exact schedW_stop_i | refine schK_n ‹_› ?_ | (refine PW.cond rfl ?_ ?_ <;> intro hcond <;> (try contradiction) <;> try simp only [DD] at hcond) | (refine goCall_K 1 e40 hsm rfl ?_; rintro p μ' ⟨rfl, rfl⟩; simp only [PV.bin, PV.binOk, binI, decide_eq_true hre, d7, hlen, hg, Bool.false_and, Bool.and_false, Bool.true_and, Bool.and_true, Bool.not_true, Bool.not_false, SA, Nat.reduceAdd, reduceIte, Nat.reduceEqDiff, Nat.reduceBEq, reduceCtorEq]) | (refine goCall_K 1 e41 hf rfl ?_; rintro p μ' ⟨rfl, rfl⟩; simp only [PV.bin, PV.binOk, binI, decide_eq_true hre, d7, hlen, hg, Bool.false_and, Bool.and_false, Bool.true_and, Bool.and_true, Bool.not_true, Bool.not_false, SA, Nat.reduceAdd, reduceIte, Nat.reduceEqDiff, Nat.reduceBEq, reduceCtorEq]) | (refine gd_i ?_; intro hg; try simp only [hg]) | (refine ari ?_; first | omega | (simp only [DD, LL] <;> omega) | (go_unwrap; omega)) | ((first | refine stq ?_ | show (_ : Post) _ _ _ | (refine schedW_alt_k ?_ ?_; intro K hK)); focus (simp only [PV.bin, PV.binOk, binI, decide_eq_true hre, d7, hlen, hg, Bool.false_and, Bool.and_false, Bool.true_and, Bool.and_true, Bool.not_true, Bool.not_false, SA, Nat.reduceAdd, reduceIte, Nat.reduceEqDiff, Nat.reduceBEq, reduceCtorEq]; (try go_unwrap; try simp only [PV.bin, PV.binOk, binI, decide_eq_true hre, d7, hlen, hg, Bool.false_and, Bool.and_false, Bool.true_and, Bool.and_true, Bool.not_true, Bool.not_false, RR, reduceCtorEq]))) | refine And.intro ?_ ?_ | exact Or.inr ⟨rfl, Nat.le_refl _⟩ | exact (fun h => Bool.noConfusion h))
      refine ⟨?_⟩
      refine PW.frz 1 (.row (some 4) (r.out.map ndP)) ?_ ?_ ?_
      · rfl
      · rfl
      simp only [SA, Nat.reduceAdd, reduceIte, Nat.reduceEqDiff, Nat.reduceBEq, reduceCtorEq, PV.frz, MObj.frz, frzM, frzSl, hol, hok, Nat.le_refl, and_self, if_true]
      repeat' (first | exact True.intro | (refine PW.seqA (E := ?_) (M := ?_) ?_ ?_; rotate_left 2) | exact mergeQ_mk _ _ | (exact Or.inr ⟨rfl, by decide⟩) | (refine PW.stop (x := .ret) ?_) | (refine PW.seqK ?_; intro K hK) | refine stp ?_ | refine seqK_n ‹_› ?_ | refine seqK_r ‹_› ?_ | refine seqK_e ‹_› ?_ | exact schedW_stop_i | refine schK_n ‹_› ?_ | (refine PW.cond rfl ?_ ?_ <;> intro hcond <;> (try contradiction) <;> try simp only [DD] at hcond) | (refine gd_i ?_; intro hg; try simp only [hg]) | (refine ari ?_; first | omega | (simp only [DD, LL] <;> omega) | (go_unwrap; omega)) | ((first | refine stq ?_ | show (_ : Post) _ _ _ | (refine schedW_alt_k ?_ ?_; intro K hK)); focus (simp only [PV.bin, PV.binOk, binI, hlen, hg, hol, SA, Nat.reduceAdd, reduceIte, Nat.reduceEqDiff, Nat.reduceBEq, reduceCtorEq]; (try go_unwrap; try simp only [PV.bin, PV.binOk, binI, hlen, hg, hol, RR, reduceCtorEq]))) | refine And.intro ?_ ?_ | exact Or.inr ⟨rfl, Nat.le_refl _⟩ | exact (fun h => Bool.noConfusion h))
      refine ⟨?_⟩
      refine PW.subM 2 1 _ [.list (some 4) []] (.nilto (some 4) .nil) rfl ?_
      simp only [List.set_cons_zero, List.set_cons_succ]
      repeat' (first | exact True.intro | (refine PW.seqK ?_; intro K hK) | refine stp ?_ | refine seqK_n ‹_› ?_ | refine seqK_r ‹_› ?_ | refine seqK_e ‹_› ?_ | exact schedW_stop_i | refine schK_n ‹_› ?_ | (refine PW.cond rfl ?_ ?_ <;> intro hcond <;> (try contradiction) <;> try simp only [DD] at hcond) | (refine gd_i ?_; intro hg; try simp only [hg]) | (refine ari ?_; first | omega | (simp only [DD, LL] <;> omega) | (go_unwrap; omega)) | ((first | refine stq ?_ | show (_ : Post) _ _ _ | (refine schedW_alt_k ?_ ?_; intro K hK)); focus (simp only [SA, Nat.reduceAdd, reduceIte, Nat.reduceEqDiff, Nat.reduceBEq, reduceCtorEq]; (try go_unwrap; try simp only [RR, reduceCtorEq]))) | refine And.intro ?_ ?_ | exact Or.inr ⟨rfl, Nat.le_refl _⟩ | exact (fun h => Bool.noConfusion h))
      all_goals rfl
    have d7 : decide (((tkAt l r.at_).1 : Int) = 0) = true := by simp only [decide_eq_true_eq]; omega
    rw [if_neg (by simp [hk])]
    obtain ⟨hw1, hw2, hw3, -⟩ := hwf hre
    simp only at hw1 hw2 hw3
    have hK := sumP_K (nm := nmP) (l := l) (jk := true) l.length ⟨0, 0, []⟩ (by intro x hx; simp at hx)
    rw [hsr] at hK
    simp only at hK
    by_cases h256 : 256 < r.out.length
    · have d8 : decide ((256 : Int) < r.out.length) = true := by simp only [decide_eq_true_eq]; omega
      rw [if_pos h256]
      repeat' (first | exact True.intro | (refine PW.stop (x := .seq (.region false (⟨some 47, none, .rd .mov [.tmp 8]⟩ :: _) _) _) ?_) | (refine PW.seqK ?_; intro K hK) | refine stp ?_ | refine seqK_n ‹_› ?_ | refine seqK_r ‹_› ?_ | refine seqK_e ‹_› ?_ | exact schedW_stop_i | refine schK_n ‹_› ?_ | (refine PW.cond rfl ?_ ?_ <;> intro hcond <;> (try contradiction) <;> try simp only [DD] at hcond) | (refine goCall_K 1 e40 hsm rfl ?_; rintro p μ' ⟨rfl, rfl⟩; simp only [PV.bin, PV.binOk, binI, decide_eq_true hre, d7, hlen, hg, Bool.false_and, Bool.and_false, Bool.true_and, Bool.and_true, Bool.not_true, Bool.not_false, SA, Nat.reduceAdd, reduceIte, Nat.reduceEqDiff, Nat.reduceBEq, reduceCtorEq]) | (refine gd_i ?_; intro hg; try simp only [hg]) | (refine ari ?_; first | omega | (simp only [DD, LL] <;> omega) | (go_unwrap; omega)) | ((first | refine stq ?_ | show (_ : Post) _ _ _ | (refine schedW_alt_k ?_ ?_; intro K hK)); focus (simp only [PV.bin, PV.binOk, binI, decide_eq_true hre, d7, hlen, hg, Bool.false_and, Bool.and_false, Bool.true_and, Bool.and_true, Bool.not_true, Bool.not_false, SA, Nat.reduceAdd, reduceIte, Nat.reduceEqDiff, Nat.reduceBEq, reduceCtorEq]; (try go_unwrap; try simp only [PV.bin, PV.binOk, binI, decide_eq_true hre, d7, hlen, hg, Bool.false_and, Bool.and_false, Bool.true_and, Bool.and_true, Bool.not_true, Bool.not_false, RR, reduceCtorEq]))) | refine And.intro ?_ ?_ | exact Or.inr ⟨rfl, Nat.le_refl _⟩ | exact (fun h => Bool.noConfusion h))
      refine ⟨?_⟩
      refine PW.frz 1 (.row (some 4) (r.out.map ndP)) ?_ ?_ ?_
      · rfl
      · rfl
      simp only [SA, Nat.reduceAdd, reduceIte, Nat.reduceEqDiff, Nat.reduceBEq, reduceCtorEq, PV.frz, MObj.frz, frzM, frzSl, hol, hok, Nat.le_refl, and_self, if_true]
      repeat' (first | exact True.intro | (refine PW.seqA (E := ?_) (M := ?_) ?_ ?_; rotate_left 2) | exact mergeQ_mk _ _ | (exact Or.inr ⟨rfl, by decide⟩) | (refine PW.stop (x := .ret) ?_) | (refine PW.seqK ?_; intro K hK) | refine stp ?_ | refine seqK_n ‹_› ?_ | refine seqK_r ‹_› ?_ | refine seqK_e ‹_› ?_ | exact schedW_stop_i | refine schK_n ‹_› ?_ | (refine PW.cond rfl ?_ ?_ <;> intro hcond <;> (try contradiction) <;> try simp only [DD] at hcond) | (refine gd_i ?_; intro hg; try simp only [hg]) | (refine ari ?_; first | omega | (simp only [DD, LL] <;> omega) | (go_unwrap; omega)) | ((first | refine stq ?_ | show (_ : Post) _ _ _ | (refine schedW_alt_k ?_ ?_; intro K hK)); focus (simp only [PV.bin, PV.binOk, binI, decide_eq_true hre, d8, hlen, hg, hol, SA, Nat.reduceAdd, reduceIte, Nat.reduceEqDiff, Nat.reduceBEq, reduceCtorEq]; (try go_unwrap; try simp only [PV.bin, PV.binOk, binI, decide_eq_true hre, d8, hlen, hg, hol, RR, reduceCtorEq]))) | refine And.intro ?_ ?_ | exact Or.inr ⟨rfl, Nat.le_refl _⟩ | exact (fun h => Bool.noConfusion h))
      refine ⟨?_⟩
      refine PW.subM 2 1 _ [.list (some 4) []] (.nilto (some 4) .nil) rfl ?_
      simp only [List.set_cons_zero, List.set_cons_succ]
      repeat' (first | exact True.intro | (refine PW.seqK ?_; intro K hK) | refine stp ?_ | refine seqK_n ‹_› ?_ | refine seqK_r ‹_› ?_ | refine seqK_e ‹_› ?_ | exact schedW_stop_i | refine schK_n ‹_› ?_ | (refine PW.cond rfl ?_ ?_ <;> intro hcond <;> (try contradiction) <;> try simp only [DD] at hcond) | (refine gd_i ?_; intro hg; try simp only [hg]) | (refine ari ?_; first | omega | (simp only [DD, LL] <;> omega) | (go_unwrap; omega)) | ((first | refine stq ?_ | show (_ : Post) _ _ _ | (refine schedW_alt_k ?_ ?_; intro K hK)); focus (simp only [SA, Nat.reduceAdd, reduceIte, Nat.reduceEqDiff, Nat.reduceBEq, reduceCtorEq]; (try go_unwrap; try simp only [RR, reduceCtorEq]))) | refine And.intro ?_ ?_ | exact Or.inr ⟨rfl, Nat.le_refl _⟩ | exact (fun h => Bool.noConfusion h))
      all_goals rfl
    have d8 : decide ((256 : Int) < r.out.length) = false := by simp only [decide_eq_false_iff_not]; omega
    rw [if_neg h256]
    have h42 := v42 (G := G0) r.out (by omega) (by intro h; rw [h] at hw3; simp at hw3; omega) hw1 (fun n hn => by have := hK n hn; omega)
    simp only [treeP] at h42
    by_cases h16 : 16 < depthM r.out
    · have d9 : decide ((16 : Int) < depthM r.out) = true := by simp only [decide_eq_true_eq]; exact h16
      rw [if_pos h16]
      repeat' (first | exact True.intro | (refine PW.stop (x := .seq (.region false (⟨some 47, none, .rd .mov [.tmp 8]⟩ :: _) _) _) ?_) | (refine PW.seqK ?_; intro K hK) | refine stp ?_ | refine seqK_n ‹_› ?_ | refine seqK_r ‹_› ?_ | refine seqK_e ‹_› ?_ | exact schedW_stop_i | refine schK_n ‹_› ?_ | (refine PW.cond rfl ?_ ?_ <;> intro hcond <;> (try contradiction) <;> try simp only [DD] at hcond) | (refine goCall_K 1 e40 hsm rfl ?_; rintro p μ' ⟨rfl, rfl⟩; simp only [PV.bin, PV.binOk, binI, decide_eq_true hre, d7, hlen, hg, Bool.false_and, Bool.and_false, Bool.true_and, Bool.and_true, Bool.not_true, Bool.not_false, SA, Nat.reduceAdd, reduceIte, Nat.reduceEqDiff, Nat.reduceBEq, reduceCtorEq]) | (refine gd_i ?_; intro hg; try simp only [hg]) | (refine ari ?_; first | omega | (simp only [DD, LL] <;> omega) | (go_unwrap; omega)) | ((first | refine stq ?_ | show (_ : Post) _ _ _ | (refine schedW_alt_k ?_ ?_; intro K hK)); focus (simp only [PV.bin, PV.binOk, binI, decide_eq_true hre, d7, hlen, hg, Bool.false_and, Bool.and_false, Bool.true_and, Bool.and_true, Bool.not_true, Bool.not_false, SA, Nat.reduceAdd, reduceIte, Nat.reduceEqDiff, Nat.reduceBEq, reduceCtorEq]; (try go_unwrap; try simp only [PV.bin, PV.binOk, binI, decide_eq_true hre, d7, hlen, hg, Bool.false_and, Bool.and_false, Bool.true_and, Bool.and_true, Bool.not_true, Bool.not_false, RR, reduceCtorEq]))) | refine And.intro ?_ ?_ | exact Or.inr ⟨rfl, Nat.le_refl _⟩ | exact (fun h => Bool.noConfusion h))
      refine ⟨?_⟩
      refine PW.frz 1 (.row (some 4) (r.out.map ndP)) ?_ ?_ ?_
      · rfl
      · rfl
      simp only [SA, Nat.reduceAdd, reduceIte, Nat.reduceEqDiff, Nat.reduceBEq, reduceCtorEq, PV.frz, MObj.frz, frzM, frzSl, hol, hok, Nat.le_refl, and_self, if_true]
      repeat' (first | exact True.intro | (refine PW.seqA (E := ?_) (M := ?_) ?_ ?_; rotate_left 2) | exact mergeQ_mk _ _ | (exact Or.inr ⟨rfl, by decide⟩) | (refine PW.stop (x := .ret) ?_) | (refine PW.seqK ?_; intro K hK) | refine stp ?_ | refine seqK_n ‹_› ?_ | refine seqK_r ‹_› ?_ | refine seqK_e ‹_› ?_ | exact schedW_stop_i | refine schK_n ‹_› ?_ | (refine PW.cond rfl ?_ ?_ <;> intro hcond <;> (try contradiction) <;> try simp only [DD] at hcond) | (refine gd_i ?_; intro hg; try simp only [hg]) | refine goCall_W e42 (h42) ?_ ?_ ?_ ?_ | (refine ari ?_; first | omega | (simp only [DD, LL] <;> omega) | (go_unwrap; omega)) | ((first | refine stq ?_ | show (_ : Post) _ _ _ | (refine schedW_alt_k ?_ ?_; intro K hK)); focus (simp only [PV.bin, PV.binOk, binI, decide_eq_true hre, d8, d9, hlen, hg, hol, SA, Nat.reduceAdd, reduceIte, Nat.reduceEqDiff, Nat.reduceBEq, reduceCtorEq]; (try go_unwrap; try simp only [PV.bin, PV.binOk, binI, decide_eq_true hre, d8, d9, hlen, hg, hol, RR, reduceCtorEq]))) | refine And.intro ?_ ?_ | exact Or.inr ⟨rfl, Nat.le_refl _⟩ | exact (fun h => Bool.noConfusion h))
      refine ⟨?_⟩
      refine PW.subM 2 1 _ [.list (some 4) []] (.nilto (some 4) .nil) rfl ?_
      simp only [List.set_cons_zero, List.set_cons_succ]
      repeat' (first | exact True.intro | (refine PW.seqK ?_; intro K hK) | refine stp ?_ | refine seqK_n ‹_› ?_ | refine seqK_r ‹_› ?_ | refine seqK_e ‹_› ?_ | exact schedW_stop_i | refine schK_n ‹_› ?_ | (refine PW.cond rfl ?_ ?_ <;> intro hcond <;> (try contradiction) <;> try simp only [DD] at hcond) | (refine gd_i ?_; intro hg; try simp only [hg]) | (refine ari ?_; first | omega | (simp only [DD, LL] <;> omega) | (go_unwrap; omega)) | ((first | refine stq ?_ | show (_ : Post) _ _ _ | (refine schedW_alt_k ?_ ?_; intro K hK)); focus (simp only [SA, Nat.reduceAdd, reduceIte, Nat.reduceEqDiff, Nat.reduceBEq, reduceCtorEq]; (try go_unwrap; try simp only [RR, reduceCtorEq]))) | refine And.intro ?_ ?_ | exact Or.inr ⟨rfl, Nat.le_refl _⟩ | exact (fun h => Bool.noConfusion h))
      all_goals rfl
    have d9 : decide ((16 : Int) < depthM r.out) = false := by simp only [decide_eq_false_iff_not]; exact h16
    rw [if_neg h16]
    repeat' (first | exact True.intro | (refine PW.stop (x := .seq (.region false (⟨some 47, none, .rd .mov [.tmp 8]⟩ :: _) _) _) ?_) | (refine PW.seqK ?_; intro K hK) | refine stp ?_ | refine seqK_n ‹_› ?_ | refine seqK_r ‹_› ?_ | refine seqK_e ‹_› ?_ | exact schedW_stop_i | refine schK_n ‹_› ?_ | (refine PW.cond rfl ?_ ?_ <;> intro hcond <;> (try contradiction) <;> try simp only [DD] at hcond) | (refine goCall_K 1 e40 hsm rfl ?_; rintro p μ' ⟨rfl, rfl⟩; simp only [PV.bin, PV.binOk, binI, decide_eq_true hre, d7, hlen, hg, Bool.false_and, Bool.and_false, Bool.true_and, Bool.and_true, Bool.not_true, Bool.not_false, SA, Nat.reduceAdd, reduceIte, Nat.reduceEqDiff, Nat.reduceBEq, reduceCtorEq]) | (refine gd_i ?_; intro hg; try simp only [hg]) | (refine ari ?_; first | omega | (simp only [DD, LL] <;> omega) | (go_unwrap; omega)) | ((first | refine stq ?_ | show (_ : Post) _ _ _ | (refine schedW_alt_k ?_ ?_; intro K hK)); focus (simp only [PV.bin, PV.binOk, binI, decide_eq_true hre, d7, hlen, hg, Bool.false_and, Bool.and_false, Bool.true_and, Bool.and_true, Bool.not_true, Bool.not_false, SA, Nat.reduceAdd, reduceIte, Nat.reduceEqDiff, Nat.reduceBEq, reduceCtorEq]; (try go_unwrap; try simp only [PV.bin, PV.binOk, binI, decide_eq_true hre, d7, hlen, hg, Bool.false_and, Bool.and_false, Bool.true_and, Bool.and_true, Bool.not_true, Bool.not_false, RR, reduceCtorEq]))) | refine And.intro ?_ ?_ | exact Or.inr ⟨rfl, Nat.le_refl _⟩ | exact (fun h => Bool.noConfusion h))
    refine ⟨?_⟩
    refine PW.frz 1 (.row (some 4) (r.out.map ndP)) ?_ ?_ ?_
    · rfl
    · rfl
    simp only [SA, Nat.reduceAdd, reduceIte, Nat.reduceEqDiff, Nat.reduceBEq, reduceCtorEq, PV.frz, MObj.frz, frzM, frzSl, hol, hok, Nat.le_refl, and_self, if_true]
    repeat' (first | exact True.intro | (refine PW.seqA (E := ?_) (M := ?_) ?_ ?_; rotate_left 2) | exact mergeQ_mk _ _ | (exact Or.inr ⟨rfl, by decide⟩) | (refine PW.stop (x := .ret) ?_) | (refine PW.seqK ?_; intro K hK) | refine stp ?_ | refine seqK_n ‹_› ?_ | refine seqK_r ‹_› ?_ | refine seqK_e ‹_› ?_ | exact schedW_stop_i | refine schK_n ‹_› ?_ | (refine PW.cond rfl ?_ ?_ <;> intro hcond <;> (try contradiction) <;> try simp only [DD] at hcond) | (refine gd_i ?_; intro hg; try simp only [hg]) | refine goCall_W e42 (h42) ?_ ?_ ?_ ?_ | (refine ari ?_; first | omega | (simp only [DD, LL] <;> omega) | (go_unwrap; omega)) | ((first | refine stq ?_ | show (_ : Post) _ _ _ | (refine schedW_alt_k ?_ ?_; intro K hK)); focus (simp only [PV.bin, PV.binOk, binI, decide_eq_true hre, d8, d9, hlen, hg, hol, SA, Nat.reduceAdd, reduceIte, Nat.reduceEqDiff, Nat.reduceBEq, reduceCtorEq]; (try go_unwrap; try simp only [PV.bin, PV.binOk, binI, decide_eq_true hre, d8, d9, hlen, hg, hol, RR, reduceCtorEq]))) | refine And.intro ?_ ?_ | exact Or.inr ⟨rfl, Nat.le_refl _⟩ | exact (fun h => Bool.noConfusion h))
    refine ⟨?_⟩
    repeat' (first | exact True.intro | (refine PW.seqK ?_; intro K hK) | refine stp ?_ | refine seqK_n ‹_› ?_ | refine seqK_r ‹_› ?_ | refine seqK_e ‹_› ?_ | exact schedW_stop_i | refine schK_n ‹_› ?_ | (refine PW.cond rfl ?_ ?_ <;> intro hcond <;> (try contradiction) <;> try simp only [DD] at hcond) | (refine gd_i ?_; intro hg; try simp only [hg]) | (refine ari ?_; first | omega | (simp only [DD, LL] <;> omega) | (go_unwrap; omega)) | ((first | refine stq ?_ | show (_ : Post) _ _ _ | (refine schedW_alt_k ?_ ?_; intro K hK)); focus (simp only [SA, Nat.reduceAdd, reduceIte, Nat.reduceEqDiff, Nat.reduceBEq, reduceCtorEq]; (try go_unwrap; try simp only [RR, reduceCtorEq]))) | refine And.intro ?_ ?_ | exact Or.inr ⟨rfl, Nat.le_refl _⟩ | exact (fun h => Bool.noConfusion h))
    all_goals rfl
end Go.Proofs.YthekpjhffciakaaDoor

