import Derived.Test.YthekpjhffciakaaDoorP4
import Derived.Test.YthekpjhffciakaaDoorQ13
namespace PG
open Go
set_option linter.unusedSimpArgs false
set_option linter.unusedVariables false
section
variable {P : Program} {G : Globs} {N : Nat} {w : World} {κ : Kap} {env : Env} {μ : Mem} {mv : Nat → Bool} {Q : Post}
/-- A nil slice in a slot, taken over as a row of its own. -/
theorem PW.ownE {x : PCode} (i : Nat) (sh : Sh) (hi : env.get i = .nilSl) (h : PW P G N mv x ((i, .sl sh μ.length 0) :: env) (μ ++ [some (MObj.row sh [])]) Q) : PW P G N mv x env μ Q := by
  intro ow L code hc hmix C a w κ hmv hR
  obtain ⟨hG, hS'⟩ := hR.sim.nilrow sh
  refine h ow L code hc hmix C a w _ hmv ⟨hR.size, hR.defers, fun j => ?_, hS', globs_goes hR.globs hG, hR.goes.trans (hG.weak fun _ h => h.elim)⟩
  have hj := hR.regs j
  by_cases e : i = j
  · subst e
    rw [hi] at hj
    rw [get_cons, if_pos rfl, rep_nilSl hj]
    exact .slnil sh μ.length (by simp)
  · rw [get_cons, if_neg e]
    exact hj.still hG
/-- A nil slice in a field of a variable of the call's own, taken over as a row of its own. -/
theorem PW.ownF {x : PCode} (t i : Nat) (sh : Sh) (n : Nat) (cs : List PV) (hm : μ.get t = some (.var (some n) (.agg cs))) (hi : cs[i]? = some .nilSl)
    (h : PW P G N mv x env ((μ ++ [some (MObj.row sh [])]).set t (some (MObj.var (some n) (.agg (cs.set i (.sl sh μ.length 0)))))) Q) : PW P G N mv x env μ Q := by
  intro ow L code hc hmix C a w κ hmv hR
  obtain ⟨hG, hS'⟩ := hR.sim.nilrow sh
  have hlt : t < μ.length := by
    rcases Nat.lt_or_ge t μ.length with h | h
    · exact h
    · simp [Mem.get, List.getElem?_eq_none h] at hm
  have hm' : Mem.get (μ ++ [some (MObj.row sh [])]) t = some (MObj.var (some n) (.agg cs)) := by
    unfold Mem.get at hm ⊢
    rw [List.getElem?_append_left hlt]; exact hm
  have hS'' := hS'.swap hm' (o' := MObj.var (some n) (.agg (cs.set i (.sl sh μ.length 0)))) (fun c hO => by
    cases hO with
    | var b arr E _ _ hb hs hsh hr =>
      obtain ⟨cs', e, hl⟩ := hsh
      cases e
      refine .var b arr E (some n) _ hb hs ⟨_, rfl, by simpa using hl⟩ (fun j p v hj hv => ?_)
      simp only [PV.cells] at hj hr
      by_cases e : i = j
      · subst e
        have hil : i < cs.length := (List.getElem?_eq_some_iff.1 hi).1
        rw [List.getElem?_set_self hil] at hj
        cases hj
        have := hr i .nilSl v hi hv
        rw [rep_nilSl this]
        exact .slnil sh μ.length (by simp)
      · rw [List.getElem?_set_ne e] at hj
        exact hr j p v hj hv)
  exact h ow L code hc hmix C a w _ hmv ⟨hR.size, hR.defers, fun j => (hR.regs j).still hG, hS'', globs_goes hR.globs hG, hR.goes.trans (hG.weak fun _ h => h.elim)⟩
end
end PG

namespace Go.Proofs.YthekpjhffciakaaDoor
open Go PG Go.Proofs
set_option linter.unusedSimpArgs false
set_option linter.unusedVariables false
set_option maxHeartbeats 4000000
set_option maxRecDepth 100000
theorem gW' : G0 0 = some (some 10, wordsP) := rfl
theorem gK' : G0 1 = some (some 10, kidsTabP) := rfl
theorem words_drop : wordsP.cells.drop (Int.toNat 5) = callWords.map PV.str := rfl
theorem kids_get {op : Nat} (h5 : 5 ≤ op) (h9 : op ≤ 9) : kidsTab.getD op 0 = (kidN op : Int) := by
  have : op = 5 ∨ op = 6 ∨ op = 7 ∨ op = 8 ∨ op = 9 := by omega
  rcases this with rfl | rfl | rfl | rfl | rfl <;> rfl
theorem v100 (l : List Tok) (hl : l.length ≤ 100000) (sum : PS → Int × PS) (m : Nat) (hsum : ∀ s, Inv l s → l.length - s.at_ ≤ m → ∀ ν : Mem, ν.map (Option.map (MObj.kill (killTag 1))) = ν → RdC l 40 [.ref 0 0] ν s (sum s)) (hgood : GoodF l sum m)
    (s : PS) (hI : Inv l s) (hI2 : Inv l (adv s 2)) (hm : l.length - s.at_ ≤ m + 1) : RdC l 100 [.ref 0 0] [] s (callP l sum s) := by
  refine PCalls.moves (mv := fun t => t == 1 || decide (2 ≤ t)) (fun t ht h => ?_) ?_
  · simp only [List.length_cons, List.length_nil] at ht
    simp only [Bool.or_eq_true, beq_iff_eq, decide_eq_true_eq] at h
    simp only [killTag, beq_iff_eq]; omega
  refine PCalls.of_PW Tryd.func100 k100 mix (by simp [c100]) ?_
  simp only [c100, L100, CC, argE, rdP, rowO]
  obtain ⟨hlt, hle, he, h0⟩ := hI
  have hg := tk_get l s.at_ hlt
  have hlen := tks_len l
  have h126 := v126 callWords (tkAt l s.at_).2.1 (by decide)
  rw [idx_call] at h126
  have wa : IntKind.i64.wrap ((s.at_ : Int) + 2) = ((s.at_ + 2 : Nat) : Int) := by rw [IntWalk.i64_in _ (by omega)]; simp
  cases hc : callNo (tkAt l s.at_).2.1 with
  | none =>
    have hF : callP l sum s = failP s 21 := by unfold callP; rw [hc]
    rw [hF]
    rw [hc] at h126
    have hf := v41 l s 21
    generalize failP s 21 = q at hf
    simp only [RdC, rdP, rowO] at hf
    repeat' (first | exact True.intro | (refine PW.seqA (E := ?_) (M := ?_) ?_ ?_; rotate_left 2) | exact mergeQ_mk _ _ | (exact Or.inr ⟨rfl, by decide⟩) | (exact Or.inr (by decide)) | exact (Nat.le_of_ble_eq_true rfl : 10 ≤ maxLen) | (refine PW.stop (x := .ret) ?_) | (refine PW.seqK ?_; intro K hK) | refine pwB ?_ | refine pwS ?_ | refine pwL ?_ | refine pwE ?_ | refine pwR ?_ | refine pwK ?_ | refine seqK_n ‹_› ?_ | refine seqK_r ‹_› ?_ | refine seqK_e ‹_› ?_ | refine PW.regionA ?_ | exact schedW_stop_i | refine schK_n ‹_› ?_ | (refine schedW_alt_k ?_ ?_; focus (intro K hK; simp only [hg, hlen, gW', evalO, words_drop, SA, Nat.reduceAdd, reduceIte, Nat.reduceEqDiff, Nat.reduceBEq, reduceCtorEq]; (try go_unwrap; try simp only [hg, hlen, gW', evalO, words_drop, RR, reduceCtorEq]))) | (refine PW.cond rfl ?_ ?_ <;> intro hcond <;> (try contradiction) <;> try simp only [DD] at hcond) | (refine goCall_K 1 e41 hf rfl ?_; rintro p μ' ⟨rfl, rfl⟩; simp only [hg, hlen, gW', evalO, words_drop, SA, Nat.reduceAdd, reduceIte, Nat.reduceEqDiff, Nat.reduceBEq, reduceCtorEq]) | (refine gd_i ?_; intro hg; try simp only [hg]) | refine goCall_W e126 (h126) ?_ ?_ ?_ ?_ | ((first | show (_ : Nat) ≤ _ | show (_ : Nat) < _ | show (_ : Int) ≤ _ | show (_ : Int) < _ | show (_ : Nat) = _ | show (_ : Int) = _ | show (_ : Bool) = _ | show _ ∨ _ | show ¬ _); first | omega | (simp only [DD, LL] <;> omega) | (go_unwrap; omega)) | ((first | refine PW.region ?_ | refine PW.regionQ ?_ | refine schedW_done_i ?_ | show (_ : Post) _ _ _ | show @Eq (List PV) _ _ | show @Eq Bool _ _ | show opsW _ _ _ _ _ _ _ _ | show okAll _ | show @Eq Bool _ _ ∨ _); focus (simp only [hg, hlen, gW', evalO, words_drop, SA, Nat.reduceAdd, reduceIte, Nat.reduceEqDiff, Nat.reduceBEq, reduceCtorEq]; (try go_unwrap; try simp only [hg, hlen, gW', evalO, words_drop, RR, reduceCtorEq]))) | refine And.intro ?_ ?_ | exact Or.inr ⟨rfl, Nat.le_refl _⟩ | exact (fun h => Bool.noConfusion h))
    refine ⟨?_⟩
    refine PW.trim 2 (fun t h => by simp [h]) ?_
    simp only [rdP, rowO, trimE, trimM, List.take_succ_cons, List.take_zero, List.map_cons, List.map_nil, Option.map_some, Option.map_none, MObj.kill, PV.kill, Nat.reduceLeDiff, decide_true, decide_false, dec_true, dec_false, Bool.false_eq_true, if_false, if_true, reduceIte]
    repeat' (first | exact True.intro | (refine PW.seqK ?_; intro K hK) | refine pwB ?_ | refine pwS ?_ | refine pwL ?_ | refine pwE ?_ | refine pwR ?_ | refine pwK ?_ | refine seqK_n ‹_› ?_ | refine seqK_r ‹_› ?_ | refine seqK_e ‹_› ?_ | refine PW.regionA ?_ | exact schedW_stop_i | refine schK_n ‹_› ?_ | (refine schedW_alt_k ?_ ?_; focus (intro K hK; simp only [SA, Nat.reduceAdd, reduceIte, Nat.reduceEqDiff, Nat.reduceBEq, reduceCtorEq]; (try go_unwrap; try simp only [RR, reduceCtorEq]))) | (refine PW.cond rfl ?_ ?_ <;> intro hcond <;> (try contradiction) <;> try simp only [DD] at hcond) | (refine gd_i ?_; intro hg; try simp only [hg]) | ((first | show (_ : Nat) ≤ _ | show (_ : Nat) < _ | show (_ : Int) ≤ _ | show (_ : Int) < _ | show (_ : Nat) = _ | show (_ : Int) = _ | show (_ : Bool) = _ | show _ ∨ _ | show ¬ _); first | omega | (simp only [DD, LL] <;> omega) | (go_unwrap; omega)) | ((first | refine PW.region ?_ | refine PW.regionQ ?_ | refine schedW_done_i ?_ | show (_ : Post) _ _ _ | show @Eq (List PV) _ _ | show @Eq Bool _ _ | show opsW _ _ _ _ _ _ _ _ | show okAll _ | show @Eq Bool _ _ ∨ _); focus (simp only [SA, Nat.reduceAdd, reduceIte, Nat.reduceEqDiff, Nat.reduceBEq, reduceCtorEq]; (try go_unwrap; try simp only [RR, reduceCtorEq]))) | refine And.intro ?_ ?_ | exact Or.inr ⟨rfl, Nat.le_refl _⟩ | exact (fun h => Bool.noConfusion h))
    all_goals rfl
  | some i =>
    have hi := callNo_lt hc
    have hF : callP l sum s = callL l sum (i + 5) (kidN (i + 5)) [] (adv s 2) := by unfold callP; rw [hc]
    rw [hF]
    rw [hc] at h126
    simp only at h126
    have w5 : IntKind.i64.wrap ((i : Int) + 5) = ((i + 5 : Nat) : Int) := by rw [IntWalk.i64_in _ (by omega)]; simp
    have d5 : decide (((i + 5 : Nat) : Int) < 5) = false := by simp only [decide_eq_false_iff_not]; omega
    have hkn := kids_get (op := i + 5) (by omega) (by omega)
    have hgood2 := callL_good (op := i + 5) hgood h0 (kidN (i + 5)) [] s (adv s 2) (by unfold kidN; split <;> omega) (by simp [adv]) hle hI2 (by simp [adv]) (by simp [adv]; omega)
    generalize hop : i + 5 = op at *
    generalize hR : callL l sum op (kidN op) [] (adv s 2) = R at *
    repeat' (first | exact True.intro | (refine PW.seqA (E := ?_) (M := ?_) ?_ ?_; rotate_left 2) | exact mergeQ_mk _ _ | (exact Or.inr ⟨rfl, by decide⟩) | (exact Or.inr (by decide)) | exact (Nat.le_of_ble_eq_true rfl : 10 ≤ maxLen) | (refine PW.seqK ?_; intro K hK) | refine pwB ?_ | refine pwS ?_ | refine pwL ?_ | refine pwE ?_ | refine pwR ?_ | refine pwK ?_ | refine seqK_n ‹_› ?_ | refine seqK_r ‹_› ?_ | refine seqK_e ‹_› ?_ | refine PW.regionA ?_ | exact schedW_stop_i | refine schK_n ‹_› ?_ | (refine schedW_alt_k ?_ ?_; focus (intro K hK; simp only [hg, hlen, gW', evalO, words_drop, w5, d5, wa, q2, SA, Nat.reduceAdd, reduceIte, Nat.reduceEqDiff, Nat.reduceBEq, reduceCtorEq]; (try go_unwrap; try simp only [hg, hlen, gW', evalO, words_drop, w5, d5, wa, q2, RR, reduceCtorEq]))) | (refine PW.cond rfl ?_ ?_ <;> intro hcond <;> (try contradiction) <;> try simp only [DD] at hcond) | (refine gd_i ?_; intro hg; try simp only [hg]) | refine goCall_W e126 (h126) ?_ ?_ ?_ ?_ | ((first | show (_ : Nat) ≤ _ | show (_ : Nat) < _ | show (_ : Int) ≤ _ | show (_ : Int) < _ | show (_ : Nat) = _ | show (_ : Int) = _ | show (_ : Bool) = _ | show _ ∨ _ | show ¬ _); first | omega | (simp only [DD, LL] <;> omega) | (go_unwrap; omega)) | ((first | refine PW.region ?_ | refine PW.regionQ ?_ | refine schedW_done_i ?_ | show (_ : Post) _ _ _ | show @Eq (List PV) _ _ | show @Eq Bool _ _ | show opsW _ _ _ _ _ _ _ _ | show okAll _ | show @Eq Bool _ _ ∨ _); focus (simp only [hg, hlen, gW', evalO, words_drop, w5, d5, wa, q2, SA, Nat.reduceAdd, reduceIte, Nat.reduceEqDiff, Nat.reduceBEq, reduceCtorEq]; (try go_unwrap; try simp only [hg, hlen, gW', evalO, words_drop, w5, d5, wa, q2, RR, reduceCtorEq]))) | refine And.intro ?_ ?_ | exact Or.inr ⟨rfl, Nat.le_refl _⟩ | exact (fun h => Bool.noConfusion h))
    refine PW.ownE 4 none rfl ?_
    simp only [List.cons_append, List.nil_append, List.length_cons, List.length_nil]
    refine PW.loop (σ := List Int × PS) [0, 3, 4] (fun q => [.ref 0 0, .int .i64 op, .sl none 2 q.1.length]) (fun q => [some (rdP l q.2), some (rowO q.2), some (.row none (q.1.map (PV.int .i64)))])
      (fun q => ∃ k, 0 < k ∧ q.1.length + k = kidN op ∧ Inv l q.2 ∧ l.length - q.2.at_ ≤ m ∧ callL l sum op k q.1 q.2 = R) (fun q => l.length - q.2.at_) ([], adv s 2) ?_ ?_ ⟨kidN op, by unfold kidN; split <;> omega, by simp, hI2, by simp [adv]; omega, hR⟩ ?_
    · simp only [SA, Nat.reduceAdd, reduceIte, Nat.reduceEqDiff, Nat.reduceBEq, reduceCtorEq]; rfl
    · simp [rdP, rowO, adv]
    clear hR hgood2 hg wa h126 hF hm hlt hle he
    rintro ⟨ks, s1⟩ ⟨k, hk0, hkl, hI1, hm1, hR⟩
    simp only at hkl hI1 hm1 hR
    simp only [List.zip_cons_cons, List.zip_nil_left, rdP, rowO]
    obtain ⟨k, rfl⟩ : ∃ k', k = k' + 1 := ⟨k - 1, by omega⟩
    have hkn3 : kidN op ≤ 3 := by unfold kidN; split <;> omega
    have hsm := hsum s1 hI1 hm1 [some (.row none (ks.map (PV.int .i64)))] rfl
    have hga := hgood s1 hI1 hm1
    unfold callL at hR
    generalize sum s1 = r at hsm hga hR
    obtain ⟨n, r⟩ := r
    simp only at hR
    have hrl := hga.lt
    have hro := hga.out
    have hrle := hga.le
    simp only at hrl hro hrle
    have hile := hI1.le
    have hrk : (r.out.map ndP).take r.out.length = r.out.map ndP := List.take_of_length_le (by simp)
    have wr : IntKind.i64.wrap ((r.at_ : Int) + 1) = ((r.at_ + 1 : Nat) : Int) := by rw [IntWalk.i64_in _ (by omega)]; simp
    have hk1 : (ks.map (PV.int .i64)).take ks.length = ks.map (PV.int .i64) := List.take_of_length_le (by simp)
    have hk1' : ((ks.map (PV.int .i64)).length : Nat) = ks.length := by simp
    have hka : ks.map (PV.int .i64) ++ [.int .i64 n] = (ks ++ [n]).map (PV.int .i64) := by simp
    have hk2 : (((ks ++ [n]).map (PV.int .i64)).length : Nat) = ks.length + 1 := by simp
    have hk3 : ((ks ++ [n]).map (PV.int .i64)).take (ks.length + 1) = (ks ++ [n]).map (PV.int .i64) := List.take_of_length_le (by simp)
    have b1 : (ks.length + 1) * 8 ≤ 140737488355328 := by omega
    obtain ⟨hget, hlt10⟩ := kidsTab_get (op := (op : Int)) (by omega) (by omega)
    have hto : ((op : Int)).toNat = op := by omega
    rw [hto, hkn] at hget
    have hi3 : (0 + op * 1 + 1 ≤ (List.map (PV.int IntKind.i64) kidsTab).length) := by
      have : (List.map (PV.int IntKind.i64) kidsTab).length = 10 := rfl
      omega
    have hget2 := hget
    rw [Nat.zero_add] at hget2
    have hi4 := hi3
    rw [Nat.zero_add] at hi4
    simp only [RdC, rdP, rowO] at hsm
    by_cases hre : r.e = 0
    case neg =>
      have d6 : decide (r.e = 0) = false := by simp only [decide_eq_false_iff_not]; exact hre
      rw [if_pos hre] at hR
      subst hR
      repeat' (first | exact True.intro | (exact Or.inr ⟨rfl, by decide⟩) | (exact Or.inr (by decide)) | exact (Nat.le_of_ble_eq_true rfl : 10 ≤ maxLen) | (refine PW.stop (x := .ret) ?_) | (refine PW.seqK ?_; intro K hK) | refine pwB ?_ | refine pwS ?_ | refine pwL ?_ | refine pwE ?_ | refine pwR ?_ | refine pwK ?_ | refine seqK_n ‹_› ?_ | refine seqK_r ‹_› ?_ | refine seqK_e ‹_› ?_ | refine PW.regionA ?_ | exact schedW_stop_i | refine schK_n ‹_› ?_ | (refine schedW_alt_k ?_ ?_; focus (intro K hK; simp only [hk1, hk1', hka, d6, Nat.zero_add, List.length_cons, List.length_nil, SA, Nat.reduceAdd, reduceIte, Nat.reduceEqDiff, Nat.reduceBEq, reduceCtorEq]; (try go_unwrap; try simp only [hk1, hk1', hka, d6, Nat.zero_add, List.length_cons, List.length_nil, RR, reduceCtorEq]))) | (refine PW.cond rfl ?_ ?_ <;> intro hcond <;> (try contradiction) <;> try simp only [DD] at hcond) | (refine goCall_K 1 e40 hsm rfl ?_; rintro p μ' ⟨rfl, rfl⟩; simp only [hk1, hk1', hka, d6, Nat.zero_add, List.length_cons, List.length_nil, SA, Nat.reduceAdd, reduceIte, Nat.reduceEqDiff, Nat.reduceBEq, reduceCtorEq]) | (refine gd_i ?_; intro hg; try simp only [hg]) | ((first | show (_ : Nat) ≤ _ | show (_ : Nat) < _ | show (_ : Int) ≤ _ | show (_ : Int) < _ | show (_ : Nat) = _ | show (_ : Int) = _ | show (_ : Bool) = _ | show _ ∨ _ | show ¬ _); first | omega | (simp only [DD, LL] <;> omega) | (go_unwrap; omega)) | ((first | refine PW.region ?_ | refine PW.regionQ ?_ | refine schedW_done_i ?_ | show (_ : Post) _ _ _ | show @Eq (List PV) _ _ | show @Eq Bool _ _ | show opsW _ _ _ _ _ _ _ _ | show okAll _ | show @Eq Bool _ _ ∨ _); focus (simp only [hk1, hk1', hka, d6, Nat.zero_add, List.length_cons, List.length_nil, SA, Nat.reduceAdd, reduceIte, Nat.reduceEqDiff, Nat.reduceBEq, reduceCtorEq]; (try go_unwrap; try simp only [hk1, hk1', hka, d6, Nat.zero_add, List.length_cons, List.length_nil, RR, reduceCtorEq]))) | refine And.intro ?_ ?_ | exact Or.inr ⟨rfl, Nat.le_refl _⟩ | exact (fun h => Bool.noConfusion h))
      refine ⟨?_⟩
      refine PW.trim 2 (fun t h => by simp [h]) ?_
      simp only [rdP, rowO, trimE, trimM, List.take_succ_cons, List.take_zero, List.map_cons, List.map_nil, Option.map_some, Option.map_none, MObj.kill, PV.kill, Nat.reduceLeDiff, decide_true, decide_false, dec_true, dec_false, Bool.false_eq_true, if_false, if_true, reduceIte]
      repeat' (first | exact True.intro | (refine PW.seqK ?_; intro K hK) | refine pwB ?_ | refine pwS ?_ | refine pwL ?_ | refine pwE ?_ | refine pwR ?_ | refine pwK ?_ | refine seqK_n ‹_› ?_ | refine seqK_r ‹_› ?_ | refine seqK_e ‹_› ?_ | refine PW.regionA ?_ | exact schedW_stop_i | refine schK_n ‹_› ?_ | (refine schedW_alt_k ?_ ?_; focus (intro K hK; simp only [SA, Nat.reduceAdd, reduceIte, Nat.reduceEqDiff, Nat.reduceBEq, reduceCtorEq]; (try go_unwrap; try simp only [RR, reduceCtorEq]))) | (refine PW.cond rfl ?_ ?_ <;> intro hcond <;> (try contradiction) <;> try simp only [DD] at hcond) | (refine gd_i ?_; intro hg; try simp only [hg]) | ((first | show (_ : Nat) ≤ _ | show (_ : Nat) < _ | show (_ : Int) ≤ _ | show (_ : Int) < _ | show (_ : Nat) = _ | show (_ : Int) = _ | show (_ : Bool) = _ | show _ ∨ _ | show ¬ _); first | omega | (simp only [DD, LL] <;> omega) | (go_unwrap; omega)) | ((first | refine PW.region ?_ | refine PW.regionQ ?_ | refine schedW_done_i ?_ | show (_ : Post) _ _ _ | show @Eq (List PV) _ _ | show @Eq Bool _ _ | show opsW _ _ _ _ _ _ _ _ | show okAll _ | show @Eq Bool _ _ ∨ _); focus (simp only [SA, Nat.reduceAdd, reduceIte, Nat.reduceEqDiff, Nat.reduceBEq, reduceCtorEq]; (try go_unwrap; try simp only [RR, reduceCtorEq]))) | refine And.intro ?_ ?_ | exact Or.inr ⟨rfl, Nat.le_refl _⟩ | exact (fun h => Bool.noConfusion h))
      all_goals rfl
    have d6 : decide (r.e = 0) = true := by simp only [decide_eq_true_eq]; exact hre
    rw [if_neg (by simp [hre])] at hR
    have hva := v98 l r [44] hrl hl
    have hvb := v98 l r [41] hrl hl
    by_cases hk : k = 0
    · rw [if_pos hk] at hR
      have dlt : decide (((ks.length + 1 : Nat) : Int) < (kidN op : Int)) = false := by simp only [decide_eq_false_iff_not]; omega
      have deq : decide (((ks.length + 1 : Nat) : Int) = (kidN op : Int)) = true := by simp only [decide_eq_true_eq]; omega
      by_cases hs2 : sgn l r [41] = true
      · rw [hs2] at hvb
        rw [if_pos hs2] at hR
        have h1 := sgn_lt h0 hrl hs2
        have hpt := (v99 l (adv r 1) ⟨op, 0, [], ks ++ [n]⟩ (by simp [adv]; omega)).frame [none] rfl (by simp [PV.kill, ndP, ndC, kidsP])
        rw [hR] at hpt
        simp only [ndP, ndC, kidsP] at hpt
        simp only [RdC, rdP, rowO, adv] at hpt
        repeat' (first | exact True.intro | (exact Or.inr ⟨rfl, by decide⟩) | (refine PW.stop (x := .seq (.region false (⟨some 79, none, .rd .mov [.tmp 0]⟩ :: _) _) _) ?_) | (refine PW.seqK ?_; intro K hK) | refine pwB ?_ | refine pwS ?_ | refine pwL ?_ | refine pwE ?_ | refine pwR ?_ | refine pwK ?_ | refine seqK_n ‹_› ?_ | refine seqK_r ‹_› ?_ | refine seqK_e ‹_› ?_ | refine PW.regionA ?_ | exact schedW_stop_i | refine schK_n ‹_› ?_ | (refine schedW_alt_k ?_ ?_; focus (intro K hK; simp only [hk1, hk1', hka, d6, gK', evalO, kidsTabP, hget, hto, hi3, hget2, hi4, Bool.and_false, Bool.false_and, Bool.and_true, dlt, deq, wr, q2, Nat.zero_add, List.length_cons, List.length_nil, SA, Nat.reduceAdd, reduceIte, Nat.reduceEqDiff, Nat.reduceBEq, reduceCtorEq]; (try go_unwrap; try simp only [hk1, hk1', hka, d6, gK', evalO, kidsTabP, hget, hto, hi3, hget2, hi4, Bool.and_false, Bool.false_and, Bool.and_true, dlt, deq, wr, q2, Nat.zero_add, List.length_cons, List.length_nil, RR, reduceCtorEq]))) | (refine PW.cond rfl ?_ ?_ <;> intro hcond <;> (try contradiction) <;> try simp only [DD] at hcond) | (refine goCall_K 1 e40 hsm rfl ?_; rintro p μ' ⟨rfl, rfl⟩; simp only [hk1, hk1', hka, d6, gK', evalO, kidsTabP, hget, hto, hi3, hget2, hi4, Bool.and_false, Bool.false_and, Bool.and_true, dlt, deq, wr, q2, Nat.zero_add, List.length_cons, List.length_nil, SA, Nat.reduceAdd, reduceIte, Nat.reduceEqDiff, Nat.reduceBEq, reduceCtorEq]) | (refine goCall_L 1 e98 hva ?_ ?_ ?_ ?_; (focus (simp [PV.lend, PV.view, Mem.get, hrk]; done)); (focus (simp [PV.lends, PV.lend, PV.view, PV.seen, fitB, PV.scalar, Mem.get, Sh.size, hrk]; done)); (focus (simp [PV.flat]; done)); simp only [hk1, hk1', hka, d6, gK', evalO, kidsTabP, hget, hto, hi3, hget2, hi4, Bool.and_false, Bool.false_and, Bool.and_true, dlt, deq, wr, q2, Nat.zero_add, List.length_cons, List.length_nil, SA, Nat.reduceAdd, reduceIte, Nat.reduceEqDiff, Nat.reduceBEq, reduceCtorEq]) | (refine goCall_L 1 e98 hvb ?_ ?_ ?_ ?_; (focus (simp [PV.lend, PV.view, Mem.get, hrk]; done)); (focus (simp [PV.lends, PV.lend, PV.view, PV.seen, fitB, PV.scalar, Mem.get, Sh.size, hrk]; done)); (focus (simp [PV.flat]; done)); simp only [hk1, hk1', hka, d6, gK', evalO, kidsTabP, hget, hto, hi3, hget2, hi4, Bool.and_false, Bool.false_and, Bool.and_true, dlt, deq, wr, q2, Nat.zero_add, List.length_cons, List.length_nil, SA, Nat.reduceAdd, reduceIte, Nat.reduceEqDiff, Nat.reduceBEq, reduceCtorEq]) | (refine gd_i ?_; intro hg; try simp only [hg]) | ((first | show (_ : Nat) ≤ _ | show (_ : Nat) < _ | show (_ : Int) ≤ _ | show (_ : Int) < _ | show (_ : Nat) = _ | show (_ : Int) = _ | show (_ : Bool) = _ | show _ ∨ _ | show ¬ _); first | omega | (simp only [DD, LL] <;> omega) | (go_unwrap; omega)) | ((first | refine PW.region ?_ | refine PW.regionQ ?_ | refine schedW_done_i ?_ | show (_ : Post) _ _ _ | show @Eq (List PV) _ _ | show @Eq Bool _ _ | show opsW _ _ _ _ _ _ _ _ | show okAll _ | show @Eq Bool _ _ ∨ _); focus (simp only [hk1, hk1', hka, d6, gK', evalO, kidsTabP, hget, hto, hi3, hget2, hi4, Bool.and_false, Bool.false_and, Bool.and_true, dlt, deq, wr, q2, Nat.zero_add, List.length_cons, List.length_nil, SA, Nat.reduceAdd, reduceIte, Nat.reduceEqDiff, Nat.reduceBEq, reduceCtorEq]; (try go_unwrap; try simp only [hk1, hk1', hka, d6, gK', evalO, kidsTabP, hget, hto, hi3, hget2, hi4, Bool.and_false, Bool.false_and, Bool.and_true, dlt, deq, wr, q2, Nat.zero_add, List.length_cons, List.length_nil, RR, reduceCtorEq]))) | refine And.intro ?_ ?_ | exact Or.inr ⟨rfl, Nat.le_refl _⟩ | exact (fun h => Bool.noConfusion h))
        refine ⟨?_⟩
        refine PW.frz 2 (.row none ((ks ++ [n]).map (PV.int .i64))) ?_ ?_ ?_
        · rfl
        · rfl
        simp only [SA, Nat.reduceAdd, reduceIte, Nat.reduceEqDiff, Nat.reduceBEq, reduceCtorEq, PV.frz, MObj.frz, frzM, frzSl, hk2, hk3, Nat.le_refl, and_self, if_true]
        repeat' (first | exact True.intro | (exact Or.inr ⟨rfl, by decide⟩) | (exact Or.inr (by decide)) | exact (Nat.le_of_ble_eq_true rfl : 10 ≤ maxLen) | (refine PW.stop (x := .ret) ?_) | (refine PW.seqK ?_; intro K hK) | refine pwB ?_ | refine pwS ?_ | refine pwL ?_ | refine pwE ?_ | refine pwR ?_ | refine pwK ?_ | refine seqK_n ‹_› ?_ | refine seqK_r ‹_› ?_ | refine seqK_e ‹_› ?_ | refine PW.regionA ?_ | exact schedW_stop_i | refine schK_n ‹_› ?_ | (refine schedW_alt_k ?_ ?_; focus (intro K hK; simp only [List.length_cons, List.length_nil, SA, Nat.reduceAdd, reduceIte, Nat.reduceEqDiff, Nat.reduceBEq, reduceCtorEq]; (try go_unwrap; try simp only [List.length_cons, List.length_nil, RR, reduceCtorEq]))) | (refine PW.cond rfl ?_ ?_ <;> intro hcond <;> (try contradiction) <;> try simp only [DD] at hcond) | (refine goCall_K 1 e99 hpt rfl ?_; rintro p μ' ⟨rfl, rfl⟩; simp only [List.length_cons, List.length_nil, SA, Nat.reduceAdd, reduceIte, Nat.reduceEqDiff, Nat.reduceBEq, reduceCtorEq]) | (refine gd_i ?_; intro hg; try simp only [hg]) | ((first | show (_ : Nat) ≤ _ | show (_ : Nat) < _ | show (_ : Int) ≤ _ | show (_ : Int) < _ | show (_ : Nat) = _ | show (_ : Int) = _ | show (_ : Bool) = _ | show _ ∨ _ | show ¬ _); first | omega | (simp only [DD, LL] <;> omega) | (go_unwrap; omega)) | ((first | refine PW.region ?_ | refine PW.regionQ ?_ | refine schedW_done_i ?_ | show (_ : Post) _ _ _ | show @Eq (List PV) _ _ | show @Eq Bool _ _ | show opsW _ _ _ _ _ _ _ _ | show okAll _ | show @Eq Bool _ _ ∨ _); focus (simp only [List.length_cons, List.length_nil, SA, Nat.reduceAdd, reduceIte, Nat.reduceEqDiff, Nat.reduceBEq, reduceCtorEq]; (try go_unwrap; try simp only [List.length_cons, List.length_nil, RR, reduceCtorEq]))) | refine And.intro ?_ ?_ | exact Or.inr ⟨rfl, Nat.le_refl _⟩ | exact (fun h => Bool.noConfusion h))
        refine ⟨?_⟩
        refine PW.trim 2 (fun t h => by simp [h]) ?_
        simp only [rdP, rowO, trimE, trimM, List.take_succ_cons, List.take_zero, List.map_cons, List.map_nil, Option.map_some, Option.map_none, MObj.kill, PV.kill, Nat.reduceLeDiff, decide_true, decide_false, dec_true, dec_false, Bool.false_eq_true, if_false, if_true, reduceIte]
        repeat' (first | exact True.intro | (refine PW.seqK ?_; intro K hK) | refine pwB ?_ | refine pwS ?_ | refine pwL ?_ | refine pwE ?_ | refine pwR ?_ | refine pwK ?_ | refine seqK_n ‹_› ?_ | refine seqK_r ‹_› ?_ | refine seqK_e ‹_› ?_ | refine PW.regionA ?_ | exact schedW_stop_i | refine schK_n ‹_› ?_ | (refine schedW_alt_k ?_ ?_; focus (intro K hK; simp only [SA, Nat.reduceAdd, reduceIte, Nat.reduceEqDiff, Nat.reduceBEq, reduceCtorEq]; (try go_unwrap; try simp only [RR, reduceCtorEq]))) | (refine PW.cond rfl ?_ ?_ <;> intro hcond <;> (try contradiction) <;> try simp only [DD] at hcond) | (refine gd_i ?_; intro hg; try simp only [hg]) | ((first | show (_ : Nat) ≤ _ | show (_ : Nat) < _ | show (_ : Int) ≤ _ | show (_ : Int) < _ | show (_ : Nat) = _ | show (_ : Int) = _ | show (_ : Bool) = _ | show _ ∨ _ | show ¬ _); first | omega | (simp only [DD, LL] <;> omega) | (go_unwrap; omega)) | ((first | refine PW.region ?_ | refine PW.regionQ ?_ | refine schedW_done_i ?_ | show (_ : Post) _ _ _ | show @Eq (List PV) _ _ | show @Eq Bool _ _ | show opsW _ _ _ _ _ _ _ _ | show okAll _ | show @Eq Bool _ _ ∨ _); focus (simp only [SA, Nat.reduceAdd, reduceIte, Nat.reduceEqDiff, Nat.reduceBEq, reduceCtorEq]; (try go_unwrap; try simp only [RR, reduceCtorEq]))) | refine And.intro ?_ ?_ | exact Or.inr ⟨rfl, Nat.le_refl _⟩ | exact (fun h => Bool.noConfusion h))
        all_goals rfl
      · have hs2' : sgn l r [41] = false := by simpa using hs2
        rw [hs2'] at hvb
        rw [if_neg hs2] at hR
        have hf := (v41 l r 3).frame [some (.row none ((ks ++ [n]).map (PV.int .i64)))] rfl (by simp [PV.kill])
        rw [hR] at hf
        simp only [RdC, rdP, rowO] at hf
        repeat' (first | exact True.intro | (exact Or.inr ⟨rfl, by decide⟩) | (exact Or.inr (by decide)) | exact (Nat.le_of_ble_eq_true rfl : 10 ≤ maxLen) | (refine PW.stop (x := .ret) ?_) | (refine PW.seqK ?_; intro K hK) | refine pwB ?_ | refine pwS ?_ | refine pwL ?_ | refine pwE ?_ | refine pwR ?_ | refine pwK ?_ | refine seqK_n ‹_› ?_ | refine seqK_r ‹_› ?_ | refine seqK_e ‹_› ?_ | refine PW.regionA ?_ | exact schedW_stop_i | refine schK_n ‹_› ?_ | (refine schedW_alt_k ?_ ?_; focus (intro K hK; simp only [hk1, hk1', hka, d6, gK', evalO, kidsTabP, hget, hto, hi3, hget2, hi4, Bool.and_false, Bool.false_and, Bool.and_true, dlt, deq, wr, q2, Nat.zero_add, List.length_cons, List.length_nil, SA, Nat.reduceAdd, reduceIte, Nat.reduceEqDiff, Nat.reduceBEq, reduceCtorEq]; (try go_unwrap; try simp only [hk1, hk1', hka, d6, gK', evalO, kidsTabP, hget, hto, hi3, hget2, hi4, Bool.and_false, Bool.false_and, Bool.and_true, dlt, deq, wr, q2, Nat.zero_add, List.length_cons, List.length_nil, RR, reduceCtorEq]))) | (refine PW.cond rfl ?_ ?_ <;> intro hcond <;> (try contradiction) <;> try simp only [DD] at hcond) | (refine goCall_K 1 e40 hsm rfl ?_; rintro p μ' ⟨rfl, rfl⟩; simp only [hk1, hk1', hka, d6, gK', evalO, kidsTabP, hget, hto, hi3, hget2, hi4, Bool.and_false, Bool.false_and, Bool.and_true, dlt, deq, wr, q2, Nat.zero_add, List.length_cons, List.length_nil, SA, Nat.reduceAdd, reduceIte, Nat.reduceEqDiff, Nat.reduceBEq, reduceCtorEq]) | (refine goCall_L 1 e98 hva ?_ ?_ ?_ ?_; (focus (simp [PV.lend, PV.view, Mem.get, hrk]; done)); (focus (simp [PV.lends, PV.lend, PV.view, PV.seen, fitB, PV.scalar, Mem.get, Sh.size, hrk]; done)); (focus (simp [PV.flat]; done)); simp only [hk1, hk1', hka, d6, gK', evalO, kidsTabP, hget, hto, hi3, hget2, hi4, Bool.and_false, Bool.false_and, Bool.and_true, dlt, deq, wr, q2, Nat.zero_add, List.length_cons, List.length_nil, SA, Nat.reduceAdd, reduceIte, Nat.reduceEqDiff, Nat.reduceBEq, reduceCtorEq]) | (refine goCall_L 1 e98 hvb ?_ ?_ ?_ ?_; (focus (simp [PV.lend, PV.view, Mem.get, hrk]; done)); (focus (simp [PV.lends, PV.lend, PV.view, PV.seen, fitB, PV.scalar, Mem.get, Sh.size, hrk]; done)); (focus (simp [PV.flat]; done)); simp only [hk1, hk1', hka, d6, gK', evalO, kidsTabP, hget, hto, hi3, hget2, hi4, Bool.and_false, Bool.false_and, Bool.and_true, dlt, deq, wr, q2, Nat.zero_add, List.length_cons, List.length_nil, SA, Nat.reduceAdd, reduceIte, Nat.reduceEqDiff, Nat.reduceBEq, reduceCtorEq]) | (refine goCall_K 1 e41 hf rfl ?_; rintro p μ' ⟨rfl, rfl⟩; simp only [hk1, hk1', hka, d6, gK', evalO, kidsTabP, hget, hto, hi3, hget2, hi4, Bool.and_false, Bool.false_and, Bool.and_true, dlt, deq, wr, q2, Nat.zero_add, List.length_cons, List.length_nil, SA, Nat.reduceAdd, reduceIte, Nat.reduceEqDiff, Nat.reduceBEq, reduceCtorEq]) | (refine gd_i ?_; intro hg; try simp only [hg]) | ((first | show (_ : Nat) ≤ _ | show (_ : Nat) < _ | show (_ : Int) ≤ _ | show (_ : Int) < _ | show (_ : Nat) = _ | show (_ : Int) = _ | show (_ : Bool) = _ | show _ ∨ _ | show ¬ _); first | omega | (simp only [DD, LL] <;> omega) | (go_unwrap; omega)) | ((first | refine PW.region ?_ | refine PW.regionQ ?_ | refine schedW_done_i ?_ | show (_ : Post) _ _ _ | show @Eq (List PV) _ _ | show @Eq Bool _ _ | show opsW _ _ _ _ _ _ _ _ | show okAll _ | show @Eq Bool _ _ ∨ _); focus (simp only [hk1, hk1', hka, d6, gK', evalO, kidsTabP, hget, hto, hi3, hget2, hi4, Bool.and_false, Bool.false_and, Bool.and_true, dlt, deq, wr, q2, Nat.zero_add, List.length_cons, List.length_nil, SA, Nat.reduceAdd, reduceIte, Nat.reduceEqDiff, Nat.reduceBEq, reduceCtorEq]; (try go_unwrap; try simp only [hk1, hk1', hka, d6, gK', evalO, kidsTabP, hget, hto, hi3, hget2, hi4, Bool.and_false, Bool.false_and, Bool.and_true, dlt, deq, wr, q2, Nat.zero_add, List.length_cons, List.length_nil, RR, reduceCtorEq]))) | refine And.intro ?_ ?_ | exact Or.inr ⟨rfl, Nat.le_refl _⟩ | exact (fun h => Bool.noConfusion h))
        refine ⟨?_⟩
        refine PW.trim 2 (fun t h => by simp [h]) ?_
        simp only [rdP, rowO, trimE, trimM, List.take_succ_cons, List.take_zero, List.map_cons, List.map_nil, Option.map_some, Option.map_none, MObj.kill, PV.kill, Nat.reduceLeDiff, decide_true, decide_false, dec_true, dec_false, Bool.false_eq_true, if_false, if_true, reduceIte]
        repeat' (first | exact True.intro | (refine PW.seqK ?_; intro K hK) | refine pwB ?_ | refine pwS ?_ | refine pwL ?_ | refine pwE ?_ | refine pwR ?_ | refine pwK ?_ | refine seqK_n ‹_› ?_ | refine seqK_r ‹_› ?_ | refine seqK_e ‹_› ?_ | refine PW.regionA ?_ | exact schedW_stop_i | refine schK_n ‹_› ?_ | (refine schedW_alt_k ?_ ?_; focus (intro K hK; simp only [SA, Nat.reduceAdd, reduceIte, Nat.reduceEqDiff, Nat.reduceBEq, reduceCtorEq]; (try go_unwrap; try simp only [RR, reduceCtorEq]))) | (refine PW.cond rfl ?_ ?_ <;> intro hcond <;> (try contradiction) <;> try simp only [DD] at hcond) | (refine gd_i ?_; intro hg; try simp only [hg]) | ((first | show (_ : Nat) ≤ _ | show (_ : Nat) < _ | show (_ : Int) ≤ _ | show (_ : Int) < _ | show (_ : Nat) = _ | show (_ : Int) = _ | show (_ : Bool) = _ | show _ ∨ _ | show ¬ _); first | omega | (simp only [DD, LL] <;> omega) | (go_unwrap; omega)) | ((first | refine PW.region ?_ | refine PW.regionQ ?_ | refine schedW_done_i ?_ | show (_ : Post) _ _ _ | show @Eq (List PV) _ _ | show @Eq Bool _ _ | show opsW _ _ _ _ _ _ _ _ | show okAll _ | show @Eq Bool _ _ ∨ _); focus (simp only [SA, Nat.reduceAdd, reduceIte, Nat.reduceEqDiff, Nat.reduceBEq, reduceCtorEq]; (try go_unwrap; try simp only [RR, reduceCtorEq]))) | refine And.intro ?_ ?_ | exact Or.inr ⟨rfl, Nat.le_refl _⟩ | exact (fun h => Bool.noConfusion h))
        all_goals rfl
    · rw [if_neg hk] at hR
      have dlt : decide (((ks.length + 1 : Nat) : Int) < (kidN op : Int)) = true := by simp only [decide_eq_true_eq]; omega
      have deq : decide (((ks.length + 1 : Nat) : Int) = (kidN op : Int)) = false := by simp only [decide_eq_false_iff_not]; omega
      by_cases hs1 : sgn l r [44] = true
      · rw [hs1] at hva
        rw [if_pos hs1] at hR
        have h1 := sgn_lt h0 hrl hs1
        have hgo := hga.go hre
        simp only at hgo
        repeat' (first | exact True.intro | (exact Or.inr ⟨rfl, by decide⟩) | (refine PW.seqK ?_; intro K hK) | refine pwB ?_ | refine pwS ?_ | refine pwL ?_ | refine pwE ?_ | refine pwR ?_ | refine pwK ?_ | refine seqK_n ‹_› ?_ | refine seqK_r ‹_› ?_ | refine seqK_e ‹_› ?_ | refine PW.regionA ?_ | exact schedW_stop_i | refine schK_n ‹_› ?_ | (refine schedW_alt_k ?_ ?_; focus (intro K hK; simp only [hk1, hk1', hka, d6, gK', evalO, kidsTabP, hget, hto, hi3, hget2, hi4, Bool.and_false, Bool.false_and, Bool.and_true, dlt, deq, wr, q2, Nat.zero_add, List.length_cons, List.length_nil, SA, Nat.reduceAdd, reduceIte, Nat.reduceEqDiff, Nat.reduceBEq, reduceCtorEq]; (try go_unwrap; try simp only [hk1, hk1', hka, d6, gK', evalO, kidsTabP, hget, hto, hi3, hget2, hi4, Bool.and_false, Bool.false_and, Bool.and_true, dlt, deq, wr, q2, Nat.zero_add, List.length_cons, List.length_nil, RR, reduceCtorEq]))) | (refine PW.cond rfl ?_ ?_ <;> intro hcond <;> (try contradiction) <;> try simp only [DD] at hcond) | (refine goCall_K 1 e40 hsm rfl ?_; rintro p μ' ⟨rfl, rfl⟩; simp only [hk1, hk1', hka, d6, gK', evalO, kidsTabP, hget, hto, hi3, hget2, hi4, Bool.and_false, Bool.false_and, Bool.and_true, dlt, deq, wr, q2, Nat.zero_add, List.length_cons, List.length_nil, SA, Nat.reduceAdd, reduceIte, Nat.reduceEqDiff, Nat.reduceBEq, reduceCtorEq]) | (refine goCall_L 1 e98 hva ?_ ?_ ?_ ?_; (focus (simp [PV.lend, PV.view, Mem.get, hrk]; done)); (focus (simp [PV.lends, PV.lend, PV.view, PV.seen, fitB, PV.scalar, Mem.get, Sh.size, hrk]; done)); (focus (simp [PV.flat]; done)); simp only [hk1, hk1', hka, d6, gK', evalO, kidsTabP, hget, hto, hi3, hget2, hi4, Bool.and_false, Bool.false_and, Bool.and_true, dlt, deq, wr, q2, Nat.zero_add, List.length_cons, List.length_nil, SA, Nat.reduceAdd, reduceIte, Nat.reduceEqDiff, Nat.reduceBEq, reduceCtorEq]) | (refine gd_i ?_; intro hg; try simp only [hg]) | ((first | show (_ : Nat) ≤ _ | show (_ : Nat) < _ | show (_ : Int) ≤ _ | show (_ : Int) < _ | show (_ : Nat) = _ | show (_ : Int) = _ | show (_ : Bool) = _ | show _ ∨ _ | show ¬ _); first | omega | (simp only [DD, LL] <;> omega) | (go_unwrap; omega)) | ((first | refine PW.region ?_ | refine PW.regionQ ?_ | refine schedW_done_i ?_ | show (_ : Post) _ _ _ | show @Eq (List PV) _ _ | show @Eq Bool _ _ | show opsW _ _ _ _ _ _ _ _ | show okAll _ | show @Eq Bool _ _ ∨ _); focus (simp only [hk1, hk1', hka, d6, gK', evalO, kidsTabP, hget, hto, hi3, hget2, hi4, Bool.and_false, Bool.false_and, Bool.and_true, dlt, deq, wr, q2, Nat.zero_add, List.length_cons, List.length_nil, SA, Nat.reduceAdd, reduceIte, Nat.reduceEqDiff, Nat.reduceBEq, reduceCtorEq]; (try go_unwrap; try simp only [hk1, hk1', hka, d6, gK', evalO, kidsTabP, hget, hto, hi3, hget2, hi4, Bool.and_false, Bool.false_and, Bool.and_true, dlt, deq, wr, q2, Nat.zero_add, List.length_cons, List.length_nil, RR, reduceCtorEq]))) | refine And.intro ?_ ?_ | exact Or.inr ⟨rfl, Nat.le_refl _⟩ | exact (fun h => Bool.noConfusion h))
        all_goals exact ⟨(ks ++ [n], adv r 1), by simp, rfl, ⟨k, by omega, by simp; omega, ⟨by simpa [adv] using h1, by simp [adv]; omega, hre, h0⟩, by simp [adv]; omega, hR⟩, by simp [adv]; omega⟩
      · have hs1' : sgn l r [44] = false := by simpa using hs1
        rw [hs1'] at hva
        rw [if_neg hs1] at hR
        have hf := (v41 l r 3).frame [some (.row none ((ks ++ [n]).map (PV.int .i64)))] rfl (by simp [PV.kill])
        rw [hR] at hf
        simp only [RdC, rdP, rowO] at hf
        repeat' (first | exact True.intro | (exact Or.inr ⟨rfl, by decide⟩) | (exact Or.inr (by decide)) | exact (Nat.le_of_ble_eq_true rfl : 10 ≤ maxLen) | (refine PW.stop (x := .ret) ?_) | (refine PW.seqK ?_; intro K hK) | refine pwB ?_ | refine pwS ?_ | refine pwL ?_ | refine pwE ?_ | refine pwR ?_ | refine pwK ?_ | refine seqK_n ‹_› ?_ | refine seqK_r ‹_› ?_ | refine seqK_e ‹_› ?_ | refine PW.regionA ?_ | exact schedW_stop_i | refine schK_n ‹_› ?_ | (refine schedW_alt_k ?_ ?_; focus (intro K hK; simp only [hk1, hk1', hka, d6, gK', evalO, kidsTabP, hget, hto, hi3, hget2, hi4, Bool.and_false, Bool.false_and, Bool.and_true, dlt, deq, wr, q2, Nat.zero_add, List.length_cons, List.length_nil, SA, Nat.reduceAdd, reduceIte, Nat.reduceEqDiff, Nat.reduceBEq, reduceCtorEq]; (try go_unwrap; try simp only [hk1, hk1', hka, d6, gK', evalO, kidsTabP, hget, hto, hi3, hget2, hi4, Bool.and_false, Bool.false_and, Bool.and_true, dlt, deq, wr, q2, Nat.zero_add, List.length_cons, List.length_nil, RR, reduceCtorEq]))) | (refine PW.cond rfl ?_ ?_ <;> intro hcond <;> (try contradiction) <;> try simp only [DD] at hcond) | (refine goCall_K 1 e40 hsm rfl ?_; rintro p μ' ⟨rfl, rfl⟩; simp only [hk1, hk1', hka, d6, gK', evalO, kidsTabP, hget, hto, hi3, hget2, hi4, Bool.and_false, Bool.false_and, Bool.and_true, dlt, deq, wr, q2, Nat.zero_add, List.length_cons, List.length_nil, SA, Nat.reduceAdd, reduceIte, Nat.reduceEqDiff, Nat.reduceBEq, reduceCtorEq]) | (refine goCall_L 1 e98 hva ?_ ?_ ?_ ?_; (focus (simp [PV.lend, PV.view, Mem.get, hrk]; done)); (focus (simp [PV.lends, PV.lend, PV.view, PV.seen, fitB, PV.scalar, Mem.get, Sh.size, hrk]; done)); (focus (simp [PV.flat]; done)); simp only [hk1, hk1', hka, d6, gK', evalO, kidsTabP, hget, hto, hi3, hget2, hi4, Bool.and_false, Bool.false_and, Bool.and_true, dlt, deq, wr, q2, Nat.zero_add, List.length_cons, List.length_nil, SA, Nat.reduceAdd, reduceIte, Nat.reduceEqDiff, Nat.reduceBEq, reduceCtorEq]) | (refine goCall_L 1 e98 hvb ?_ ?_ ?_ ?_; (focus (simp [PV.lend, PV.view, Mem.get, hrk]; done)); (focus (simp [PV.lends, PV.lend, PV.view, PV.seen, fitB, PV.scalar, Mem.get, Sh.size, hrk]; done)); (focus (simp [PV.flat]; done)); simp only [hk1, hk1', hka, d6, gK', evalO, kidsTabP, hget, hto, hi3, hget2, hi4, Bool.and_false, Bool.false_and, Bool.and_true, dlt, deq, wr, q2, Nat.zero_add, List.length_cons, List.length_nil, SA, Nat.reduceAdd, reduceIte, Nat.reduceEqDiff, Nat.reduceBEq, reduceCtorEq]) | (refine goCall_K 1 e41 hf rfl ?_; rintro p μ' ⟨rfl, rfl⟩; simp only [hk1, hk1', hka, d6, gK', evalO, kidsTabP, hget, hto, hi3, hget2, hi4, Bool.and_false, Bool.false_and, Bool.and_true, dlt, deq, wr, q2, Nat.zero_add, List.length_cons, List.length_nil, SA, Nat.reduceAdd, reduceIte, Nat.reduceEqDiff, Nat.reduceBEq, reduceCtorEq]) | (refine gd_i ?_; intro hg; try simp only [hg]) | ((first | show (_ : Nat) ≤ _ | show (_ : Nat) < _ | show (_ : Int) ≤ _ | show (_ : Int) < _ | show (_ : Nat) = _ | show (_ : Int) = _ | show (_ : Bool) = _ | show _ ∨ _ | show ¬ _); first | omega | (simp only [DD, LL] <;> omega) | (go_unwrap; omega)) | ((first | refine PW.region ?_ | refine PW.regionQ ?_ | refine schedW_done_i ?_ | show (_ : Post) _ _ _ | show @Eq (List PV) _ _ | show @Eq Bool _ _ | show opsW _ _ _ _ _ _ _ _ | show okAll _ | show @Eq Bool _ _ ∨ _); focus (simp only [hk1, hk1', hka, d6, gK', evalO, kidsTabP, hget, hto, hi3, hget2, hi4, Bool.and_false, Bool.false_and, Bool.and_true, dlt, deq, wr, q2, Nat.zero_add, List.length_cons, List.length_nil, SA, Nat.reduceAdd, reduceIte, Nat.reduceEqDiff, Nat.reduceBEq, reduceCtorEq]; (try go_unwrap; try simp only [hk1, hk1', hka, d6, gK', evalO, kidsTabP, hget, hto, hi3, hget2, hi4, Bool.and_false, Bool.false_and, Bool.and_true, dlt, deq, wr, q2, Nat.zero_add, List.length_cons, List.length_nil, RR, reduceCtorEq]))) | refine And.intro ?_ ?_ | exact Or.inr ⟨rfl, Nat.le_refl _⟩ | exact (fun h => Bool.noConfusion h))
        refine ⟨?_⟩
        refine PW.trim 2 (fun t h => by simp [h]) ?_
        simp only [rdP, rowO, trimE, trimM, List.take_succ_cons, List.take_zero, List.map_cons, List.map_nil, Option.map_some, Option.map_none, MObj.kill, PV.kill, Nat.reduceLeDiff, decide_true, decide_false, dec_true, dec_false, Bool.false_eq_true, if_false, if_true, reduceIte]
        repeat' (first | exact True.intro | (refine PW.seqK ?_; intro K hK) | refine pwB ?_ | refine pwS ?_ | refine pwL ?_ | refine pwE ?_ | refine pwR ?_ | refine pwK ?_ | refine seqK_n ‹_› ?_ | refine seqK_r ‹_› ?_ | refine seqK_e ‹_› ?_ | refine PW.regionA ?_ | exact schedW_stop_i | refine schK_n ‹_› ?_ | (refine schedW_alt_k ?_ ?_; focus (intro K hK; simp only [SA, Nat.reduceAdd, reduceIte, Nat.reduceEqDiff, Nat.reduceBEq, reduceCtorEq]; (try go_unwrap; try simp only [RR, reduceCtorEq]))) | (refine PW.cond rfl ?_ ?_ <;> intro hcond <;> (try contradiction) <;> try simp only [DD] at hcond) | (refine gd_i ?_; intro hg; try simp only [hg]) | ((first | show (_ : Nat) ≤ _ | show (_ : Nat) < _ | show (_ : Int) ≤ _ | show (_ : Int) < _ | show (_ : Nat) = _ | show (_ : Int) = _ | show (_ : Bool) = _ | show _ ∨ _ | show ¬ _); first | omega | (simp only [DD, LL] <;> omega) | (go_unwrap; omega)) | ((first | refine PW.region ?_ | refine PW.regionQ ?_ | refine schedW_done_i ?_ | show (_ : Post) _ _ _ | show @Eq (List PV) _ _ | show @Eq Bool _ _ | show opsW _ _ _ _ _ _ _ _ | show okAll _ | show @Eq Bool _ _ ∨ _); focus (simp only [SA, Nat.reduceAdd, reduceIte, Nat.reduceEqDiff, Nat.reduceBEq, reduceCtorEq]; (try go_unwrap; try simp only [RR, reduceCtorEq]))) | refine And.intro ?_ ?_ | exact Or.inr ⟨rfl, Nat.le_refl _⟩ | exact (fun h => Bool.noConfusion h))
        all_goals rfl
end Go.Proofs.YthekpjhffciakaaDoor

