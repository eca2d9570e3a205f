import Derived.Test.YthekpjhffciakaaDoorQ11
namespace Go.Proofs.YthekpjhffciakaaDoor
open Go PG Go.Proofs
set_option linter.unusedSimpArgs false
set_option linter.unusedVariables false
set_option maxHeartbeats 4000000
set_option maxRecDepth 100000
theorem cw2 : cut (some 10) none wordsP (0 + Int.toNat 2 * 1) = .str [43] := rfl
theorem cw3 : cut (some 10) none wordsP (0 + Int.toNat 3 * 1) = .str [45] := rfl
theorem cw4 : cut (some 10) none wordsP (0 + Int.toNat 4 * 1) = .str [42] := rfl
theorem gW : G0 0 = some (some 10, wordsP) := rfl
theorem v72A (l : List Tok) (hl : l.length ≤ 100000) (f : Nat) (first caps : List PV) (hE : Ent Tryd.prog f) (part : PS → Int × PS) (m : Nat) (ν : Mem) (hν : ν.map (Option.map (MObj.kill (killTag 1))) = ν)
    (hpart : ∀ s, Inv l s → l.length - s.at_ ≤ m → RdC l f (first ++ [] ++ caps) ν s (part s)) (hgood : GoodF l part m) (hno : (PV.fn f first caps).kill (killTag 1) = .fn f first caps) (s0 : PS) (hI : Inv l s0) (hm : l.length - s0.at_ ≤ m) :
    RdC l 72 [.ref 0 0, .fn f first caps, .list none [.int .i64 2, .int .i64 3]] ν s0 (rowP l part opsA s0) := by
  refine PCalls.of_PW Tryd.func72 k72 mix (by simp [c72]) ?_
  simp only [c72, L72, CC, argE]
  have hp := hpart s0 hI hm
  have hg0 := hgood s0 hI hm
  have h0 := hI.end0
  have hr := rowL_good (ops := opsA) hgood h0 s0 hI.le hm
  unfold rowP
  have hkk : ∃ k, l.length - (part s0).2.at_ ≤ k ∧ rowL l part opsA (l.length - (part s0).2.at_) (part s0).1 (part s0).2 = rowL l part opsA k (part s0).1 (part s0).2 := ⟨_, Nat.le_refl _, rfl⟩
  generalize rowL l part opsA (l.length - (part s0).2.at_) (part s0).1 (part s0).2 = R at hkk
  generalize part s0 = r0 at hp hg0 hkk
  obtain ⟨n0, s1⟩ := r0
  repeat' (first | exact True.intro | (refine PW.seqK ?_; intro K hK) | refine pwB ?_ | refine pwS ?_ | refine pwL ?_ | refine pwE ?_ | refine pwR ?_ | refine pwK ?_ | refine seqK_n ‹_› ?_ | refine seqK_r ‹_› ?_ | refine seqK_e ‹_› ?_ | refine PW.regionA ?_ | exact schedW_stop_i | refine schK_n ‹_› ?_ | (refine schedW_alt_k ?_ ?_; focus (intro K hK; simp only [SA, Nat.reduceAdd, reduceIte, Nat.reduceEqDiff, Nat.reduceBEq, reduceCtorEq]; (try go_unwrap; try simp only [RR, reduceCtorEq]))) | (refine PW.cond rfl ?_ ?_ <;> intro hcond <;> (try contradiction) <;> try simp only [DD] at hcond) | (refine goCall_K 1 hE hp rfl ?_; rintro p μ' ⟨rfl, rfl⟩; simp only [hno, SA, Nat.reduceAdd, reduceIte, Nat.reduceEqDiff, Nat.reduceBEq, reduceCtorEq]) | (refine gd_i ?_; intro hg; try simp only [hg]) | ((first | show (_ : Nat) ≤ _ | show (_ : Nat) < _ | show (_ : Int) ≤ _ | show (_ : Int) < _ | show (_ : Nat) = _ | show (_ : Int) = _ | show (_ : Bool) = _ | show _ ∨ _ | show ¬ _); first | omega | (simp only [DD, LL] <;> omega) | (go_unwrap; omega)) | ((first | refine PW.region ?_ | refine PW.regionQ ?_ | refine schedW_done_i ?_ | show (_ : Post) _ _ _ | show @Eq (List PV) _ _ | show @Eq Bool _ _ | show opsW _ _ _ _ _ _ _ _ | show okAll _ | show @Eq Bool _ _ ∨ _); focus (simp only [SA, Nat.reduceAdd, reduceIte, Nat.reduceEqDiff, Nat.reduceBEq, reduceCtorEq]; (try go_unwrap; try simp only [RR, reduceCtorEq]))) | refine And.intro ?_ ?_ | exact Or.inr ⟨rfl, Nat.le_refl _⟩ | exact (fun h => Bool.noConfusion h))
  refine PW.loop (σ := Int × PS) [0, 1, 2, 7] (fun q => [.ref 0 0, .fn f first caps, .list none [.int .i64 2, .int .i64 3], .int .i64 q.1]) (fun q => some (rdP l q.2) :: some (rowO q.2) :: ν)
    (fun q => Good l s0 q ∧ ∃ k, l.length - q.2.at_ ≤ k ∧ R = rowL l part opsA k q.1 q.2) (fun q => l.length - q.2.at_) (n0, s1) ?_ rfl ⟨hg0, hkk⟩ ?_
  · simp only [SA, Nat.reduceAdd, reduceIte, Nat.reduceEqDiff, Nat.reduceBEq, reduceCtorEq]; rfl
  clear hp hkk hg0
  rintro ⟨n, s⟩ ⟨hg, k, hk, hR⟩
  simp only at hk hR
  simp only [List.zip_cons_cons, List.zip_nil_left]
  simp only [rdP, rowO]
  by_cases he : s.e = 0
  case neg =>
    have d1 : decide (s.e = 0) = false := by simp only [decide_eq_false_iff_not]; exact he
    have hRR : R = (n, s) := by rw [hR]; cases k <;> simp [rowL, he]
    subst hRR
    repeat' (first | exact True.intro | (refine PW.seqK ?_; intro K hK) | refine pwB ?_ | refine pwS ?_ | refine pwL ?_ | refine pwE ?_ | refine pwR ?_ | refine pwK ?_ | refine seqK_n ‹_› ?_ | refine seqK_r ‹_› ?_ | refine seqK_e ‹_› ?_ | refine PW.regionA ?_ | exact schedW_stop_i | refine schK_n ‹_› ?_ | (refine schedW_alt_k ?_ ?_; focus (intro K hK; simp only [d1, SA, Nat.reduceAdd, reduceIte, Nat.reduceEqDiff, Nat.reduceBEq, reduceCtorEq]; (try go_unwrap; try simp only [d1, RR, reduceCtorEq]))) | (refine PW.cond rfl ?_ ?_ <;> intro hcond <;> (try contradiction) <;> try simp only [DD] at hcond) | (refine gd_i ?_; intro hg; try simp only [hg]) | ((first | show (_ : Nat) ≤ _ | show (_ : Nat) < _ | show (_ : Int) ≤ _ | show (_ : Int) < _ | show (_ : Nat) = _ | show (_ : Int) = _ | show (_ : Bool) = _ | show _ ∨ _ | show ¬ _); first | omega | (simp only [DD, LL] <;> omega) | (go_unwrap; omega)) | ((first | refine PW.region ?_ | refine PW.regionQ ?_ | refine schedW_done_i ?_ | show (_ : Post) _ _ _ | show @Eq (List PV) _ _ | show @Eq Bool _ _ | show opsW _ _ _ _ _ _ _ _ | show okAll _ | show @Eq Bool _ _ ∨ _); focus (simp only [d1, SA, Nat.reduceAdd, reduceIte, Nat.reduceEqDiff, Nat.reduceBEq, reduceCtorEq]; (try go_unwrap; try simp only [d1, RR, reduceCtorEq]))) | refine And.intro ?_ ?_ | exact Or.inr ⟨rfl, Nat.le_refl _⟩ | exact (fun h => Bool.noConfusion h))
    all_goals rfl
  have d1 : decide (s.e = 0) = true := by simp only [decide_eq_true_eq]; exact he
  have hg' := hg
  obtain ⟨hlt, hle, hout, hn0, hn1, hgo, -⟩ := hg
  simp only at hlt hle hout hn0 hn1 hgo
  have htk : (s.out.map ndP).take s.out.length = s.out.map ndP := List.take_of_length_le (by simp)
  have hadv : s.at_ + 1 < l.length → Inv l (adv s 1) := fun h => ⟨by simpa [adv] using h, by have := hI.le; simp [adv]; omega, he, h0⟩
  obtain ⟨k', rfl⟩ : ∃ k', k = k' + 1 := ⟨k - 1, by omega⟩
  have wa : IntKind.i64.wrap ((s.at_ : Int) + 1) = ((s.at_ + 1 : Nat) : Int) := by rw [IntWalk.i64_in _ (by omega)]; simp
  repeat' (first | exact True.intro | (refine PW.seqK ?_; intro K hK) | refine pwB ?_ | refine pwS ?_ | refine pwL ?_ | refine pwE ?_ | refine pwR ?_ | refine pwK ?_ | refine seqK_n ‹_› ?_ | refine seqK_r ‹_› ?_ | refine seqK_e ‹_› ?_ | refine PW.regionA ?_ | exact schedW_stop_i | refine schK_n ‹_› ?_ | (refine schedW_alt_k ?_ ?_; focus (intro K hK; simp only [d1, SA, Nat.reduceAdd, reduceIte, Nat.reduceEqDiff, Nat.reduceBEq, reduceCtorEq]; (try go_unwrap; try simp only [d1, RR, reduceCtorEq]))) | (refine PW.cond rfl ?_ ?_ <;> intro hcond <;> (try contradiction) <;> try simp only [DD] at hcond) | (refine gd_i ?_; intro hg; try simp only [hg]) | ((first | show (_ : Nat) ≤ _ | show (_ : Nat) < _ | show (_ : Int) ≤ _ | show (_ : Int) < _ | show (_ : Nat) = _ | show (_ : Int) = _ | show (_ : Bool) = _ | show _ ∨ _ | show ¬ _); first | omega | (simp only [DD, LL] <;> omega) | (go_unwrap; omega)) | ((first | refine PW.region ?_ | refine PW.regionQ ?_ | refine schedW_done_i ?_ | show (_ : Post) _ _ _ | show @Eq (List PV) _ _ | show @Eq Bool _ _ | show opsW _ _ _ _ _ _ _ _ | show okAll _ | show @Eq Bool _ _ ∨ _); focus (simp only [d1, SA, Nat.reduceAdd, reduceIte, Nat.reduceEqDiff, Nat.reduceBEq, reduceCtorEq]; (try go_unwrap; try simp only [d1, RR, reduceCtorEq]))) | refine And.intro ?_ ?_ | exact Or.inr ⟨rfl, Nat.le_refl _⟩ | exact (fun h => Bool.noConfusion h))
  refine PW.loop (σ := Nat) [0, 1, 2, 7, 17, 18, 19] (fun j => [.ref 0 0, .fn f first caps, .list none [.int .i64 2, .int .i64 3], .int .i64 n, .list none [.int .i64 2, .int .i64 3], .int .i64 2, .int .i64 j]) (fun _ => some (rdP l s) :: some (rowO s) :: ν)
    (fun j => j ≤ 2 ∧ (0 < j → sgn l s [43] = false) ∧ (1 < j → sgn l s [45] = false)) (fun j => 2 - j) 0 ?_ rfl ⟨by omega, by omega, by omega⟩ ?_
  · simp only [SA, Nat.reduceAdd, reduceIte, Nat.reduceEqDiff, Nat.reduceBEq, reduceCtorEq]; rfl
  rintro j ⟨hj, hsn⟩
  simp only [List.zip_cons_cons, List.zip_nil_left]
  simp only [rdP, rowO]
  rcases j with _ | _ | j
  · have hv := v98 l s [43] hlt hl
    by_cases hs : sgn l s [43] = true
    · rw [hs] at hv
      have h1 := sgn_lt h0 hlt hs
      have hIa := hadv h1
      have hpa := hpart (adv s 1) hIa (by simp [adv]; omega)
      have hga := hgood (adv s 1) hIa (by simp [adv]; omega)
      have hRn : R = rowL l part opsA k' (putP (part (adv s 1)).2 ⟨2, 0, [], [n, (part (adv s 1)).1]⟩).1 (putP (part (adv s 1)).2 ⟨2, 0, [], [n, (part (adv s 1)).1]⟩).2 := by
        rw [hR]; simp [rowL, he, opsA, hs]
      have hle2 : s.at_ + 1 ≤ (part (adv s 1)).2.at_ := hga.le
      have hoo : (part (adv s 1)).2.out.length + (s.at_ + 1) ≤ s.out.length + (part (adv s 1)).2.at_ := hga.out
      generalize part (adv s 1) = r at hpa hga hRn hle2 hoo
      obtain ⟨rn, rs⟩ := r
      simp only at hRn hle2 hoo
      have hga2 := hga.lt
      simp only at hga2
      have hgood2 : Good l s0 (putP rs ⟨2, 0, [], [n, rn]⟩) := good_put (s := s0) hga.lt (by omega) (by omega) hI.le hga.er
      have hpt := (v99 l rs ⟨2, 0, [], [n, rn]⟩ (by have := hI.le; omega)).frame ν hν (by simp [PV.kill, ndP, ndC, kidsP])
      simp only [ndP, ndC, kidsP, List.map_cons, List.map_nil] at hpt
      simp only [RdC, rdP, rowO, adv] at hpa hpt
      repeat' (first | exact True.intro | (exact Or.inr (by decide)) | (exact Or.inr ⟨rfl, by decide⟩) | (refine PW.seqK ?_; intro K hK) | refine pwB ?_ | refine pwS ?_ | refine pwL ?_ | refine pwE ?_ | refine pwR ?_ | refine pwK ?_ | refine seqK_n ‹_› ?_ | refine seqK_r ‹_› ?_ | refine seqK_e ‹_› ?_ | refine PW.regionA ?_ | exact schedW_stop_i | refine schK_n ‹_› ?_ | (refine schedW_alt_k ?_ ?_; focus (intro K hK; simp only [gW, evalO, cw2, cw3, cw4, q2, wa, List.length_cons, List.length_nil, SA, Nat.reduceAdd, reduceIte, Nat.reduceEqDiff, Nat.reduceBEq, reduceCtorEq]; (try go_unwrap; try simp only [gW, evalO, cw2, cw3, cw4, q2, wa, List.length_cons, List.length_nil, RR, reduceCtorEq]))) | (refine PW.cond rfl ?_ ?_ <;> intro hcond <;> (try contradiction) <;> try simp only [DD] at hcond) | (refine goCall_K 1 hE hpa rfl ?_; rintro p μ' ⟨rfl, rfl⟩; simp only [hno, gW, evalO, cw2, cw3, cw4, q2, wa, List.length_cons, List.length_nil, SA, Nat.reduceAdd, reduceIte, Nat.reduceEqDiff, Nat.reduceBEq, reduceCtorEq]) | (refine goCall_K 1 e99 hpt rfl ?_; rintro p μ' ⟨rfl, rfl⟩; simp only [hno, gW, evalO, cw2, cw3, cw4, q2, wa, List.length_cons, List.length_nil, SA, Nat.reduceAdd, reduceIte, Nat.reduceEqDiff, Nat.reduceBEq, reduceCtorEq]) | (refine gd_i ?_; intro hg; try simp only [hg]) | refine goCall_L 1 e98 hv (by simp [PV.lend, PV.view, Mem.get, htk]) (by simp [PV.lends, PV.lend, PV.view, PV.seen, fitB, PV.scalar, Mem.get, Sh.size, htk]) (by simp [PV.flat]) ?_ | ((first | show (_ : Nat) ≤ _ | show (_ : Nat) < _ | show (_ : Int) ≤ _ | show (_ : Int) < _ | show (_ : Nat) = _ | show (_ : Int) = _ | show (_ : Bool) = _ | show _ ∨ _ | show ¬ _); first | omega | (simp only [DD, LL] <;> omega) | (go_unwrap; omega)) | ((first | refine PW.region ?_ | refine PW.regionQ ?_ | refine schedW_done_i ?_ | show (_ : Post) _ _ _ | show @Eq (List PV) _ _ | show @Eq Bool _ _ | show opsW _ _ _ _ _ _ _ _ | show okAll _ | show @Eq Bool _ _ ∨ _); focus (simp only [gW, evalO, cw2, cw3, cw4, q2, wa, List.length_cons, List.length_nil, SA, Nat.reduceAdd, reduceIte, Nat.reduceEqDiff, Nat.reduceBEq, reduceCtorEq]; (try go_unwrap; try simp only [gW, evalO, cw2, cw3, cw4, q2, wa, List.length_cons, List.length_nil, RR, reduceCtorEq]))) | refine And.intro ?_ ?_ | exact Or.inr ⟨rfl, Nat.le_refl _⟩ | exact (fun h => Bool.noConfusion h))
      all_goals exact ⟨putP rs ⟨2, 0, [], [n, rn]⟩, rfl, rfl, ⟨hgood2, k', by simp [putP]; omega, hRn⟩, by simp [putP]; omega⟩
    · have hs' : sgn l s [43] = false := by simpa using hs
      rw [hs'] at hv
      repeat' (first | exact True.intro | (exact Or.inr (by decide)) | (refine PW.seqK ?_; intro K hK) | refine pwB ?_ | refine pwS ?_ | refine pwL ?_ | refine pwE ?_ | refine pwR ?_ | refine pwK ?_ | refine seqK_n ‹_› ?_ | refine seqK_r ‹_› ?_ | refine seqK_e ‹_› ?_ | refine PW.regionA ?_ | exact schedW_stop_i | refine schK_n ‹_› ?_ | (refine schedW_alt_k ?_ ?_; focus (intro K hK; simp only [gW, evalO, cw2, cw3, cw4, List.length_cons, List.length_nil, SA, Nat.reduceAdd, reduceIte, Nat.reduceEqDiff, Nat.reduceBEq, reduceCtorEq]; (try go_unwrap; try simp only [gW, evalO, cw2, cw3, cw4, List.length_cons, List.length_nil, RR, reduceCtorEq]))) | (refine PW.cond rfl ?_ ?_ <;> intro hcond <;> (try contradiction) <;> try simp only [DD] at hcond) | (refine gd_i ?_; intro hg; try simp only [hg]) | refine goCall_L 1 e98 hv (by simp [PV.lend, PV.view, Mem.get, htk]) (by simp [PV.lends, PV.lend, PV.view, PV.seen, fitB, PV.scalar, Mem.get, Sh.size, htk]) (by simp [PV.flat]) ?_ | ((first | show (_ : Nat) ≤ _ | show (_ : Nat) < _ | show (_ : Int) ≤ _ | show (_ : Int) < _ | show (_ : Nat) = _ | show (_ : Int) = _ | show (_ : Bool) = _ | show _ ∨ _ | show ¬ _); first | omega | (simp only [DD, LL] <;> omega) | (go_unwrap; omega)) | ((first | refine PW.region ?_ | refine PW.regionQ ?_ | refine schedW_done_i ?_ | show (_ : Post) _ _ _ | show @Eq (List PV) _ _ | show @Eq Bool _ _ | show opsW _ _ _ _ _ _ _ _ | show okAll _ | show @Eq Bool _ _ ∨ _); focus (simp only [gW, evalO, cw2, cw3, cw4, List.length_cons, List.length_nil, SA, Nat.reduceAdd, reduceIte, Nat.reduceEqDiff, Nat.reduceBEq, reduceCtorEq]; (try go_unwrap; try simp only [gW, evalO, cw2, cw3, cw4, List.length_cons, List.length_nil, RR, reduceCtorEq]))) | refine And.intro ?_ ?_ | exact Or.inr ⟨rfl, Nat.le_refl _⟩ | exact (fun h => Bool.noConfusion h))
      all_goals exact ⟨1, rfl, ⟨by omega, fun _ => hs', fun h => absurd h (by omega)⟩, by omega⟩
  · have n0 : sgn l s [43] = false := hsn.1 (by omega)
    have hv := v98 l s [45] hlt hl
    by_cases hs : sgn l s [45] = true
    · rw [hs] at hv
      have h1 := sgn_lt h0 hlt hs
      have hIa := hadv h1
      have hpa := hpart (adv s 1) hIa (by simp [adv]; omega)
      have hga := hgood (adv s 1) hIa (by simp [adv]; omega)
      have hRn : R = rowL l part opsA k' (putP (part (adv s 1)).2 ⟨3, 0, [], [n, (part (adv s 1)).1]⟩).1 (putP (part (adv s 1)).2 ⟨3, 0, [], [n, (part (adv s 1)).1]⟩).2 := by
        rw [hR]; simp [rowL, he, opsA, hs, n0]
      have hle2 : s.at_ + 1 ≤ (part (adv s 1)).2.at_ := hga.le
      have hoo : (part (adv s 1)).2.out.length + (s.at_ + 1) ≤ s.out.length + (part (adv s 1)).2.at_ := hga.out
      generalize part (adv s 1) = r at hpa hga hRn hle2 hoo
      obtain ⟨rn, rs⟩ := r
      simp only at hRn hle2 hoo
      have hga2 := hga.lt
      simp only at hga2
      have hgood2 : Good l s0 (putP rs ⟨3, 0, [], [n, rn]⟩) := good_put (s := s0) hga.lt (by omega) (by omega) hI.le hga.er
      have hpt := (v99 l rs ⟨3, 0, [], [n, rn]⟩ (by have := hI.le; omega)).frame ν hν (by simp [PV.kill, ndP, ndC, kidsP])
      simp only [ndP, ndC, kidsP, List.map_cons, List.map_nil] at hpt
      simp only [RdC, rdP, rowO, adv] at hpa hpt
      repeat' (first | exact True.intro | (exact Or.inr (by decide)) | (exact Or.inr ⟨rfl, by decide⟩) | (refine PW.seqK ?_; intro K hK) | refine pwB ?_ | refine pwS ?_ | refine pwL ?_ | refine pwE ?_ | refine pwR ?_ | refine pwK ?_ | refine seqK_n ‹_› ?_ | refine seqK_r ‹_› ?_ | refine seqK_e ‹_› ?_ | refine PW.regionA ?_ | exact schedW_stop_i | refine schK_n ‹_› ?_ | (refine schedW_alt_k ?_ ?_; focus (intro K hK; simp only [gW, evalO, cw2, cw3, cw4, q2, wa, List.length_cons, List.length_nil, SA, Nat.reduceAdd, reduceIte, Nat.reduceEqDiff, Nat.reduceBEq, reduceCtorEq]; (try go_unwrap; try simp only [gW, evalO, cw2, cw3, cw4, q2, wa, List.length_cons, List.length_nil, RR, reduceCtorEq]))) | (refine PW.cond rfl ?_ ?_ <;> intro hcond <;> (try contradiction) <;> try simp only [DD] at hcond) | (refine goCall_K 1 hE hpa rfl ?_; rintro p μ' ⟨rfl, rfl⟩; simp only [hno, gW, evalO, cw2, cw3, cw4, q2, wa, List.length_cons, List.length_nil, SA, Nat.reduceAdd, reduceIte, Nat.reduceEqDiff, Nat.reduceBEq, reduceCtorEq]) | (refine goCall_K 1 e99 hpt rfl ?_; rintro p μ' ⟨rfl, rfl⟩; simp only [hno, gW, evalO, cw2, cw3, cw4, q2, wa, List.length_cons, List.length_nil, SA, Nat.reduceAdd, reduceIte, Nat.reduceEqDiff, Nat.reduceBEq, reduceCtorEq]) | (refine gd_i ?_; intro hg; try simp only [hg]) | refine goCall_L 1 e98 hv (by simp [PV.lend, PV.view, Mem.get, htk]) (by simp [PV.lends, PV.lend, PV.view, PV.seen, fitB, PV.scalar, Mem.get, Sh.size, htk]) (by simp [PV.flat]) ?_ | ((first | show (_ : Nat) ≤ _ | show (_ : Nat) < _ | show (_ : Int) ≤ _ | show (_ : Int) < _ | show (_ : Nat) = _ | show (_ : Int) = _ | show (_ : Bool) = _ | show _ ∨ _ | show ¬ _); first | omega | (simp only [DD, LL] <;> omega) | (go_unwrap; omega)) | ((first | refine PW.region ?_ | refine PW.regionQ ?_ | refine schedW_done_i ?_ | show (_ : Post) _ _ _ | show @Eq (List PV) _ _ | show @Eq Bool _ _ | show opsW _ _ _ _ _ _ _ _ | show okAll _ | show @Eq Bool _ _ ∨ _); focus (simp only [gW, evalO, cw2, cw3, cw4, q2, wa, List.length_cons, List.length_nil, SA, Nat.reduceAdd, reduceIte, Nat.reduceEqDiff, Nat.reduceBEq, reduceCtorEq]; (try go_unwrap; try simp only [gW, evalO, cw2, cw3, cw4, q2, wa, List.length_cons, List.length_nil, RR, reduceCtorEq]))) | refine And.intro ?_ ?_ | exact Or.inr ⟨rfl, Nat.le_refl _⟩ | exact (fun h => Bool.noConfusion h))
      all_goals exact ⟨putP rs ⟨3, 0, [], [n, rn]⟩, rfl, rfl, ⟨hgood2, k', by simp [putP]; omega, hRn⟩, by simp [putP]; omega⟩
    · have hs' : sgn l s [45] = false := by simpa using hs
      rw [hs'] at hv
      repeat' (first | exact True.intro | (exact Or.inr (by decide)) | (refine PW.seqK ?_; intro K hK) | refine pwB ?_ | refine pwS ?_ | refine pwL ?_ | refine pwE ?_ | refine pwR ?_ | refine pwK ?_ | refine seqK_n ‹_› ?_ | refine seqK_r ‹_› ?_ | refine seqK_e ‹_› ?_ | refine PW.regionA ?_ | exact schedW_stop_i | refine schK_n ‹_› ?_ | (refine schedW_alt_k ?_ ?_; focus (intro K hK; simp only [gW, evalO, cw2, cw3, cw4, List.length_cons, List.length_nil, SA, Nat.reduceAdd, reduceIte, Nat.reduceEqDiff, Nat.reduceBEq, reduceCtorEq]; (try go_unwrap; try simp only [gW, evalO, cw2, cw3, cw4, List.length_cons, List.length_nil, RR, reduceCtorEq]))) | (refine PW.cond rfl ?_ ?_ <;> intro hcond <;> (try contradiction) <;> try simp only [DD] at hcond) | (refine gd_i ?_; intro hg; try simp only [hg]) | refine goCall_L 1 e98 hv (by simp [PV.lend, PV.view, Mem.get, htk]) (by simp [PV.lends, PV.lend, PV.view, PV.seen, fitB, PV.scalar, Mem.get, Sh.size, htk]) (by simp [PV.flat]) ?_ | ((first | show (_ : Nat) ≤ _ | show (_ : Nat) < _ | show (_ : Int) ≤ _ | show (_ : Int) < _ | show (_ : Nat) = _ | show (_ : Int) = _ | show (_ : Bool) = _ | show _ ∨ _ | show ¬ _); first | omega | (simp only [DD, LL] <;> omega) | (go_unwrap; omega)) | ((first | refine PW.region ?_ | refine PW.regionQ ?_ | refine schedW_done_i ?_ | show (_ : Post) _ _ _ | show @Eq (List PV) _ _ | show @Eq Bool _ _ | show opsW _ _ _ _ _ _ _ _ | show okAll _ | show @Eq Bool _ _ ∨ _); focus (simp only [gW, evalO, cw2, cw3, cw4, List.length_cons, List.length_nil, SA, Nat.reduceAdd, reduceIte, Nat.reduceEqDiff, Nat.reduceBEq, reduceCtorEq]; (try go_unwrap; try simp only [gW, evalO, cw2, cw3, cw4, List.length_cons, List.length_nil, RR, reduceCtorEq]))) | refine And.intro ?_ ?_ | exact Or.inr ⟨rfl, Nat.le_refl _⟩ | exact (fun h => Bool.noConfusion h))
      all_goals exact ⟨2, rfl, ⟨by omega, fun _ => n0, fun _ => hs'⟩, by omega⟩
  · have hj0 : j = 0 := by omega
    subst hj0
    have n0 : sgn l s [43] = false := hsn.1 (by omega)
    have n1 : sgn l s [45] = false := hsn.2 (by omega)
    have hRR : R = (n, s) := by rw [hR]; simp [rowL, he, opsA, n0, n1]
    subst hRR
    repeat' (first | exact True.intro | (refine PW.seqK ?_; intro K hK) | refine pwB ?_ | refine pwS ?_ | refine pwL ?_ | refine pwE ?_ | refine pwR ?_ | refine pwK ?_ | refine seqK_n ‹_› ?_ | refine seqK_r ‹_› ?_ | refine seqK_e ‹_› ?_ | refine PW.regionA ?_ | exact schedW_stop_i | refine schK_n ‹_› ?_ | (refine schedW_alt_k ?_ ?_; focus (intro K hK; simp only [List.length_cons, List.length_nil, SA, Nat.reduceAdd, reduceIte, Nat.reduceEqDiff, Nat.reduceBEq, reduceCtorEq]; (try go_unwrap; try simp only [List.length_cons, List.length_nil, RR, reduceCtorEq]))) | (refine PW.cond rfl ?_ ?_ <;> intro hcond <;> (try contradiction) <;> try simp only [DD] at hcond) | (refine gd_i ?_; intro hg; try simp only [hg]) | ((first | show (_ : Nat) ≤ _ | show (_ : Nat) < _ | show (_ : Int) ≤ _ | show (_ : Int) < _ | show (_ : Nat) = _ | show (_ : Int) = _ | show (_ : Bool) = _ | show _ ∨ _ | show ¬ _); first | omega | (simp only [DD, LL] <;> omega) | (go_unwrap; omega)) | ((first | refine PW.region ?_ | refine PW.regionQ ?_ | refine schedW_done_i ?_ | show (_ : Post) _ _ _ | show @Eq (List PV) _ _ | show @Eq Bool _ _ | show opsW _ _ _ _ _ _ _ _ | show okAll _ | show @Eq Bool _ _ ∨ _); focus (simp only [List.length_cons, List.length_nil, SA, Nat.reduceAdd, reduceIte, Nat.reduceEqDiff, Nat.reduceBEq, reduceCtorEq]; (try go_unwrap; try simp only [List.length_cons, List.length_nil, RR, reduceCtorEq]))) | refine And.intro ?_ ?_ | exact Or.inr ⟨rfl, Nat.le_refl _⟩ | exact (fun h => Bool.noConfusion h))
    all_goals rfl
theorem v72M (l : List Tok) (hl : l.length ≤ 100000) (f : Nat) (first caps : List PV) (hE : Ent Tryd.prog f) (part : PS → Int × PS) (m : Nat) (ν : Mem) (hν : ν.map (Option.map (MObj.kill (killTag 1))) = ν)
    (hpart : ∀ s, Inv l s → l.length - s.at_ ≤ m → RdC l f (first ++ [] ++ caps) ν s (part s)) (hgood : GoodF l part m) (hno : (PV.fn f first caps).kill (killTag 1) = .fn f first caps) (s0 : PS) (hI : Inv l s0) (hm : l.length - s0.at_ ≤ m) :
    RdC l 72 [.ref 0 0, .fn f first caps, .list none [.int .i64 4]] ν s0 (rowP l part opsM s0) := by
  refine PCalls.of_PW Tryd.func72 k72 mix (by simp [c72]) ?_
  simp only [c72, L72, CC, argE]
  have hp := hpart s0 hI hm
  have hg0 := hgood s0 hI hm
  have h0 := hI.end0
  have hr := rowL_good (ops := opsM) hgood h0 s0 hI.le hm
  unfold rowP
  have hkk : ∃ k, l.length - (part s0).2.at_ ≤ k ∧ rowL l part opsM (l.length - (part s0).2.at_) (part s0).1 (part s0).2 = rowL l part opsM k (part s0).1 (part s0).2 := ⟨_, Nat.le_refl _, rfl⟩
  generalize rowL l part opsM (l.length - (part s0).2.at_) (part s0).1 (part s0).2 = R at hkk
  generalize part s0 = r0 at hp hg0 hkk
  obtain ⟨n0, s1⟩ := r0
  repeat' (first | exact True.intro | (refine PW.seqK ?_; intro K hK) | refine pwB ?_ | refine pwS ?_ | refine pwL ?_ | refine pwE ?_ | refine pwR ?_ | refine pwK ?_ | refine seqK_n ‹_› ?_ | refine seqK_r ‹_› ?_ | refine seqK_e ‹_› ?_ | refine PW.regionA ?_ | exact schedW_stop_i | refine schK_n ‹_› ?_ | (refine schedW_alt_k ?_ ?_; focus (intro K hK; simp only [SA, Nat.reduceAdd, reduceIte, Nat.reduceEqDiff, Nat.reduceBEq, reduceCtorEq]; (try go_unwrap; try simp only [RR, reduceCtorEq]))) | (refine PW.cond rfl ?_ ?_ <;> intro hcond <;> (try contradiction) <;> try simp only [DD] at hcond) | (refine goCall_K 1 hE hp rfl ?_; rintro p μ' ⟨rfl, rfl⟩; simp only [hno, SA, Nat.reduceAdd, reduceIte, Nat.reduceEqDiff, Nat.reduceBEq, reduceCtorEq]) | (refine gd_i ?_; intro hg; try simp only [hg]) | ((first | show (_ : Nat) ≤ _ | show (_ : Nat) < _ | show (_ : Int) ≤ _ | show (_ : Int) < _ | show (_ : Nat) = _ | show (_ : Int) = _ | show (_ : Bool) = _ | show _ ∨ _ | show ¬ _); first | omega | (simp only [DD, LL] <;> omega) | (go_unwrap; omega)) | ((first | refine PW.region ?_ | refine PW.regionQ ?_ | refine schedW_done_i ?_ | show (_ : Post) _ _ _ | show @Eq (List PV) _ _ | show @Eq Bool _ _ | show opsW _ _ _ _ _ _ _ _ | show okAll _ | show @Eq Bool _ _ ∨ _); focus (simp only [SA, Nat.reduceAdd, reduceIte, Nat.reduceEqDiff, Nat.reduceBEq, reduceCtorEq]; (try go_unwrap; try simp only [RR, reduceCtorEq]))) | refine And.intro ?_ ?_ | exact Or.inr ⟨rfl, Nat.le_refl _⟩ | exact (fun h => Bool.noConfusion h))
  refine PW.loop (σ := Int × PS) [0, 1, 2, 7] (fun q => [.ref 0 0, .fn f first caps, .list none [.int .i64 4], .int .i64 q.1]) (fun q => some (rdP l q.2) :: some (rowO q.2) :: ν)
    (fun q => Good l s0 q ∧ ∃ k, l.length - q.2.at_ ≤ k ∧ R = rowL l part opsM k q.1 q.2) (fun q => l.length - q.2.at_) (n0, s1) ?_ rfl ⟨hg0, hkk⟩ ?_
  · simp only [SA, Nat.reduceAdd, reduceIte, Nat.reduceEqDiff, Nat.reduceBEq, reduceCtorEq]; rfl
  clear hp hkk hg0
  rintro ⟨n, s⟩ ⟨hg, k, hk, hR⟩
  simp only at hk hR
  simp only [List.zip_cons_cons, List.zip_nil_left]
  simp only [rdP, rowO]
  by_cases he : s.e = 0
  case neg =>
    have d1 : decide (s.e = 0) = false := by simp only [decide_eq_false_iff_not]; exact he
    have hRR : R = (n, s) := by rw [hR]; cases k <;> simp [rowL, he]
    subst hRR
    repeat' (first | exact True.intro | (refine PW.seqK ?_; intro K hK) | refine pwB ?_ | refine pwS ?_ | refine pwL ?_ | refine pwE ?_ | refine pwR ?_ | refine pwK ?_ | refine seqK_n ‹_› ?_ | refine seqK_r ‹_› ?_ | refine seqK_e ‹_› ?_ | refine PW.regionA ?_ | exact schedW_stop_i | refine schK_n ‹_› ?_ | (refine schedW_alt_k ?_ ?_; focus (intro K hK; simp only [d1, SA, Nat.reduceAdd, reduceIte, Nat.reduceEqDiff, Nat.reduceBEq, reduceCtorEq]; (try go_unwrap; try simp only [d1, RR, reduceCtorEq]))) | (refine PW.cond rfl ?_ ?_ <;> intro hcond <;> (try contradiction) <;> try simp only [DD] at hcond) | (refine gd_i ?_; intro hg; try simp only [hg]) | ((first | show (_ : Nat) ≤ _ | show (_ : Nat) < _ | show (_ : Int) ≤ _ | show (_ : Int) < _ | show (_ : Nat) = _ | show (_ : Int) = _ | show (_ : Bool) = _ | show _ ∨ _ | show ¬ _); first | omega | (simp only [DD, LL] <;> omega) | (go_unwrap; omega)) | ((first | refine PW.region ?_ | refine PW.regionQ ?_ | refine schedW_done_i ?_ | show (_ : Post) _ _ _ | show @Eq (List PV) _ _ | show @Eq Bool _ _ | show opsW _ _ _ _ _ _ _ _ | show okAll _ | show @Eq Bool _ _ ∨ _); focus (simp only [d1, SA, Nat.reduceAdd, reduceIte, Nat.reduceEqDiff, Nat.reduceBEq, reduceCtorEq]; (try go_unwrap; try simp only [d1, RR, reduceCtorEq]))) | refine And.intro ?_ ?_ | exact Or.inr ⟨rfl, Nat.le_refl _⟩ | exact (fun h => Bool.noConfusion h))
    all_goals rfl
  have d1 : decide (s.e = 0) = true := by simp only [decide_eq_true_eq]; exact he
  have hg' := hg
  obtain ⟨hlt, hle, hout, hn0, hn1, hgo, -⟩ := hg
  simp only at hlt hle hout hn0 hn1 hgo
  have htk : (s.out.map ndP).take s.out.length = s.out.map ndP := List.take_of_length_le (by simp)
  have hadv : s.at_ + 1 < l.length → Inv l (adv s 1) := fun h => ⟨by simpa [adv] using h, by have := hI.le; simp [adv]; omega, he, h0⟩
  obtain ⟨k', rfl⟩ : ∃ k', k = k' + 1 := ⟨k - 1, by omega⟩
  have wa : IntKind.i64.wrap ((s.at_ : Int) + 1) = ((s.at_ + 1 : Nat) : Int) := by rw [IntWalk.i64_in _ (by omega)]; simp
  repeat' (first | exact True.intro | (refine PW.seqK ?_; intro K hK) | refine pwB ?_ | refine pwS ?_ | refine pwL ?_ | refine pwE ?_ | refine pwR ?_ | refine pwK ?_ | refine seqK_n ‹_› ?_ | refine seqK_r ‹_› ?_ | refine seqK_e ‹_› ?_ | refine PW.regionA ?_ | exact schedW_stop_i | refine schK_n ‹_› ?_ | (refine schedW_alt_k ?_ ?_; focus (intro K hK; simp only [d1, SA, Nat.reduceAdd, reduceIte, Nat.reduceEqDiff, Nat.reduceBEq, reduceCtorEq]; (try go_unwrap; try simp only [d1, RR, reduceCtorEq]))) | (refine PW.cond rfl ?_ ?_ <;> intro hcond <;> (try contradiction) <;> try simp only [DD] at hcond) | (refine gd_i ?_; intro hg; try simp only [hg]) | ((first | show (_ : Nat) ≤ _ | show (_ : Nat) < _ | show (_ : Int) ≤ _ | show (_ : Int) < _ | show (_ : Nat) = _ | show (_ : Int) = _ | show (_ : Bool) = _ | show _ ∨ _ | show ¬ _); first | omega | (simp only [DD, LL] <;> omega) | (go_unwrap; omega)) | ((first | refine PW.region ?_ | refine PW.regionQ ?_ | refine schedW_done_i ?_ | show (_ : Post) _ _ _ | show @Eq (List PV) _ _ | show @Eq Bool _ _ | show opsW _ _ _ _ _ _ _ _ | show okAll _ | show @Eq Bool _ _ ∨ _); focus (simp only [d1, SA, Nat.reduceAdd, reduceIte, Nat.reduceEqDiff, Nat.reduceBEq, reduceCtorEq]; (try go_unwrap; try simp only [d1, RR, reduceCtorEq]))) | refine And.intro ?_ ?_ | exact Or.inr ⟨rfl, Nat.le_refl _⟩ | exact (fun h => Bool.noConfusion h))
  refine PW.loop (σ := Nat) [0, 1, 2, 7, 17, 18, 19] (fun j => [.ref 0 0, .fn f first caps, .list none [.int .i64 4], .int .i64 n, .list none [.int .i64 4], .int .i64 1, .int .i64 j]) (fun _ => some (rdP l s) :: some (rowO s) :: ν)
    (fun j => j ≤ 1 ∧ (0 < j → sgn l s [42] = false)) (fun j => 1 - j) 0 ?_ rfl ⟨by omega, by omega⟩ ?_
  · simp only [SA, Nat.reduceAdd, reduceIte, Nat.reduceEqDiff, Nat.reduceBEq, reduceCtorEq]; rfl
  rintro j ⟨hj, hsn⟩
  simp only [List.zip_cons_cons, List.zip_nil_left]
  simp only [rdP, rowO]
  rcases j with _ | j
  · have hv := v98 l s [42] hlt hl
    by_cases hs : sgn l s [42] = true
    · rw [hs] at hv
      have h1 := sgn_lt h0 hlt hs
      have hIa := hadv h1
      have hpa := hpart (adv s 1) hIa (by simp [adv]; omega)
      have hga := hgood (adv s 1) hIa (by simp [adv]; omega)
      have hRn : R = rowL l part opsM k' (putP (part (adv s 1)).2 ⟨4, 0, [], [n, (part (adv s 1)).1]⟩).1 (putP (part (adv s 1)).2 ⟨4, 0, [], [n, (part (adv s 1)).1]⟩).2 := by
        rw [hR]; simp [rowL, he, opsM, hs]
      have hle2 : s.at_ + 1 ≤ (part (adv s 1)).2.at_ := hga.le
      have hoo : (part (adv s 1)).2.out.length + (s.at_ + 1) ≤ s.out.length + (part (adv s 1)).2.at_ := hga.out
      generalize part (adv s 1) = r at hpa hga hRn hle2 hoo
      obtain ⟨rn, rs⟩ := r
      simp only at hRn hle2 hoo
      have hga2 := hga.lt
      simp only at hga2
      have hgood2 : Good l s0 (putP rs ⟨4, 0, [], [n, rn]⟩) := good_put (s := s0) hga.lt (by omega) (by omega) hI.le hga.er
      have hpt := (v99 l rs ⟨4, 0, [], [n, rn]⟩ (by have := hI.le; omega)).frame ν hν (by simp [PV.kill, ndP, ndC, kidsP])
      simp only [ndP, ndC, kidsP, List.map_cons, List.map_nil] at hpt
      simp only [RdC, rdP, rowO, adv] at hpa hpt
      repeat' (first | exact True.intro | (exact Or.inr (by decide)) | (exact Or.inr ⟨rfl, by decide⟩) | (refine PW.seqK ?_; intro K hK) | refine pwB ?_ | refine pwS ?_ | refine pwL ?_ | refine pwE ?_ | refine pwR ?_ | refine pwK ?_ | refine seqK_n ‹_› ?_ | refine seqK_r ‹_› ?_ | refine seqK_e ‹_› ?_ | refine PW.regionA ?_ | exact schedW_stop_i | refine schK_n ‹_› ?_ | (refine schedW_alt_k ?_ ?_; focus (intro K hK; simp only [gW, evalO, cw2, cw3, cw4, q2, wa, List.length_cons, List.length_nil, SA, Nat.reduceAdd, reduceIte, Nat.reduceEqDiff, Nat.reduceBEq, reduceCtorEq]; (try go_unwrap; try simp only [gW, evalO, cw2, cw3, cw4, q2, wa, List.length_cons, List.length_nil, RR, reduceCtorEq]))) | (refine PW.cond rfl ?_ ?_ <;> intro hcond <;> (try contradiction) <;> try simp only [DD] at hcond) | (refine goCall_K 1 hE hpa rfl ?_; rintro p μ' ⟨rfl, rfl⟩; simp only [hno, gW, evalO, cw2, cw3, cw4, q2, wa, List.length_cons, List.length_nil, SA, Nat.reduceAdd, reduceIte, Nat.reduceEqDiff, Nat.reduceBEq, reduceCtorEq]) | (refine goCall_K 1 e99 hpt rfl ?_; rintro p μ' ⟨rfl, rfl⟩; simp only [hno, gW, evalO, cw2, cw3, cw4, q2, wa, List.length_cons, List.length_nil, SA, Nat.reduceAdd, reduceIte, Nat.reduceEqDiff, Nat.reduceBEq, reduceCtorEq]) | (refine gd_i ?_; intro hg; try simp only [hg]) | refine goCall_L 1 e98 hv (by simp [PV.lend, PV.view, Mem.get, htk]) (by simp [PV.lends, PV.lend, PV.view, PV.seen, fitB, PV.scalar, Mem.get, Sh.size, htk]) (by simp [PV.flat]) ?_ | ((first | show (_ : Nat) ≤ _ | show (_ : Nat) < _ | show (_ : Int) ≤ _ | show (_ : Int) < _ | show (_ : Nat) = _ | show (_ : Int) = _ | show (_ : Bool) = _ | show _ ∨ _ | show ¬ _); first | omega | (simp only [DD, LL] <;> omega) | (go_unwrap; omega)) | ((first | refine PW.region ?_ | refine PW.regionQ ?_ | refine schedW_done_i ?_ | show (_ : Post) _ _ _ | show @Eq (List PV) _ _ | show @Eq Bool _ _ | show opsW _ _ _ _ _ _ _ _ | show okAll _ | show @Eq Bool _ _ ∨ _); focus (simp only [gW, evalO, cw2, cw3, cw4, q2, wa, List.length_cons, List.length_nil, SA, Nat.reduceAdd, reduceIte, Nat.reduceEqDiff, Nat.reduceBEq, reduceCtorEq]; (try go_unwrap; try simp only [gW, evalO, cw2, cw3, cw4, q2, wa, List.length_cons, List.length_nil, RR, reduceCtorEq]))) | refine And.intro ?_ ?_ | exact Or.inr ⟨rfl, Nat.le_refl _⟩ | exact (fun h => Bool.noConfusion h))
      all_goals exact ⟨putP rs ⟨4, 0, [], [n, rn]⟩, rfl, rfl, ⟨hgood2, k', by simp [putP]; omega, hRn⟩, by simp [putP]; omega⟩
    · have hs' : sgn l s [42] = false := by simpa using hs
      rw [hs'] at hv
      repeat' (first | exact True.intro | (exact Or.inr (by decide)) | (refine PW.seqK ?_; intro K hK) | refine pwB ?_ | refine pwS ?_ | refine pwL ?_ | refine pwE ?_ | refine pwR ?_ | refine pwK ?_ | refine seqK_n ‹_› ?_ | refine seqK_r ‹_› ?_ | refine seqK_e ‹_› ?_ | refine PW.regionA ?_ | exact schedW_stop_i | refine schK_n ‹_› ?_ | (refine schedW_alt_k ?_ ?_; focus (intro K hK; simp only [gW, evalO, cw2, cw3, cw4, List.length_cons, List.length_nil, SA, Nat.reduceAdd, reduceIte, Nat.reduceEqDiff, Nat.reduceBEq, reduceCtorEq]; (try go_unwrap; try simp only [gW, evalO, cw2, cw3, cw4, List.length_cons, List.length_nil, RR, reduceCtorEq]))) | (refine PW.cond rfl ?_ ?_ <;> intro hcond <;> (try contradiction) <;> try simp only [DD] at hcond) | (refine gd_i ?_; intro hg; try simp only [hg]) | refine goCall_L 1 e98 hv (by simp [PV.lend, PV.view, Mem.get, htk]) (by simp [PV.lends, PV.lend, PV.view, PV.seen, fitB, PV.scalar, Mem.get, Sh.size, htk]) (by simp [PV.flat]) ?_ | ((first | show (_ : Nat) ≤ _ | show (_ : Nat) < _ | show (_ : Int) ≤ _ | show (_ : Int) < _ | show (_ : Nat) = _ | show (_ : Int) = _ | show (_ : Bool) = _ | show _ ∨ _ | show ¬ _); first | omega | (simp only [DD, LL] <;> omega) | (go_unwrap; omega)) | ((first | refine PW.region ?_ | refine PW.regionQ ?_ | refine schedW_done_i ?_ | show (_ : Post) _ _ _ | show @Eq (List PV) _ _ | show @Eq Bool _ _ | show opsW _ _ _ _ _ _ _ _ | show okAll _ | show @Eq Bool _ _ ∨ _); focus (simp only [gW, evalO, cw2, cw3, cw4, List.length_cons, List.length_nil, SA, Nat.reduceAdd, reduceIte, Nat.reduceEqDiff, Nat.reduceBEq, reduceCtorEq]; (try go_unwrap; try simp only [gW, evalO, cw2, cw3, cw4, List.length_cons, List.length_nil, RR, reduceCtorEq]))) | refine And.intro ?_ ?_ | exact Or.inr ⟨rfl, Nat.le_refl _⟩ | exact (fun h => Bool.noConfusion h))
      all_goals exact ⟨1, rfl, ⟨by omega, fun _ => hs'⟩, by omega⟩
  · have hj0 : j = 0 := by omega
    subst hj0
    have n0 : sgn l s [42] = false := hsn (by omega)
    have hRR : R = (n, s) := by rw [hR]; simp [rowL, he, opsM, n0]
    subst hRR
    repeat' (first | exact True.intro | (refine PW.seqK ?_; intro K hK) | refine pwB ?_ | refine pwS ?_ | refine pwL ?_ | refine pwE ?_ | refine pwR ?_ | refine pwK ?_ | refine seqK_n ‹_› ?_ | refine seqK_r ‹_› ?_ | refine seqK_e ‹_› ?_ | refine PW.regionA ?_ | exact schedW_stop_i | refine schK_n ‹_› ?_ | (refine schedW_alt_k ?_ ?_; focus (intro K hK; simp only [List.length_cons, List.length_nil, SA, Nat.reduceAdd, reduceIte, Nat.reduceEqDiff, Nat.reduceBEq, reduceCtorEq]; (try go_unwrap; try simp only [List.length_cons, List.length_nil, RR, reduceCtorEq]))) | (refine PW.cond rfl ?_ ?_ <;> intro hcond <;> (try contradiction) <;> try simp only [DD] at hcond) | (refine gd_i ?_; intro hg; try simp only [hg]) | ((first | show (_ : Nat) ≤ _ | show (_ : Nat) < _ | show (_ : Int) ≤ _ | show (_ : Int) < _ | show (_ : Nat) = _ | show (_ : Int) = _ | show (_ : Bool) = _ | show _ ∨ _ | show ¬ _); first | omega | (simp only [DD, LL] <;> omega) | (go_unwrap; omega)) | ((first | refine PW.region ?_ | refine PW.regionQ ?_ | refine schedW_done_i ?_ | show (_ : Post) _ _ _ | show @Eq (List PV) _ _ | show @Eq Bool _ _ | show opsW _ _ _ _ _ _ _ _ | show okAll _ | show @Eq Bool _ _ ∨ _); focus (simp only [List.length_cons, List.length_nil, SA, Nat.reduceAdd, reduceIte, Nat.reduceEqDiff, Nat.reduceBEq, reduceCtorEq]; (try go_unwrap; try simp only [List.length_cons, List.length_nil, RR, reduceCtorEq]))) | refine And.intro ?_ ?_ | exact Or.inr ⟨rfl, Nat.le_refl _⟩ | exact (fun h => Bool.noConfusion h))
    all_goals rfl
end Go.Proofs.YthekpjhffciakaaDoor

namespace Go.Proofs.YthekpjhffciakaaDoor
open Go PG Go.Proofs
set_option linter.unusedSimpArgs false
set_option linter.unusedVariables false
set_option maxHeartbeats 4000000
set_option maxRecDepth 100000
/-! A sum, by what a factor comes to -/
abbrev varR : Mem := [some (.var none (.ref 0 0))]
theorem v71 (l : List Tok) (hl : l.length ≤ 100000) (fac : PS → Int × PS) (m : Nat) (hfac : ∀ s, Inv l s → l.length - s.at_ ≤ m → RdC l 73 [.ref 0 0] varR s (fac s)) (hgood : GoodF l fac m) (s : PS) (hI : Inv l s) (hm : l.length - s.at_ ≤ m) :
    RdC l 71 [.ref 2 0] varR s (rowP l fac opsM s) := by
  refine PCalls.of_PW Tryd.func71 k71 mix (by simp [c71]) ?_
  simp only [c71, L71, CC, argE]
  have h72 := v72M l hl 73 [.ref 0 0] [] e73 fac m varR (by simp [varR, MObj.kill, PV.kill, killTag]) hfac hgood (by simp [PV.kill, killTag]) s hI hm
  simp only [RdC, varR] at h72 ⊢
  repeat' (first | exact True.intro | (refine PW.seqK ?_; intro K hK) | refine pwB ?_ | refine pwS ?_ | refine pwL ?_ | refine pwE ?_ | refine pwR ?_ | refine pwK ?_ | refine seqK_n ‹_› ?_ | refine seqK_r ‹_› ?_ | refine seqK_e ‹_› ?_ | refine PW.regionA ?_ | exact schedW_stop_i | refine schK_n ‹_› ?_ | (refine schedW_alt_k ?_ ?_; focus (intro K hK; simp only [SA, Nat.reduceAdd, reduceIte, Nat.reduceEqDiff, Nat.reduceBEq, reduceCtorEq]; (try go_unwrap; try simp only [RR, reduceCtorEq]))) | (refine PW.cond rfl ?_ ?_ <;> intro hcond <;> (try contradiction) <;> try simp only [DD] at hcond) | (refine goCall_K 1 e72 h72 rfl ?_; rintro p μ' ⟨rfl, rfl⟩; simp only [SA, Nat.reduceAdd, reduceIte, Nat.reduceEqDiff, Nat.reduceBEq, reduceCtorEq]) | (refine gd_i ?_; intro hg; try simp only [hg]) | ((first | show (_ : Nat) ≤ _ | show (_ : Nat) < _ | show (_ : Int) ≤ _ | show (_ : Int) < _ | show (_ : Nat) = _ | show (_ : Int) = _ | show (_ : Bool) = _ | show _ ∨ _ | show ¬ _); first | omega | (simp only [DD, LL] <;> omega) | (go_unwrap; omega)) | ((first | refine PW.region ?_ | refine PW.regionQ ?_ | refine schedW_done_i ?_ | show (_ : Post) _ _ _ | show @Eq (List PV) _ _ | show @Eq Bool _ _ | show opsW _ _ _ _ _ _ _ _ | show okAll _ | show @Eq Bool _ _ ∨ _); focus (simp only [SA, Nat.reduceAdd, reduceIte, Nat.reduceEqDiff, Nat.reduceBEq, reduceCtorEq]; (try go_unwrap; try simp only [RR, reduceCtorEq]))) | refine And.intro ?_ ?_ | exact Or.inr ⟨rfl, Nat.le_refl _⟩ | exact (fun h => Bool.noConfusion h))
  all_goals rfl
theorem v40 (l : List Tok) (hl : l.length ≤ 100000) (fac : PS → Int × PS) (m : Nat) (hfac : ∀ s, Inv l s → l.length - s.at_ ≤ m → RdC l 73 [.ref 0 0] varR s (fac s)) (hgood : GoodF l fac m) (s : PS) (hI : Inv l s) (hm : l.length - s.at_ ≤ m) :
    RdC l 40 [.ref 0 0] [] s (rowP l (rowP l fac opsM) opsA s) := by
  have h72 := v72A l hl 71 [] [.ref 2 0] e71 (rowP l fac opsM) m varR (by simp [varR, MObj.kill, PV.kill, killTag]) (fun s hI hm => v71 l hl fac m hfac hgood s hI hm) (rowP_good hgood) (by simp [PV.kill, killTag]) s hI hm
  generalize rowP l (rowP l fac opsM) opsA s = r at h72
  refine PCalls.moves (mv := fun t => t == 1 || decide (2 ≤ t)) (fun t ht h => ?_) ?_
  · simp only [List.length_cons, List.length_nil] at ht
    simp only [Bool.or_eq_true, beq_iff_eq, decide_eq_true_eq] at h
    simp only [killTag, beq_iff_eq]; omega
  refine PCalls.of_PW Tryd.func40 k40 mix (by simp [c40]) ?_
  simp only [c40, L40, CC, argE]
  simp only [RdC, varR] at h72
  repeat' (first | exact True.intro | exact (rfl : (partSh (PV.ref 0 0) none).isSome = true) | (refine PW.stop (x := .ret) ?_) | (refine PW.seqK ?_; intro K hK) | refine pwB ?_ | refine pwS ?_ | refine pwL ?_ | refine pwE ?_ | refine pwR ?_ | refine pwK ?_ | refine seqK_n ‹_› ?_ | refine seqK_r ‹_› ?_ | refine seqK_e ‹_› ?_ | refine PW.regionA ?_ | exact schedW_stop_i | refine schK_n ‹_› ?_ | (refine schedW_alt_k ?_ ?_; focus (intro K hK; simp only [SA, Nat.reduceAdd, reduceIte, Nat.reduceEqDiff, Nat.reduceBEq, reduceCtorEq]; (try go_unwrap; try simp only [RR, reduceCtorEq]))) | (refine PW.cond rfl ?_ ?_ <;> intro hcond <;> (try contradiction) <;> try simp only [DD] at hcond) | (refine goCall_K 1 e72 h72 rfl ?_; rintro p μ' ⟨rfl, rfl⟩; simp only [SA, Nat.reduceAdd, reduceIte, Nat.reduceEqDiff, Nat.reduceBEq, reduceCtorEq]) | (refine gd_i ?_; intro hg; try simp only [hg]) | ((first | show (_ : Nat) ≤ _ | show (_ : Nat) < _ | show (_ : Int) ≤ _ | show (_ : Int) < _ | show (_ : Nat) = _ | show (_ : Int) = _ | show (_ : Bool) = _ | show _ ∨ _ | show ¬ _); first | omega | (simp only [DD, LL] <;> omega) | (go_unwrap; omega)) | ((first | refine PW.region ?_ | refine PW.regionQ ?_ | refine schedW_done_i ?_ | show (_ : Post) _ _ _ | show @Eq (List PV) _ _ | show @Eq Bool _ _ | show opsW _ _ _ _ _ _ _ _ | show okAll _ | show @Eq Bool _ _ ∨ _); focus (simp only [SA, Nat.reduceAdd, reduceIte, Nat.reduceEqDiff, Nat.reduceBEq, reduceCtorEq]; (try go_unwrap; try simp only [RR, reduceCtorEq]))) | refine And.intro ?_ ?_ | exact Or.inr ⟨rfl, Nat.le_refl _⟩ | exact (fun h => Bool.noConfusion h))
  refine ⟨?_⟩
  refine PW.trim 2 (fun t h => by simp [h]) ?_
  simp only [rdP, rowO, trimE, trimM, List.take_succ_cons, List.take_zero, List.map_cons, List.map_nil, Option.map_some, Option.map_none, MObj.kill, PV.kill, Nat.reduceLeDiff, decide_true, decide_false, dec_true, dec_false, Bool.false_eq_true, if_false, if_true, reduceIte]
  repeat' (first | exact True.intro | (refine PW.seqK ?_; intro K hK) | refine pwB ?_ | refine pwS ?_ | refine pwL ?_ | refine pwE ?_ | refine pwR ?_ | refine pwK ?_ | refine seqK_n ‹_› ?_ | refine seqK_r ‹_› ?_ | refine seqK_e ‹_› ?_ | refine PW.regionA ?_ | exact schedW_stop_i | refine schK_n ‹_› ?_ | (refine schedW_alt_k ?_ ?_; focus (intro K hK; simp only [SA, Nat.reduceAdd, reduceIte, Nat.reduceEqDiff, Nat.reduceBEq, reduceCtorEq]; (try go_unwrap; try simp only [RR, reduceCtorEq]))) | (refine PW.cond rfl ?_ ?_ <;> intro hcond <;> (try contradiction) <;> try simp only [DD] at hcond) | (refine gd_i ?_; intro hg; try simp only [hg]) | ((first | show (_ : Nat) ≤ _ | show (_ : Nat) < _ | show (_ : Int) ≤ _ | show (_ : Int) < _ | show (_ : Nat) = _ | show (_ : Int) = _ | show (_ : Bool) = _ | show _ ∨ _ | show ¬ _); first | omega | (simp only [DD, LL] <;> omega) | (go_unwrap; omega)) | ((first | refine PW.region ?_ | refine PW.regionQ ?_ | refine schedW_done_i ?_ | show (_ : Post) _ _ _ | show @Eq (List PV) _ _ | show @Eq Bool _ _ | show opsW _ _ _ _ _ _ _ _ | show okAll _ | show @Eq Bool _ _ ∨ _); focus (simp only [SA, Nat.reduceAdd, reduceIte, Nat.reduceEqDiff, Nat.reduceBEq, reduceCtorEq]; (try go_unwrap; try simp only [RR, reduceCtorEq]))) | refine And.intro ?_ ?_ | exact Or.inr ⟨rfl, Nat.le_refl _⟩ | exact (fun h => Bool.noConfusion h))
  all_goals rfl
end Go.Proofs.YthekpjhffciakaaDoor

namespace Go.Proofs.YthekpjhffciakaaDoor
open Go PG Go.Proofs
set_option linter.unusedSimpArgs false
set_option linter.unusedVariables false
set_option maxHeartbeats 4000000
set_option maxRecDepth 100000
def idxT (v : List UInt8) : List (List UInt8) → Int → Int
  | [], _ => -1
  | b :: l, i => if v = b then i else idxT v l (i + 1)
theorem v126 (l : List (List UInt8)) (v : List UInt8) (hl : l.length ≤ 9223372036854775806) : VCalls Tryd.prog G0 126 [.list none (l.map PV.str), .str v] (.int .i64 (idxT v l 0)) := by
  refine VCalls.of_PW Tryd.func126 k126 mix (by simp [c126]) ?_
  simp only [c126, L126, CC, argE]
  repeat' (first | exact True.intro | (refine PW.seqK ?_; intro K hK) | refine pwB ?_ | refine pwS ?_ | refine pwL ?_ | refine pwE ?_ | refine pwR ?_ | refine pwK ?_ | refine seqK_n ‹_› ?_ | refine seqK_r ‹_› ?_ | refine seqK_e ‹_› ?_ | refine PW.regionA ?_ | exact schedW_stop_i | refine schK_n ‹_› ?_ | (refine schedW_alt_k ?_ ?_; focus (intro K hK; simp only [SA, Nat.reduceAdd, reduceIte, Nat.reduceEqDiff, Nat.reduceBEq, reduceCtorEq]; (try go_unwrap; try simp only [RR, reduceCtorEq]))) | (refine PW.cond rfl ?_ ?_ <;> intro hcond <;> (try contradiction) <;> try simp only [DD] at hcond) | (refine gd_i ?_; intro hg; try simp only [hg]) | ((first | show (_ : Nat) ≤ _ | show (_ : Nat) < _ | show (_ : Int) ≤ _ | show (_ : Int) < _ | show (_ : Nat) = _ | show (_ : Int) = _ | show (_ : Bool) = _ | show _ ∨ _ | show ¬ _); first | omega | (simp only [DD, LL] <;> omega) | (go_unwrap; omega)) | ((first | refine PW.region ?_ | refine PW.regionQ ?_ | refine schedW_done_i ?_ | show (_ : Post) _ _ _ | show @Eq (List PV) _ _ | show @Eq Bool _ _ | show opsW _ _ _ _ _ _ _ _ | show okAll _ | show @Eq Bool _ _ ∨ _); focus (simp only [SA, Nat.reduceAdd, reduceIte, Nat.reduceEqDiff, Nat.reduceBEq, reduceCtorEq]; (try go_unwrap; try simp only [RR, reduceCtorEq]))) | refine And.intro ?_ ?_ | exact Or.inr ⟨rfl, Nat.le_refl _⟩ | exact (fun h => Bool.noConfusion h))
  refine PW.loop (σ := Nat) [0, 1, 7, 8] (fun j => [.list none (l.map PV.str), .str v, .int .i64 l.length, .int .i64 j]) (fun _ => []) (fun j => j ≤ l.length ∧ idxT v l 0 = idxT v (l.drop j) j) (fun j => l.length - j) 0 ?_ rfl ⟨by omega, by simp⟩ ?_
  · simp only [SA, Nat.reduceAdd, reduceIte, Nat.reduceEqDiff, Nat.reduceBEq, reduceCtorEq, List.length_map]; rfl
  rintro j ⟨hj, hr⟩
  simp only [List.zip_cons_cons, List.zip_nil_left]
  rcases Nat.lt_or_ge j l.length with h | h
  · obtain ⟨b, hd, -, hg⟩ := drop_at h
    rw [hd, idxT] at hr
    have hd' : decide ((j : Int) < l.length) = true := by simp only [decide_eq_true_eq]; omega
    repeat' (first | exact True.intro | (refine PW.seqK ?_; intro K hK) | refine pwB ?_ | refine pwS ?_ | refine pwL ?_ | refine pwE ?_ | refine pwR ?_ | refine pwK ?_ | refine seqK_n ‹_› ?_ | refine seqK_r ‹_› ?_ | refine seqK_e ‹_› ?_ | refine PW.regionA ?_ | exact schedW_stop_i | refine schK_n ‹_› ?_ | (refine schedW_alt_k ?_ ?_; focus (intro K hK; simp only [hd', (hg PV.str).1, List.length_map, SA, Nat.reduceAdd, reduceIte, Nat.reduceEqDiff, Nat.reduceBEq, reduceCtorEq]; (try go_unwrap; try simp only [hd', (hg PV.str).1, List.length_map, RR, reduceCtorEq]))) | (refine PW.cond rfl ?_ ?_ <;> intro hcond <;> (try contradiction) <;> try simp only [DD] at hcond) | (refine gd_i ?_; intro hg; try simp only [hg]) | ((first | show (_ : Nat) ≤ _ | show (_ : Nat) < _ | show (_ : Int) ≤ _ | show (_ : Int) < _ | show (_ : Nat) = _ | show (_ : Int) = _ | show (_ : Bool) = _ | show _ ∨ _ | show ¬ _); first | omega | (simp only [DD, LL] <;> omega) | (go_unwrap; omega)) | ((first | refine PW.region ?_ | refine PW.regionQ ?_ | refine schedW_done_i ?_ | show (_ : Post) _ _ _ | show @Eq (List PV) _ _ | show @Eq Bool _ _ | show opsW _ _ _ _ _ _ _ _ | show okAll _ | show @Eq Bool _ _ ∨ _); focus (simp only [hd', (hg PV.str).1, List.length_map, SA, Nat.reduceAdd, reduceIte, Nat.reduceEqDiff, Nat.reduceBEq, reduceCtorEq]; (try go_unwrap; try simp only [hd', (hg PV.str).1, List.length_map, RR, reduceCtorEq]))) | refine And.intro ?_ ?_ | exact Or.inr ⟨rfl, Nat.le_refl _⟩ | exact (fun h => Bool.noConfusion h))
    · rw [hr, if_pos hcond]
    · rw [if_neg hcond] at hr
      exact ⟨j + 1, rfl, ⟨h, hr⟩, by omega⟩
  · have hd' : decide ((j : Int) < l.length) = false := by simp only [decide_eq_false_iff_not]; omega
    rw [List.drop_eq_nil_of_le h, idxT] at hr
    repeat' (first | exact True.intro | (refine PW.seqK ?_; intro K hK) | refine pwB ?_ | refine pwS ?_ | refine pwL ?_ | refine pwE ?_ | refine pwR ?_ | refine pwK ?_ | refine seqK_n ‹_› ?_ | refine seqK_r ‹_› ?_ | refine seqK_e ‹_› ?_ | refine PW.regionA ?_ | exact schedW_stop_i | refine schK_n ‹_› ?_ | (refine schedW_alt_k ?_ ?_; focus (intro K hK; simp only [hd', SA, Nat.reduceAdd, reduceIte, Nat.reduceEqDiff, Nat.reduceBEq, reduceCtorEq]; (try go_unwrap; try simp only [hd', RR, reduceCtorEq]))) | (refine PW.cond rfl ?_ ?_ <;> intro hcond <;> (try contradiction) <;> try simp only [DD] at hcond) | (refine gd_i ?_; intro hg; try simp only [hg]) | ((first | show (_ : Nat) ≤ _ | show (_ : Nat) < _ | show (_ : Int) ≤ _ | show (_ : Int) < _ | show (_ : Nat) = _ | show (_ : Int) = _ | show (_ : Bool) = _ | show _ ∨ _ | show ¬ _); first | omega | (simp only [DD, LL] <;> omega) | (go_unwrap; omega)) | ((first | refine PW.region ?_ | refine PW.regionQ ?_ | refine schedW_done_i ?_ | show (_ : Post) _ _ _ | show @Eq (List PV) _ _ | show @Eq Bool _ _ | show opsW _ _ _ _ _ _ _ _ | show okAll _ | show @Eq Bool _ _ ∨ _); focus (simp only [hd', SA, Nat.reduceAdd, reduceIte, Nat.reduceEqDiff, Nat.reduceBEq, reduceCtorEq]; (try go_unwrap; try simp only [hd', RR, reduceCtorEq]))) | refine And.intro ?_ ?_ | exact Or.inr ⟨rfl, Nat.le_refl _⟩ | exact (fun h => Bool.noConfusion h))
    rw [hr]
theorem idx_call (x : List UInt8) : idxT x callWords 0 = match callNo x with | none => -1 | some i => (i : Int) := by
  unfold callNo callWords
  simp only [idxT, List.idxOf?, List.findIdx?_cons, List.findIdx?_nil, beq_iff_eq]
  by_cases h0 : x = [108, 101, 97, 115, 116]
  · subst h0; rfl
  by_cases h1 : x = [109, 111, 115, 116]
  · subst h1; rfl
  by_cases h2 : x = [105, 102]
  · subst h2; rfl
  by_cases h3 : x = [108, 101, 115, 115]
  · subst h3; rfl
  by_cases h4 : x = [101, 113, 117, 97, 108]
  · subst h4; rfl
  rw [if_neg h0, if_neg h1, if_neg h2, if_neg h3, if_neg h4, if_neg (fun h => h0 h.symm), if_neg (fun h => h1 h.symm), if_neg (fun h => h2 h.symm), if_neg (fun h => h3 h.symm), if_neg (fun h => h4 h.symm)]
  rfl
theorem callNo_lt {x : List UInt8} {i : Nat} (h : callNo x = some i) : i < 5 := by
  unfold callNo at h
  have := (List.idxOf?_eq_some_iff.1 h).1
  exact this
end Go.Proofs.YthekpjhffciakaaDoor

