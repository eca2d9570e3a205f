import Derived.Test.YthekpjhffciakaaDoorQ12
import Derived.Test.YthekpjhffciakaaDoorQ13
import Derived.Test.YthekpjhffciakaaDoorQ14
import Derived.Test.YthekpjhffciakaaDoorQ8
import Derived.Test.YthekpjhffciakaaDoorQ9
namespace Go.Proofs.YthekpjhffciakaaDoor
open Go PG Go.Proofs
set_option linter.unusedSimpArgs false
set_option linter.unusedVariables false
set_option maxHeartbeats 4000000
set_option maxRecDepth 100000
/-! Parse -/
theorem prog_sum (l : List Tok) (hl : l.length ≤ 100000) (htx : ∀ i, (tkAt l i).2.1.length ≤ 100000) : ∀ (k : Nat) (s : PS), Inv l s → l.length - s.at_ ≤ k → ∀ ν : Mem, ν.map (Option.map (MObj.kill (killTag 1))) = ν → RdC l 40 [.ref 0 0] ν s (sumP nmP l true k s)
  | 0, s, hI, hm => absurd hI.lt (by omega)
  | k + 1, s, hI, hm => fun ν hν => by
    have ih := prog_sum l hl htx k
    have hgood := sumP_good (nm := nmP) (l := l) (jk := true) k
    refine (v40 l hl (factorP nmP l true (sumP nmP l true k)) (k + 1) (fun s hI hm => ?_) (factor_good hgood) s hI hm).frame ν hν (by simp [PV.kill])
    exact (v73 l hl htx _ k ih hgood (fun s h1 h2 h3 => v100 l hl _ k ih hgood s h1 h2 h3) s hI hm).frame varR (by simp [varR, MObj.kill, PV.kill, killTag]) (by simp [PV.kill])
def parseS (s : List UInt8) : Except (Nat × Int) (List Nd) :=
  match allE s with
  | .error (o, e) => .error (o, e)
  | .ok l => parseR nmP l true
def parsePV : Except (Nat × Int) (List Nd) → PV
  | .error (a, e) => .tup [treeP [], .int .i64 a, .int .i64 e]
  | .ok nd => .tup [treeP nd, .int .i64 0, .int .i64 0]
theorem e18 : Ent Tryd.prog 18 := ⟨Tryd.f18, Tryd.func18, by kernel_rfl, by kernel_rfl⟩
theorem v18 (s : List UInt8) (hs : s.length ≤ 9223372036854775800) : VCalls Tryd.prog G0 18 [.str s] (parsePV (parseS s)) := by
  have h19 := v19 (G := G0) s hs
  unfold parseS
  cases hA : allE s with
  | error p =>
    obtain ⟨o, e⟩ := p
    have he := (all_errs hA).2
    rw [hA] at h19
    simp only [allP] at h19
    have d1 : decide ((e : Int) = 0) = false := by simp only [decide_eq_false_iff_not]; omega
    refine VCalls.of_PW Tryd.func18 k18 mix (by simp [c18]) ?_
    simp only [c18, L18, CC, argE]
    repeat' (first | exact True.intro | (exact Or.inr ⟨rfl, by decide⟩) | (refine PW.stop (x := .ret) ?_) | (refine PW.seqK ?_; intro K hK) | refine pwB ?_ | refine pwS ?_ | refine pwL ?_ | refine pwE ?_ | refine pwR ?_ | refine pwK ?_ | refine seqK_n ‹_› ?_ | refine seqK_r ‹_› ?_ | refine seqK_e ‹_› ?_ | refine PW.regionA ?_ | exact schedW_stop_i | refine schK_n ‹_› ?_ | (refine schedW_alt_k ?_ ?_; focus (intro K hK; simp only [d1, SA, Nat.reduceAdd, reduceIte, Nat.reduceEqDiff, Nat.reduceBEq, reduceCtorEq]; (try go_unwrap; try simp only [d1, RR, reduceCtorEq]))) | (refine PW.cond rfl ?_ ?_ <;> intro hcond <;> (try contradiction) <;> try simp only [DD] at hcond) | (refine gd_i ?_; intro hg; try simp only [hg]) | refine goCall_W e19 (h19) ?_ ?_ ?_ ?_ | ((first | show (_ : Nat) ≤ _ | show (_ : Nat) < _ | show (_ : Int) ≤ _ | show (_ : Int) < _ | show (_ : Nat) = _ | show (_ : Int) = _ | show (_ : Bool) = _ | show _ ∨ _ | show ¬ _); first | omega | (simp only [DD, LL] <;> omega) | (go_unwrap; omega)) | ((first | refine PW.region ?_ | refine PW.regionQ ?_ | refine schedW_done_i ?_ | show (_ : Post) _ _ _ | show @Eq (List PV) _ _ | show @Eq Bool _ _ | show opsW _ _ _ _ _ _ _ _ | show okAll _ | show @Eq Bool _ _ ∨ _); focus (simp only [d1, SA, Nat.reduceAdd, reduceIte, Nat.reduceEqDiff, Nat.reduceBEq, reduceCtorEq]; (try go_unwrap; try simp only [d1, RR, reduceCtorEq]))) | refine And.intro ?_ ?_ | exact Or.inr ⟨rfl, Nat.le_refl _⟩ | exact (fun h => Bool.noConfusion h))
    refine ⟨?_⟩
    refine PW.subM 0 1 _ [.list (some 4) []] (.nilto (some 4) .nil) rfl ?_
    simp only [List.set_cons_zero]
    repeat' (first | exact True.intro | (refine PW.seqK ?_; intro K hK) | refine pwB ?_ | refine pwS ?_ | refine pwL ?_ | refine pwE ?_ | refine pwR ?_ | refine pwK ?_ | refine seqK_n ‹_› ?_ | refine seqK_r ‹_› ?_ | refine seqK_e ‹_› ?_ | refine PW.regionA ?_ | exact schedW_stop_i | refine schK_n ‹_› ?_ | (refine schedW_alt_k ?_ ?_; focus (intro K hK; simp only [SA, Nat.reduceAdd, reduceIte, Nat.reduceEqDiff, Nat.reduceBEq, reduceCtorEq]; (try go_unwrap; try simp only [RR, reduceCtorEq]))) | (refine PW.cond rfl ?_ ?_ <;> intro hcond <;> (try contradiction) <;> try simp only [DD] at hcond) | (refine gd_i ?_; intro hg; try simp only [hg]) | ((first | show (_ : Nat) ≤ _ | show (_ : Nat) < _ | show (_ : Int) ≤ _ | show (_ : Int) < _ | show (_ : Nat) = _ | show (_ : Int) = _ | show (_ : Bool) = _ | show _ ∨ _ | show ¬ _); first | omega | (simp only [DD, LL] <;> omega) | (go_unwrap; omega)) | ((first | refine PW.region ?_ | refine PW.regionQ ?_ | refine schedW_done_i ?_ | show (_ : Post) _ _ _ | show @Eq (List PV) _ _ | show @Eq Bool _ _ | show opsW _ _ _ _ _ _ _ _ | show okAll _ | show @Eq Bool _ _ ∨ _); focus (simp only [SA, Nat.reduceAdd, reduceIte, Nat.reduceEqDiff, Nat.reduceBEq, reduceCtorEq]; (try go_unwrap; try simp only [RR, reduceCtorEq]))) | refine And.intro ?_ ?_ | exact Or.inr ⟨rfl, Nat.le_refl _⟩ | exact (fun h => Bool.noConfusion h))
    all_goals rfl
  | ok l =>
    rw [hA] at h19
    simp only [allP] at h19
    obtain ⟨l', hl', hll, hsl, -⟩ := toks_of hA
    have hI := inv_start hA
    have htx := tx_le hA
    have hlen := tks_len l
    have hsm := prog_sum l (by omega) htx l.length ⟨0, 0, []⟩ hI (by simp) [some (.var (some 1) (.agg [.nilSl]))] (by simp [MObj.kill, PV.kill])
    have hgd := sumP_good (nm := nmP) (l := l) (jk := true) l.length ⟨0, 0, []⟩ hI (by simp)
    have hwf := sumP_wf (nm := nmP) (l := l) (jk := true) l.length ⟨0, 0, []⟩ rfl trivial
    refine VCalls.of_PW Tryd.func18 k18 mix (by simp [c18]) ?_
    simp only [c18, L18, CC, argE]
    have d1 : decide ((0 : Int) = 0) = true := rfl
    repeat' (first | exact True.intro | (refine PW.stop (x := .seq (.region false (⟨some 24, none, .rd .mov [.tmp 8]⟩ :: _) _) _) ?_) | (refine PW.seqK ?_; intro K hK) | refine pwB ?_ | refine pwS ?_ | refine pwL ?_ | refine pwE ?_ | refine pwR ?_ | refine pwK ?_ | refine seqK_n ‹_› ?_ | refine seqK_r ‹_› ?_ | refine seqK_e ‹_› ?_ | refine PW.regionA ?_ | exact schedW_stop_i | refine schK_n ‹_› ?_ | (refine schedW_alt_k ?_ ?_; focus (intro K hK; simp only [d1, SA, Nat.reduceAdd, reduceIte, Nat.reduceEqDiff, Nat.reduceBEq, reduceCtorEq]; (try go_unwrap; try simp only [d1, RR, reduceCtorEq]))) | (refine PW.cond rfl ?_ ?_ <;> intro hcond <;> (try contradiction) <;> try simp only [DD] at hcond) | (refine gd_i ?_; intro hg; try simp only [hg]) | refine goCall_W e19 (h19) ?_ ?_ ?_ ?_ | ((first | show (_ : Nat) ≤ _ | show (_ : Nat) < _ | show (_ : Int) ≤ _ | show (_ : Int) < _ | show (_ : Nat) = _ | show (_ : Int) = _ | show (_ : Bool) = _ | show _ ∨ _ | show ¬ _); first | omega | (simp only [DD, LL] <;> omega) | (go_unwrap; omega)) | ((first | refine PW.region ?_ | refine PW.regionQ ?_ | refine schedW_done_i ?_ | show (_ : Post) _ _ _ | show @Eq (List PV) _ _ | show @Eq Bool _ _ | show opsW _ _ _ _ _ _ _ _ | show okAll _ | show @Eq Bool _ _ ∨ _); focus (simp only [d1, SA, Nat.reduceAdd, reduceIte, Nat.reduceEqDiff, Nat.reduceBEq, reduceCtorEq]; (try go_unwrap; try simp only [d1, RR, reduceCtorEq]))) | refine And.intro ?_ ?_ | exact Or.inr ⟨rfl, Nat.le_refl _⟩ | exact (fun h => Bool.noConfusion h))
    refine ⟨?_⟩
    refine PW.ownF 1 1 (some 4) 4 _ rfl rfl ?_
    simp only [List.cons_append, List.nil_append, List.set_cons_zero, List.set_cons_succ, List.length_cons, List.length_nil]
    refine PW.sw 0 1 (by simp) (by simp) rfl rfl ?_
    simp only [swE, swM, swL, List.map_cons, List.map_nil, Option.map_some, Option.map_none, MObj.ren, PV.ren, swp, List.set_cons_zero, List.set_cons_succ, List.getD_cons_zero, List.getD_cons_succ, Nat.reduceEqDiff, if_true, if_false, reduceIte]
    refine PW.sw 1 2 (by simp) (by simp) rfl rfl ?_
    simp only [swE, swM, swL, List.map_cons, List.map_nil, Option.map_some, Option.map_none, MObj.ren, PV.ren, swp, List.set_cons_zero, List.set_cons_succ, List.getD_cons_zero, List.getD_cons_succ, Nat.reduceEqDiff, if_true, if_false, reduceIte]
    unfold parseR
    generalize hsr : sumP nmP l true l.length ⟨0, 0, []⟩ = r at hsm hgd hwf
    obtain ⟨v, r⟩ := r
    have hrl := hgd.lt
    have hro := hgd.out
    simp only at hrl hro ⊢
    have hg := tk_get l r.at_ hrl
    have hok : (r.out.map ndP).take r.out.length = r.out.map ndP := List.take_of_length_le (by simp)
    have hol := nd_len r.out
    simp only [RdC, rdP, rowO, List.map_nil, List.length_nil] at hsm
    have d6 : decide (r.e = 0) = decide (r.e = 0) := rfl
    by_cases hre : r.e = 0
    case neg =>
      have d6 : decide (r.e = 0) = false := by simp only [decide_eq_false_iff_not]; exact hre
      rw [if_pos hre]
      repeat' (first | exact True.intro | (refine PW.stop (x := .seq (.region false (⟨some 47, none, .rd .mov [.tmp 8]⟩ :: _) _) _) ?_) | (refine PW.seqK ?_; intro K hK) | refine pwB ?_ | refine pwS ?_ | refine pwL ?_ | refine pwE ?_ | refine pwR ?_ | refine pwK ?_ | refine seqK_n ‹_› ?_ | refine seqK_r ‹_› ?_ | refine seqK_e ‹_› ?_ | refine PW.regionA ?_ | exact schedW_stop_i | refine schK_n ‹_› ?_ | (refine schedW_alt_k ?_ ?_; focus (intro K hK; simp only [PV.bin, PV.binOk, binI, decide_eq_false hre, hlen, hg, Bool.false_and, Bool.and_false, Bool.true_and, Bool.and_true, Bool.not_true, Bool.not_false, SA, Nat.reduceAdd, reduceIte, Nat.reduceEqDiff, Nat.reduceBEq, reduceCtorEq]; (try go_unwrap; try simp only [PV.bin, PV.binOk, binI, decide_eq_false hre, hlen, hg, Bool.false_and, Bool.and_false, Bool.true_and, Bool.and_true, Bool.not_true, Bool.not_false, RR, reduceCtorEq]))) | (refine PW.cond rfl ?_ ?_ <;> intro hcond <;> (try contradiction) <;> try simp only [DD] at hcond) | (refine goCall_K 1 e40 hsm rfl ?_; rintro p μ' ⟨rfl, rfl⟩; simp only [PV.bin, PV.binOk, binI, decide_eq_false hre, hlen, hg, Bool.false_and, Bool.and_false, Bool.true_and, Bool.and_true, Bool.not_true, Bool.not_false, SA, Nat.reduceAdd, reduceIte, Nat.reduceEqDiff, Nat.reduceBEq, reduceCtorEq]) | (refine gd_i ?_; intro hg; try simp only [hg]) | ((first | show (_ : Nat) ≤ _ | show (_ : Nat) < _ | show (_ : Int) ≤ _ | show (_ : Int) < _ | show (_ : Nat) = _ | show (_ : Int) = _ | show (_ : Bool) = _ | show _ ∨ _ | show ¬ _); first | omega | (simp only [DD, LL] <;> omega) | (go_unwrap; omega)) | ((first | refine PW.region ?_ | refine PW.regionQ ?_ | refine schedW_done_i ?_ | show (_ : Post) _ _ _ | show @Eq (List PV) _ _ | show @Eq Bool _ _ | show opsW _ _ _ _ _ _ _ _ | show okAll _ | show @Eq Bool _ _ ∨ _); focus (simp only [PV.bin, PV.binOk, binI, decide_eq_false hre, hlen, hg, Bool.false_and, Bool.and_false, Bool.true_and, Bool.and_true, Bool.not_true, Bool.not_false, SA, Nat.reduceAdd, reduceIte, Nat.reduceEqDiff, Nat.reduceBEq, reduceCtorEq]; (try go_unwrap; try simp only [PV.bin, PV.binOk, binI, decide_eq_false hre, hlen, hg, Bool.false_and, Bool.and_false, Bool.true_and, Bool.and_true, Bool.not_true, Bool.not_false, RR, reduceCtorEq]))) | refine And.intro ?_ ?_ | exact Or.inr ⟨rfl, Nat.le_refl _⟩ | exact (fun h => Bool.noConfusion h))
      refine ⟨?_⟩
      refine PW.frz 1 (.row (some 4) (r.out.map ndP)) ?_ ?_ ?_
      · rfl
      · rfl
      simp only [SA, Nat.reduceAdd, reduceIte, Nat.reduceEqDiff, Nat.reduceBEq, reduceCtorEq, PV.frz, MObj.frz, frzM, frzSl, hol, hok, Nat.le_refl, and_self, if_true]
      repeat' (first | exact True.intro | (refine PW.seqA (E := ?_) (M := ?_) ?_ ?_; rotate_left 2) | exact mergeQ_mk _ _ | (exact Or.inr ⟨rfl, by decide⟩) | (refine PW.stop (x := .ret) ?_) | (refine PW.seqK ?_; intro K hK) | refine pwB ?_ | refine pwS ?_ | refine pwL ?_ | refine pwE ?_ | refine pwR ?_ | refine pwK ?_ | refine seqK_n ‹_› ?_ | refine seqK_r ‹_› ?_ | refine seqK_e ‹_› ?_ | refine PW.regionA ?_ | exact schedW_stop_i | refine schK_n ‹_› ?_ | (refine schedW_alt_k ?_ ?_; focus (intro K hK; simp only [PV.bin, PV.binOk, binI, decide_eq_false hre, hlen, hg, hol, SA, Nat.reduceAdd, reduceIte, Nat.reduceEqDiff, Nat.reduceBEq, reduceCtorEq]; (try go_unwrap; try simp only [PV.bin, PV.binOk, binI, decide_eq_false hre, hlen, hg, hol, RR, reduceCtorEq]))) | (refine PW.cond rfl ?_ ?_ <;> intro hcond <;> (try contradiction) <;> try simp only [DD] at hcond) | (refine gd_i ?_; intro hg; try simp only [hg]) | ((first | show (_ : Nat) ≤ _ | show (_ : Nat) < _ | show (_ : Int) ≤ _ | show (_ : Int) < _ | show (_ : Nat) = _ | show (_ : Int) = _ | show (_ : Bool) = _ | show _ ∨ _ | show ¬ _); first | omega | (simp only [DD, LL] <;> omega) | (go_unwrap; omega)) | ((first | refine PW.region ?_ | refine PW.regionQ ?_ | refine schedW_done_i ?_ | show (_ : Post) _ _ _ | show @Eq (List PV) _ _ | show @Eq Bool _ _ | show opsW _ _ _ _ _ _ _ _ | show okAll _ | show @Eq Bool _ _ ∨ _); focus (simp only [PV.bin, PV.binOk, binI, decide_eq_false hre, hlen, hg, hol, SA, Nat.reduceAdd, reduceIte, Nat.reduceEqDiff, Nat.reduceBEq, reduceCtorEq]; (try go_unwrap; try simp only [PV.bin, PV.binOk, binI, decide_eq_false hre, hlen, hg, hol, RR, reduceCtorEq]))) | refine And.intro ?_ ?_ | exact Or.inr ⟨rfl, Nat.le_refl _⟩ | exact (fun h => Bool.noConfusion h))
      refine ⟨?_⟩
      refine PW.subM 2 1 _ [.list (some 4) []] (.nilto (some 4) .nil) rfl ?_
      simp only [List.set_cons_zero, List.set_cons_succ]
      repeat' (first | exact True.intro | (refine PW.seqK ?_; intro K hK) | refine pwB ?_ | refine pwS ?_ | refine pwL ?_ | refine pwE ?_ | refine pwR ?_ | refine pwK ?_ | refine seqK_n ‹_› ?_ | refine seqK_r ‹_› ?_ | refine seqK_e ‹_› ?_ | refine PW.regionA ?_ | exact schedW_stop_i | refine schK_n ‹_› ?_ | (refine schedW_alt_k ?_ ?_; focus (intro K hK; simp only [SA, Nat.reduceAdd, reduceIte, Nat.reduceEqDiff, Nat.reduceBEq, reduceCtorEq]; (try go_unwrap; try simp only [RR, reduceCtorEq]))) | (refine PW.cond rfl ?_ ?_ <;> intro hcond <;> (try contradiction) <;> try simp only [DD] at hcond) | (refine gd_i ?_; intro hg; try simp only [hg]) | ((first | show (_ : Nat) ≤ _ | show (_ : Nat) < _ | show (_ : Int) ≤ _ | show (_ : Int) < _ | show (_ : Nat) = _ | show (_ : Int) = _ | show (_ : Bool) = _ | show _ ∨ _ | show ¬ _); first | omega | (simp only [DD, LL] <;> omega) | (go_unwrap; omega)) | ((first | refine PW.region ?_ | refine PW.regionQ ?_ | refine schedW_done_i ?_ | show (_ : Post) _ _ _ | show @Eq (List PV) _ _ | show @Eq Bool _ _ | show opsW _ _ _ _ _ _ _ _ | show okAll _ | show @Eq Bool _ _ ∨ _); focus (simp only [SA, Nat.reduceAdd, reduceIte, Nat.reduceEqDiff, Nat.reduceBEq, reduceCtorEq]; (try go_unwrap; try simp only [RR, reduceCtorEq]))) | refine And.intro ?_ ?_ | exact Or.inr ⟨rfl, Nat.le_refl _⟩ | exact (fun h => Bool.noConfusion h))
      all_goals rfl
    have d6 : decide (r.e = 0) = true := decide_eq_true hre
    rw [if_neg (by simp [hre])]
    by_cases hk : (tkAt l r.at_).1 = 0
    case neg =>
      have d7 : decide (((tkAt l r.at_).1 : Int) = 0) = false := by simp only [decide_eq_false_iff_not]; omega
      have hf := (v41 l r 3).frame [some (.var (some 1) (.agg [.nilSl]))] (by simp [MObj.kill, PV.kill]) (by simp [PV.kill])
      have hF : failP r 3 = (0, ⟨r.at_, 3, r.out⟩) := by simp [failP, hre]
      rw [hF] at hf
      simp only [RdC, rdP, rowO] at hf
      rw [if_pos hk]
      repeat' (first | exact True.intro | (refine PW.stop (x := .seq (.region false (⟨some 47, none, .rd .mov [.tmp 8]⟩ :: _) _) _) ?_) | (refine PW.seqK ?_; intro K hK) | refine pwB ?_ | refine pwS ?_ | refine pwL ?_ | refine pwE ?_ | refine pwR ?_ | refine pwK ?_ | refine seqK_n ‹_› ?_ | refine seqK_r ‹_› ?_ | refine seqK_e ‹_› ?_ | refine PW.regionA ?_ | exact schedW_stop_i | refine schK_n ‹_› ?_ | (refine schedW_alt_k ?_ ?_; focus (intro K hK; simp only [PV.bin, PV.binOk, binI, decide_eq_true hre, d7, hlen, hg, Bool.false_and, Bool.and_false, Bool.true_and, Bool.and_true, Bool.not_true, Bool.not_false, SA, Nat.reduceAdd, reduceIte, Nat.reduceEqDiff, Nat.reduceBEq, reduceCtorEq]; (try go_unwrap; try simp only [PV.bin, PV.binOk, binI, decide_eq_true hre, d7, hlen, hg, Bool.false_and, Bool.and_false, Bool.true_and, Bool.and_true, Bool.not_true, Bool.not_false, RR, reduceCtorEq]))) | (refine PW.cond rfl ?_ ?_ <;> intro hcond <;> (try contradiction) <;> try simp only [DD] at hcond) | (refine goCall_K 1 e40 hsm rfl ?_; rintro p μ' ⟨rfl, rfl⟩; simp only [PV.bin, PV.binOk, binI, decide_eq_true hre, d7, hlen, hg, Bool.false_and, Bool.and_false, Bool.true_and, Bool.and_true, Bool.not_true, Bool.not_false, SA, Nat.reduceAdd, reduceIte, Nat.reduceEqDiff, Nat.reduceBEq, reduceCtorEq]) | (refine goCall_K 1 e41 hf rfl ?_; rintro p μ' ⟨rfl, rfl⟩; simp only [PV.bin, PV.binOk, binI, decide_eq_true hre, d7, hlen, hg, Bool.false_and, Bool.and_false, Bool.true_and, Bool.and_true, Bool.not_true, Bool.not_false, SA, Nat.reduceAdd, reduceIte, Nat.reduceEqDiff, Nat.reduceBEq, reduceCtorEq]) | (refine gd_i ?_; intro hg; try simp only [hg]) | ((first | show (_ : Nat) ≤ _ | show (_ : Nat) < _ | show (_ : Int) ≤ _ | show (_ : Int) < _ | show (_ : Nat) = _ | show (_ : Int) = _ | show (_ : Bool) = _ | show _ ∨ _ | show ¬ _); first | omega | (simp only [DD, LL] <;> omega) | (go_unwrap; omega)) | ((first | refine PW.region ?_ | refine PW.regionQ ?_ | refine schedW_done_i ?_ | show (_ : Post) _ _ _ | show @Eq (List PV) _ _ | show @Eq Bool _ _ | show opsW _ _ _ _ _ _ _ _ | show okAll _ | show @Eq Bool _ _ ∨ _); focus (simp only [PV.bin, PV.binOk, binI, decide_eq_true hre, d7, hlen, hg, Bool.false_and, Bool.and_false, Bool.true_and, Bool.and_true, Bool.not_true, Bool.not_false, SA, Nat.reduceAdd, reduceIte, Nat.reduceEqDiff, Nat.reduceBEq, reduceCtorEq]; (try go_unwrap; try simp only [PV.bin, PV.binOk, binI, decide_eq_true hre, d7, hlen, hg, Bool.false_and, Bool.and_false, Bool.true_and, Bool.and_true, Bool.not_true, Bool.not_false, RR, reduceCtorEq]))) | refine And.intro ?_ ?_ | exact Or.inr ⟨rfl, Nat.le_refl _⟩ | exact (fun h => Bool.noConfusion h))
      refine ⟨?_⟩
      refine PW.frz 1 (.row (some 4) (r.out.map ndP)) ?_ ?_ ?_
      · rfl
      · rfl
      simp only [SA, Nat.reduceAdd, reduceIte, Nat.reduceEqDiff, Nat.reduceBEq, reduceCtorEq, PV.frz, MObj.frz, frzM, frzSl, hol, hok, Nat.le_refl, and_self, if_true]
      repeat' (first | exact True.intro | (refine PW.seqA (E := ?_) (M := ?_) ?_ ?_; rotate_left 2) | exact mergeQ_mk _ _ | (exact Or.inr ⟨rfl, by decide⟩) | (refine PW.stop (x := .ret) ?_) | (refine PW.seqK ?_; intro K hK) | refine pwB ?_ | refine pwS ?_ | refine pwL ?_ | refine pwE ?_ | refine pwR ?_ | refine pwK ?_ | refine seqK_n ‹_› ?_ | refine seqK_r ‹_› ?_ | refine seqK_e ‹_› ?_ | refine PW.regionA ?_ | exact schedW_stop_i | refine schK_n ‹_› ?_ | (refine schedW_alt_k ?_ ?_; focus (intro K hK; simp only [PV.bin, PV.binOk, binI, hlen, hg, hol, SA, Nat.reduceAdd, reduceIte, Nat.reduceEqDiff, Nat.reduceBEq, reduceCtorEq]; (try go_unwrap; try simp only [PV.bin, PV.binOk, binI, hlen, hg, hol, RR, reduceCtorEq]))) | (refine PW.cond rfl ?_ ?_ <;> intro hcond <;> (try contradiction) <;> try simp only [DD] at hcond) | (refine gd_i ?_; intro hg; try simp only [hg]) | ((first | show (_ : Nat) ≤ _ | show (_ : Nat) < _ | show (_ : Int) ≤ _ | show (_ : Int) < _ | show (_ : Nat) = _ | show (_ : Int) = _ | show (_ : Bool) = _ | show _ ∨ _ | show ¬ _); first | omega | (simp only [DD, LL] <;> omega) | (go_unwrap; omega)) | ((first | refine PW.region ?_ | refine PW.regionQ ?_ | refine schedW_done_i ?_ | show (_ : Post) _ _ _ | show @Eq (List PV) _ _ | show @Eq Bool _ _ | show opsW _ _ _ _ _ _ _ _ | show okAll _ | show @Eq Bool _ _ ∨ _); focus (simp only [PV.bin, PV.binOk, binI, hlen, hg, hol, SA, Nat.reduceAdd, reduceIte, Nat.reduceEqDiff, Nat.reduceBEq, reduceCtorEq]; (try go_unwrap; try simp only [PV.bin, PV.binOk, binI, hlen, hg, hol, RR, reduceCtorEq]))) | refine And.intro ?_ ?_ | exact Or.inr ⟨rfl, Nat.le_refl _⟩ | exact (fun h => Bool.noConfusion h))
      refine ⟨?_⟩
      refine PW.subM 2 1 _ [.list (some 4) []] (.nilto (some 4) .nil) rfl ?_
      simp only [List.set_cons_zero, List.set_cons_succ]
      repeat' (first | exact True.intro | (refine PW.seqK ?_; intro K hK) | refine pwB ?_ | refine pwS ?_ | refine pwL ?_ | refine pwE ?_ | refine pwR ?_ | refine pwK ?_ | refine seqK_n ‹_› ?_ | refine seqK_r ‹_› ?_ | refine seqK_e ‹_› ?_ | refine PW.regionA ?_ | exact schedW_stop_i | refine schK_n ‹_› ?_ | (refine schedW_alt_k ?_ ?_; focus (intro K hK; simp only [SA, Nat.reduceAdd, reduceIte, Nat.reduceEqDiff, Nat.reduceBEq, reduceCtorEq]; (try go_unwrap; try simp only [RR, reduceCtorEq]))) | (refine PW.cond rfl ?_ ?_ <;> intro hcond <;> (try contradiction) <;> try simp only [DD] at hcond) | (refine gd_i ?_; intro hg; try simp only [hg]) | ((first | show (_ : Nat) ≤ _ | show (_ : Nat) < _ | show (_ : Int) ≤ _ | show (_ : Int) < _ | show (_ : Nat) = _ | show (_ : Int) = _ | show (_ : Bool) = _ | show _ ∨ _ | show ¬ _); first | omega | (simp only [DD, LL] <;> omega) | (go_unwrap; omega)) | ((first | refine PW.region ?_ | refine PW.regionQ ?_ | refine schedW_done_i ?_ | show (_ : Post) _ _ _ | show @Eq (List PV) _ _ | show @Eq Bool _ _ | show opsW _ _ _ _ _ _ _ _ | show okAll _ | show @Eq Bool _ _ ∨ _); focus (simp only [SA, Nat.reduceAdd, reduceIte, Nat.reduceEqDiff, Nat.reduceBEq, reduceCtorEq]; (try go_unwrap; try simp only [RR, reduceCtorEq]))) | refine And.intro ?_ ?_ | exact Or.inr ⟨rfl, Nat.le_refl _⟩ | exact (fun h => Bool.noConfusion h))
      all_goals rfl
    have d7 : decide (((tkAt l r.at_).1 : Int) = 0) = true := by simp only [decide_eq_true_eq]; omega
    rw [if_neg (by simp [hk])]
    obtain ⟨hw1, hw2, hw3, -⟩ := hwf hre
    simp only at hw1 hw2 hw3
    have hK := sumP_K (nm := nmP) (l := l) (jk := true) l.length ⟨0, 0, []⟩ (by intro x hx; simp at hx)
    rw [hsr] at hK
    simp only at hK
    by_cases h256 : 256 < r.out.length
    · have d8 : decide ((256 : Int) < r.out.length) = true := by simp only [decide_eq_true_eq]; omega
      rw [if_pos h256]
      repeat' (first | exact True.intro | (refine PW.stop (x := .seq (.region false (⟨some 47, none, .rd .mov [.tmp 8]⟩ :: _) _) _) ?_) | (refine PW.seqK ?_; intro K hK) | refine pwB ?_ | refine pwS ?_ | refine pwL ?_ | refine pwE ?_ | refine pwR ?_ | refine pwK ?_ | refine seqK_n ‹_› ?_ | refine seqK_r ‹_› ?_ | refine seqK_e ‹_› ?_ | refine PW.regionA ?_ | exact schedW_stop_i | refine schK_n ‹_› ?_ | (refine schedW_alt_k ?_ ?_; focus (intro K hK; simp only [PV.bin, PV.binOk, binI, decide_eq_true hre, d7, hlen, hg, Bool.false_and, Bool.and_false, Bool.true_and, Bool.and_true, Bool.not_true, Bool.not_false, SA, Nat.reduceAdd, reduceIte, Nat.reduceEqDiff, Nat.reduceBEq, reduceCtorEq]; (try go_unwrap; try simp only [PV.bin, PV.binOk, binI, decide_eq_true hre, d7, hlen, hg, Bool.false_and, Bool.and_false, Bool.true_and, Bool.and_true, Bool.not_true, Bool.not_false, RR, reduceCtorEq]))) | (refine PW.cond rfl ?_ ?_ <;> intro hcond <;> (try contradiction) <;> try simp only [DD] at hcond) | (refine goCall_K 1 e40 hsm rfl ?_; rintro p μ' ⟨rfl, rfl⟩; simp only [PV.bin, PV.binOk, binI, decide_eq_true hre, d7, hlen, hg, Bool.false_and, Bool.and_false, Bool.true_and, Bool.and_true, Bool.not_true, Bool.not_false, SA, Nat.reduceAdd, reduceIte, Nat.reduceEqDiff, Nat.reduceBEq, reduceCtorEq]) | (refine gd_i ?_; intro hg; try simp only [hg]) | ((first | show (_ : Nat) ≤ _ | show (_ : Nat) < _ | show (_ : Int) ≤ _ | show (_ : Int) < _ | show (_ : Nat) = _ | show (_ : Int) = _ | show (_ : Bool) = _ | show _ ∨ _ | show ¬ _); first | omega | (simp only [DD, LL] <;> omega) | (go_unwrap; omega)) | ((first | refine PW.region ?_ | refine PW.regionQ ?_ | refine schedW_done_i ?_ | show (_ : Post) _ _ _ | show @Eq (List PV) _ _ | show @Eq Bool _ _ | show opsW _ _ _ _ _ _ _ _ | show okAll _ | show @Eq Bool _ _ ∨ _); focus (simp only [PV.bin, PV.binOk, binI, decide_eq_true hre, d7, hlen, hg, Bool.false_and, Bool.and_false, Bool.true_and, Bool.and_true, Bool.not_true, Bool.not_false, SA, Nat.reduceAdd, reduceIte, Nat.reduceEqDiff, Nat.reduceBEq, reduceCtorEq]; (try go_unwrap; try simp only [PV.bin, PV.binOk, binI, decide_eq_true hre, d7, hlen, hg, Bool.false_and, Bool.and_false, Bool.true_and, Bool.and_true, Bool.not_true, Bool.not_false, RR, reduceCtorEq]))) | refine And.intro ?_ ?_ | exact Or.inr ⟨rfl, Nat.le_refl _⟩ | exact (fun h => Bool.noConfusion h))
      refine ⟨?_⟩
      refine PW.frz 1 (.row (some 4) (r.out.map ndP)) ?_ ?_ ?_
      · rfl
      · rfl
      simp only [SA, Nat.reduceAdd, reduceIte, Nat.reduceEqDiff, Nat.reduceBEq, reduceCtorEq, PV.frz, MObj.frz, frzM, frzSl, hol, hok, Nat.le_refl, and_self, if_true]
      repeat' (first | exact True.intro | (refine PW.seqA (E := ?_) (M := ?_) ?_ ?_; rotate_left 2) | exact mergeQ_mk _ _ | (exact Or.inr ⟨rfl, by decide⟩) | (refine PW.stop (x := .ret) ?_) | (refine PW.seqK ?_; intro K hK) | refine pwB ?_ | refine pwS ?_ | refine pwL ?_ | refine pwE ?_ | refine pwR ?_ | refine pwK ?_ | refine seqK_n ‹_› ?_ | refine seqK_r ‹_› ?_ | refine seqK_e ‹_› ?_ | refine PW.regionA ?_ | exact schedW_stop_i | refine schK_n ‹_› ?_ | (refine schedW_alt_k ?_ ?_; focus (intro K hK; simp only [PV.bin, PV.binOk, binI, decide_eq_true hre, d8, hlen, hg, hol, SA, Nat.reduceAdd, reduceIte, Nat.reduceEqDiff, Nat.reduceBEq, reduceCtorEq]; (try go_unwrap; try simp only [PV.bin, PV.binOk, binI, decide_eq_true hre, d8, hlen, hg, hol, RR, reduceCtorEq]))) | (refine PW.cond rfl ?_ ?_ <;> intro hcond <;> (try contradiction) <;> try simp only [DD] at hcond) | (refine gd_i ?_; intro hg; try simp only [hg]) | ((first | show (_ : Nat) ≤ _ | show (_ : Nat) < _ | show (_ : Int) ≤ _ | show (_ : Int) < _ | show (_ : Nat) = _ | show (_ : Int) = _ | show (_ : Bool) = _ | show _ ∨ _ | show ¬ _); first | omega | (simp only [DD, LL] <;> omega) | (go_unwrap; omega)) | ((first | refine PW.region ?_ | refine PW.regionQ ?_ | refine schedW_done_i ?_ | show (_ : Post) _ _ _ | show @Eq (List PV) _ _ | show @Eq Bool _ _ | show opsW _ _ _ _ _ _ _ _ | show okAll _ | show @Eq Bool _ _ ∨ _); focus (simp only [PV.bin, PV.binOk, binI, decide_eq_true hre, d8, hlen, hg, hol, SA, Nat.reduceAdd, reduceIte, Nat.reduceEqDiff, Nat.reduceBEq, reduceCtorEq]; (try go_unwrap; try simp only [PV.bin, PV.binOk, binI, decide_eq_true hre, d8, hlen, hg, hol, RR, reduceCtorEq]))) | refine And.intro ?_ ?_ | exact Or.inr ⟨rfl, Nat.le_refl _⟩ | exact (fun h => Bool.noConfusion h))
      refine ⟨?_⟩
      refine PW.subM 2 1 _ [.list (some 4) []] (.nilto (some 4) .nil) rfl ?_
      simp only [List.set_cons_zero, List.set_cons_succ]
      repeat' (first | exact True.intro | (refine PW.seqK ?_; intro K hK) | refine pwB ?_ | refine pwS ?_ | refine pwL ?_ | refine pwE ?_ | refine pwR ?_ | refine pwK ?_ | refine seqK_n ‹_› ?_ | refine seqK_r ‹_› ?_ | refine seqK_e ‹_› ?_ | refine PW.regionA ?_ | exact schedW_stop_i | refine schK_n ‹_› ?_ | (refine schedW_alt_k ?_ ?_; focus (intro K hK; simp only [SA, Nat.reduceAdd, reduceIte, Nat.reduceEqDiff, Nat.reduceBEq, reduceCtorEq]; (try go_unwrap; try simp only [RR, reduceCtorEq]))) | (refine PW.cond rfl ?_ ?_ <;> intro hcond <;> (try contradiction) <;> try simp only [DD] at hcond) | (refine gd_i ?_; intro hg; try simp only [hg]) | ((first | show (_ : Nat) ≤ _ | show (_ : Nat) < _ | show (_ : Int) ≤ _ | show (_ : Int) < _ | show (_ : Nat) = _ | show (_ : Int) = _ | show (_ : Bool) = _ | show _ ∨ _ | show ¬ _); first | omega | (simp only [DD, LL] <;> omega) | (go_unwrap; omega)) | ((first | refine PW.region ?_ | refine PW.regionQ ?_ | refine schedW_done_i ?_ | show (_ : Post) _ _ _ | show @Eq (List PV) _ _ | show @Eq Bool _ _ | show opsW _ _ _ _ _ _ _ _ | show okAll _ | show @Eq Bool _ _ ∨ _); focus (simp only [SA, Nat.reduceAdd, reduceIte, Nat.reduceEqDiff, Nat.reduceBEq, reduceCtorEq]; (try go_unwrap; try simp only [RR, reduceCtorEq]))) | refine And.intro ?_ ?_ | exact Or.inr ⟨rfl, Nat.le_refl _⟩ | exact (fun h => Bool.noConfusion h))
      all_goals rfl
    have d8 : decide ((256 : Int) < r.out.length) = false := by simp only [decide_eq_false_iff_not]; omega
    rw [if_neg h256]
    have h42 := v42 (G := G0) r.out (by omega) (by intro h; rw [h] at hw3; simp at hw3; omega) hw1 (fun n hn => by have := hK n hn; omega)
    simp only [treeP] at h42
    by_cases h16 : 16 < depthM r.out
    · have d9 : decide ((16 : Int) < depthM r.out) = true := by simp only [decide_eq_true_eq]; exact h16
      rw [if_pos h16]
      repeat' (first | exact True.intro | (refine PW.stop (x := .seq (.region false (⟨some 47, none, .rd .mov [.tmp 8]⟩ :: _) _) _) ?_) | (refine PW.seqK ?_; intro K hK) | refine pwB ?_ | refine pwS ?_ | refine pwL ?_ | refine pwE ?_ | refine pwR ?_ | refine pwK ?_ | refine seqK_n ‹_› ?_ | refine seqK_r ‹_› ?_ | refine seqK_e ‹_› ?_ | refine PW.regionA ?_ | exact schedW_stop_i | refine schK_n ‹_› ?_ | (refine schedW_alt_k ?_ ?_; focus (intro K hK; simp only [PV.bin, PV.binOk, binI, decide_eq_true hre, d7, hlen, hg, Bool.false_and, Bool.and_false, Bool.true_and, Bool.and_true, Bool.not_true, Bool.not_false, SA, Nat.reduceAdd, reduceIte, Nat.reduceEqDiff, Nat.reduceBEq, reduceCtorEq]; (try go_unwrap; try simp only [PV.bin, PV.binOk, binI, decide_eq_true hre, d7, hlen, hg, Bool.false_and, Bool.and_false, Bool.true_and, Bool.and_true, Bool.not_true, Bool.not_false, RR, reduceCtorEq]))) | (refine PW.cond rfl ?_ ?_ <;> intro hcond <;> (try contradiction) <;> try simp only [DD] at hcond) | (refine goCall_K 1 e40 hsm rfl ?_; rintro p μ' ⟨rfl, rfl⟩; simp only [PV.bin, PV.binOk, binI, decide_eq_true hre, d7, hlen, hg, Bool.false_and, Bool.and_false, Bool.true_and, Bool.and_true, Bool.not_true, Bool.not_false, SA, Nat.reduceAdd, reduceIte, Nat.reduceEqDiff, Nat.reduceBEq, reduceCtorEq]) | (refine gd_i ?_; intro hg; try simp only [hg]) | ((first | show (_ : Nat) ≤ _ | show (_ : Nat) < _ | show (_ : Int) ≤ _ | show (_ : Int) < _ | show (_ : Nat) = _ | show (_ : Int) = _ | show (_ : Bool) = _ | show _ ∨ _ | show ¬ _); first | omega | (simp only [DD, LL] <;> omega) | (go_unwrap; omega)) | ((first | refine PW.region ?_ | refine PW.regionQ ?_ | refine schedW_done_i ?_ | show (_ : Post) _ _ _ | show @Eq (List PV) _ _ | show @Eq Bool _ _ | show opsW _ _ _ _ _ _ _ _ | show okAll _ | show @Eq Bool _ _ ∨ _); focus (simp only [PV.bin, PV.binOk, binI, decide_eq_true hre, d7, hlen, hg, Bool.false_and, Bool.and_false, Bool.true_and, Bool.and_true, Bool.not_true, Bool.not_false, SA, Nat.reduceAdd, reduceIte, Nat.reduceEqDiff, Nat.reduceBEq, reduceCtorEq]; (try go_unwrap; try simp only [PV.bin, PV.binOk, binI, decide_eq_true hre, d7, hlen, hg, Bool.false_and, Bool.and_false, Bool.true_and, Bool.and_true, Bool.not_true, Bool.not_false, RR, reduceCtorEq]))) | refine And.intro ?_ ?_ | exact Or.inr ⟨rfl, Nat.le_refl _⟩ | exact (fun h => Bool.noConfusion h))
      refine ⟨?_⟩
      refine PW.frz 1 (.row (some 4) (r.out.map ndP)) ?_ ?_ ?_
      · rfl
      · rfl
      simp only [SA, Nat.reduceAdd, reduceIte, Nat.reduceEqDiff, Nat.reduceBEq, reduceCtorEq, PV.frz, MObj.frz, frzM, frzSl, hol, hok, Nat.le_refl, and_self, if_true]
      repeat' (first | exact True.intro | (refine PW.seqA (E := ?_) (M := ?_) ?_ ?_; rotate_left 2) | exact mergeQ_mk _ _ | (exact Or.inr ⟨rfl, by decide⟩) | (refine PW.stop (x := .ret) ?_) | (refine PW.seqK ?_; intro K hK) | refine pwB ?_ | refine pwS ?_ | refine pwL ?_ | refine pwE ?_ | refine pwR ?_ | refine pwK ?_ | refine seqK_n ‹_› ?_ | refine seqK_r ‹_› ?_ | refine seqK_e ‹_› ?_ | refine PW.regionA ?_ | exact schedW_stop_i | refine schK_n ‹_› ?_ | (refine schedW_alt_k ?_ ?_; focus (intro K hK; simp only [PV.bin, PV.binOk, binI, decide_eq_true hre, d8, d9, hlen, hg, hol, SA, Nat.reduceAdd, reduceIte, Nat.reduceEqDiff, Nat.reduceBEq, reduceCtorEq]; (try go_unwrap; try simp only [PV.bin, PV.binOk, binI, decide_eq_true hre, d8, d9, hlen, hg, hol, RR, reduceCtorEq]))) | (refine PW.cond rfl ?_ ?_ <;> intro hcond <;> (try contradiction) <;> try simp only [DD] at hcond) | (refine gd_i ?_; intro hg; try simp only [hg]) | refine goCall_W e42 (h42) ?_ ?_ ?_ ?_ | ((first | show (_ : Nat) ≤ _ | show (_ : Nat) < _ | show (_ : Int) ≤ _ | show (_ : Int) < _ | show (_ : Nat) = _ | show (_ : Int) = _ | show (_ : Bool) = _ | show _ ∨ _ | show ¬ _); first | omega | (simp only [DD, LL] <;> omega) | (go_unwrap; omega)) | ((first | refine PW.region ?_ | refine PW.regionQ ?_ | refine schedW_done_i ?_ | show (_ : Post) _ _ _ | show @Eq (List PV) _ _ | show @Eq Bool _ _ | show opsW _ _ _ _ _ _ _ _ | show okAll _ | show @Eq Bool _ _ ∨ _); focus (simp only [PV.bin, PV.binOk, binI, decide_eq_true hre, d8, d9, hlen, hg, hol, SA, Nat.reduceAdd, reduceIte, Nat.reduceEqDiff, Nat.reduceBEq, reduceCtorEq]; (try go_unwrap; try simp only [PV.bin, PV.binOk, binI, decide_eq_true hre, d8, d9, hlen, hg, hol, RR, reduceCtorEq]))) | refine And.intro ?_ ?_ | exact Or.inr ⟨rfl, Nat.le_refl _⟩ | exact (fun h => Bool.noConfusion h))
      refine ⟨?_⟩
      refine PW.subM 2 1 _ [.list (some 4) []] (.nilto (some 4) .nil) rfl ?_
      simp only [List.set_cons_zero, List.set_cons_succ]
      repeat' (first | exact True.intro | (refine PW.seqK ?_; intro K hK) | refine pwB ?_ | refine pwS ?_ | refine pwL ?_ | refine pwE ?_ | refine pwR ?_ | refine pwK ?_ | refine seqK_n ‹_› ?_ | refine seqK_r ‹_› ?_ | refine seqK_e ‹_› ?_ | refine PW.regionA ?_ | exact schedW_stop_i | refine schK_n ‹_› ?_ | (refine schedW_alt_k ?_ ?_; focus (intro K hK; simp only [SA, Nat.reduceAdd, reduceIte, Nat.reduceEqDiff, Nat.reduceBEq, reduceCtorEq]; (try go_unwrap; try simp only [RR, reduceCtorEq]))) | (refine PW.cond rfl ?_ ?_ <;> intro hcond <;> (try contradiction) <;> try simp only [DD] at hcond) | (refine gd_i ?_; intro hg; try simp only [hg]) | ((first | show (_ : Nat) ≤ _ | show (_ : Nat) < _ | show (_ : Int) ≤ _ | show (_ : Int) < _ | show (_ : Nat) = _ | show (_ : Int) = _ | show (_ : Bool) = _ | show _ ∨ _ | show ¬ _); first | omega | (simp only [DD, LL] <;> omega) | (go_unwrap; omega)) | ((first | refine PW.region ?_ | refine PW.regionQ ?_ | refine schedW_done_i ?_ | show (_ : Post) _ _ _ | show @Eq (List PV) _ _ | show @Eq Bool _ _ | show opsW _ _ _ _ _ _ _ _ | show okAll _ | show @Eq Bool _ _ ∨ _); focus (simp only [SA, Nat.reduceAdd, reduceIte, Nat.reduceEqDiff, Nat.reduceBEq, reduceCtorEq]; (try go_unwrap; try simp only [RR, reduceCtorEq]))) | refine And.intro ?_ ?_ | exact Or.inr ⟨rfl, Nat.le_refl _⟩ | exact (fun h => Bool.noConfusion h))
      all_goals rfl
    have d9 : decide ((16 : Int) < depthM r.out) = false := by simp only [decide_eq_false_iff_not]; exact h16
    rw [if_neg h16]
    repeat' (first | exact True.intro | (refine PW.stop (x := .seq (.region false (⟨some 47, none, .rd .mov [.tmp 8]⟩ :: _) _) _) ?_) | (refine PW.seqK ?_; intro K hK) | refine pwB ?_ | refine pwS ?_ | refine pwL ?_ | refine pwE ?_ | refine pwR ?_ | refine pwK ?_ | refine seqK_n ‹_› ?_ | refine seqK_r ‹_› ?_ | refine seqK_e ‹_› ?_ | refine PW.regionA ?_ | exact schedW_stop_i | refine schK_n ‹_› ?_ | (refine schedW_alt_k ?_ ?_; focus (intro K hK; simp only [PV.bin, PV.binOk, binI, decide_eq_true hre, d7, hlen, hg, Bool.false_and, Bool.and_false, Bool.true_and, Bool.and_true, Bool.not_true, Bool.not_false, SA, Nat.reduceAdd, reduceIte, Nat.reduceEqDiff, Nat.reduceBEq, reduceCtorEq]; (try go_unwrap; try simp only [PV.bin, PV.binOk, binI, decide_eq_true hre, d7, hlen, hg, Bool.false_and, Bool.and_false, Bool.true_and, Bool.and_true, Bool.not_true, Bool.not_false, RR, reduceCtorEq]))) | (refine PW.cond rfl ?_ ?_ <;> intro hcond <;> (try contradiction) <;> try simp only [DD] at hcond) | (refine goCall_K 1 e40 hsm rfl ?_; rintro p μ' ⟨rfl, rfl⟩; simp only [PV.bin, PV.binOk, binI, decide_eq_true hre, d7, hlen, hg, Bool.false_and, Bool.and_false, Bool.true_and, Bool.and_true, Bool.not_true, Bool.not_false, SA, Nat.reduceAdd, reduceIte, Nat.reduceEqDiff, Nat.reduceBEq, reduceCtorEq]) | (refine gd_i ?_; intro hg; try simp only [hg]) | ((first | show (_ : Nat) ≤ _ | show (_ : Nat) < _ | show (_ : Int) ≤ _ | show (_ : Int) < _ | show (_ : Nat) = _ | show (_ : Int) = _ | show (_ : Bool) = _ | show _ ∨ _ | show ¬ _); first | omega | (simp only [DD, LL] <;> omega) | (go_unwrap; omega)) | ((first | refine PW.region ?_ | refine PW.regionQ ?_ | refine schedW_done_i ?_ | show (_ : Post) _ _ _ | show @Eq (List PV) _ _ | show @Eq Bool _ _ | show opsW _ _ _ _ _ _ _ _ | show okAll _ | show @Eq Bool _ _ ∨ _); focus (simp only [PV.bin, PV.binOk, binI, decide_eq_true hre, d7, hlen, hg, Bool.false_and, Bool.and_false, Bool.true_and, Bool.and_true, Bool.not_true, Bool.not_false, SA, Nat.reduceAdd, reduceIte, Nat.reduceEqDiff, Nat.reduceBEq, reduceCtorEq]; (try go_unwrap; try simp only [PV.bin, PV.binOk, binI, decide_eq_true hre, d7, hlen, hg, Bool.false_and, Bool.and_false, Bool.true_and, Bool.and_true, Bool.not_true, Bool.not_false, RR, reduceCtorEq]))) | refine And.intro ?_ ?_ | exact Or.inr ⟨rfl, Nat.le_refl _⟩ | exact (fun h => Bool.noConfusion h))
    refine ⟨?_⟩
    refine PW.frz 1 (.row (some 4) (r.out.map ndP)) ?_ ?_ ?_
    · rfl
    · rfl
    simp only [SA, Nat.reduceAdd, reduceIte, Nat.reduceEqDiff, Nat.reduceBEq, reduceCtorEq, PV.frz, MObj.frz, frzM, frzSl, hol, hok, Nat.le_refl, and_self, if_true]
    repeat' (first | exact True.intro | (refine PW.seqA (E := ?_) (M := ?_) ?_ ?_; rotate_left 2) | exact mergeQ_mk _ _ | (exact Or.inr ⟨rfl, by decide⟩) | (refine PW.stop (x := .ret) ?_) | (refine PW.seqK ?_; intro K hK) | refine pwB ?_ | refine pwS ?_ | refine pwL ?_ | refine pwE ?_ | refine pwR ?_ | refine pwK ?_ | refine seqK_n ‹_› ?_ | refine seqK_r ‹_› ?_ | refine seqK_e ‹_› ?_ | refine PW.regionA ?_ | exact schedW_stop_i | refine schK_n ‹_› ?_ | (refine schedW_alt_k ?_ ?_; focus (intro K hK; simp only [PV.bin, PV.binOk, binI, decide_eq_true hre, d8, d9, hlen, hg, hol, SA, Nat.reduceAdd, reduceIte, Nat.reduceEqDiff, Nat.reduceBEq, reduceCtorEq]; (try go_unwrap; try simp only [PV.bin, PV.binOk, binI, decide_eq_true hre, d8, d9, hlen, hg, hol, RR, reduceCtorEq]))) | (refine PW.cond rfl ?_ ?_ <;> intro hcond <;> (try contradiction) <;> try simp only [DD] at hcond) | (refine gd_i ?_; intro hg; try simp only [hg]) | refine goCall_W e42 (h42) ?_ ?_ ?_ ?_ | ((first | show (_ : Nat) ≤ _ | show (_ : Nat) < _ | show (_ : Int) ≤ _ | show (_ : Int) < _ | show (_ : Nat) = _ | show (_ : Int) = _ | show (_ : Bool) = _ | show _ ∨ _ | show ¬ _); first | omega | (simp only [DD, LL] <;> omega) | (go_unwrap; omega)) | ((first | refine PW.region ?_ | refine PW.regionQ ?_ | refine schedW_done_i ?_ | show (_ : Post) _ _ _ | show @Eq (List PV) _ _ | show @Eq Bool _ _ | show opsW _ _ _ _ _ _ _ _ | show okAll _ | show @Eq Bool _ _ ∨ _); focus (simp only [PV.bin, PV.binOk, binI, decide_eq_true hre, d8, d9, hlen, hg, hol, SA, Nat.reduceAdd, reduceIte, Nat.reduceEqDiff, Nat.reduceBEq, reduceCtorEq]; (try go_unwrap; try simp only [PV.bin, PV.binOk, binI, decide_eq_true hre, d8, d9, hlen, hg, hol, RR, reduceCtorEq]))) | refine And.intro ?_ ?_ | exact Or.inr ⟨rfl, Nat.le_refl _⟩ | exact (fun h => Bool.noConfusion h))
    refine ⟨?_⟩
    repeat' (first | exact True.intro | (refine PW.seqK ?_; intro K hK) | refine pwB ?_ | refine pwS ?_ | refine pwL ?_ | refine pwE ?_ | refine pwR ?_ | refine pwK ?_ | refine seqK_n ‹_› ?_ | refine seqK_r ‹_› ?_ | refine seqK_e ‹_› ?_ | refine PW.regionA ?_ | exact schedW_stop_i | refine schK_n ‹_› ?_ | (refine schedW_alt_k ?_ ?_; focus (intro K hK; simp only [SA, Nat.reduceAdd, reduceIte, Nat.reduceEqDiff, Nat.reduceBEq, reduceCtorEq]; (try go_unwrap; try simp only [RR, reduceCtorEq]))) | (refine PW.cond rfl ?_ ?_ <;> intro hcond <;> (try contradiction) <;> try simp only [DD] at hcond) | (refine gd_i ?_; intro hg; try simp only [hg]) | ((first | show (_ : Nat) ≤ _ | show (_ : Nat) < _ | show (_ : Int) ≤ _ | show (_ : Int) < _ | show (_ : Nat) = _ | show (_ : Int) = _ | show (_ : Bool) = _ | show _ ∨ _ | show ¬ _); first | omega | (simp only [DD, LL] <;> omega) | (go_unwrap; omega)) | ((first | refine PW.region ?_ | refine PW.regionQ ?_ | refine schedW_done_i ?_ | show (_ : Post) _ _ _ | show @Eq (List PV) _ _ | show @Eq Bool _ _ | show opsW _ _ _ _ _ _ _ _ | show okAll _ | show @Eq Bool _ _ ∨ _); focus (simp only [SA, Nat.reduceAdd, reduceIte, Nat.reduceEqDiff, Nat.reduceBEq, reduceCtorEq]; (try go_unwrap; try simp only [RR, reduceCtorEq]))) | refine And.intro ?_ ?_ | exact Or.inr ⟨rfl, Nat.le_refl _⟩ | exact (fun h => Bool.noConfusion h))
    all_goals rfl
end Go.Proofs.YthekpjhffciakaaDoor

namespace Go.Proofs.YthekpjhffciakaaDoor
open Go PG Go.Proofs
set_option linter.unusedSimpArgs false
set_option linter.unusedVariables false
set_option maxRecDepth 100000
/-! What a text is parsed to, by its tokens -/
theorem Ex.deep_pos : ∀ e : Ex, 1 ≤ e.deep
  | .num _ => by simp [Ex.deep]
  | .var _ => by simp [Ex.deep]
  | .two _ a b => by have := a.deep_pos; have := b.deep_pos; simp only [Ex.deep]; omega
  | .thr a b d => by have := a.deep_pos; have := b.deep_pos; have := d.deep_pos; simp only [Ex.deep]; omega
/-- The depths of a formula's nodes. -/
def Ex.deps : Ex → List Int
  | .num _ => [1]
  | .var _ => [1]
  | .two o a b => a.deps ++ (b.deps ++ [(Ex.two o a b).deep])
  | .thr a b d => a.deps ++ (b.deps ++ (d.deps ++ [(Ex.thr a b d).deep]))
theorem Ex.deps_len : ∀ e : Ex, e.deps.length = e.size
  | .num _ => rfl
  | .var _ => rfl
  | .two _ a b => by simp only [Ex.deps, Ex.size, List.length_append, List.length_cons, List.length_nil, a.deps_len, b.deps_len]; omega
  | .thr a b d => by simp only [Ex.deps, Ex.size, List.length_append, List.length_cons, List.length_nil, a.deps_len, b.deps_len, d.deps_len]; omega
theorem Ex.deps_last : ∀ e : Ex, ∃ p, e.deps = p ++ [e.deep] ∧ p.length + 1 = e.size
  | .num _ => ⟨[], rfl, rfl⟩
  | .var _ => ⟨[], rfl, rfl⟩
  | .two o a b => ⟨a.deps ++ b.deps, by simp [Ex.deps], by simp [Ex.size, a.deps_len, b.deps_len]⟩
  | .thr a b d => ⟨a.deps ++ (b.deps ++ d.deps), by simp [Ex.deps], by simp [Ex.size, a.deps_len, b.deps_len, d.deps_len]; omega⟩
theorem getD_root {acc r : List Int} {e : Ex} {c : Nat} (h : acc.length = c) : (acc ++ (e.deps ++ r)).getD (e.root c).toNat 0 = e.deep := by
  obtain ⟨p, h1, h2⟩ := e.deps_last
  have : (e.root c).toNat = acc.length + p.length := by unfold Ex.root; omega
  rw [this, h1]
  simp [List.getD, List.getElem?_append_right]
theorem deps_nds : ∀ (e : Ex) (c : Nat) (r : List Nd) (acc : List Int), acc.length = c → depthsM (e.nds c ++ r) acc = depthsM r (acc ++ e.deps)
  | .num _, c, r, acc, h => by simp [Ex.nds, depthsM, kidsMax, Ex.deps]
  | .var _, c, r, acc, h => by simp [Ex.nds, depthsM, kidsMax, Ex.deps]
  | .two o a b, c, r, acc, h => by
    simp only [Ex.nds, List.append_assoc]
    rw [deps_nds a c _ acc h, deps_nds b _ _ _ (by simp [a.deps_len, h])]
    simp only [List.cons_append, List.nil_append, depthsM, kidsMax]
    have e1 := getD_root (r := b.deps) (e := a) h
    have e2 := getD_root (acc := acc ++ a.deps) (r := []) (e := b) (c := c + a.size) (by simp [a.deps_len, h])
    rw [List.append_nil] at e2
    have := a.deep_pos
    have e3 : max (max 0 a.deep) b.deep = max a.deep b.deep := by omega
    simp only [List.append_assoc] at e1 e2 ⊢
    rw [e1, e2, e3]
    simp only [Ex.deps, Ex.deep, List.append_assoc]
  | .thr a b d, c, r, acc, h => by
    simp only [Ex.nds, List.append_assoc]
    rw [deps_nds a c _ acc h, deps_nds b _ _ _ (by simp [a.deps_len, h]), deps_nds d _ _ _ (by simp [a.deps_len, b.deps_len, h]; omega)]
    simp only [List.cons_append, List.nil_append, depthsM, kidsMax]
    have e1 := getD_root (r := b.deps ++ d.deps) (e := a) h
    have e2 := getD_root (acc := acc ++ a.deps) (r := d.deps) (e := b) (c := c + a.size) (by simp [a.deps_len, h])
    have e3 := getD_root (acc := acc ++ (a.deps ++ b.deps)) (r := []) (e := d) (c := c + a.size + b.size) (by simp [a.deps_len, b.deps_len, h]; omega)
    rw [List.append_nil] at e3
    have := a.deep_pos
    have e4 : max (max (max 0 a.deep) b.deep) d.deep = max (max a.deep b.deep) d.deep := by omega
    simp only [List.append_assoc] at e1 e2 e3 ⊢
    rw [e1, e2, e3, e4]
    simp only [Ex.deps, Ex.deep, List.append_assoc]
theorem depth_nds (e : Ex) : depthM (e.nds 0) = e.deep := by
  obtain ⟨p, h1, h2⟩ := e.deps_last
  have := deps_nds e 0 [] [] rfl
  rw [List.append_nil] at this
  unfold depthM
  rw [this, Ex.nds_len, depthsM, List.nil_append, h1]
  have : e.size - 1 = p.length := by omega
  rw [this]
  simp [List.getD]
/-- What a formula comes to: its nodes, or that it is too much. -/
def resX (e : Ex) : Except (Nat × Int) (List Nd) := if 256 < e.size then .error (0, 5) else if 16 < e.deep then .error (0, 14) else .ok (e.nds 0)
theorem mt_self : ∀ (l : List Tok) (p : List Tok) (r : List Tok), Mt (p ++ (l ++ r)) p.length (kt l)
  | [], p, r => trivial
  | t :: l, p, r => by
    have h := mt_self l (p ++ [t]) r
    simp only [List.append_assoc, List.cons_append, List.nil_append, List.length_append, List.length_cons, List.length_nil] at h
    refine ⟨by simp [tkAt, List.getD], by simp [tkAt, List.getD], ?_⟩
    simpa [kt] using h
theorem mt_eq : ∀ (w : List KT) (l p r : List Tok), Mt (p ++ (l ++ r)) p.length w → w.length = l.length → w = kt l
  | [], [], _, _, _, _ => rfl
  | t :: w, u :: l, p, r, h, hl => by
    obtain ⟨h1, h2, h3⟩ := h
    have := mt_eq w l (p ++ [u]) r (by simpa using h3) (by simpa using hl)
    simp [tkAt, List.getD] at h1 h2
    simp only [kt, List.map_cons, List.cons.injEq]
    exact ⟨by rw [h1, h2], this⟩
theorem tk_end0 (l' : List Tok) (n : Nat) : tkAt (l' ++ [(0, [], n)]) l'.length = (0, [], n) := by simp [tkAt, List.getD]
theorem parse_complete {nm : List UInt8 → Int} {jk : Bool} {l' : List Tok} {n : Nat} {e : Ex} (h : D nm 2 (kt l') e) : parseR nm (l' ++ [(0, [], n)]) jk = resX e := by
  have hl : (kt l').length = l'.length := by simp [kt]
  have hN : ∀ x, Nx (l' ++ [(0, [], n)]) (0 + (kt l').length) x := fun x => by
    rw [hl, Nat.zero_add]
    intro h
    rw [tk_end0] at h
    exact absurd (show (0 : Nat) = 3 from h.1) (by decide)
  have hm := mt_self l' [] [(0, [], n)]
  have hs := sum_full (jk := jk) (complete (l := l' ++ [(0, [], n)]) h) (k := (l' ++ [(0, [], n)]).length) (by simp [kt]) ⟨0, 0, []⟩ (by simpa using hm) rfl (by simp [kt]) (fun x _ => hN x)
  unfold parseR
  simp only
  rw [hs]
  simp only [af, List.nil_append, List.length_nil, Nat.zero_add, hl, tk_end0, ne_eq, not_true, if_false, Ex.nds_len, depth_nds]
  rfl
theorem parse_sound {nm : List UInt8 → Int} {jk : Bool} {l' : List Tok} {n : Nat} {nd : List Nd} (hk : ∀ t ∈ l', t.1 ≠ 0) (h : parseR nm (l' ++ [(0, [], n)]) jk = .ok nd) : ∃ e, D nm 2 (kt l') e ∧ resX e = .ok nd := by
  have h' := h
  unfold parseR at h
  simp only at h
  split at h
  · cases h
  · rename_i he
    split at h
    · cases h
    · rename_i hz
      have he' : (sumP nm (l' ++ [(0, [], n)]) jk (l' ++ [(0, [], n)]).length ⟨0, 0, []⟩).2.e = 0 := by simpa using he
      obtain ⟨w, e, m1, d1, hr⟩ := sound (nm := nm) (l := l' ++ [(0, [], n)]) (jk := jk) _ ⟨0, 0, []⟩ rfl he'
      have hg := sumP_good (nm := nm) (l := l' ++ [(0, [], n)]) (jk := jk) (l' ++ [(0, [], n)]).length ⟨0, 0, []⟩ ⟨by simp, by simp, rfl, tk_end l' n⟩ (by simp)
      have hlt := hg.lt
      rw [hr] at hz hlt
      simp only [af, Nat.zero_add, List.length_append, List.length_cons, List.length_nil] at hz hlt
      have hw : w.length = l'.length := by
        rcases Nat.lt_or_ge w.length l'.length with hc | hc
        · exfalso
          have : tkAt (l' ++ [(0, [], n)]) w.length = l'[w.length] := by simp [tkAt, List.getD, List.getElem?_append_left hc, hc]
          rw [this] at hz
          exact hk _ (List.getElem_mem hc) (by simpa using hz)
        · omega
      have hwk := mt_eq w l' [] [(0, [], n)] (by simpa using m1) hw
      subst hwk
      exact ⟨e, d1, by rw [← parse_complete d1, h']⟩
theorem resX_ok {e : Ex} {nd : List Nd} (h : resX e = .ok nd) : nd = e.nds 0 ∧ e.size ≤ 256 ∧ e.deep ≤ 16 := by
  unfold resX at h
  split at h
  · cases h
  · split at h
    · cases h
    · cases h; exact ⟨rfl, by omega, by omega⟩
/-- A text's parsing, by the kinds and texts of its tokens. -/
theorem parseS_of {s : List UInt8} {w : List KT} {e : Ex} (hs : s.length ≤ 4096) (hw : lx s = some w) (h : D nmP 2 w e) : parseS s = resX e := by
  obtain ⟨l, h1, h2⟩ := all_lx hs hw
  unfold parseS
  rw [h2]
  simp only
  subst h1
  exact parse_complete h
theorem of_parseS {s : List UInt8} {nd : List Nd} (h : parseS s = .ok nd) : ∃ w e l, s.length ≤ 4096 ∧ lx s = some w ∧ D nmP 2 w e ∧ resX e = .ok nd ∧ kt l = w ∧ (∀ t ∈ l, t.1 ≠ 0 ∧ t.2.1 ≠ [] ∧ tokE 0 t.2.1 = .ok (t.1, t.2.1.length)) := by
  unfold parseS at h
  cases hA : allE s with
  | error p => rw [hA] at h; obtain ⟨o, e⟩ := p; cases h
  | ok l =>
    rw [hA] at h
    simp only at h
    obtain ⟨w, l', h1, h2, h3⟩ := lx_all hA
    obtain ⟨l2, h4, h5, h6, h7⟩ := toks_of hA
    have hll : l' = l2 := by
      rw [h3] at h4
      exact (List.append_inj' h4 rfl).1
    subst hll
    subst h3
    obtain ⟨e, h8, h9⟩ := parse_sound (fun t ht => (h7 t ht).1) h
    exact ⟨w, e, l', h6, h1, h2 ▸ h8, h9, h2, fun t ht => ⟨(h7 t ht).1, (h7 t ht).2.1, (h7 t ht).2.2.1⟩⟩
end Go.Proofs.YthekpjhffciakaaDoor

