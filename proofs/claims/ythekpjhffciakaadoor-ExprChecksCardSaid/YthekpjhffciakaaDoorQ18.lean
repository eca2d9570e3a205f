import Derived.Test.YthekpjhffciakaaDoorQ16
import Derived.Test.YthekpjhffciakaaDoorQ15
import Derived.Test.YthekpjhffciakaaDoorQ17
import Derived.Test.YthekpjhffciakaaDoorQ13
import Derived.Test.YthekpjhffciakaaDoorQ12
import Derived.Test.YthekpjhffciakaaDoorQ11
namespace Go.Proofs.YthekpjhffciakaaDoor
open Go PG Go.Proofs
set_option linter.unusedSimpArgs false
set_option linter.unusedVariables false
set_option maxHeartbeats 4000000
set_option maxRecDepth 100000
/-! Parse -/
theorem prog_sum (l : List Tok) (hl : l.length ≤ 100000) (htx : ∀ i, (tkAt l i).2.1.length ≤ 100000) : ∀ (k : Nat) (s : PS), Inv l s → l.length - s.at_ ≤ k → ∀ ν : Mem, ν.map (Option.map (MObj.kill (killTag 1))) = ν → RdC l 40 [.ref 0 0] ν s (sumP nmP l true k s)
  | 0, s, hI, hm => absurd hI.lt (by omega)
  | k + 1, s, hI, hm => fun ν hν => by
    have ih := prog_sum l hl htx k
    have hgood := sumP_good (nm := nmP) (l := l) (jk := true) k
    refine (v40 l hl (factorP nmP l true (sumP nmP l true k)) (k + 1) (fun s hI hm => ?_) (factor_good hgood) s hI hm).frame ν hν (by simp [PV.kill])
    exact (v73 l hl htx _ k ih hgood (fun s h1 h2 h3 => v100 l hl _ k ih hgood s h1 h2 h3) s hI hm).frame varR (by simp [varR, MObj.kill, PV.kill, killTag]) (by simp [PV.kill])
def parseS (s : List UInt8) : Except (Nat × Int) (List Nd) :=
  match allE s with
  | .error (o, e) => .error (o, e)
  | .ok l => parseR nmP l true
def parsePV : Except (Nat × Int) (List Nd) → PV
  | .error (a, e) => .tup [treeP [], .int .i64 a, .int .i64 e]
  | .ok nd => .tup [treeP nd, .int .i64 0, .int .i64 0]
theorem e18 : Ent Tryd.prog 18 := ⟨Tryd.f18, Tryd.func18, by kernel_rfl, by kernel_rfl⟩
theorem v18 (s : List UInt8) (hs : s.length ≤ 9223372036854775800) : VCalls Tryd.prog G0 18 [.str s] (parsePV (parseS s)) := by
  have h19 := v19 (G := G0) s hs
  unfold parseS
  cases hA : allE s with
  | error p =>
    obtain ⟨o, e⟩ := p
    have he := (all_errs hA).2
    rw [hA] at h19
    simp only [allP] at h19
    have d1 : decide ((e : Int) = 0) = false := by simp only [decide_eq_false_iff_not]; omega
    refine VCalls.of_PW Tryd.func18 k18 mix (by simp [c18]) ?_
    simp only [c18, L18, CC, argE]
    repeat' (first | exact True.intro | (exact Or.inr ⟨rfl, by decide⟩) | (refine PW.stop (x := .ret) ?_) | (refine PW.seqK ?_; intro K hK) | refine pwB ?_ | refine pwS ?_ | refine pwL ?_ | refine pwE ?_ | refine pwR ?_ | refine pwK ?_ | refine seqK_n ‹_› ?_ | refine seqK_r ‹_› ?_ | refine seqK_e ‹_› ?_ | refine PW.regionA ?_ | exact schedW_stop_i | refine schK_n ‹_› ?_ | (refine schedW_alt_k ?_ ?_; focus (intro K hK; simp only [d1, SA, Nat.reduceAdd, reduceIte, Nat.reduceEqDiff, Nat.reduceBEq, reduceCtorEq]; (try go_unwrap; try simp only [d1, RR, reduceCtorEq]))) | (refine PW.cond rfl ?_ ?_ <;> intro hcond <;> (try contradiction) <;> try simp only [DD] at hcond) | (refine gd_i ?_; intro hg; try simp only [hg]) | refine goCall_W e19 (h19) ?_ ?_ ?_ ?_ | ((first | show (_ : Nat) ≤ _ | show (_ : Nat) < _ | show (_ : Int) ≤ _ | show (_ : Int) < _ | show (_ : Nat) = _ | show (_ : Int) = _ | show (_ : Bool) = _ | show _ ∨ _ | show ¬ _); first | omega | (simp only [DD, LL] <;> omega) | (go_unwrap; omega)) | ((first | refine PW.region ?_ | refine PW.regionQ ?_ | refine schedW_done_i ?_ | show (_ : Post) _ _ _ | show @Eq (List PV) _ _ | show @Eq Bool _ _ | show opsW _ _ _ _ _ _ _ _ | show okAll _ | show @Eq Bool _ _ ∨ _); focus (simp only [d1, SA, Nat.reduceAdd, reduceIte, Nat.reduceEqDiff, Nat.reduceBEq, reduceCtorEq]; (try go_unwrap; try simp only [d1, RR, reduceCtorEq]))) | refine And.intro ?_ ?_ | exact Or.inr ⟨rfl, Nat.le_refl _⟩ | exact (fun h => Bool.noConfusion h))
    refine ⟨?_⟩
    refine PW.subM 0 1 _ [.list (some 4) []] (.nilto (some 4) .nil) rfl ?_
    simp only [List.set_cons_zero]
    repeat' (first | exact True.intro | (refine PW.seqK ?_; intro K hK) | refine pwB ?_ | refine pwS ?_ | refine pwL ?_ | refine pwE ?_ | refine pwR ?_ | refine pwK ?_ | refine seqK_n ‹_› ?_ | refine seqK_r ‹_› ?_ | refine seqK_e ‹_› ?_ | refine PW.regionA ?_ | exact schedW_stop_i | refine schK_n ‹_› ?_ | (refine schedW_alt_k ?_ ?_; focus (intro K hK; simp only [SA, Nat.reduceAdd, reduceIte, Nat.reduceEqDiff, Nat.reduceBEq, reduceCtorEq]; (try go_unwrap; try simp only [RR, reduceCtorEq]))) | (refine PW.cond rfl ?_ ?_ <;> intro hcond <;> (try contradiction) <;> try simp only [DD] at hcond) | (refine gd_i ?_; intro hg; try simp only [hg]) | ((first | show (_ : Nat) ≤ _ | show (_ : Nat) < _ | show (_ : Int) ≤ _ | show (_ : Int) < _ | show (_ : Nat) = _ | show (_ : Int) = _ | show (_ : Bool) = _ | show _ ∨ _ | show ¬ _); first | omega | (simp only [DD, LL] <;> omega) | (go_unwrap; omega)) | ((first | refine PW.region ?_ | refine PW.regionQ ?_ | refine schedW_done_i ?_ | show (_ : Post) _ _ _ | show @Eq (List PV) _ _ | show @Eq Bool _ _ | show opsW _ _ _ _ _ _ _ _ | show okAll _ | show @Eq Bool _ _ ∨ _); focus (simp only [SA, Nat.reduceAdd, reduceIte, Nat.reduceEqDiff, Nat.reduceBEq, reduceCtorEq]; (try go_unwrap; try simp only [RR, reduceCtorEq]))) | refine And.intro ?_ ?_ | exact Or.inr ⟨rfl, Nat.le_refl _⟩ | exact (fun h => Bool.noConfusion h))
    all_goals rfl
  | ok l =>
    rw [hA] at h19
    simp only [allP] at h19
    obtain ⟨l', hl', hll, hsl, -⟩ := toks_of hA
    have hI := inv_start hA
    have htx := tx_le hA
    have hlen := tks_len l
    have hsm := prog_sum l (by omega) htx l.length ⟨0, 0, []⟩ hI (by simp) [some (.var (some 1) (.agg [.nilSl]))] (by simp [MObj.kill, PV.kill])
    have hgd := sumP_good (nm := nmP) (l := l) (jk := true) l.length ⟨0, 0, []⟩ hI (by simp)
    have hwf := sumP_wf (nm := nmP) (l := l) (jk := true) l.length ⟨0, 0, []⟩ rfl trivial
    refine VCalls.of_PW Tryd.func18 k18 mix (by simp [c18]) ?_
    simp only [c18, L18, CC, argE]
    have d1 : decide ((0 : Int) = 0) = true := rfl
    repeat' (first | exact True.intro | (refine PW.stop (x := .seq (.region false (⟨some 24, none, .rd .mov [.tmp 8]⟩ :: _) _) _) ?_) | (refine PW.seqK ?_; intro K hK) | refine pwB ?_ | refine pwS ?_ | refine pwL ?_ | refine pwE ?_ | refine pwR ?_ | refine pwK ?_ | refine seqK_n ‹_› ?_ | refine seqK_r ‹_› ?_ | refine seqK_e ‹_› ?_ | refine PW.regionA ?_ | exact schedW_stop_i | refine schK_n ‹_› ?_ | (refine schedW_alt_k ?_ ?_; focus (intro K hK; simp only [d1, SA, Nat.reduceAdd, reduceIte, Nat.reduceEqDiff, Nat.reduceBEq, reduceCtorEq]; (try go_unwrap; try simp only [d1, RR, reduceCtorEq]))) | (refine PW.cond rfl ?_ ?_ <;> intro hcond <;> (try contradiction) <;> try simp only [DD] at hcond) | (refine gd_i ?_; intro hg; try simp only [hg]) | refine goCall_W e19 (h19) ?_ ?_ ?_ ?_ | ((first | show (_ : Nat) ≤ _ | show (_ : Nat) < _ | show (_ : Int) ≤ _ | show (_ : Int) < _ | show (_ : Nat) = _ | show (_ : Int) = _ | show (_ : Bool) = _ | show _ ∨ _ | show ¬ _); first | omega | (simp only [DD, LL] <;> omega) | (go_unwrap; omega)) | ((first | refine PW.region ?_ | refine PW.regionQ ?_ | refine schedW_done_i ?_ | show (_ : Post) _ _ _ | show @Eq (List PV) _ _ | show @Eq Bool _ _ | show opsW _ _ _ _ _ _ _ _ | show okAll _ | show @Eq Bool _ _ ∨ _); focus (simp only [d1, SA, Nat.reduceAdd, reduceIte, Nat.reduceEqDiff, Nat.reduceBEq, reduceCtorEq]; (try go_unwrap; try simp only [d1, RR, reduceCtorEq]))) | refine And.intro ?_ ?_ | exact Or.inr ⟨rfl, Nat.le_refl _⟩ | exact (fun h => Bool.noConfusion h))
    refine ⟨?_⟩
    refine PW.ownF 1 1 (some 4) 4 _ rfl rfl ?_
    simp only [List.cons_append, List.nil_append, List.set_cons_zero, List.set_cons_succ, List.length_cons, List.length_nil]
    refine PW.sw 0 1 (by simp) (by simp) rfl rfl ?_
    simp only [swE, swM, swL, List.map_cons, List.map_nil, Option.map_some, Option.map_none, MObj.ren, PV.ren, swp, List.set_cons_zero, List.set_cons_succ, List.getD_cons_zero, List.getD_cons_succ, Nat.reduceEqDiff, if_true, if_false, reduceIte]
    refine PW.sw 1 2 (by simp) (by simp) rfl rfl ?_
    simp only [swE, swM, swL, List.map_cons, List.map_nil, Option.map_some, Option.map_none, MObj.ren, PV.ren, swp, List.set_cons_zero, List.set_cons_succ, List.getD_cons_zero, List.getD_cons_succ, Nat.reduceEqDiff, if_true, if_false, reduceIte]
    unfold parseR
    generalize hsr : sumP nmP l true l.length ⟨0, 0, []⟩ = r at hsm hgd hwf
    obtain ⟨v, r⟩ := r
    have hrl := hgd.lt
    have hro := hgd.out
    simp only at hrl hro ⊢
    have hg := tk_get l r.at_ hrl
    have hok : (r.out.map ndP).take r.out.length = r.out.map ndP := List.take_of_length_le (by simp)
    have hol := nd_len r.out
    simp only [RdC, rdP, rowO, List.map_nil, List.length_nil] at hsm
    have d6 : decide (r.e = 0) = decide (r.e = 0) := rfl
    by_cases hre : r.e = 0
    case neg =>
      have d6 : decide (r.e = 0) = false := by simp only [decide_eq_false_iff_not]; exact hre
      rw [if_pos hre]
      repeat' (first | exact True.intro | (refine PW.stop (x := .seq (.region false (⟨some 47, none, .rd .mov [.tmp 8]⟩ :: _) _) _) ?_) | (refine PW.seqK ?_; intro K hK) | refine pwB ?_ | refine pwS ?_ | refine pwL ?_ | refine pwE ?_ | refine pwR ?_ | refine pwK ?_ | refine seqK_n ‹_› ?_ | refine seqK_r ‹_› ?_ | refine seqK_e ‹_› ?_ | refine PW.regionA ?_ | exact schedW_stop_i | refine schK_n ‹_› ?_ | (refine schedW_alt_k ?_ ?_; focus (intro K hK; simp only [PV.bin, PV.binOk, binI, decide_eq_false hre, hlen, hg, Bool.false_and, Bool.and_false, Bool.true_and, Bool.and_true, Bool.not_true, Bool.not_false, SA, Nat.reduceAdd, reduceIte, Nat.reduceEqDiff, Nat.reduceBEq, reduceCtorEq]; (try go_unwrap; try simp only [PV.bin, PV.binOk, binI, decide_eq_false hre, hlen, hg, Bool.false_and, Bool.and_false, Bool.true_and, Bool.and_true, Bool.not_true, Bool.not_false, RR, reduceCtorEq]))) | (refine PW.cond rfl ?_ ?_ <;> intro hcond <;> (try contradiction) <;> try simp only [DD] at hcond) | (refine goCall_K 1 e40 hsm rfl ?_; rintro p μ' ⟨rfl, rfl⟩; simp only [PV.bin, PV.binOk, binI, decide_eq_false hre, hlen, hg, Bool.false_and, Bool.and_false, Bool.true_and, Bool.and_true, Bool.not_true, Bool.not_false, SA, Nat.reduceAdd, reduceIte, Nat.reduceEqDiff, Nat.reduceBEq, reduceCtorEq]) | (refine gd_i ?_; intro hg; try simp only [hg]) | ((first | show (_ : Nat) ≤ _ | show (_ : Nat) < _ | show (_ : Int) ≤ _ | show (_ : Int) < _ | show (_ : Nat) = _ | show (_ : Int) = _ | show (_ : Bool) = _ | show _ ∨ _ | show ¬ _); first | omega | (simp only [DD, LL] <;> omega) | (go_unwrap; omega)) | ((first | refine PW.region ?_ | refine PW.regionQ ?_ | refine schedW_done_i ?_ | show (_ : Post) _ _ _ | show @Eq (List PV) _ _ | show @Eq Bool _ _ | show opsW _ _ _ _ _ _ _ _ | show okAll _ | show @Eq Bool _ _ ∨ _); focus (simp only [PV.bin, PV.binOk, binI, decide_eq_false hre, hlen, hg, Bool.false_and, Bool.and_false, Bool.true_and, Bool.and_true, Bool.not_true, Bool.not_false, SA, Nat.reduceAdd, reduceIte, Nat.reduceEqDiff, Nat.reduceBEq, reduceCtorEq]; (try go_unwrap; try simp only [PV.bin, PV.binOk, binI, decide_eq_false hre, hlen, hg, Bool.false_and, Bool.and_false, Bool.true_and, Bool.and_true, Bool.not_true, Bool.not_false, RR, reduceCtorEq]))) | refine And.intro ?_ ?_ | exact Or.inr ⟨rfl, Nat.le_refl _⟩ | exact (fun h => Bool.noConfusion h))
      refine ⟨?_⟩
      refine PW.frz 1 (.row (some 4) (r.out.map ndP)) ?_ ?_ ?_
      · rfl
      · rfl
      simp only [SA, Nat.reduceAdd, reduceIte, Nat.reduceEqDiff, Nat.reduceBEq, reduceCtorEq, PV.frz, MObj.frz, frzM, frzSl, hol, hok, Nat.le_refl, and_self, if_true]
      repeat' (first | exact True.intro | (refine PW.seqA (E := ?_) (M := ?_) ?_ ?_; rotate_left 2) | exact mergeQ_mk _ _ | (exact Or.inr ⟨rfl, by decide⟩) | (refine PW.stop (x := .ret) ?_) | (refine PW.seqK ?_; intro K hK) | refine pwB ?_ | refine pwS ?_ | refine pwL ?_ | refine pwE ?_ | refine pwR ?_ | refine pwK ?_ | refine seqK_n ‹_› ?_ | refine seqK_r ‹_› ?_ | refine seqK_e ‹_› ?_ | refine PW.regionA ?_ | exact schedW_stop_i | refine schK_n ‹_› ?_ | (refine schedW_alt_k ?_ ?_; focus (intro K hK; simp only [PV.bin, PV.binOk, binI, decide_eq_false hre, hlen, hg, hol, SA, Nat.reduceAdd, reduceIte, Nat.reduceEqDiff, Nat.reduceBEq, reduceCtorEq]; (try go_unwrap; try simp only [PV.bin, PV.binOk, binI, decide_eq_false hre, hlen, hg, hol, RR, reduceCtorEq]))) | (refine PW.cond rfl ?_ ?_ <;> intro hcond <;> (try contradiction) <;> try simp only [DD] at hcond) | (refine gd_i ?_; intro hg; try simp only [hg]) | ((first | show (_ : Nat) ≤ _ | show (_ : Nat) < _ | show (_ : Int) ≤ _ | show (_ : Int) < _ | show (_ : Nat) = _ | show (_ : Int) = _ | show (_ : Bool) = _ | show _ ∨ _ | show ¬ _); first | omega | (simp only [DD, LL] <;> omega) | (go_unwrap; omega)) | ((first | refine PW.region ?_ | refine PW.regionQ ?_ | refine schedW_done_i ?_ | show (_ : Post) _ _ _ | show @Eq (List PV) _ _ | show @Eq Bool _ _ | show opsW _ _ _ _ _ _ _ _ | show okAll _ | show @Eq Bool _ _ ∨ _); focus (simp only [PV.bin, PV.binOk, binI, decide_eq_false hre, hlen, hg, hol, SA, Nat.reduceAdd, reduceIte, Nat.reduceEqDiff, Nat.reduceBEq, reduceCtorEq]; (try go_unwrap; try simp only [PV.bin, PV.binOk, binI, decide_eq_false hre, hlen, hg, hol, RR, reduceCtorEq]))) | refine And.intro ?_ ?_ | exact Or.inr ⟨rfl, Nat.le_refl _⟩ | exact (fun h => Bool.noConfusion h))
      refine ⟨?_⟩
      refine PW.subM 2 1 _ [.list (some 4) []] (.nilto (some 4) .nil) rfl ?_
      simp only [List.set_cons_zero, List.set_cons_succ]
      repeat' (first | exact True.intro | (refine PW.seqK ?_; intro K hK) | refine pwB ?_ | refine pwS ?_ | refine pwL ?_ | refine pwE ?_ | refine pwR ?_ | refine pwK ?_ | refine seqK_n ‹_› ?_ | refine seqK_r ‹_› ?_ | refine seqK_e ‹_› ?_ | refine PW.regionA ?_ | exact schedW_stop_i | refine schK_n ‹_› ?_ | (refine schedW_alt_k ?_ ?_; focus (intro K hK; simp only [SA, Nat.reduceAdd, reduceIte, Nat.reduceEqDiff, Nat.reduceBEq, reduceCtorEq]; (try go_unwrap; try simp only [RR, reduceCtorEq]))) | (refine PW.cond rfl ?_ ?_ <;> intro hcond <;> (try contradiction) <;> try simp only [DD] at hcond) | (refine gd_i ?_; intro hg; try simp only [hg]) | ((first | show (_ : Nat) ≤ _ | show (_ : Nat) < _ | show (_ : Int) ≤ _ | show (_ : Int) < _ | show (_ : Nat) = _ | show (_ : Int) = _ | show (_ : Bool) = _ | show _ ∨ _ | show ¬ _); first | omega | (simp only [DD, LL] <;> omega) | (go_unwrap; omega)) | ((first | refine PW.region ?_ | refine PW.regionQ ?_ | refine schedW_done_i ?_ | show (_ : Post) _ _ _ | show @Eq (List PV) _ _ | show @Eq Bool _ _ | show opsW _ _ _ _ _ _ _ _ | show okAll _ | show @Eq Bool _ _ ∨ _); focus (simp only [SA, Nat.reduceAdd, reduceIte, Nat.reduceEqDiff, Nat.reduceBEq, reduceCtorEq]; (try go_unwrap; try simp only [RR, reduceCtorEq]))) | refine And.intro ?_ ?_ | exact Or.inr ⟨rfl, Nat.le_refl _⟩ | exact (fun h => Bool.noConfusion h))
      all_goals rfl
    have d6 : decide (r.e = 0) = true := decide_eq_true hre
    rw [if_neg (by simp [hre])]
    by_cases hk : (tkAt l r.at_).1 = 0
    case neg =>
      have d7 : decide (((tkAt l r.at_).1 : Int) = 0) = false := by simp only [decide_eq_false_iff_not]; omega
      have hf := (v41 l r 3).frame [some (.var (some 1) (.agg [.nilSl]))] (by simp [MObj.kill, PV.kill]) (by simp [PV.kill])
      have hF : failP r 3 = (0, ⟨r.at_, 3, r.out⟩) := by simp [failP, hre]
      rw [hF] at hf
      simp only [RdC, rdP, rowO] at hf
      rw [if_pos hk]
      repeat' (first | exact True.intro | (refine PW.stop (x := .seq (.region false (⟨some 47, none, .rd .mov [.tmp 8]⟩ :: _) _) _) ?_) | (refine PW.seqK ?_; intro K hK) | refine pwB ?_ | refine pwS ?_ | refine pwL ?_ | refine pwE ?_ | refine pwR ?_ | refine pwK ?_ | refine seqK_n ‹_› ?_ | refine seqK_r ‹_› ?_ | refine seqK_e ‹_› ?_ | refine PW.regionA ?_ | exact schedW_stop_i | refine schK_n ‹_› ?_ | (refine schedW_alt_k ?_ ?_; focus (intro K hK; simp only [PV.bin, PV.binOk, binI, decide_eq_true hre, d7, hlen, hg, Bool.false_and, Bool.and_false, Bool.true_and, Bool.and_true, Bool.not_true, Bool.not_false, SA, Nat.reduceAdd, reduceIte, Nat.reduceEqDiff, Nat.reduceBEq, reduceCtorEq]; (try go_unwrap; try simp only [PV.bin, PV.binOk, binI, decide_eq_true hre, d7, hlen, hg, Bool.false_and, Bool.and_false, Bool.true_and, Bool.and_true, Bool.not_true, Bool.not_false, RR, reduceCtorEq]))) | (refine PW.cond rfl ?_ ?_ <;> intro hcond <;> (try contradiction) <;> try simp only [DD] at hcond) | (refine goCall_K 1 e40 hsm rfl ?_; rintro p μ' ⟨rfl, rfl⟩; simp only [PV.bin, PV.binOk, binI, decide_eq_true hre, d7, hlen, hg, Bool.false_and, Bool.and_false, Bool.true_and, Bool.and_true, Bool.not_true, Bool.not_false, SA, Nat.reduceAdd, reduceIte, Nat.reduceEqDiff, Nat.reduceBEq, reduceCtorEq]) | (refine goCall_K 1 e41 hf rfl ?_; rintro p μ' ⟨rfl, rfl⟩; simp only [PV.bin, PV.binOk, binI, decide_eq_true hre, d7, hlen, hg, Bool.false_and, Bool.and_false, Bool.true_and, Bool.and_true, Bool.not_true, Bool.not_false, SA, Nat.reduceAdd, reduceIte, Nat.reduceEqDiff, Nat.reduceBEq, reduceCtorEq]) | (refine gd_i ?_; intro hg; try simp only [hg]) | ((first | show (_ : Nat) ≤ _ | show (_ : Nat) < _ | show (_ : Int) ≤ _ | show (_ : Int) < _ | show (_ : Nat) = _ | show (_ : Int) = _ | show (_ : Bool) = _ | show _ ∨ _ | show ¬ _); first | omega | (simp only [DD, LL] <;> omega) | (go_unwrap; omega)) | ((first | refine PW.region ?_ | refine PW.regionQ ?_ | refine schedW_done_i ?_ | show (_ : Post) _ _ _ | show @Eq (List PV) _ _ | show @Eq Bool _ _ | show opsW _ _ _ _ _ _ _ _ | show okAll _ | show @Eq Bool _ _ ∨ _); focus (simp only [PV.bin, PV.binOk, binI, decide_eq_true hre, d7, hlen, hg, Bool.false_and, Bool.and_false, Bool.true_and, Bool.and_true, Bool.not_true, Bool.not_false, SA, Nat.reduceAdd, reduceIte, Nat.reduceEqDiff, Nat.reduceBEq, reduceCtorEq]; (try go_unwrap; try simp only [PV.bin, PV.binOk, binI, decide_eq_true hre, d7, hlen, hg, Bool.false_and, Bool.and_false, Bool.true_and, Bool.and_true, Bool.not_true, Bool.not_false, RR, reduceCtorEq]))) | refine And.intro ?_ ?_ | exact Or.inr ⟨rfl, Nat.le_refl _⟩ | exact (fun h => Bool.noConfusion h))
      refine ⟨?_⟩
      refine PW.frz 1 (.row (some 4) (r.out.map ndP)) ?_ ?_ ?_
      · rfl
      · rfl
      simp only [SA, Nat.reduceAdd, reduceIte, Nat.reduceEqDiff, Nat.reduceBEq, reduceCtorEq, PV.frz, MObj.frz, frzM, frzSl, hol, hok, Nat.le_refl, and_self, if_true]
      repeat' (first | exact True.intro | (refine PW.seqA (E := ?_) (M := ?_) ?_ ?_; rotate_left 2) | exact mergeQ_mk _ _ | (exact Or.inr ⟨rfl, by decide⟩) | (refine PW.stop (x := .ret) ?_) | (refine PW.seqK ?_; intro K hK) | refine pwB ?_ | refine pwS ?_ | refine pwL ?_ | refine pwE ?_ | refine pwR ?_ | refine pwK ?_ | refine seqK_n ‹_› ?_ | refine seqK_r ‹_› ?_ | refine seqK_e ‹_› ?_ | refine PW.regionA ?_ | exact schedW_stop_i | refine schK_n ‹_› ?_ | (refine schedW_alt_k ?_ ?_; focus (intro K hK; simp only [PV.bin, PV.binOk, binI, hlen, hg, hol, SA, Nat.reduceAdd, reduceIte, Nat.reduceEqDiff, Nat.reduceBEq, reduceCtorEq]; (try go_unwrap; try simp only [PV.bin, PV.binOk, binI, hlen, hg, hol, RR, reduceCtorEq]))) | (refine PW.cond rfl ?_ ?_ <;> intro hcond <;> (try contradiction) <;> try simp only [DD] at hcond) | (refine gd_i ?_; intro hg; try simp only [hg]) | ((first | show (_ : Nat) ≤ _ | show (_ : Nat) < _ | show (_ : Int) ≤ _ | show (_ : Int) < _ | show (_ : Nat) = _ | show (_ : Int) = _ | show (_ : Bool) = _ | show _ ∨ _ | show ¬ _); first | omega | (simp only [DD, LL] <;> omega) | (go_unwrap; omega)) | ((first | refine PW.region ?_ | refine PW.regionQ ?_ | refine schedW_done_i ?_ | show (_ : Post) _ _ _ | show @Eq (List PV) _ _ | show @Eq Bool _ _ | show opsW _ _ _ _ _ _ _ _ | show okAll _ | show @Eq Bool _ _ ∨ _); focus (simp only [PV.bin, PV.binOk, binI, hlen, hg, hol, SA, Nat.reduceAdd, reduceIte, Nat.reduceEqDiff, Nat.reduceBEq, reduceCtorEq]; (try go_unwrap; try simp only [PV.bin, PV.binOk, binI, hlen, hg, hol, RR, reduceCtorEq]))) | refine And.intro ?_ ?_ | exact Or.inr ⟨rfl, Nat.le_refl _⟩ | exact (fun h => Bool.noConfusion h))
      refine ⟨?_⟩
      refine PW.subM 2 1 _ [.list (some 4) []] (.nilto (some 4) .nil) rfl ?_
      simp only [List.set_cons_zero, List.set_cons_succ]
      repeat' (first | exact True.intro | (refine PW.seqK ?_; intro K hK) | refine pwB ?_ | refine pwS ?_ | refine pwL ?_ | refine pwE ?_ | refine pwR ?_ | refine pwK ?_ | refine seqK_n ‹_› ?_ | refine seqK_r ‹_› ?_ | refine seqK_e ‹_› ?_ | refine PW.regionA ?_ | exact schedW_stop_i | refine schK_n ‹_› ?_ | (refine schedW_alt_k ?_ ?_; focus (intro K hK; simp only [SA, Nat.reduceAdd, reduceIte, Nat.reduceEqDiff, Nat.reduceBEq, reduceCtorEq]; (try go_unwrap; try simp only [RR, reduceCtorEq]))) | (refine PW.cond rfl ?_ ?_ <;> intro hcond <;> (try contradiction) <;> try simp only [DD] at hcond) | (refine gd_i ?_; intro hg; try simp only [hg]) | ((first | show (_ : Nat) ≤ _ | show (_ : Nat) < _ | show (_ : Int) ≤ _ | show (_ : Int) < _ | show (_ : Nat) = _ | show (_ : Int) = _ | show (_ : Bool) = _ | show _ ∨ _ | show ¬ _); first | omega | (simp only [DD, LL] <;> omega) | (go_unwrap; omega)) | ((first | refine PW.region ?_ | refine PW.regionQ ?_ | refine schedW_done_i ?_ | show (_ : Post) _ _ _ | show @Eq (List PV) _ _ | show @Eq Bool _ _ | show opsW _ _ _ _ _ _ _ _ | show okAll _ | show @Eq Bool _ _ ∨ _); focus (simp only [SA, Nat.reduceAdd, reduceIte, Nat.reduceEqDiff, Nat.reduceBEq, reduceCtorEq]; (try go_unwrap; try simp only [RR, reduceCtorEq]))) | refine And.intro ?_ ?_ | exact Or.inr ⟨rfl, Nat.le_refl _⟩ | exact (fun h => Bool.noConfusion h))
      all_goals rfl
    have d7 : decide (((tkAt l r.at_).1 : Int) = 0) = true := by simp only [decide_eq_true_eq]; omega
    rw [if_neg (by simp [hk])]
    obtain ⟨hw1, hw2, hw3, -⟩ := hwf hre
    simp only at hw1 hw2 hw3
    have hK := sumP_K (nm := nmP) (l := l) (jk := true) l.length ⟨0, 0, []⟩ (by intro x hx; simp at hx)
    rw [hsr] at hK
    simp only at hK
    by_cases h256 : 256 < r.out.length
    · have d8 : decide ((256 : Int) < r.out.length) = true := by simp only [decide_eq_true_eq]; omega
      rw [if_pos h256]
      repeat' (first | exact True.intro | (refine PW.stop (x := .seq (.region false (⟨some 47, none, .rd .mov [.tmp 8]⟩ :: _) _) _) ?_) | (refine PW.seqK ?_; intro K hK) | refine pwB ?_ | refine pwS ?_ | refine pwL ?_ | refine pwE ?_ | refine pwR ?_ | refine pwK ?_ | refine seqK_n ‹_› ?_ | refine seqK_r ‹_› ?_ | refine seqK_e ‹_› ?_ | refine PW.regionA ?_ | exact schedW_stop_i | refine schK_n ‹_› ?_ | (refine schedW_alt_k ?_ ?_; focus (intro K hK; simp only [PV.bin, PV.binOk, binI, decide_eq_true hre, d7, hlen, hg, Bool.false_and, Bool.and_false, Bool.true_and, Bool.and_true, Bool.not_true, Bool.not_false, SA, Nat.reduceAdd, reduceIte, Nat.reduceEqDiff, Nat.reduceBEq, reduceCtorEq]; (try go_unwrap; try simp only [PV.bin, PV.binOk, binI, decide_eq_true hre, d7, hlen, hg, Bool.false_and, Bool.and_false, Bool.true_and, Bool.and_true, Bool.not_true, Bool.not_false, RR, reduceCtorEq]))) | (refine PW.cond rfl ?_ ?_ <;> intro hcond <;> (try contradiction) <;> try simp only [DD] at hcond) | (refine goCall_K 1 e40 hsm rfl ?_; rintro p μ' ⟨rfl, rfl⟩; simp only [PV.bin, PV.binOk, binI, decide_eq_true hre, d7, hlen, hg, Bool.false_and, Bool.and_false, Bool.true_and, Bool.and_true, Bool.not_true, Bool.not_false, SA, Nat.reduceAdd, reduceIte, Nat.reduceEqDiff, Nat.reduceBEq, reduceCtorEq]) | (refine gd_i ?_; intro hg; try simp only [hg]) | ((first | show (_ : Nat) ≤ _ | show (_ : Nat) < _ | show (_ : Int) ≤ _ | show (_ : Int) < _ | show (_ : Nat) = _ | show (_ : Int) = _ | show (_ : Bool) = _ | show _ ∨ _ | show ¬ _); first | omega | (simp only [DD, LL] <;> omega) | (go_unwrap; omega)) | ((first | refine PW.region ?_ | refine PW.regionQ ?_ | refine schedW_done_i ?_ | show (_ : Post) _ _ _ | show @Eq (List PV) _ _ | show @Eq Bool _ _ | show opsW _ _ _ _ _ _ _ _ | show okAll _ | show @Eq Bool _ _ ∨ _); focus (simp only [PV.bin, PV.binOk, binI, decide_eq_true hre, d7, hlen, hg, Bool.false_and, Bool.and_false, Bool.true_and, Bool.and_true, Bool.not_true, Bool.not_false, SA, Nat.reduceAdd, reduceIte, Nat.reduceEqDiff, Nat.reduceBEq, reduceCtorEq]; (try go_unwrap; try simp only [PV.bin, PV.binOk, binI, decide_eq_true hre, d7, hlen, hg, Bool.false_and, Bool.and_false, Bool.true_and, Bool.and_true, Bool.not_true, Bool.not_false, RR, reduceCtorEq]))) | refine And.intro ?_ ?_ | exact Or.inr ⟨rfl, Nat.le_refl _⟩ | exact (fun h => Bool.noConfusion h))
      refine ⟨?_⟩
      refine PW.frz 1 (.row (some 4) (r.out.map ndP)) ?_ ?_ ?_
      · rfl
      · rfl
      simp only [SA, Nat.reduceAdd, reduceIte, Nat.reduceEqDiff, Nat.reduceBEq, reduceCtorEq, PV.frz, MObj.frz, frzM, frzSl, hol, hok, Nat.le_refl, and_self, if_true]
      repeat' (first | exact True.intro | (refine PW.seqA (E := ?_) (M := ?_) ?_ ?_; rotate_left 2) | exact mergeQ_mk _ _ | (exact Or.inr ⟨rfl, by decide⟩) | (refine PW.stop (x := .ret) ?_) | (refine PW.seqK ?_; intro K hK) | refine pwB ?_ | refine pwS ?_ | refine pwL ?_ | refine pwE ?_ | refine pwR ?_ | refine pwK ?_ | refine seqK_n ‹_› ?_ | refine seqK_r ‹_› ?_ | refine seqK_e ‹_› ?_ | refine PW.regionA ?_ | exact schedW_stop_i | refine schK_n ‹_› ?_ | (refine schedW_alt_k ?_ ?_; focus (intro K hK; simp only [PV.bin, PV.binOk, binI, decide_eq_true hre, d8, hlen, hg, hol, SA, Nat.reduceAdd, reduceIte, Nat.reduceEqDiff, Nat.reduceBEq, reduceCtorEq]; (try go_unwrap; try simp only [PV.bin, PV.binOk, binI, decide_eq_true hre, d8, hlen, hg, hol, RR, reduceCtorEq]))) | (refine PW.cond rfl ?_ ?_ <;> intro hcond <;> (try contradiction) <;> try simp only [DD] at hcond) | (refine gd_i ?_; intro hg; try simp only [hg]) | ((first | show (_ : Nat) ≤ _ | show (_ : Nat) < _ | show (_ : Int) ≤ _ | show (_ : Int) < _ | show (_ : Nat) = _ | show (_ : Int) = _ | show (_ : Bool) = _ | show _ ∨ _ | show ¬ _); first | omega | (simp only [DD, LL] <;> omega) | (go_unwrap; omega)) | ((first | refine PW.region ?_ | refine PW.regionQ ?_ | refine schedW_done_i ?_ | show (_ : Post) _ _ _ | show @Eq (List PV) _ _ | show @Eq Bool _ _ | show opsW _ _ _ _ _ _ _ _ | show okAll _ | show @Eq Bool _ _ ∨ _); focus (simp only [PV.bin, PV.binOk, binI, decide_eq_true hre, d8, hlen, hg, hol, SA, Nat.reduceAdd, reduceIte, Nat.reduceEqDiff, Nat.reduceBEq, reduceCtorEq]; (try go_unwrap; try simp only [PV.bin, PV.binOk, binI, decide_eq_true hre, d8, hlen, hg, hol, RR, reduceCtorEq]))) | refine And.intro ?_ ?_ | exact Or.inr ⟨rfl, Nat.le_refl _⟩ | exact (fun h => Bool.noConfusion h))
      refine ⟨?_⟩
      refine PW.subM 2 1 _ [.list (some 4) []] (.nilto (some 4) .nil) rfl ?_
      simp only [List.set_cons_zero, List.set_cons_succ]
      repeat' (first | exact True.intro | (refine PW.seqK ?_; intro K hK) | refine pwB ?_ | refine pwS ?_ | refine pwL ?_ | refine pwE ?_ | refine pwR ?_ | refine pwK ?_ | refine seqK_n ‹_› ?_ | refine seqK_r ‹_› ?_ | refine seqK_e ‹_› ?_ | refine PW.regionA ?_ | exact schedW_stop_i | refine schK_n ‹_› ?_ | (refine schedW_alt_k ?_ ?_; focus (intro K hK; simp only [SA, Nat.reduceAdd, reduceIte, Nat.reduceEqDiff, Nat.reduceBEq, reduceCtorEq]; (try go_unwrap; try simp only [RR, reduceCtorEq]))) | (refine PW.cond rfl ?_ ?_ <;> intro hcond <;> (try contradiction) <;> try simp only [DD] at hcond) | (refine gd_i ?_; intro hg; try simp only [hg]) | ((first | show (_ : Nat) ≤ _ | show (_ : Nat) < _ | show (_ : Int) ≤ _ | show (_ : Int) < _ | show (_ : Nat) = _ | show (_ : Int) = _ | show (_ : Bool) = _ | show _ ∨ _ | show ¬ _); first | omega | (simp only [DD, LL] <;> omega) | (go_unwrap; omega)) | ((first | refine PW.region ?_ | refine PW.regionQ ?_ | refine schedW_done_i ?_ | show (_ : Post) _ _ _ | show @Eq (List PV) _ _ | show @Eq Bool _ _ | show opsW _ _ _ _ _ _ _ _ | show okAll _ | show @Eq Bool _ _ ∨ _); focus (simp only [SA, Nat.reduceAdd, reduceIte, Nat.reduceEqDiff, Nat.reduceBEq, reduceCtorEq]; (try go_unwrap; try simp only [RR, reduceCtorEq]))) | refine And.intro ?_ ?_ | exact Or.inr ⟨rfl, Nat.le_refl _⟩ | exact (fun h => Bool.noConfusion h))
      all_goals rfl
    have d8 : decide ((256 : Int) < r.out.length) = false := by simp only [decide_eq_false_iff_not]; omega
    rw [if_neg h256]
    have h42 := v42 (G := G0) r.out (by omega) (by intro h; rw [h] at hw3; simp at hw3; omega) hw1 (fun n hn => by have := hK n hn; omega)
    simp only [treeP] at h42
    by_cases h16 : 16 < depthM r.out
    · have d9 : decide ((16 : Int) < depthM r.out) = true := by simp only [decide_eq_true_eq]; exact h16
      rw [if_pos h16]
      repeat' (first | exact True.intro | (refine PW.stop (x := .seq (.region false (⟨some 47, none, .rd .mov [.tmp 8]⟩ :: _) _) _) ?_) | (refine PW.seqK ?_; intro K hK) | refine pwB ?_ | refine pwS ?_ | refine pwL ?_ | refine pwE ?_ | refine pwR ?_ | refine pwK ?_ | refine seqK_n ‹_› ?_ | refine seqK_r ‹_› ?_ | refine seqK_e ‹_› ?_ | refine PW.regionA ?_ | exact schedW_stop_i | refine schK_n ‹_› ?_ | (refine schedW_alt_k ?_ ?_; focus (intro K hK; simp only [PV.bin, PV.binOk, binI, decide_eq_true hre, d7, hlen, hg, Bool.false_and, Bool.and_false, Bool.true_and, Bool.and_true, Bool.not_true, Bool.not_false, SA, Nat.reduceAdd, reduceIte, Nat.reduceEqDiff, Nat.reduceBEq, reduceCtorEq]; (try go_unwrap; try simp only [PV.bin, PV.binOk, binI, decide_eq_true hre, d7, hlen, hg, Bool.false_and, Bool.and_false, Bool.true_and, Bool.and_true, Bool.not_true, Bool.not_false, RR, reduceCtorEq]))) | (refine PW.cond rfl ?_ ?_ <;> intro hcond <;> (try contradiction) <;> try simp only [DD] at hcond) | (refine goCall_K 1 e40 hsm rfl ?_; rintro p μ' ⟨rfl, rfl⟩; simp only [PV.bin, PV.binOk, binI, decide_eq_true hre, d7, hlen, hg, Bool.false_and, Bool.and_false, Bool.true_and, Bool.and_true, Bool.not_true, Bool.not_false, SA, Nat.reduceAdd, reduceIte, Nat.reduceEqDiff, Nat.reduceBEq, reduceCtorEq]) | (refine gd_i ?_; intro hg; try simp only [hg]) | ((first | show (_ : Nat) ≤ _ | show (_ : Nat) < _ | show (_ : Int) ≤ _ | show (_ : Int) < _ | show (_ : Nat) = _ | show (_ : Int) = _ | show (_ : Bool) = _ | show _ ∨ _ | show ¬ _); first | omega | (simp only [DD, LL] <;> omega) | (go_unwrap; omega)) | ((first | refine PW.region ?_ | refine PW.regionQ ?_ | refine schedW_done_i ?_ | show (_ : Post) _ _ _ | show @Eq (List PV) _ _ | show @Eq Bool _ _ | show opsW _ _ _ _ _ _ _ _ | show okAll _ | show @Eq Bool _ _ ∨ _); focus (simp only [PV.bin, PV.binOk, binI, decide_eq_true hre, d7, hlen, hg, Bool.false_and, Bool.and_false, Bool.true_and, Bool.and_true, Bool.not_true, Bool.not_false, SA, Nat.reduceAdd, reduceIte, Nat.reduceEqDiff, Nat.reduceBEq, reduceCtorEq]; (try go_unwrap; try simp only [PV.bin, PV.binOk, binI, decide_eq_true hre, d7, hlen, hg, Bool.false_and, Bool.and_false, Bool.true_and, Bool.and_true, Bool.not_true, Bool.not_false, RR, reduceCtorEq]))) | refine And.intro ?_ ?_ | exact Or.inr ⟨rfl, Nat.le_refl _⟩ | exact (fun h => Bool.noConfusion h))
      refine ⟨?_⟩
      refine PW.frz 1 (.row (some 4) (r.out.map ndP)) ?_ ?_ ?_
      · rfl
      · rfl
      simp only [SA, Nat.reduceAdd, reduceIte, Nat.reduceEqDiff, Nat.reduceBEq, reduceCtorEq, PV.frz, MObj.frz, frzM, frzSl, hol, hok, Nat.le_refl, and_self, if_true]
      repeat' (first | exact True.intro | (refine PW.seqA (E := ?_) (M := ?_) ?_ ?_; rotate_left 2) | exact mergeQ_mk _ _ | (exact Or.inr ⟨rfl, by decide⟩) | (refine PW.stop (x := .ret) ?_) | (refine PW.seqK ?_; intro K hK) | refine pwB ?_ | refine pwS ?_ | refine pwL ?_ | refine pwE ?_ | refine pwR ?_ | refine pwK ?_ | refine seqK_n ‹_› ?_ | refine seqK_r ‹_› ?_ | refine seqK_e ‹_› ?_ | refine PW.regionA ?_ | exact schedW_stop_i | refine schK_n ‹_› ?_ | (refine schedW_alt_k ?_ ?_; focus (intro K hK; simp only [PV.bin, PV.binOk, binI, decide_eq_true hre, d8, d9, hlen, hg, hol, SA, Nat.reduceAdd, reduceIte, Nat.reduceEqDiff, Nat.reduceBEq, reduceCtorEq]; (try go_unwrap; try simp only [PV.bin, PV.binOk, binI, decide_eq_true hre, d8, d9, hlen, hg, hol, RR, reduceCtorEq]))) | (refine PW.cond rfl ?_ ?_ <;> intro hcond <;> (try contradiction) <;> try simp only [DD] at hcond) | (refine gd_i ?_; intro hg; try simp only [hg]) | refine goCall_W e42 (h42) ?_ ?_ ?_ ?_ | ((first | show (_ : Nat) ≤ _ | show (_ : Nat) < _ | show (_ : Int) ≤ _ | show (_ : Int) < _ | show (_ : Nat) = _ | show (_ : Int) = _ | show (_ : Bool) = _ | show _ ∨ _ | show ¬ _); first | omega | (simp only [DD, LL] <;> omega) | (go_unwrap; omega)) | ((first | refine PW.region ?_ | refine PW.regionQ ?_ | refine schedW_done_i ?_ | show (_ : Post) _ _ _ | show @Eq (List PV) _ _ | show @Eq Bool _ _ | show opsW _ _ _ _ _ _ _ _ | show okAll _ | show @Eq Bool _ _ ∨ _); focus (simp only [PV.bin, PV.binOk, binI, decide_eq_true hre, d8, d9, hlen, hg, hol, SA, Nat.reduceAdd, reduceIte, Nat.reduceEqDiff, Nat.reduceBEq, reduceCtorEq]; (try go_unwrap; try simp only [PV.bin, PV.binOk, binI, decide_eq_true hre, d8, d9, hlen, hg, hol, RR, reduceCtorEq]))) | refine And.intro ?_ ?_ | exact Or.inr ⟨rfl, Nat.le_refl _⟩ | exact (fun h => Bool.noConfusion h))
      refine ⟨?_⟩
      refine PW.subM 2 1 _ [.list (some 4) []] (.nilto (some 4) .nil) rfl ?_
      simp only [List.set_cons_zero, List.set_cons_succ]
      repeat' (first | exact True.intro | (refine PW.seqK ?_; intro K hK) | refine pwB ?_ | refine pwS ?_ | refine pwL ?_ | refine pwE ?_ | refine pwR ?_ | refine pwK ?_ | refine seqK_n ‹_› ?_ | refine seqK_r ‹_› ?_ | refine seqK_e ‹_› ?_ | refine PW.regionA ?_ | exact schedW_stop_i | refine schK_n ‹_› ?_ | (refine schedW_alt_k ?_ ?_; focus (intro K hK; simp only [SA, Nat.reduceAdd, reduceIte, Nat.reduceEqDiff, Nat.reduceBEq, reduceCtorEq]; (try go_unwrap; try simp only [RR, reduceCtorEq]))) | (refine PW.cond rfl ?_ ?_ <;> intro hcond <;> (try contradiction) <;> try simp only [DD] at hcond) | (refine gd_i ?_; intro hg; try simp only [hg]) | ((first | show (_ : Nat) ≤ _ | show (_ : Nat) < _ | show (_ : Int) ≤ _ | show (_ : Int) < _ | show (_ : Nat) = _ | show (_ : Int) = _ | show (_ : Bool) = _ | show _ ∨ _ | show ¬ _); first | omega | (simp only [DD, LL] <;> omega) | (go_unwrap; omega)) | ((first | refine PW.region ?_ | refine PW.regionQ ?_ | refine schedW_done_i ?_ | show (_ : Post) _ _ _ | show @Eq (List PV) _ _ | show @Eq Bool _ _ | show opsW _ _ _ _ _ _ _ _ | show okAll _ | show @Eq Bool _ _ ∨ _); focus (simp only [SA, Nat.reduceAdd, reduceIte, Nat.reduceEqDiff, Nat.reduceBEq, reduceCtorEq]; (try go_unwrap; try simp only [RR, reduceCtorEq]))) | refine And.intro ?_ ?_ | exact Or.inr ⟨rfl, Nat.le_refl _⟩ | exact (fun h => Bool.noConfusion h))
      all_goals rfl
    have d9 : decide ((16 : Int) < depthM r.out) = false := by simp only [decide_eq_false_iff_not]; exact h16
    rw [if_neg h16]
    repeat' (first | exact True.intro | (refine PW.stop (x := .seq (.region false (⟨some 47, none, .rd .mov [.tmp 8]⟩ :: _) _) _) ?_) | (refine PW.seqK ?_; intro K hK) | refine pwB ?_ | refine pwS ?_ | refine pwL ?_ | refine pwE ?_ | refine pwR ?_ | refine pwK ?_ | refine seqK_n ‹_› ?_ | refine seqK_r ‹_› ?_ | refine seqK_e ‹_› ?_ | refine PW.regionA ?_ | exact schedW_stop_i | refine schK_n ‹_› ?_ | (refine schedW_alt_k ?_ ?_; focus (intro K hK; simp only [PV.bin, PV.binOk, binI, decide_eq_true hre, d7, hlen, hg, Bool.false_and, Bool.and_false, Bool.true_and, Bool.and_true, Bool.not_true, Bool.not_false, SA, Nat.reduceAdd, reduceIte, Nat.reduceEqDiff, Nat.reduceBEq, reduceCtorEq]; (try go_unwrap; try simp only [PV.bin, PV.binOk, binI, decide_eq_true hre, d7, hlen, hg, Bool.false_and, Bool.and_false, Bool.true_and, Bool.and_true, Bool.not_true, Bool.not_false, RR, reduceCtorEq]))) | (refine PW.cond rfl ?_ ?_ <;> intro hcond <;> (try contradiction) <;> try simp only [DD] at hcond) | (refine goCall_K 1 e40 hsm rfl ?_; rintro p μ' ⟨rfl, rfl⟩; simp only [PV.bin, PV.binOk, binI, decide_eq_true hre, d7, hlen, hg, Bool.false_and, Bool.and_false, Bool.true_and, Bool.and_true, Bool.not_true, Bool.not_false, SA, Nat.reduceAdd, reduceIte, Nat.reduceEqDiff, Nat.reduceBEq, reduceCtorEq]) | (refine gd_i ?_; intro hg; try simp only [hg]) | ((first | show (_ : Nat) ≤ _ | show (_ : Nat) < _ | show (_ : Int) ≤ _ | show (_ : Int) < _ | show (_ : Nat) = _ | show (_ : Int) = _ | show (_ : Bool) = _ | show _ ∨ _ | show ¬ _); first | omega | (simp only [DD, LL] <;> omega) | (go_unwrap; omega)) | ((first | refine PW.region ?_ | refine PW.regionQ ?_ | refine schedW_done_i ?_ | show (_ : Post) _ _ _ | show @Eq (List PV) _ _ | show @Eq Bool _ _ | show opsW _ _ _ _ _ _ _ _ | show okAll _ | show @Eq Bool _ _ ∨ _); focus (simp only [PV.bin, PV.binOk, binI, decide_eq_true hre, d7, hlen, hg, Bool.false_and, Bool.and_false, Bool.true_and, Bool.and_true, Bool.not_true, Bool.not_false, SA, Nat.reduceAdd, reduceIte, Nat.reduceEqDiff, Nat.reduceBEq, reduceCtorEq]; (try go_unwrap; try simp only [PV.bin, PV.binOk, binI, decide_eq_true hre, d7, hlen, hg, Bool.false_and, Bool.and_false, Bool.true_and, Bool.and_true, Bool.not_true, Bool.not_false, RR, reduceCtorEq]))) | refine And.intro ?_ ?_ | exact Or.inr ⟨rfl, Nat.le_refl _⟩ | exact (fun h => Bool.noConfusion h))
    refine ⟨?_⟩
    refine PW.frz 1 (.row (some 4) (r.out.map ndP)) ?_ ?_ ?_
    · rfl
    · rfl
    simp only [SA, Nat.reduceAdd, reduceIte, Nat.reduceEqDiff, Nat.reduceBEq, reduceCtorEq, PV.frz, MObj.frz, frzM, frzSl, hol, hok, Nat.le_refl, and_self, if_true]
    repeat' (first | exact True.intro | (refine PW.seqA (E := ?_) (M := ?_) ?_ ?_; rotate_left 2) | exact mergeQ_mk _ _ | (exact Or.inr ⟨rfl, by decide⟩) | (refine PW.stop (x := .ret) ?_) | (refine PW.seqK ?_; intro K hK) | refine pwB ?_ | refine pwS ?_ | refine pwL ?_ | refine pwE ?_ | refine pwR ?_ | refine pwK ?_ | refine seqK_n ‹_› ?_ | refine seqK_r ‹_› ?_ | refine seqK_e ‹_› ?_ | refine PW.regionA ?_ | exact schedW_stop_i | refine schK_n ‹_› ?_ | (refine schedW_alt_k ?_ ?_; focus (intro K hK; simp only [PV.bin, PV.binOk, binI, decide_eq_true hre, d8, d9, hlen, hg, hol, SA, Nat.reduceAdd, reduceIte, Nat.reduceEqDiff, Nat.reduceBEq, reduceCtorEq]; (try go_unwrap; try simp only [PV.bin, PV.binOk, binI, decide_eq_true hre, d8, d9, hlen, hg, hol, RR, reduceCtorEq]))) | (refine PW.cond rfl ?_ ?_ <;> intro hcond <;> (try contradiction) <;> try simp only [DD] at hcond) | (refine gd_i ?_; intro hg; try simp only [hg]) | refine goCall_W e42 (h42) ?_ ?_ ?_ ?_ | ((first | show (_ : Nat) ≤ _ | show (_ : Nat) < _ | show (_ : Int) ≤ _ | show (_ : Int) < _ | show (_ : Nat) = _ | show (_ : Int) = _ | show (_ : Bool) = _ | show _ ∨ _ | show ¬ _); first | omega | (simp only [DD, LL] <;> omega) | (go_unwrap; omega)) | ((first | refine PW.region ?_ | refine PW.regionQ ?_ | refine schedW_done_i ?_ | show (_ : Post) _ _ _ | show @Eq (List PV) _ _ | show @Eq Bool _ _ | show opsW _ _ _ _ _ _ _ _ | show okAll _ | show @Eq Bool _ _ ∨ _); focus (simp only [PV.bin, PV.binOk, binI, decide_eq_true hre, d8, d9, hlen, hg, hol, SA, Nat.reduceAdd, reduceIte, Nat.reduceEqDiff, Nat.reduceBEq, reduceCtorEq]; (try go_unwrap; try simp only [PV.bin, PV.binOk, binI, decide_eq_true hre, d8, d9, hlen, hg, hol, RR, reduceCtorEq]))) | refine And.intro ?_ ?_ | exact Or.inr ⟨rfl, Nat.le_refl _⟩ | exact (fun h => Bool.noConfusion h))
    refine ⟨?_⟩
    repeat' (first | exact True.intro | (refine PW.seqK ?_; intro K hK) | refine pwB ?_ | refine pwS ?_ | refine pwL ?_ | refine pwE ?_ | refine pwR ?_ | refine pwK ?_ | refine seqK_n ‹_› ?_ | refine seqK_r ‹_› ?_ | refine seqK_e ‹_› ?_ | refine PW.regionA ?_ | exact schedW_stop_i | refine schK_n ‹_› ?_ | (refine schedW_alt_k ?_ ?_; focus (intro K hK; simp only [SA, Nat.reduceAdd, reduceIte, Nat.reduceEqDiff, Nat.reduceBEq, reduceCtorEq]; (try go_unwrap; try simp only [RR, reduceCtorEq]))) | (refine PW.cond rfl ?_ ?_ <;> intro hcond <;> (try contradiction) <;> try simp only [DD] at hcond) | (refine gd_i ?_; intro hg; try simp only [hg]) | ((first | show (_ : Nat) ≤ _ | show (_ : Nat) < _ | show (_ : Int) ≤ _ | show (_ : Int) < _ | show (_ : Nat) = _ | show (_ : Int) = _ | show (_ : Bool) = _ | show _ ∨ _ | show ¬ _); first | omega | (simp only [DD, LL] <;> omega) | (go_unwrap; omega)) | ((first | refine PW.region ?_ | refine PW.regionQ ?_ | refine schedW_done_i ?_ | show (_ : Post) _ _ _ | show @Eq (List PV) _ _ | show @Eq Bool _ _ | show opsW _ _ _ _ _ _ _ _ | show okAll _ | show @Eq Bool _ _ ∨ _); focus (simp only [SA, Nat.reduceAdd, reduceIte, Nat.reduceEqDiff, Nat.reduceBEq, reduceCtorEq]; (try go_unwrap; try simp only [RR, reduceCtorEq]))) | refine And.intro ?_ ?_ | exact Or.inr ⟨rfl, Nat.le_refl _⟩ | exact (fun h => Bool.noConfusion h))
    all_goals rfl
end Go.Proofs.YthekpjhffciakaaDoor

namespace Go.Proofs.YthekpjhffciakaaDoor
open Go PG Go.Proofs
set_option linter.unusedSimpArgs false
set_option linter.unusedVariables false
set_option maxRecDepth 100000
/-! The examples -/
def sA : List UInt8 := [97, 43, 50, 42, 40, 98, 45, 99, 41]
def sB : List UInt8 := [97, 45, 40, 98, 43, 99, 41]
def sC : List UInt8 := [40, 97, 45, 98, 41, 43, 99]
def sC' : List UInt8 := [97, 45, 98, 43, 99]
def tA : List Nd := [⟨1, 0, [97], []⟩, ⟨0, 2000000, [], []⟩, ⟨1, 0, [98], []⟩, ⟨1, 0, [99], []⟩, ⟨3, 0, [], [2, 3]⟩, ⟨4, 0, [], [1, 4]⟩, ⟨2, 0, [], [0, 5]⟩]
def tB : List Nd := [⟨1, 0, [97], []⟩, ⟨1, 0, [98], []⟩, ⟨1, 0, [99], []⟩, ⟨2, 0, [], [1, 2]⟩, ⟨3, 0, [], [0, 3]⟩]
def tC : List Nd := [⟨1, 0, [97], []⟩, ⟨1, 0, [98], []⟩, ⟨3, 0, [], [0, 1]⟩, ⟨1, 0, [99], []⟩, ⟨2, 0, [], [2, 3]⟩]
def lA : List Tok := [(1, [97], 0), (3, [43], 1), (2, [50], 2), (3, [42], 3), (3, [40], 4), (1, [98], 5), (3, [45], 6), (1, [99], 7), (3, [41], 8), (0, [], 9)]
def lB : List Tok := [(1, [97], 0), (3, [45], 1), (3, [40], 2), (1, [98], 3), (3, [43], 4), (1, [99], 5), (3, [41], 6), (0, [], 7)]
def lC : List Tok := [(3, [40], 0), (1, [97], 1), (3, [45], 2), (1, [98], 3), (3, [41], 4), (3, [43], 5), (1, [99], 6), (0, [], 7)]
theorem allA : allE sA = .ok lA := by
  unfold allE sA
  rw [if_neg (by decide)]
  rw [scanA, if_neg (by decide), show tokE 0 [97, 43, 50, 42, 40, 98, 45, 99, 41] = .ok (1, 1) from rfl]
  simp only [List.drop_succ_cons, List.drop_zero, Nat.add_one_sub_one, Nat.reduceSub, List.take_succ_cons, List.take_zero, Nat.zero_add, Nat.reduceAdd, List.nil_append]
  rw [scanA, if_neg (by decide), show tokE 1 [43, 50, 42, 40, 98, 45, 99, 41] = .ok (3, 1) from rfl]
  simp only [List.drop_succ_cons, List.drop_zero, Nat.add_one_sub_one, Nat.reduceSub, List.take_succ_cons, List.take_zero, Nat.zero_add, Nat.reduceAdd, List.nil_append]
  rw [scanA, if_neg (by decide), show tokE 2 [50, 42, 40, 98, 45, 99, 41] = .ok (2, 1) from rfl]
  simp only [List.drop_succ_cons, List.drop_zero, Nat.add_one_sub_one, Nat.reduceSub, List.take_succ_cons, List.take_zero, Nat.zero_add, Nat.reduceAdd, List.nil_append]
  rw [scanA, if_neg (by decide), show tokE 3 [42, 40, 98, 45, 99, 41] = .ok (3, 1) from rfl]
  simp only [List.drop_succ_cons, List.drop_zero, Nat.add_one_sub_one, Nat.reduceSub, List.take_succ_cons, List.take_zero, Nat.zero_add, Nat.reduceAdd, List.nil_append]
  rw [scanA, if_neg (by decide), show tokE 4 [40, 98, 45, 99, 41] = .ok (3, 1) from rfl]
  simp only [List.drop_succ_cons, List.drop_zero, Nat.add_one_sub_one, Nat.reduceSub, List.take_succ_cons, List.take_zero, Nat.zero_add, Nat.reduceAdd, List.nil_append]
  rw [scanA, if_neg (by decide), show tokE 5 [98, 45, 99, 41] = .ok (1, 1) from rfl]
  simp only [List.drop_succ_cons, List.drop_zero, Nat.add_one_sub_one, Nat.reduceSub, List.take_succ_cons, List.take_zero, Nat.zero_add, Nat.reduceAdd, List.nil_append]
  rw [scanA, if_neg (by decide), show tokE 6 [45, 99, 41] = .ok (3, 1) from rfl]
  simp only [List.drop_succ_cons, List.drop_zero, Nat.add_one_sub_one, Nat.reduceSub, List.take_succ_cons, List.take_zero, Nat.zero_add, Nat.reduceAdd, List.nil_append]
  rw [scanA, if_neg (by decide), show tokE 7 [99, 41] = .ok (1, 1) from rfl]
  simp only [List.drop_succ_cons, List.drop_zero, Nat.add_one_sub_one, Nat.reduceSub, List.take_succ_cons, List.take_zero, Nat.zero_add, Nat.reduceAdd, List.nil_append]
  rw [scanA, if_neg (by decide), show tokE 8 [41] = .ok (3, 1) from rfl]
  simp only [List.drop_succ_cons, List.drop_zero, Nat.add_one_sub_one, Nat.reduceSub, List.take_succ_cons, List.take_zero, Nat.zero_add, Nat.reduceAdd, List.nil_append]
  rw [scanA]
  rfl
theorem allB : allE sB = .ok lB := by
  unfold allE sB
  rw [if_neg (by decide)]
  rw [scanA, if_neg (by decide), show tokE 0 [97, 45, 40, 98, 43, 99, 41] = .ok (1, 1) from rfl]
  simp only [List.drop_succ_cons, List.drop_zero, Nat.add_one_sub_one, Nat.reduceSub, List.take_succ_cons, List.take_zero, Nat.zero_add, Nat.reduceAdd, List.nil_append]
  rw [scanA, if_neg (by decide), show tokE 1 [45, 40, 98, 43, 99, 41] = .ok (3, 1) from rfl]
  simp only [List.drop_succ_cons, List.drop_zero, Nat.add_one_sub_one, Nat.reduceSub, List.take_succ_cons, List.take_zero, Nat.zero_add, Nat.reduceAdd, List.nil_append]
  rw [scanA, if_neg (by decide), show tokE 2 [40, 98, 43, 99, 41] = .ok (3, 1) from rfl]
  simp only [List.drop_succ_cons, List.drop_zero, Nat.add_one_sub_one, Nat.reduceSub, List.take_succ_cons, List.take_zero, Nat.zero_add, Nat.reduceAdd, List.nil_append]
  rw [scanA, if_neg (by decide), show tokE 3 [98, 43, 99, 41] = .ok (1, 1) from rfl]
  simp only [List.drop_succ_cons, List.drop_zero, Nat.add_one_sub_one, Nat.reduceSub, List.take_succ_cons, List.take_zero, Nat.zero_add, Nat.reduceAdd, List.nil_append]
  rw [scanA, if_neg (by decide), show tokE 4 [43, 99, 41] = .ok (3, 1) from rfl]
  simp only [List.drop_succ_cons, List.drop_zero, Nat.add_one_sub_one, Nat.reduceSub, List.take_succ_cons, List.take_zero, Nat.zero_add, Nat.reduceAdd, List.nil_append]
  rw [scanA, if_neg (by decide), show tokE 5 [99, 41] = .ok (1, 1) from rfl]
  simp only [List.drop_succ_cons, List.drop_zero, Nat.add_one_sub_one, Nat.reduceSub, List.take_succ_cons, List.take_zero, Nat.zero_add, Nat.reduceAdd, List.nil_append]
  rw [scanA, if_neg (by decide), show tokE 6 [41] = .ok (3, 1) from rfl]
  simp only [List.drop_succ_cons, List.drop_zero, Nat.add_one_sub_one, Nat.reduceSub, List.take_succ_cons, List.take_zero, Nat.zero_add, Nat.reduceAdd, List.nil_append]
  rw [scanA]
  rfl
theorem allC : allE sC = .ok lC := by
  unfold allE sC
  rw [if_neg (by decide)]
  rw [scanA, if_neg (by decide), show tokE 0 [40, 97, 45, 98, 41, 43, 99] = .ok (3, 1) from rfl]
  simp only [List.drop_succ_cons, List.drop_zero, Nat.add_one_sub_one, Nat.reduceSub, List.take_succ_cons, List.take_zero, Nat.zero_add, Nat.reduceAdd, List.nil_append]
  rw [scanA, if_neg (by decide), show tokE 1 [97, 45, 98, 41, 43, 99] = .ok (1, 1) from rfl]
  simp only [List.drop_succ_cons, List.drop_zero, Nat.add_one_sub_one, Nat.reduceSub, List.take_succ_cons, List.take_zero, Nat.zero_add, Nat.reduceAdd, List.nil_append]
  rw [scanA, if_neg (by decide), show tokE 2 [45, 98, 41, 43, 99] = .ok (3, 1) from rfl]
  simp only [List.drop_succ_cons, List.drop_zero, Nat.add_one_sub_one, Nat.reduceSub, List.take_succ_cons, List.take_zero, Nat.zero_add, Nat.reduceAdd, List.nil_append]
  rw [scanA, if_neg (by decide), show tokE 3 [98, 41, 43, 99] = .ok (1, 1) from rfl]
  simp only [List.drop_succ_cons, List.drop_zero, Nat.add_one_sub_one, Nat.reduceSub, List.take_succ_cons, List.take_zero, Nat.zero_add, Nat.reduceAdd, List.nil_append]
  rw [scanA, if_neg (by decide), show tokE 4 [41, 43, 99] = .ok (3, 1) from rfl]
  simp only [List.drop_succ_cons, List.drop_zero, Nat.add_one_sub_one, Nat.reduceSub, List.take_succ_cons, List.take_zero, Nat.zero_add, Nat.reduceAdd, List.nil_append]
  rw [scanA, if_neg (by decide), show tokE 5 [43, 99] = .ok (3, 1) from rfl]
  simp only [List.drop_succ_cons, List.drop_zero, Nat.add_one_sub_one, Nat.reduceSub, List.take_succ_cons, List.take_zero, Nat.zero_add, Nat.reduceAdd, List.nil_append]
  rw [scanA, if_neg (by decide), show tokE 6 [99] = .ok (1, 1) from rfl]
  simp only [List.drop_succ_cons, List.drop_zero, Nat.add_one_sub_one, Nat.reduceSub, List.take_succ_cons, List.take_zero, Nat.zero_add, Nat.reduceAdd, List.nil_append]
  rw [scanA]
  rfl
theorem pA : parseS sA = .ok tA := by
  unfold parseS; rw [allA]; rfl
theorem pB : parseS sB = .ok tB := by
  unfold parseS; rw [allB]; rfl
theorem pC : parseS sC = .ok tC := by
  unfold parseS; rw [allC]; rfl
end Go.Proofs.YthekpjhffciakaaDoor

