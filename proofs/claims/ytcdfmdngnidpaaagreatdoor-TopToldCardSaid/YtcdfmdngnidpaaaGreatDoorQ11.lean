import Derived.Test.YtcdfmdngnidpaaaGreatDoorProg
import Derived.KernelRfl
import Derived.Test.YtcdfmdngnidpaaaGreatDoorQ10
import Derived.Test.YtcdfmdngnidpaaaGreatDoorP4
namespace Go.Proofs.YtcdfmdngnidpaaaGreatDoor
open Go PG Go.Proofs
set_option linter.unusedSimpArgs false
set_option linter.unusedVariables false
set_option maxHeartbeats 4000000
set_option maxRecDepth 100000
instance : Inhabited Kn := ⟨⟨0, ⟨0, 0, 0, 0, 0, [], 0, []⟩⟩⟩
abbrev linP (l : List Kn) : PV := .agg [knL l]
def covB (k : Kn) (d : Int) : Bool := decide (k.f.from' ≤ d) && (decide (k.f.to' = 0) || decide (d < k.f.to'))
/-- The place of the fact in force, of the first i. -/
def placeN (l : List Kn) (d : Int) : Nat → Int
  | 0 => -1
  | i + 1 => if (covB (l.getD i default) d && (decide (placeN l d i < 0) || decide ((l.getD (placeN l d i).toNat default).n < (l.getD i default).n))) = true then (i : Int) else placeN l d i
def placeM (l : List Kn) (d : Int) : Int := placeN l d l.length
theorem placeN_in (l : List Kn) (d : Int) : ∀ i : Nat, -1 ≤ placeN l d i ∧ placeN l d i < i
  | 0 => by simp [placeN]
  | i + 1 => by
    have := placeN_in l d i
    unfold placeN
    split <;> omega
theorem v22 (l : List Kn) (hl : l.length ≤ 1000000000) (d : Int) : VCalls Tryz.prog G0 22 [linP l, .int .i64 d] (.int .i64 (placeM l d)) := by
  refine VCalls.of_PW Tryz.func22 k22 mix (by simp [c22]) ?_
  simp only [c22, L22, argE]
  have hlen : ((l.map knP).length : Nat) = l.length := by simp
  repeat' (first | exact True.intro | (refine PW.seqK ?_; intro K hK) | refine PW.block ?_ | refine PW.scope ?_ | refine PW.label ?_ | refine PW.exit ?_ | refine PW.ret ?_ | refine PW.skip ?_ | refine seqK_n (by assumption) ?_ | refine seqK_r (by assumption) ?_ | refine seqK_e (by assumption) ?_ | refine PW.regionA ?_ | exact schedW_stop_i | refine schK_n (by assumption) ?_ | (refine schedW_alt_k ?_ ?_; focus (intro K hK; simp only [hlen, SS, SS2, SS3, SS4, SS5, Option.map_some, Nat.reduceAdd, reduceIte, Nat.reduceEqDiff, Nat.reduceBEq, eq_self, implies_true, ne_eq, beq_self_eq_true, id_eq, reduceCtorEq]; (try go_unwrap; try simp only [hlen, RR, reduceCtorEq]))) | (refine PW.cond rfl ?_ ?_ <;> intro hcond <;> (try contradiction) <;> try simp only [decide_eq_true_eq, decide_eq_false_iff_not] at hcond) | (refine gd_i ?_; intro hg; try simp only [hg]) | ((first | show @LE.le Nat _ _ _ | show @LT.lt Nat _ _ _ | show @LE.le Int _ _ _ | show @LT.lt Int _ _ _ | show @Eq Nat _ _ | show @Eq Int _ _ | show @Eq Bool _ _ | show _ ∨ _ | show ¬ _); first | omega | (simp only [decide_eq_true_eq, decide_eq_false_iff_not, List.length_cons, List.length_nil, List.length_append, List.length_map, Sh.size] <;> omega) | (go_unwrap; omega)) | ((first | refine PW.region ?_ | refine PW.regionQ ?_ | refine schedW_done_i ?_ | show (_ : Post) _ _ _ | show @Eq (List PV) _ _ | show @Eq Bool _ _ | show opsW _ _ _ _ _ _ _ _ | show okAll _ | show @Eq Bool _ _ ∨ _); focus (simp only [hlen, SS, SS2, SS3, SS4, SS5, Option.map_some, Nat.reduceAdd, reduceIte, Nat.reduceEqDiff, Nat.reduceBEq, eq_self, implies_true, ne_eq, beq_self_eq_true, id_eq, reduceCtorEq]; (try go_unwrap; try simp only [hlen, RR, reduceCtorEq]))) | refine And.intro ?_ ?_ | exact Or.inr ⟨rfl, Nat.le_refl _⟩ | exact (fun h => Bool.noConfusion h))
  refine PW.loopG (σ := Nat) 1 (fun _ _ => rfl) [1, 2, 4, 5, 9, 10, 11] (fun i => [.int .i64 d, .ref 0 0, .int .i64 0, .int .i64 (placeN l d i), knL l, .int .i64 l.length, .int .i64 i])
    (fun _ => [some (.var (some 1) (.agg [knL l]))]) (fun i => i ≤ l.length) (fun i => l.length - i) 0 ?_ rfl (by omega) ?_
  · simp only [SS, SS2, SS3, SS4, SS5, Option.map_some, Nat.reduceAdd, reduceIte, Nat.reduceEqDiff, Nat.reduceBEq, eq_self, implies_true, ne_eq, beq_self_eq_true, id_eq, reduceCtorEq]; rfl
  rintro i hi
  simp only [List.zip_cons_cons, List.zip_nil_left]
  rcases Nat.lt_or_ge i l.length with h | h
  · have hd : decide ((i : Int) < l.length) = true := by simp only [decide_eq_true_eq]; omega
    have hg := kn_getD l i h
    have hp := placeN_in l d i
    have hst : placeN l d (i + 1) = if (covB l[i] d && (decide (placeN l d i < 0) || decide ((l.getD (placeN l d i).toNat default).n < l[i].n))) = true then (i : Int) else placeN l d i := by
      simp only [placeN]
      rw [show l.getD i default = l[i] by simp [List.getD, h]]
    generalize l[i] = k at hg hst
    generalize placeN l d i = p at hp hst
    skip
    have hidx : p < 0 ∨ (0 ≤ p ∧ p < l.length) := by omega
    have hk : covB k d = (decide (k.f.from' ≤ d) && (decide (k.f.to' = 0) || decide (d < k.f.to'))) := rfl
    by_cases h1 : k.f.from' ≤ d
    case neg =>
      have d1 : decide (k.f.from' ≤ d) = false := by simpa using h1
      rw [hk, d1] at hst
      simp only [Bool.false_and, Bool.false_eq_true, if_false] at hst
      repeat' (first | exact True.intro | (refine PW.seqK ?_; intro K hK) | refine PW.block ?_ | refine PW.scope ?_ | refine PW.label ?_ | refine PW.exit ?_ | refine PW.ret ?_ | refine PW.skip ?_ | refine seqK_n (by assumption) ?_ | refine seqK_r (by assumption) ?_ | refine seqK_e (by assumption) ?_ | refine PW.regionA ?_ | exact schedW_stop_i | refine schK_n (by assumption) ?_ | (refine schedW_alt_k ?_ ?_; focus (intro K hK; simp only [hd, hlen, hg, d1, SS, SS2, SS3, SS4, SS5, Option.map_some, Nat.reduceAdd, reduceIte, Nat.reduceEqDiff, Nat.reduceBEq, eq_self, implies_true, ne_eq, beq_self_eq_true, id_eq, reduceCtorEq]; (try go_unwrap; try simp only [hd, hlen, hg, d1, RR, reduceCtorEq]))) | (refine PW.cond rfl ?_ ?_ <;> intro hcond <;> (try contradiction) <;> try simp only [decide_eq_true_eq, decide_eq_false_iff_not] at hcond) | (refine gd_i ?_; intro hg; try simp only [hg]) | ((first | show @LE.le Nat _ _ _ | show @LT.lt Nat _ _ _ | show @LE.le Int _ _ _ | show @LT.lt Int _ _ _ | show @Eq Nat _ _ | show @Eq Int _ _ | show @Eq Bool _ _ | show _ ∨ _ | show ¬ _); first | omega | (simp only [decide_eq_true_eq, decide_eq_false_iff_not, List.length_cons, List.length_nil, List.length_append, List.length_map, Sh.size] <;> omega) | (go_unwrap; omega)) | ((first | refine PW.region ?_ | refine PW.regionQ ?_ | refine schedW_done_i ?_ | show (_ : Post) _ _ _ | show @Eq (List PV) _ _ | show @Eq Bool _ _ | show opsW _ _ _ _ _ _ _ _ | show okAll _ | show @Eq Bool _ _ ∨ _); focus (simp only [hd, hlen, hg, d1, SS, SS2, SS3, SS4, SS5, Option.map_some, Nat.reduceAdd, reduceIte, Nat.reduceEqDiff, Nat.reduceBEq, eq_self, implies_true, ne_eq, beq_self_eq_true, id_eq, reduceCtorEq]; (try go_unwrap; try simp only [hd, hlen, hg, d1, RR, reduceCtorEq]))) | refine And.intro ?_ ?_ | exact Or.inr ⟨rfl, Nat.le_refl _⟩ | exact (fun h => Bool.noConfusion h))
      exact ⟨i + 1, (by rw [hst]; exact (by first | rfl | (simp only [trimE, trimM, List.take_succ_cons, List.take_zero, List.take_nil, List.map_cons, List.map_nil, Option.map_some, Option.map_none, MObj.kill, PV.kill, Nat.reduceLeDiff, decide_true, decide_false, dec_true, dec_false, Bool.false_eq_true, if_false, if_true, reduceIte, List.zip_cons_cons, List.zip_nil_left, Nat.le_refl, Nat.zero_le, Nat.not_le, Nat.lt_irrefl]; done) | (simp [trimE, trimM, MObj.kill, PV.kill]; done))), (by first | rfl | (simp only [trimE, trimM, List.take_succ_cons, List.take_zero, List.take_nil, List.map_cons, List.map_nil, Option.map_some, Option.map_none, MObj.kill, PV.kill, Nat.reduceLeDiff, decide_true, decide_false, dec_true, dec_false, Bool.false_eq_true, if_false, if_true, reduceIte, List.zip_cons_cons, List.zip_nil_left, Nat.le_refl, Nat.zero_le, Nat.not_le, Nat.lt_irrefl]; done) | (simp [trimE, trimM, MObj.kill, PV.kill]; done)), by omega, by omega⟩
    have d1 : decide (k.f.from' ≤ d) = true := by simpa using h1
    by_cases hc : (decide (k.f.to' = 0) || decide (d < k.f.to')) = true
    case neg =>
      have hc' : (decide (k.f.to' = 0) || decide (d < k.f.to')) = false := by simpa using hc
      rw [hk, d1, hc'] at hst
      simp only [Bool.and_false, Bool.false_and, Bool.false_eq_true, if_false] at hst
      rw [Bool.or_eq_false_iff] at hc'
      obtain ⟨d2, d3⟩ := hc'
      repeat' (first | exact True.intro | (refine PW.seqK ?_; intro K hK) | refine PW.block ?_ | refine PW.scope ?_ | refine PW.label ?_ | refine PW.exit ?_ | refine PW.ret ?_ | refine PW.skip ?_ | refine seqK_n (by assumption) ?_ | refine seqK_r (by assumption) ?_ | refine seqK_e (by assumption) ?_ | refine PW.regionA ?_ | exact schedW_stop_i | refine schK_n (by assumption) ?_ | (refine schedW_alt_k ?_ ?_; focus (intro K hK; simp only [hd, hlen, hg, d1, d2, d3, SS, SS2, SS3, SS4, SS5, Option.map_some, Nat.reduceAdd, reduceIte, Nat.reduceEqDiff, Nat.reduceBEq, eq_self, implies_true, ne_eq, beq_self_eq_true, id_eq, reduceCtorEq]; (try go_unwrap; try simp only [hd, hlen, hg, d1, d2, d3, RR, reduceCtorEq]))) | (refine PW.cond rfl ?_ ?_ <;> intro hcond <;> (try contradiction) <;> try simp only [decide_eq_true_eq, decide_eq_false_iff_not] at hcond) | (refine gd_i ?_; intro hg; try simp only [hg]) | ((first | show @LE.le Nat _ _ _ | show @LT.lt Nat _ _ _ | show @LE.le Int _ _ _ | show @LT.lt Int _ _ _ | show @Eq Nat _ _ | show @Eq Int _ _ | show @Eq Bool _ _ | show _ ∨ _ | show ¬ _); first | omega | (simp only [decide_eq_true_eq, decide_eq_false_iff_not, List.length_cons, List.length_nil, List.length_append, List.length_map, Sh.size] <;> omega) | (go_unwrap; omega)) | ((first | refine PW.region ?_ | refine PW.regionQ ?_ | refine schedW_done_i ?_ | show (_ : Post) _ _ _ | show @Eq (List PV) _ _ | show @Eq Bool _ _ | show opsW _ _ _ _ _ _ _ _ | show okAll _ | show @Eq Bool _ _ ∨ _); focus (simp only [hd, hlen, hg, d1, d2, d3, SS, SS2, SS3, SS4, SS5, Option.map_some, Nat.reduceAdd, reduceIte, Nat.reduceEqDiff, Nat.reduceBEq, eq_self, implies_true, ne_eq, beq_self_eq_true, id_eq, reduceCtorEq]; (try go_unwrap; try simp only [hd, hlen, hg, d1, d2, d3, RR, reduceCtorEq]))) | refine And.intro ?_ ?_ | exact Or.inr ⟨rfl, Nat.le_refl _⟩ | exact (fun h => Bool.noConfusion h))
      exact ⟨i + 1, (by rw [hst]; exact (by first | rfl | (simp only [trimE, trimM, List.take_succ_cons, List.take_zero, List.take_nil, List.map_cons, List.map_nil, Option.map_some, Option.map_none, MObj.kill, PV.kill, Nat.reduceLeDiff, decide_true, decide_false, dec_true, dec_false, Bool.false_eq_true, if_false, if_true, reduceIte, List.zip_cons_cons, List.zip_nil_left, Nat.le_refl, Nat.zero_le, Nat.not_le, Nat.lt_irrefl]; done) | (simp [trimE, trimM, MObj.kill, PV.kill]; done))), (by first | rfl | (simp only [trimE, trimM, List.take_succ_cons, List.take_zero, List.take_nil, List.map_cons, List.map_nil, Option.map_some, Option.map_none, MObj.kill, PV.kill, Nat.reduceLeDiff, decide_true, decide_false, dec_true, dec_false, Bool.false_eq_true, if_false, if_true, reduceIte, List.zip_cons_cons, List.zip_nil_left, Nat.le_refl, Nat.zero_le, Nat.not_le, Nat.lt_irrefl]; done) | (simp [trimE, trimM, MObj.kill, PV.kill]; done)), by omega, by omega⟩
    rw [hk, d1, hc] at hst
    simp only [Bool.and_self, Bool.true_and] at hst
    rcases hidx with hp0 | ⟨hp0, hp1⟩
    · have d4 : decide (p < 0) = true := by simpa using hp0
      rw [d4] at hst
      simp only [Bool.true_or, if_true] at hst
      repeat' (first | exact True.intro | (refine PW.seqK ?_; intro K hK) | refine PW.block ?_ | refine PW.scope ?_ | refine PW.label ?_ | refine PW.exit ?_ | refine PW.ret ?_ | refine PW.skip ?_ | refine seqK_n (by assumption) ?_ | refine seqK_r (by assumption) ?_ | refine seqK_e (by assumption) ?_ | refine PW.regionA ?_ | exact schedW_stop_i | refine schK_n (by assumption) ?_ | (refine schedW_alt_k ?_ ?_; focus (intro K hK; simp only [hd, hlen, hg, d1, d4, hc, SS, SS2, SS3, SS4, SS5, Option.map_some, Nat.reduceAdd, reduceIte, Nat.reduceEqDiff, Nat.reduceBEq, eq_self, implies_true, ne_eq, beq_self_eq_true, id_eq, reduceCtorEq]; (try go_unwrap; try simp only [hd, hlen, hg, d1, d4, hc, RR, reduceCtorEq]))) | (refine PW.cond rfl ?_ ?_ <;> intro hcond <;> (try contradiction) <;> try simp only [decide_eq_true_eq, decide_eq_false_iff_not] at hcond) | (refine gd_i ?_; intro hg; try simp only [hg]) | ((first | show @LE.le Nat _ _ _ | show @LT.lt Nat _ _ _ | show @LE.le Int _ _ _ | show @LT.lt Int _ _ _ | show @Eq Nat _ _ | show @Eq Int _ _ | show @Eq Bool _ _ | show _ ∨ _ | show ¬ _); first | omega | (simp only [decide_eq_true_eq, decide_eq_false_iff_not, List.length_cons, List.length_nil, List.length_append, List.length_map, Sh.size] <;> omega) | (go_unwrap; omega)) | ((first | refine PW.region ?_ | refine PW.regionQ ?_ | refine schedW_done_i ?_ | show (_ : Post) _ _ _ | show @Eq (List PV) _ _ | show @Eq Bool _ _ | show opsW _ _ _ _ _ _ _ _ | show okAll _ | show @Eq Bool _ _ ∨ _); focus (simp only [hd, hlen, hg, d1, d4, hc, SS, SS2, SS3, SS4, SS5, Option.map_some, Nat.reduceAdd, reduceIte, Nat.reduceEqDiff, Nat.reduceBEq, eq_self, implies_true, ne_eq, beq_self_eq_true, id_eq, reduceCtorEq]; (try go_unwrap; try simp only [hd, hlen, hg, d1, d4, hc, RR, reduceCtorEq]))) | refine And.intro ?_ ?_ | exact Or.inr ⟨rfl, Nat.le_refl _⟩ | exact (fun h => Bool.noConfusion h))
      all_goals exact ⟨i + 1, (by rw [hst]; exact (by first | rfl | (simp only [trimE, trimM, List.take_succ_cons, List.take_zero, List.take_nil, List.map_cons, List.map_nil, Option.map_some, Option.map_none, MObj.kill, PV.kill, Nat.reduceLeDiff, decide_true, decide_false, dec_true, dec_false, Bool.false_eq_true, if_false, if_true, reduceIte, List.zip_cons_cons, List.zip_nil_left, Nat.le_refl, Nat.zero_le, Nat.not_le, Nat.lt_irrefl]; done) | (simp [trimE, trimM, MObj.kill, PV.kill]; done))), (by first | rfl | (simp only [trimE, trimM, List.take_succ_cons, List.take_zero, List.take_nil, List.map_cons, List.map_nil, Option.map_some, Option.map_none, MObj.kill, PV.kill, Nat.reduceLeDiff, decide_true, decide_false, dec_true, dec_false, Bool.false_eq_true, if_false, if_true, reduceIte, List.zip_cons_cons, List.zip_nil_left, Nat.le_refl, Nat.zero_le, Nat.not_le, Nat.lt_irrefl]; done) | (simp [trimE, trimM, MObj.kill, PV.kill]; done)), by omega, by omega⟩
    · have d4 : decide (p < 0) = false := by simp only [decide_eq_false_iff_not]; omega
      have hgp := kn_getD l p.toNat (by omega)
      have hgd : l.getD p.toNat default = l[p.toNat] := by simp [List.getD, show p.toNat < l.length by omega]
      rw [d4, hgd] at hst
      simp only [Bool.false_or] at hst
      generalize l[p.toNat] = k2 at hgp hst
      skip
      by_cases h5 : k2.n < k.n
      · have d5 : decide (k2.n < k.n) = true := by simpa using h5
        rw [d5] at hst
        simp only [if_true] at hst
        repeat' (first | exact True.intro | (refine PW.seqK ?_; intro K hK) | refine PW.block ?_ | refine PW.scope ?_ | refine PW.label ?_ | refine PW.exit ?_ | refine PW.ret ?_ | refine PW.skip ?_ | refine seqK_n (by assumption) ?_ | refine seqK_r (by assumption) ?_ | refine seqK_e (by assumption) ?_ | refine PW.regionA ?_ | exact schedW_stop_i | refine schK_n (by assumption) ?_ | (refine schedW_alt_k ?_ ?_; focus (intro K hK; simp only [hd, hlen, hg, hgp, d1, d4, d5, hc, SS, SS2, SS3, SS4, SS5, Option.map_some, Nat.reduceAdd, reduceIte, Nat.reduceEqDiff, Nat.reduceBEq, eq_self, implies_true, ne_eq, beq_self_eq_true, id_eq, reduceCtorEq]; (try go_unwrap; try simp only [hd, hlen, hg, hgp, d1, d4, d5, hc, RR, reduceCtorEq]))) | (refine PW.cond rfl ?_ ?_ <;> intro hcond <;> (try contradiction) <;> try simp only [decide_eq_true_eq, decide_eq_false_iff_not] at hcond) | (refine gd_i ?_; intro hg; try simp only [hg]) | ((first | show @LE.le Nat _ _ _ | show @LT.lt Nat _ _ _ | show @LE.le Int _ _ _ | show @LT.lt Int _ _ _ | show @Eq Nat _ _ | show @Eq Int _ _ | show @Eq Bool _ _ | show _ ∨ _ | show ¬ _); first | omega | (simp only [decide_eq_true_eq, decide_eq_false_iff_not, List.length_cons, List.length_nil, List.length_append, List.length_map, Sh.size] <;> omega) | (go_unwrap; omega)) | ((first | refine PW.region ?_ | refine PW.regionQ ?_ | refine schedW_done_i ?_ | show (_ : Post) _ _ _ | show @Eq (List PV) _ _ | show @Eq Bool _ _ | show opsW _ _ _ _ _ _ _ _ | show okAll _ | show @Eq Bool _ _ ∨ _); focus (simp only [hd, hlen, hg, hgp, d1, d4, d5, hc, SS, SS2, SS3, SS4, SS5, Option.map_some, Nat.reduceAdd, reduceIte, Nat.reduceEqDiff, Nat.reduceBEq, eq_self, implies_true, ne_eq, beq_self_eq_true, id_eq, reduceCtorEq]; (try go_unwrap; try simp only [hd, hlen, hg, hgp, d1, d4, d5, hc, RR, reduceCtorEq]))) | refine And.intro ?_ ?_ | exact Or.inr ⟨rfl, Nat.le_refl _⟩ | exact (fun h => Bool.noConfusion h))
        all_goals exact ⟨i + 1, (by rw [hst]; exact (by first | rfl | (simp only [trimE, trimM, List.take_succ_cons, List.take_zero, List.take_nil, List.map_cons, List.map_nil, Option.map_some, Option.map_none, MObj.kill, PV.kill, Nat.reduceLeDiff, decide_true, decide_false, dec_true, dec_false, Bool.false_eq_true, if_false, if_true, reduceIte, List.zip_cons_cons, List.zip_nil_left, Nat.le_refl, Nat.zero_le, Nat.not_le, Nat.lt_irrefl]; done) | (simp [trimE, trimM, MObj.kill, PV.kill]; done))), (by first | rfl | (simp only [trimE, trimM, List.take_succ_cons, List.take_zero, List.take_nil, List.map_cons, List.map_nil, Option.map_some, Option.map_none, MObj.kill, PV.kill, Nat.reduceLeDiff, decide_true, decide_false, dec_true, dec_false, Bool.false_eq_true, if_false, if_true, reduceIte, List.zip_cons_cons, List.zip_nil_left, Nat.le_refl, Nat.zero_le, Nat.not_le, Nat.lt_irrefl]; done) | (simp [trimE, trimM, MObj.kill, PV.kill]; done)), by omega, by omega⟩
      · have d5 : decide (k2.n < k.n) = false := by simpa using h5
        rw [d5] at hst
        simp only [Bool.false_eq_true, if_false] at hst
        repeat' (first | exact True.intro | (refine PW.seqK ?_; intro K hK) | refine PW.block ?_ | refine PW.scope ?_ | refine PW.label ?_ | refine PW.exit ?_ | refine PW.ret ?_ | refine PW.skip ?_ | refine seqK_n (by assumption) ?_ | refine seqK_r (by assumption) ?_ | refine seqK_e (by assumption) ?_ | refine PW.regionA ?_ | exact schedW_stop_i | refine schK_n (by assumption) ?_ | (refine schedW_alt_k ?_ ?_; focus (intro K hK; simp only [hd, hlen, hg, hgp, d1, d4, d5, hc, SS, SS2, SS3, SS4, SS5, Option.map_some, Nat.reduceAdd, reduceIte, Nat.reduceEqDiff, Nat.reduceBEq, eq_self, implies_true, ne_eq, beq_self_eq_true, id_eq, reduceCtorEq]; (try go_unwrap; try simp only [hd, hlen, hg, hgp, d1, d4, d5, hc, RR, reduceCtorEq]))) | (refine PW.cond rfl ?_ ?_ <;> intro hcond <;> (try contradiction) <;> try simp only [decide_eq_true_eq, decide_eq_false_iff_not] at hcond) | (refine gd_i ?_; intro hg; try simp only [hg]) | ((first | show @LE.le Nat _ _ _ | show @LT.lt Nat _ _ _ | show @LE.le Int _ _ _ | show @LT.lt Int _ _ _ | show @Eq Nat _ _ | show @Eq Int _ _ | show @Eq Bool _ _ | show _ ∨ _ | show ¬ _); first | omega | (simp only [decide_eq_true_eq, decide_eq_false_iff_not, List.length_cons, List.length_nil, List.length_append, List.length_map, Sh.size] <;> omega) | (go_unwrap; omega)) | ((first | refine PW.region ?_ | refine PW.regionQ ?_ | refine schedW_done_i ?_ | show (_ : Post) _ _ _ | show @Eq (List PV) _ _ | show @Eq Bool _ _ | show opsW _ _ _ _ _ _ _ _ | show okAll _ | show @Eq Bool _ _ ∨ _); focus (simp only [hd, hlen, hg, hgp, d1, d4, d5, hc, SS, SS2, SS3, SS4, SS5, Option.map_some, Nat.reduceAdd, reduceIte, Nat.reduceEqDiff, Nat.reduceBEq, eq_self, implies_true, ne_eq, beq_self_eq_true, id_eq, reduceCtorEq]; (try go_unwrap; try simp only [hd, hlen, hg, hgp, d1, d4, d5, hc, RR, reduceCtorEq]))) | refine And.intro ?_ ?_ | exact Or.inr ⟨rfl, Nat.le_refl _⟩ | exact (fun h => Bool.noConfusion h))
        all_goals exact ⟨i + 1, (by rw [hst]; exact (by first | rfl | (simp only [trimE, trimM, List.take_succ_cons, List.take_zero, List.take_nil, List.map_cons, List.map_nil, Option.map_some, Option.map_none, MObj.kill, PV.kill, Nat.reduceLeDiff, decide_true, decide_false, dec_true, dec_false, Bool.false_eq_true, if_false, if_true, reduceIte, List.zip_cons_cons, List.zip_nil_left, Nat.le_refl, Nat.zero_le, Nat.not_le, Nat.lt_irrefl]; done) | (simp [trimE, trimM, MObj.kill, PV.kill]; done))), (by first | rfl | (simp only [trimE, trimM, List.take_succ_cons, List.take_zero, List.take_nil, List.map_cons, List.map_nil, Option.map_some, Option.map_none, MObj.kill, PV.kill, Nat.reduceLeDiff, decide_true, decide_false, dec_true, dec_false, Bool.false_eq_true, if_false, if_true, reduceIte, List.zip_cons_cons, List.zip_nil_left, Nat.le_refl, Nat.zero_le, Nat.not_le, Nat.lt_irrefl]; done) | (simp [trimE, trimM, MObj.kill, PV.kill]; done)), by omega, by omega⟩
  · have hd : decide ((i : Int) < l.length) = false := by simp only [decide_eq_false_iff_not]; omega
    have hi' : i = l.length := by omega
    subst hi'
    repeat' (first | exact True.intro | (refine PW.seqK ?_; intro K hK) | refine PW.block ?_ | refine PW.scope ?_ | refine PW.label ?_ | refine PW.exit ?_ | refine PW.ret ?_ | refine PW.skip ?_ | refine seqK_n (by assumption) ?_ | refine seqK_r (by assumption) ?_ | refine seqK_e (by assumption) ?_ | refine PW.regionA ?_ | exact schedW_stop_i | refine schK_n (by assumption) ?_ | (refine schedW_alt_k ?_ ?_; focus (intro K hK; simp only [hd, hlen, SS, SS2, SS3, SS4, SS5, Option.map_some, Nat.reduceAdd, reduceIte, Nat.reduceEqDiff, Nat.reduceBEq, eq_self, implies_true, ne_eq, beq_self_eq_true, id_eq, reduceCtorEq]; (try go_unwrap; try simp only [hd, hlen, RR, reduceCtorEq]))) | (refine PW.cond rfl ?_ ?_ <;> intro hcond <;> (try contradiction) <;> try simp only [decide_eq_true_eq, decide_eq_false_iff_not] at hcond) | (refine gd_i ?_; intro hg; try simp only [hg]) | ((first | show @LE.le Nat _ _ _ | show @LT.lt Nat _ _ _ | show @LE.le Int _ _ _ | show @LT.lt Int _ _ _ | show @Eq Nat _ _ | show @Eq Int _ _ | show @Eq Bool _ _ | show _ ∨ _ | show ¬ _); first | omega | (simp only [decide_eq_true_eq, decide_eq_false_iff_not, List.length_cons, List.length_nil, List.length_append, List.length_map, Sh.size] <;> omega) | (go_unwrap; omega)) | ((first | refine PW.region ?_ | refine PW.regionQ ?_ | refine schedW_done_i ?_ | show (_ : Post) _ _ _ | show @Eq (List PV) _ _ | show @Eq Bool _ _ | show opsW _ _ _ _ _ _ _ _ | show okAll _ | show @Eq Bool _ _ ∨ _); focus (simp only [hd, hlen, SS, SS2, SS3, SS4, SS5, Option.map_some, Nat.reduceAdd, reduceIte, Nat.reduceEqDiff, Nat.reduceBEq, eq_self, implies_true, ne_eq, beq_self_eq_true, id_eq, reduceCtorEq]; (try go_unwrap; try simp only [hd, hlen, RR, reduceCtorEq]))) | refine And.intro ?_ ?_ | exact Or.inr ⟨rfl, Nat.le_refl _⟩ | exact (fun h => Bool.noConfusion h))
    rfl
/-! The value of a place -/
structure Vl where
  n : Int
  num : Int
  text : List UInt8
  deriving DecidableEq
def vlP (v : Vl) : PV := .agg [.int .i64 v.n, .int .i64 v.num, .str v.text]
def vl0 : Vl := ⟨0, 0, []⟩
def valM (l : List Kn) (p : Int) : Vl := if p < 0 then vl0 else ⟨(l.getD p.toNat default).n, (l.getD p.toNat default).f.num, (l.getD p.toNat default).f.text⟩
theorem v23 (l : List Kn) (p : Int) (h : p < l.length) : VCalls Tryz.prog G0 23 [linP l, .int .i64 p] (vlP (valM l p)) := by
  refine VCalls.of_PW Tryz.func23 k23 mix (by simp [c23]) ?_
  simp only [c23, L23, argE]
  have hlen : ((l.map knP).length : Nat) = l.length := by simp
  rcases Int.lt_or_le p 0 with h0 | h0
  · have d0 : decide (p < 0) = true := by simpa using h0
    rw [show valM l p = vl0 by simp [valM, h0]]
    simp only [vlP, vl0]
    repeat' (first | exact True.intro | (refine PW.seqK ?_; intro K hK) | refine PW.block ?_ | refine PW.scope ?_ | refine PW.label ?_ | refine PW.exit ?_ | refine PW.ret ?_ | refine PW.skip ?_ | refine seqK_n (by assumption) ?_ | refine seqK_r (by assumption) ?_ | refine seqK_e (by assumption) ?_ | refine PW.regionA ?_ | exact schedW_stop_i | refine schK_n (by assumption) ?_ | (refine schedW_alt_k ?_ ?_; focus (intro K hK; simp only [d0, hlen, SS, SS2, SS3, SS4, SS5, Option.map_some, Nat.reduceAdd, reduceIte, Nat.reduceEqDiff, Nat.reduceBEq, eq_self, implies_true, ne_eq, beq_self_eq_true, id_eq, reduceCtorEq]; (try go_unwrap; try simp only [d0, hlen, RR, reduceCtorEq]))) | (refine PW.cond rfl ?_ ?_ <;> intro hcond <;> (try contradiction) <;> try simp only [decide_eq_true_eq, decide_eq_false_iff_not] at hcond) | (refine gd_i ?_; intro hg; try simp only [hg]) | ((first | show @LE.le Nat _ _ _ | show @LT.lt Nat _ _ _ | show @LE.le Int _ _ _ | show @LT.lt Int _ _ _ | show @Eq Nat _ _ | show @Eq Int _ _ | show @Eq Bool _ _ | show _ ∨ _ | show ¬ _); first | omega | (simp only [decide_eq_true_eq, decide_eq_false_iff_not, List.length_cons, List.length_nil, List.length_append, List.length_map, Sh.size] <;> omega) | (go_unwrap; omega)) | ((first | refine PW.region ?_ | refine PW.regionQ ?_ | refine schedW_done_i ?_ | show (_ : Post) _ _ _ | show @Eq (List PV) _ _ | show @Eq Bool _ _ | show opsW _ _ _ _ _ _ _ _ | show okAll _ | show @Eq Bool _ _ ∨ _); focus (simp only [d0, hlen, SS, SS2, SS3, SS4, SS5, Option.map_some, Nat.reduceAdd, reduceIte, Nat.reduceEqDiff, Nat.reduceBEq, eq_self, implies_true, ne_eq, beq_self_eq_true, id_eq, reduceCtorEq]; (try go_unwrap; try simp only [d0, hlen, RR, reduceCtorEq]))) | refine And.intro ?_ ?_ | exact Or.inr ⟨rfl, Nat.le_refl _⟩ | exact (fun h => Bool.noConfusion h))
  · have d0 : decide (p < 0) = false := by simp only [decide_eq_false_iff_not]; omega
    have hg := kn_getD l p.toNat (by omega)
    have hgd : l.getD p.toNat default = l[p.toNat] := by simp [List.getD, show p.toNat < l.length by omega]
    have hv : valM l p = ⟨l[p.toNat].n, l[p.toNat].f.num, l[p.toNat].f.text⟩ := by
      unfold valM; rw [if_neg (by omega), hgd]
    rw [hv]
    generalize l[p.toNat] = k at hg
    skip
    simp only [vlP]
    repeat' (first | exact True.intro | (refine PW.seqK ?_; intro K hK) | refine PW.block ?_ | refine PW.scope ?_ | refine PW.label ?_ | refine PW.exit ?_ | refine PW.ret ?_ | refine PW.skip ?_ | refine seqK_n (by assumption) ?_ | refine seqK_r (by assumption) ?_ | refine seqK_e (by assumption) ?_ | refine PW.regionA ?_ | exact schedW_stop_i | refine schK_n (by assumption) ?_ | (refine schedW_alt_k ?_ ?_; focus (intro K hK; simp only [d0, hlen, hg, GC, SS, SS2, SS3, SS4, SS5, Option.map_some, Nat.reduceAdd, reduceIte, Nat.reduceEqDiff, Nat.reduceBEq, eq_self, implies_true, ne_eq, beq_self_eq_true, id_eq, reduceCtorEq]; (try go_unwrap; try simp only [d0, hlen, hg, GC, RR, reduceCtorEq]))) | (refine PW.cond rfl ?_ ?_ <;> intro hcond <;> (try contradiction) <;> try simp only [decide_eq_true_eq, decide_eq_false_iff_not] at hcond) | (refine gd_i ?_; intro hg; try simp only [hg]) | ((first | show @LE.le Nat _ _ _ | show @LT.lt Nat _ _ _ | show @LE.le Int _ _ _ | show @LT.lt Int _ _ _ | show @Eq Nat _ _ | show @Eq Int _ _ | show @Eq Bool _ _ | show _ ∨ _ | show ¬ _); first | omega | (simp only [decide_eq_true_eq, decide_eq_false_iff_not, List.length_cons, List.length_nil, List.length_append, List.length_map, Sh.size] <;> omega) | (go_unwrap; omega)) | ((first | refine PW.region ?_ | refine PW.regionQ ?_ | refine schedW_done_i ?_ | show (_ : Post) _ _ _ | show @Eq (List PV) _ _ | show @Eq Bool _ _ | show opsW _ _ _ _ _ _ _ _ | show okAll _ | show @Eq Bool _ _ ∨ _); focus (simp only [d0, hlen, hg, GC, SS, SS2, SS3, SS4, SS5, Option.map_some, Nat.reduceAdd, reduceIte, Nat.reduceEqDiff, Nat.reduceBEq, eq_self, implies_true, ne_eq, beq_self_eq_true, id_eq, reduceCtorEq]; (try go_unwrap; try simp only [d0, hlen, hg, GC, RR, reduceCtorEq]))) | refine And.intro ?_ ?_ | exact Or.inr ⟨rfl, Nat.le_refl _⟩ | exact (fun h => Bool.noConfusion h))
theorem placeM_in (l : List Kn) (d : Int) : -1 ≤ placeM l d ∧ placeM l d < l.length := placeN_in l d l.length
theorem v12 (l : List Kn) (hl : l.length ≤ 1000000000) (d : Int) : VCalls Tryz.prog G0 12 [linP l, .int .i64 d] (.tup [vlP (valM l (placeM l d)), .bool (decide (0 ≤ placeM l d))]) := by
  refine VCalls.of_PW Tryz.func12 k12 mix (by simp [c12]) ?_
  simp only [c12, L12, argE]
  have h22 := v22 l hl d
  have h23 := v23 l (placeM l d) (placeM_in l d).2
  simp only [vlP] at h23 ⊢
  generalize valM l (placeM l d) = v at h23 ⊢
  generalize placeM l d = p at h22 h23 ⊢
  repeat' (first | exact True.intro | (refine PW.seqK ?_; intro K hK) | refine PW.block ?_ | refine PW.scope ?_ | refine PW.label ?_ | refine PW.exit ?_ | refine PW.ret ?_ | refine PW.skip ?_ | refine seqK_n (by assumption) ?_ | refine seqK_r (by assumption) ?_ | refine seqK_e (by assumption) ?_ | refine PW.regionA ?_ | exact schedW_stop_i | refine schK_n (by assumption) ?_ | (refine schedW_alt_k ?_ ?_; focus (intro K hK; simp only [SS, SS2, SS3, SS4, SS5, Option.map_some, Nat.reduceAdd, reduceIte, Nat.reduceEqDiff, Nat.reduceBEq, eq_self, implies_true, ne_eq, beq_self_eq_true, id_eq, reduceCtorEq]; (try go_unwrap; try simp only [RR, reduceCtorEq]))) | (refine PW.cond rfl ?_ ?_ <;> intro hcond <;> (try contradiction) <;> try simp only [decide_eq_true_eq, decide_eq_false_iff_not] at hcond) | (refine gd_i ?_; intro hg; try simp only [hg]) | refine goCall_W e22 (h22) ?_ ?_ ?_ ?_ | refine goCall_W e23 (h23) ?_ ?_ ?_ ?_ | ((first | show @LE.le Nat _ _ _ | show @LT.lt Nat _ _ _ | show @LE.le Int _ _ _ | show @LT.lt Int _ _ _ | show @Eq Nat _ _ | show @Eq Int _ _ | show @Eq Bool _ _ | show _ ∨ _ | show ¬ _); first | omega | (simp only [decide_eq_true_eq, decide_eq_false_iff_not, List.length_cons, List.length_nil, List.length_append, List.length_map, Sh.size] <;> omega) | (go_unwrap; omega)) | ((first | refine PW.region ?_ | refine PW.regionQ ?_ | refine schedW_done_i ?_ | show (_ : Post) _ _ _ | show @Eq (List PV) _ _ | show @Eq Bool _ _ | show opsW _ _ _ _ _ _ _ _ | show okAll _ | show @Eq Bool _ _ ∨ _); focus (simp only [SS, SS2, SS3, SS4, SS5, Option.map_some, Nat.reduceAdd, reduceIte, Nat.reduceEqDiff, Nat.reduceBEq, eq_self, implies_true, ne_eq, beq_self_eq_true, id_eq, reduceCtorEq]; (try go_unwrap; try simp only [RR, reduceCtorEq]))) | refine And.intro ?_ ?_ | exact Or.inr ⟨rfl, Nat.le_refl _⟩ | exact (fun h => Bool.noConfusion h))
/-! Clones -/
theorem v19n : VCalls Tryz.prog G0 19 [.nilSl] .nilSl := by
  refine VCalls.of_PW Tryz.func19 k19 mix (by simp [c19]) ?_
  simp only [c19, L19, argE]
  repeat' (first | exact True.intro | (refine PW.seqK ?_; intro K hK) | refine PW.block ?_ | refine PW.scope ?_ | refine PW.label ?_ | refine PW.exit ?_ | refine PW.ret ?_ | refine PW.skip ?_ | refine seqK_n (by assumption) ?_ | refine seqK_r (by assumption) ?_ | refine seqK_e (by assumption) ?_ | refine PW.regionA ?_ | exact schedW_stop_i | refine schK_n (by assumption) ?_ | (refine schedW_alt_k ?_ ?_; focus (intro K hK; simp only [nilB, SS, SS2, SS3, SS4, SS5, Option.map_some, Nat.reduceAdd, reduceIte, Nat.reduceEqDiff, Nat.reduceBEq, eq_self, implies_true, ne_eq, beq_self_eq_true, id_eq, reduceCtorEq]; (try go_unwrap; try simp only [nilB, RR, reduceCtorEq]))) | (refine PW.cond rfl ?_ ?_ <;> intro hcond <;> (try contradiction) <;> try simp only [decide_eq_true_eq, decide_eq_false_iff_not] at hcond) | (refine gd_i ?_; intro hg; try simp only [hg]) | ((first | show @LE.le Nat _ _ _ | show @LT.lt Nat _ _ _ | show @LE.le Int _ _ _ | show @LT.lt Int _ _ _ | show @Eq Nat _ _ | show @Eq Int _ _ | show @Eq Bool _ _ | show _ ∨ _ | show ¬ _); first | omega | (simp only [decide_eq_true_eq, decide_eq_false_iff_not, List.length_cons, List.length_nil, List.length_append, List.length_map, Sh.size] <;> omega) | (go_unwrap; omega)) | ((first | refine PW.region ?_ | refine PW.regionQ ?_ | refine schedW_done_i ?_ | show (_ : Post) _ _ _ | show @Eq (List PV) _ _ | show @Eq Bool _ _ | show opsW _ _ _ _ _ _ _ _ | show okAll _ | show @Eq Bool _ _ ∨ _); focus (simp only [nilB, SS, SS2, SS3, SS4, SS5, Option.map_some, Nat.reduceAdd, reduceIte, Nat.reduceEqDiff, Nat.reduceBEq, eq_self, implies_true, ne_eq, beq_self_eq_true, id_eq, reduceCtorEq]; (try go_unwrap; try simp only [nilB, RR, reduceCtorEq]))) | refine And.intro ?_ ?_ | exact Or.inr ⟨rfl, Nat.le_refl _⟩ | exact (fun h => Bool.noConfusion h))
theorem v19 (l : List Kn) (hl : l.length ≤ 1000000000) (hn : l ≠ []) : VCalls Tryz.prog G0 19 [knL l] (knL l) := by
  refine VCalls.of_PW Tryz.func19 k19 mix (by simp [c19]) ?_
  simp only [c19, L19, argE]
  obtain ⟨x, l', rfl⟩ := List.exists_cons_of_ne_nil hn
  have hA : knL (x :: l') = .list (some 9) (knP x :: l'.map knP) := rfl
  simp only [hA]
  have hm : (knP x :: l'.map knP).length = l'.length + 1 := by simp
  simp only [List.length_cons] at hl
  have h1 : (l'.length + 1) * 80 ≤ 281474976710656 := by omega
  have h2 : l'.length + 1 ≤ 9223372036854775807 := by omega
  repeat' (first | exact True.intro | (refine PW.seqK ?_; intro K hK) | refine PW.block ?_ | refine PW.scope ?_ | refine PW.label ?_ | refine PW.exit ?_ | refine PW.ret ?_ | refine PW.skip ?_ | refine seqK_n (by assumption) ?_ | refine seqK_r (by assumption) ?_ | refine seqK_e (by assumption) ?_ | refine PW.regionA ?_ | exact schedW_stop_i | refine schK_n (by assumption) ?_ | (refine schedW_alt_k ?_ ?_; focus (intro K hK; simp only [hm, h1, h2, nilB, SS, SS2, SS3, SS4, SS5, Option.map_some, Nat.reduceAdd, reduceIte, Nat.reduceEqDiff, Nat.reduceBEq, eq_self, implies_true, ne_eq, beq_self_eq_true, id_eq, reduceCtorEq]; (try go_unwrap; try simp only [hm, h1, h2, nilB, RR, reduceCtorEq]))) | (refine PW.cond rfl ?_ ?_ <;> intro hcond <;> (try contradiction) <;> try simp only [decide_eq_true_eq, decide_eq_false_iff_not] at hcond) | (refine gd_i ?_; intro hg; try simp only [hg]) | ((first | show @LE.le Nat _ _ _ | show @LT.lt Nat _ _ _ | show @LE.le Int _ _ _ | show @LT.lt Int _ _ _ | show @Eq Nat _ _ | show @Eq Int _ _ | show @Eq Bool _ _ | show _ ∨ _ | show ¬ _); first | omega | (simp only [decide_eq_true_eq, decide_eq_false_iff_not, List.length_cons, List.length_nil, List.length_append, List.length_map, Sh.size] <;> omega) | (go_unwrap; omega)) | ((first | refine PW.region ?_ | refine PW.regionQ ?_ | refine schedW_done_i ?_ | show (_ : Post) _ _ _ | show @Eq (List PV) _ _ | show @Eq Bool _ _ | show opsW _ _ _ _ _ _ _ _ | show okAll _ | show @Eq Bool _ _ ∨ _); focus (simp only [hm, h1, h2, nilB, SS, SS2, SS3, SS4, SS5, Option.map_some, Nat.reduceAdd, reduceIte, Nat.reduceEqDiff, Nat.reduceBEq, eq_self, implies_true, ne_eq, beq_self_eq_true, id_eq, reduceCtorEq]; (try go_unwrap; try simp only [hm, h1, h2, nilB, RR, reduceCtorEq]))) | refine And.intro ?_ ?_ | exact Or.inr ⟨rfl, Nat.le_refl _⟩ | exact (fun h => Bool.noConfusion h))
  rw [if_pos (by simp)]
  refine congrArg _ ?_
  exact List.take_of_length_le (by simp)
def knW (l : List Kn) : PV := if l = [] then .nilSl else knL l
theorem v9 (l : List Kn) (hl : l.length ≤ 1000000000) : VCalls Tryz.prog G0 9 [knW l] (linP l) := by
  rcases Decidable.em (l = []) with h | h
  · subst h
    refine VCalls.res (p := .agg [.nilSl]) ?_ (.agg (.cons (.nil _) .nil))
    rw [show knW [] = .nilSl from rfl]
    refine VCalls.of_PW Tryz.func9 k9 mix (by simp [c9]) ?_
    simp only [c9, L9, argE]
    have h19 := v19n
    repeat' (first | exact True.intro | (refine PW.seqK ?_; intro K hK) | refine PW.block ?_ | refine PW.scope ?_ | refine PW.label ?_ | refine PW.exit ?_ | refine PW.ret ?_ | refine PW.skip ?_ | refine seqK_n (by assumption) ?_ | refine seqK_r (by assumption) ?_ | refine seqK_e (by assumption) ?_ | refine PW.regionA ?_ | exact schedW_stop_i | refine schK_n (by assumption) ?_ | (refine schedW_alt_k ?_ ?_; focus (intro K hK; simp only [SS, SS2, SS3, SS4, SS5, Option.map_some, Nat.reduceAdd, reduceIte, Nat.reduceEqDiff, Nat.reduceBEq, eq_self, implies_true, ne_eq, beq_self_eq_true, id_eq, reduceCtorEq]; (try go_unwrap; try simp only [RR, reduceCtorEq]))) | (refine PW.cond rfl ?_ ?_ <;> intro hcond <;> (try contradiction) <;> try simp only [decide_eq_true_eq, decide_eq_false_iff_not] at hcond) | (refine gd_i ?_; intro hg; try simp only [hg]) | refine goCall_W e19 (h19) ?_ ?_ ?_ ?_ | ((first | show @LE.le Nat _ _ _ | show @LT.lt Nat _ _ _ | show @LE.le Int _ _ _ | show @LT.lt Int _ _ _ | show @Eq Nat _ _ | show @Eq Int _ _ | show @Eq Bool _ _ | show _ ∨ _ | show ¬ _); first | omega | (simp only [decide_eq_true_eq, decide_eq_false_iff_not, List.length_cons, List.length_nil, List.length_append, List.length_map, Sh.size] <;> omega) | (go_unwrap; omega)) | ((first | refine PW.region ?_ | refine PW.regionQ ?_ | refine schedW_done_i ?_ | show (_ : Post) _ _ _ | show @Eq (List PV) _ _ | show @Eq Bool _ _ | show opsW _ _ _ _ _ _ _ _ | show okAll _ | show @Eq Bool _ _ ∨ _); focus (simp only [SS, SS2, SS3, SS4, SS5, Option.map_some, Nat.reduceAdd, reduceIte, Nat.reduceEqDiff, Nat.reduceBEq, eq_self, implies_true, ne_eq, beq_self_eq_true, id_eq, reduceCtorEq]; (try go_unwrap; try simp only [RR, reduceCtorEq]))) | refine And.intro ?_ ?_ | exact Or.inr ⟨rfl, Nat.le_refl _⟩ | exact (fun h => Bool.noConfusion h))
  · rw [show knW l = knL l by simp [knW, h]]
    refine VCalls.of_PW Tryz.func9 k9 mix (by simp [c9]) ?_
    simp only [c9, L9, argE]
    have h19 := v19 l hl h
    repeat' (first | exact True.intro | (refine PW.seqK ?_; intro K hK) | refine PW.block ?_ | refine PW.scope ?_ | refine PW.label ?_ | refine PW.exit ?_ | refine PW.ret ?_ | refine PW.skip ?_ | refine seqK_n (by assumption) ?_ | refine seqK_r (by assumption) ?_ | refine seqK_e (by assumption) ?_ | refine PW.regionA ?_ | exact schedW_stop_i | refine schK_n (by assumption) ?_ | (refine schedW_alt_k ?_ ?_; focus (intro K hK; simp only [SS, SS2, SS3, SS4, SS5, Option.map_some, Nat.reduceAdd, reduceIte, Nat.reduceEqDiff, Nat.reduceBEq, eq_self, implies_true, ne_eq, beq_self_eq_true, id_eq, reduceCtorEq]; (try go_unwrap; try simp only [RR, reduceCtorEq]))) | (refine PW.cond rfl ?_ ?_ <;> intro hcond <;> (try contradiction) <;> try simp only [decide_eq_true_eq, decide_eq_false_iff_not] at hcond) | (refine gd_i ?_; intro hg; try simp only [hg]) | refine goCall_W e19 (h19) ?_ ?_ ?_ ?_ | ((first | show @LE.le Nat _ _ _ | show @LT.lt Nat _ _ _ | show @LE.le Int _ _ _ | show @LT.lt Int _ _ _ | show @Eq Nat _ _ | show @Eq Int _ _ | show @Eq Bool _ _ | show _ ∨ _ | show ¬ _); first | omega | (simp only [decide_eq_true_eq, decide_eq_false_iff_not, List.length_cons, List.length_nil, List.length_append, List.length_map, Sh.size] <;> omega) | (go_unwrap; omega)) | ((first | refine PW.region ?_ | refine PW.regionQ ?_ | refine schedW_done_i ?_ | show (_ : Post) _ _ _ | show @Eq (List PV) _ _ | show @Eq Bool _ _ | show opsW _ _ _ _ _ _ _ _ | show okAll _ | show @Eq Bool _ _ ∨ _); focus (simp only [SS, SS2, SS3, SS4, SS5, Option.map_some, Nat.reduceAdd, reduceIte, Nat.reduceEqDiff, Nat.reduceBEq, eq_self, implies_true, ne_eq, beq_self_eq_true, id_eq, reduceCtorEq]; (try go_unwrap; try simp only [RR, reduceCtorEq]))) | refine And.intro ?_ ?_ | exact Or.inr ⟨rfl, Nat.le_refl _⟩ | exact (fun h => Bool.noConfusion h))
end Go.Proofs.YtcdfmdngnidpaaaGreatDoor

namespace Go.Proofs.YtcdfmdngnidpaaaGreatDoor
open PG Go.Proofs
-- wagebook/wagebooktop.TopKnown
def L4d : List Nat := [0, 1, 2, 6, 7, 8, 9, 10, 11, 13, 14, 15, 16, 18, 26, 56, 57, 58, 59, 60, 72, 75, 76, 89]
def c4d : CF := ⟨107,
  .seq (.region false [⟨some 6, none, .rd .mov [.pv (.bool false)]⟩] L4d)
  (.seq (.seq (.region false [⟨some 17, none, .call (.pv (.fn 6 [] [])) []⟩,
      ⟨some 18, none, .rd (.un .not) [.tmp 17]⟩] L4d)
   (.cond (.tmp 18)
    (.seq (.region false [⟨some 6, none, .rd .mov [.pv (.bool false)]⟩] L4d)
     (.ret))
    (.skip)))
  (.seq (.seq (.region false [⟨some 19, none, .rd .mov [.tmp 0]⟩,
      ⟨some 20, none, .rd .lenL [.tmp 19]⟩,
      ⟨some 21, none, .rd (.bin .gtr) [.tmp 20, .pv (.int .i64 40)]⟩,
      ⟨some 22, none, .rd .mov [.tmp 21]⟩,
      ⟨some 23, some (22, false), .rd .mov [.tmp 2]⟩,
      ⟨some 24, some (22, false), .rd .lenL [.tmp 23]⟩,
      ⟨some 25, some (22, false), .rd (.bin .gtr) [.tmp 24, .pv (.int .i64 40)]⟩,
      ⟨some 26, none, .rd .pick [.tmp 22, .pv (.bool true), .tmp 25]⟩] L4d)
   (.cond (.tmp 26)
    (.seq (.region false [⟨some 6, none, .rd .mov [.pv (.bool true)]⟩] L4d)
     (.ret))
    (.skip)))
  (.seq (.region false [⟨some 27, none, .rd .mov [.tmp 1]⟩,
     ⟨some 28, none, .rd (.conv .i64) [.tmp 27]⟩,
     ⟨some 29, none, .rd .mov [.tmp 0]⟩,
     ⟨some 30, none, .rd .lenL [.tmp 29]⟩,
     ⟨some 31, none, .rd (.bin .add) [.tmp 30, .pv (.int .i64 1)]⟩,
     ⟨some 32, none, .rd (.bin .rem) [.tmp 28, .tmp 31]⟩,
     ⟨some 7, none, .rd .mov [.tmp 32]⟩] L4d)
  (.seq (.region false [⟨some 34, none, .rd .mov [.tmp 0]⟩,
     ⟨some 35, none, .rd .mov [.tmp 7]⟩,
     ⟨some 36, none, .rd (.slc (some 5) false true false) [.tmp 34, .tmp 35]⟩,
     ⟨some 37, none, .call (.pv (.fn 8 [] [])) [.tmp 36]⟩,
     ⟨some 33, none, .rd .mov [.tmp 37]⟩,
     ⟨some 38, none, .rd (.ext 0) [.tmp 33]⟩,
     ⟨some 39, none, .rd (.ext 1) [.tmp 33]⟩,
     ⟨some 8, none, .eff (.alloc (some 1) (.agg [.nilSl])) []⟩,
     ⟨none, none, .eff (.store (some 1)) [.tmp 8, .tmp 38]⟩,
     ⟨some 9, none, .rd .mov [.tmp 39]⟩] L4d)
  (.seq (.region false [⟨some 41, none, .rd .mov [.tmp 0]⟩,
     ⟨some 42, none, .call (.pv (.fn 8 [] [])) [.tmp 41]⟩,
     ⟨some 40, none, .rd .mov [.tmp 42]⟩,
     ⟨some 43, none, .rd (.ext 0) [.tmp 40]⟩,
     ⟨some 44, none, .rd (.ext 1) [.tmp 40]⟩,
     ⟨some 10, none, .eff (.alloc (some 1) (.agg [.nilSl])) []⟩,
     ⟨none, none, .eff (.store (some 1)) [.tmp 10, .tmp 43]⟩,
     ⟨some 11, none, .rd .mov [.tmp 44]⟩] L4d)
  (.seq (.seq (.region false [⟨some 45, none, .rd .mov [.tmp 9]⟩,
      ⟨some 46, none, .rd (.un .not) [.tmp 45]⟩,
      ⟨some 47, none, .rd .mov [.tmp 46]⟩,
      ⟨some 48, some (47, false), .rd .mov [.tmp 11]⟩,
      ⟨some 49, some (47, false), .rd (.un .not) [.tmp 48]⟩,
      ⟨some 50, none, .rd .pick [.tmp 47, .pv (.bool true), .tmp 49]⟩,
      ⟨some 51, none, .rd .mov [.tmp 50]⟩,
      ⟨some 52, some (51, false), .rd (.load (some 1)) [.tmp 8]⟩,
      ⟨some 53, some (51, false), .call (.pv (.fn 13 [] [])) [.tmp 52]⟩,
      ⟨some 54, some (51, false), .rd .mov [.tmp 7]⟩,
      ⟨some 55, some (51, false), .rd (.bin .neq) [.tmp 53, .tmp 54]⟩,
      ⟨some 56, none, .rd .pick [.tmp 51, .pv (.bool true), .tmp 55]⟩] L4d)
   (.cond (.tmp 56)
    (.seq (.region false [⟨some 6, none, .rd .mov [.pv (.bool false)]⟩] L4d)
     (.ret))
    (.skip)))
  (.seq (.seq (.region false [⟨some 57, none, .rd .mov [.tmp 2]⟩,
      ⟨some 58, none, .rd .lenL [.tmp 57]⟩,
      ⟨some 59, none, .rd .mov [.pv (.int .i64 0)]⟩] L4d)
   (.block 0
    (.loop
      (.seq (.region false [⟨some 60, none, .rd (.bin .lss) [.tmp 59, .tmp 58]⟩] L4d)
       (.seq (.cond (.tmp 60)
         (.skip)
         (.exit 0))
       (.seq (.block 1
         (.seq (.region false [⟨some 61, none, .rd (.idxAddr none) [.tmp 57, .tmp 59]⟩,
             ⟨some 62, none, .rd (.load none) [.tmp 61]⟩,
             ⟨some 13, none, .rd .mov [.tmp 62]⟩] L4d)
          (.seq (.region false [⟨some 64, none, .rd (.load (some 1)) [.tmp 10]⟩,
             ⟨some 65, none, .rd .mov [.tmp 13]⟩,
             ⟨some 66, none, .rd (.conv .i64) [.tmp 65]⟩,
             ⟨some 67, none, .rd (.build [(.int .u32 0), (.int .u32 0), (.int .i64 0), (.int .i64 0), (.int .i64 0), (.str []), (.int .i64 0), (.str [])] [(2, 1), (6, 1)]) [.pv (.int .i64 18), .tmp 66]⟩,
             ⟨some 68, none, .call (.pv (.fn 14 [] [])) [.tmp 64, .tmp 67]⟩,
             ⟨some 63, none, .rd .mov [.tmp 68]⟩,
             ⟨some 69, none, .rd (.ext 0) [.tmp 63]⟩,
             ⟨some 70, none, .rd (.ext 1) [.tmp 63]⟩,
             ⟨some 14, none, .eff (.alloc (some 1) (.agg [.nilSl])) []⟩,
             ⟨none, none, .eff (.store (some 1)) [.tmp 14, .tmp 69]⟩,
             ⟨some 15, none, .rd .mov [.tmp 70]⟩] L4d)
          (.seq (.region false [⟨some 71, none, .rd .mov [.tmp 15]⟩,
             ⟨some 72, none, .rd (.bin .eql) [.tmp 71, .pv (.int .i64 0)]⟩] L4d)
          (.cond (.tmp 72)
           (.region false [⟨some 73, none, .rd (.load (some 1)) [.tmp 14]⟩,
              ⟨none, none, .eff (.store (some 1)) [.tmp 10, .tmp 73]⟩] L4d)
           (.skip))))))
       (.region false [⟨some 74, none, .rd (.bin .add) [.tmp 59, .pv (.int .i64 1)]⟩,
         ⟨some 59, none, .rd .mov [.tmp 74]⟩] L4d)))))))
  (.seq (.seq (.region false [⟨some 75, none, .rd .mov [.pv (.int .u32 0)]⟩] L4d)
   (.block 2
    (.loop
      (.seq (.region false [⟨some 76, none, .rd (.bin .lss) [.tmp 75, .pv (.int .u32 258)]⟩] L4d)
       (.seq (.cond (.tmp 76)
         (.skip)
         (.exit 2))
       (.seq (.block 3
         (.seq (.region false [⟨some 77, none, .rd .mov [.tmp 75]⟩,
             ⟨some 16, none, .rd .mov [.tmp 77]⟩] L4d)
          (.seq (.regionA (.alt [⟨some 79, none, .rd .mov [.tmp 7]⟩,
              ⟨some 81, none, .rd .mov [.tmp 16]⟩,
              ⟨some 84, none, .rd .mov [.tmp 7]⟩,
              ⟨some 86, none, .rd .mov [.tmp 16]⟩]
             (.alt [⟨some 78, none, .rd (.load (some 1)) [.tmp 8]⟩]
              (.alt [⟨some 80, none, .call (.pv (.fn 10 [] [])) [.tmp 78, .tmp 79]⟩]
               (.alt [⟨some 82, none, .call (.pv (.fn 11 [] [])) [.tmp 80, .tmp 81, .pv (.int .i64 2)]⟩,
                 ⟨some 83, none, .rd (.load (some 1)) [.tmp 10]⟩,
                 ⟨some 85, none, .call (.pv (.fn 10 [] [])) [.tmp 83, .tmp 84]⟩,
                 ⟨some 87, none, .call (.pv (.fn 11 [] [])) [.tmp 85, .tmp 86, .pv (.int .i64 2)]⟩,
                 ⟨some 88, none, .call (.pv (.fn 15 [] [])) [.tmp 82, .tmp 87]⟩,
                 ⟨some 89, none, .rd (.un .not) [.tmp 88]⟩]
                .done
                (.alt [⟨some 83, none, .rd (.load (some 1)) [.tmp 10]⟩,
                  ⟨some 82, none, .call (.pv (.fn 11 [] [])) [.tmp 80, .tmp 81, .pv (.int .i64 2)]⟩,
                  ⟨some 85, none, .call (.pv (.fn 10 [] [])) [.tmp 83, .tmp 84]⟩,
                  ⟨some 87, none, .call (.pv (.fn 11 [] [])) [.tmp 85, .tmp 86, .pv (.int .i64 2)]⟩,
                  ⟨some 88, none, .call (.pv (.fn 15 [] [])) [.tmp 82, .tmp 87]⟩,
                  ⟨some 89, none, .rd (.un .not) [.tmp 88]⟩]
                 .done
                 .stop))
               (.alt [⟨some 83, none, .rd (.load (some 1)) [.tmp 10]⟩,
                 ⟨some 80, none, .call (.pv (.fn 10 [] [])) [.tmp 78, .tmp 79]⟩,
                 ⟨some 82, none, .call (.pv (.fn 11 [] [])) [.tmp 80, .tmp 81, .pv (.int .i64 2)]⟩,
                 ⟨some 85, none, .call (.pv (.fn 10 [] [])) [.tmp 83, .tmp 84]⟩,
                 ⟨some 87, none, .call (.pv (.fn 11 [] [])) [.tmp 85, .tmp 86, .pv (.int .i64 2)]⟩,
                 ⟨some 88, none, .call (.pv (.fn 15 [] [])) [.tmp 82, .tmp 87]⟩,
                 ⟨some 89, none, .rd (.un .not) [.tmp 88]⟩]
                .done
                .stop))
              (.alt [⟨some 83, none, .rd (.load (some 1)) [.tmp 10]⟩,
                ⟨some 78, none, .rd (.load (some 1)) [.tmp 8]⟩,
                ⟨some 80, none, .call (.pv (.fn 10 [] [])) [.tmp 78, .tmp 79]⟩,
                ⟨some 82, none, .call (.pv (.fn 11 [] [])) [.tmp 80, .tmp 81, .pv (.int .i64 2)]⟩,
                ⟨some 85, none, .call (.pv (.fn 10 [] [])) [.tmp 83, .tmp 84]⟩,
                ⟨some 87, none, .call (.pv (.fn 11 [] [])) [.tmp 85, .tmp 86, .pv (.int .i64 2)]⟩,
                ⟨some 88, none, .call (.pv (.fn 15 [] [])) [.tmp 82, .tmp 87]⟩,
                ⟨some 89, none, .rd (.un .not) [.tmp 88]⟩]
               .done
               .stop))
             .stop) L4d)
          (.cond (.tmp 89)
           (.seq (.region false [⟨some 6, none, .rd .mov [.pv (.bool false)]⟩] L4d)
            (.ret))
           (.skip)))))
       (.region false [⟨some 90, none, .rd (.bin .add) [.tmp 75, .pv (.int .u32 1)]⟩,
         ⟨some 75, none, .rd .mov [.tmp 90]⟩] L4d)))))))
  (.seq (.regionA (.alt [⟨some 93, none, .rd .mov [.tmp 0]⟩,
      ⟨some 94, none, .rd .lenL [.tmp 93]⟩,
      ⟨some 91, none, .rd (.load (some 1)) [.tmp 10]⟩,
      ⟨some 92, none, .call (.pv (.fn 13 [] [])) [.tmp 91]⟩,
      ⟨some 95, none, .rd (.bin .geq) [.tmp 92, .tmp 94]⟩,
      ⟨some 96, none, .rd .mov [.tmp 95]⟩,
      ⟨some 98, some (96, true), .rd .mov [.tmp 7]⟩,
      ⟨some 102, some (96, true), .rd .mov [.tmp 7]⟩]
     (.alt [⟨some 97, some (96, true), .rd (.load (some 1)) [.tmp 10]⟩]
      (.alt [⟨some 99, some (96, true), .call (.pv (.fn 10 [] [])) [.tmp 97, .tmp 98]⟩]
       (.alt [⟨some 100, some (96, true), .call (.pv (.fn 16 [] [])) [.tmp 99]⟩,
         ⟨some 101, some (96, true), .rd (.load (some 1)) [.tmp 8]⟩,
         ⟨some 103, some (96, true), .call (.pv (.fn 10 [] [])) [.tmp 101, .tmp 102]⟩,
         ⟨some 104, some (96, true), .call (.pv (.fn 16 [] [])) [.tmp 103]⟩,
         ⟨some 105, some (96, true), .rd (.bin .eql) [.tmp 100, .tmp 104]⟩,
         ⟨some 106, none, .rd .pick [.tmp 96, .tmp 105, .pv (.bool false)]⟩,
         ⟨some 6, none, .rd .mov [.tmp 106]⟩]
        .done
        (.alt [⟨some 101, some (96, true), .rd (.load (some 1)) [.tmp 8]⟩,
          ⟨some 100, some (96, true), .call (.pv (.fn 16 [] [])) [.tmp 99]⟩,
          ⟨some 103, some (96, true), .call (.pv (.fn 10 [] [])) [.tmp 101, .tmp 102]⟩,
          ⟨some 104, some (96, true), .call (.pv (.fn 16 [] [])) [.tmp 103]⟩,
          ⟨some 105, some (96, true), .rd (.bin .eql) [.tmp 100, .tmp 104]⟩,
          ⟨some 106, none, .rd .pick [.tmp 96, .tmp 105, .pv (.bool false)]⟩,
          ⟨some 6, none, .rd .mov [.tmp 106]⟩]
         .done
         .stop))
       (.alt [⟨some 101, some (96, true), .rd (.load (some 1)) [.tmp 8]⟩,
         ⟨some 99, some (96, true), .call (.pv (.fn 10 [] [])) [.tmp 97, .tmp 98]⟩,
         ⟨some 100, some (96, true), .call (.pv (.fn 16 [] [])) [.tmp 99]⟩,
         ⟨some 103, some (96, true), .call (.pv (.fn 10 [] [])) [.tmp 101, .tmp 102]⟩,
         ⟨some 104, some (96, true), .call (.pv (.fn 16 [] [])) [.tmp 103]⟩,
         ⟨some 105, some (96, true), .rd (.bin .eql) [.tmp 100, .tmp 104]⟩,
         ⟨some 106, none, .rd .pick [.tmp 96, .tmp 105, .pv (.bool false)]⟩,
         ⟨some 6, none, .rd .mov [.tmp 106]⟩]
        .done
        .stop))
      (.alt [⟨some 101, some (96, true), .rd (.load (some 1)) [.tmp 8]⟩,
        ⟨some 97, some (96, true), .rd (.load (some 1)) [.tmp 10]⟩,
        ⟨some 99, some (96, true), .call (.pv (.fn 10 [] [])) [.tmp 97, .tmp 98]⟩,
        ⟨some 100, some (96, true), .call (.pv (.fn 16 [] [])) [.tmp 99]⟩,
        ⟨some 103, some (96, true), .call (.pv (.fn 10 [] [])) [.tmp 101, .tmp 102]⟩,
        ⟨some 104, some (96, true), .call (.pv (.fn 16 [] [])) [.tmp 103]⟩,
        ⟨some 105, some (96, true), .rd (.bin .eql) [.tmp 100, .tmp 104]⟩,
        ⟨some 106, none, .rd .pick [.tmp 96, .tmp 105, .pv (.bool false)]⟩,
        ⟨some 6, none, .rd .mov [.tmp 106]⟩]
       .done
       .stop))
     .stop) L4d)
  (.ret)))))))))),
  [.tmp 6]⟩

-- wagebook/wagebooktop.TopTwice
theorem k4d : compileF Tryz.prog [999999] L4d Tryz.f4 = some c4d := by kernel_rfl
end Go.Proofs.YtcdfmdngnidpaaaGreatDoor

