import Derived.Test.YtjcoenideicmbaaProg
import Derived.KernelRfl
import Derived.Test.YtjcoenideicmbaaQ10
import Derived.Test.YtjcoenideicmbaaP3
namespace Go.Proofs.Ytjcoenideicmbaa
open Go PG Go.Proofs
set_option linter.unusedSimpArgs false
set_option linter.unusedVariables false
set_option maxHeartbeats 4000000
set_option maxRecDepth 100000
def shrB (k : Kn) : Bool := decide (k.code.length ≤ 300) && decide (k.text.length ≤ 300)
def shM (l : List Kn) : Bool := (l.take 40).all shrB && decide (l.length ≤ 40)
theorem v33 (l : List Kn) (hl : l.length ≤ 9223372036854775807) : VCalls Try.prog G0 33 [rkL l] (.bool (shM l)) := by
  refine VCalls.of_PW Try.func33 k33 mix (by simp [c33]) ?_
  simp only [c33, L33, argE]
  have hlen : ((l.map rkP).length : Nat) = l.length := by simp
  repeat' (first | exact True.intro | (refine PW.seqK ?_; intro K hK) | refine PW.block ?_ | refine PW.exit ?_ | refine PW.ret ?_ | refine PW.skip ?_ | refine seqK_n (by assumption) ?_ | refine seqK_r (by assumption) ?_ | refine seqK_e (by assumption) ?_ | refine PW.regionA ?_ | exact schedW_stop_i | refine schK_n (by assumption) ?_ | (refine schedW_alt_k ?_ ?_; focus (intro K hK; simp only [hlen, SS, SS2, SS3, SS4, Option.map_some, Bool.not_false, Bool.not_true, gArgs, gOk, Nat.reduceAdd, PV.shift, MObj.shift, rdV, rdD, reduceIte, Nat.reduceEqDiff, Nat.reduceBEq, PV.bin, PV.binOk, binI, binS, PV.withInt, PV.withIntP, okAll, PV.under, PV.okUnder, eq_self, implies_true, deadOk, ne_eq, allOk, RVar.val, RVar.ok, retV, PV.seen, PV.view, beq_self_eq_true, PV.flat, PV.noOwn, id_eq, behind, PV.kill, MObj.kill, killTag, reduceCtorEq, nilB]; (try go_unwrap; try simp only [hlen, toNat_add2, toNat_add1, Int.toNat_natCast, Bool.false_and, Bool.true_and, true_implies, true_and, Bool.false_eq_true, reduceCtorEq, false_implies, Bool.not_false, Bool.not_true, Bool.true_or, Bool.false_or]))) | (refine PW.cond rfl ?_ ?_ <;> intro hcond <;> (try contradiction) <;> try simp only [decide_eq_true_eq, decide_eq_false_iff_not] at hcond) | (refine gd_i ?_; intro hg; try simp only [hg]) | ((first | show @LE.le Nat _ _ _ | show @LT.lt Nat _ _ _ | show @LE.le Int _ _ _ | show @LT.lt Int _ _ _ | show @Eq Nat _ _ | show @Eq Int _ _ | show @Eq Bool _ _ | show _ ∨ _ | show ¬ _); first | omega | (simp only [decide_eq_true_eq, decide_eq_false_iff_not, List.length_cons, List.length_nil, List.length_append, List.length_map, Sh.size] <;> omega) | (go_unwrap; omega)) | ((first | refine PW.region ?_ | refine PW.regionQ ?_ | refine schedW_done_i ?_ | show (_ : Post) _ _ _ | show @Eq (List PV) _ _ | show @Eq Bool _ _ | show opsW _ _ _ _ _ _ _ _ | show okAll _ | show @Eq Bool _ _ ∨ _); focus (simp only [hlen, SS, SS2, SS3, SS4, Option.map_some, Bool.not_false, Bool.not_true, gArgs, gOk, Nat.reduceAdd, PV.shift, MObj.shift, rdV, rdD, reduceIte, Nat.reduceEqDiff, Nat.reduceBEq, PV.bin, PV.binOk, binI, binS, PV.withInt, PV.withIntP, okAll, PV.under, PV.okUnder, eq_self, implies_true, deadOk, ne_eq, allOk, RVar.val, RVar.ok, retV, PV.seen, PV.view, beq_self_eq_true, PV.flat, PV.noOwn, id_eq, behind, PV.kill, MObj.kill, killTag, reduceCtorEq, nilB]; (try go_unwrap; try simp only [hlen, toNat_add2, toNat_add1, Int.toNat_natCast, Bool.false_and, Bool.true_and, true_implies, true_and, Bool.false_eq_true, reduceCtorEq, false_implies, Bool.not_false, Bool.not_true, Bool.true_or, Bool.false_or]))) | refine And.intro ?_ ?_ | exact Or.inr ⟨rfl, Nat.le_refl _⟩ | exact (fun h => Bool.noConfusion h))
  refine PW.loopG (σ := Nat) 0 (fun _ _ => rfl) [0, 2, 3] (fun i => [rkL l, .bool false, .int .i64 i]) (fun _ => []) (fun i => i ≤ l.length ∧ i ≤ 40 ∧ ∀ j (h : j < l.length), j < i → shrB l[j] = true) (fun i => l.length - i) 0 ?_ rfl ⟨by omega, by omega, fun j _ h => by omega⟩ ?_
  · simp only [SS, SS2, SS3, SS4, Option.map_some, Bool.not_false, Bool.not_true, gArgs, gOk, Nat.reduceAdd, PV.shift, MObj.shift, rdV, rdD, reduceIte, Nat.reduceEqDiff, Nat.reduceBEq, PV.bin, PV.binOk, binI, binS, PV.withInt, PV.withIntP, okAll, PV.under, PV.okUnder, eq_self, implies_true, deadOk, ne_eq, allOk, RVar.val, RVar.ok, retV, PV.seen, PV.view, beq_self_eq_true, PV.flat, PV.noOwn, id_eq, behind, PV.kill, MObj.kill, killTag, reduceCtorEq, nilB]; rfl
  rintro i ⟨hi, hi4, hall⟩
  simp only [List.zip_cons_cons, List.zip_nil_left]
  by_cases hc : i < l.length ∧ i < 40
  · obtain ⟨h1, h2⟩ := hc
    have hd : decide ((i : Int) < l.length) = true := by simp only [decide_eq_true_eq]; omega
    have hd2 : decide ((i : Int) < 40) = true := by simp only [decide_eq_true_eq]; omega
    have hg := rk_getD l i h1
    have hx : shrB l[i] = false → shM l = false := by
      intro hf
      unfold shM
      have : (l.take 40).all shrB = false := by
        rw [List.all_eq_false]
        refine ⟨l[i], ?_, by rw [hf]; simp⟩
        rw [List.mem_iff_getElem]
        exact ⟨i, by simp; omega, by simp⟩
      rw [this]; rfl
    have hn : shrB l[i] = true → ∀ j (h : j < l.length), j < i + 1 → shrB l[j] = true := by
      intro ht j hj hji
      rcases Nat.lt_or_ge j i with h | h
      · exact hall j hj h
      · have : j = i := by omega
        subst this; exact ht
    have hs : shrB l[i] = (decide (l[i].code.length ≤ 300) && decide (l[i].text.length ≤ 300)) := rfl
    rw [hs] at hx hn
    clear hs
    generalize l[i] = k at hg hx hn
    simp only [rkP] at hg
    by_cases c1 : k.code.length ≤ 300
    case neg =>
      have d1 : decide ((300 : Int) < k.code.length) = true := by simp only [decide_eq_true_eq]; omega
      have hX := hx (by simp [c1])
      repeat' (first | exact True.intro | (refine PW.seqK ?_; intro K hK) | refine PW.block ?_ | refine PW.exit ?_ | refine PW.ret ?_ | refine PW.skip ?_ | refine seqK_n (by assumption) ?_ | refine seqK_r (by assumption) ?_ | refine seqK_e (by assumption) ?_ | refine PW.regionA ?_ | exact schedW_stop_i | refine schK_n (by assumption) ?_ | (refine schedW_alt_k ?_ ?_; focus (intro K hK; simp only [hd, hd2, hlen, hg, d1, getC4, getC5, getC6, SS, SS2, SS3, SS4, Option.map_some, Bool.not_false, Bool.not_true, gArgs, gOk, Nat.reduceAdd, PV.shift, MObj.shift, rdV, rdD, reduceIte, Nat.reduceEqDiff, Nat.reduceBEq, PV.bin, PV.binOk, binI, binS, PV.withInt, PV.withIntP, okAll, PV.under, PV.okUnder, eq_self, implies_true, deadOk, ne_eq, allOk, RVar.val, RVar.ok, retV, PV.seen, PV.view, beq_self_eq_true, PV.flat, PV.noOwn, id_eq, behind, PV.kill, MObj.kill, killTag, reduceCtorEq, nilB]; (try go_unwrap; try simp only [hd, hd2, hlen, hg, d1, getC4, getC5, getC6, toNat_add2, toNat_add1, Int.toNat_natCast, Bool.false_and, Bool.true_and, true_implies, true_and, Bool.false_eq_true, reduceCtorEq, false_implies, Bool.not_false, Bool.not_true, Bool.true_or, Bool.false_or]))) | (refine PW.cond rfl ?_ ?_ <;> intro hcond <;> (try contradiction) <;> try simp only [decide_eq_true_eq, decide_eq_false_iff_not] at hcond) | (refine gd_i ?_; intro hg; try simp only [hg]) | ((first | show @LE.le Nat _ _ _ | show @LT.lt Nat _ _ _ | show @LE.le Int _ _ _ | show @LT.lt Int _ _ _ | show @Eq Nat _ _ | show @Eq Int _ _ | show @Eq Bool _ _ | show _ ∨ _ | show ¬ _); first | omega | (simp only [decide_eq_true_eq, decide_eq_false_iff_not, List.length_cons, List.length_nil, List.length_append, List.length_map, Sh.size] <;> omega) | (go_unwrap; omega)) | ((first | refine PW.region ?_ | refine PW.regionQ ?_ | refine schedW_done_i ?_ | show (_ : Post) _ _ _ | show @Eq (List PV) _ _ | show @Eq Bool _ _ | show opsW _ _ _ _ _ _ _ _ | show okAll _ | show @Eq Bool _ _ ∨ _); focus (simp only [hd, hd2, hlen, hg, d1, getC4, getC5, getC6, SS, SS2, SS3, SS4, Option.map_some, Bool.not_false, Bool.not_true, gArgs, gOk, Nat.reduceAdd, PV.shift, MObj.shift, rdV, rdD, reduceIte, Nat.reduceEqDiff, Nat.reduceBEq, PV.bin, PV.binOk, binI, binS, PV.withInt, PV.withIntP, okAll, PV.under, PV.okUnder, eq_self, implies_true, deadOk, ne_eq, allOk, RVar.val, RVar.ok, retV, PV.seen, PV.view, beq_self_eq_true, PV.flat, PV.noOwn, id_eq, behind, PV.kill, MObj.kill, killTag, reduceCtorEq, nilB]; (try go_unwrap; try simp only [hd, hd2, hlen, hg, d1, getC4, getC5, getC6, toNat_add2, toNat_add1, Int.toNat_natCast, Bool.false_and, Bool.true_and, true_implies, true_and, Bool.false_eq_true, reduceCtorEq, false_implies, Bool.not_false, Bool.not_true, Bool.true_or, Bool.false_or]))) | refine And.intro ?_ ?_ | exact Or.inr ⟨rfl, Nat.le_refl _⟩ | exact (fun h => Bool.noConfusion h))
      all_goals (rw [hX])
    have d1 : decide ((300 : Int) < k.code.length) = false := by simp only [decide_eq_false_iff_not]; omega
    by_cases c2 : k.text.length ≤ 300
    case neg =>
      have d2 : decide ((300 : Int) < k.text.length) = true := by simp only [decide_eq_true_eq]; omega
      have hX := hx (by simp [c2])
      repeat' (first | exact True.intro | (refine PW.seqK ?_; intro K hK) | refine PW.block ?_ | refine PW.exit ?_ | refine PW.ret ?_ | refine PW.skip ?_ | refine seqK_n (by assumption) ?_ | refine seqK_r (by assumption) ?_ | refine seqK_e (by assumption) ?_ | refine PW.regionA ?_ | exact schedW_stop_i | refine schK_n (by assumption) ?_ | (refine schedW_alt_k ?_ ?_; focus (intro K hK; simp only [hd, hd2, hlen, hg, d1, d2, getC4, getC5, getC6, SS, SS2, SS3, SS4, Option.map_some, Bool.not_false, Bool.not_true, gArgs, gOk, Nat.reduceAdd, PV.shift, MObj.shift, rdV, rdD, reduceIte, Nat.reduceEqDiff, Nat.reduceBEq, PV.bin, PV.binOk, binI, binS, PV.withInt, PV.withIntP, okAll, PV.under, PV.okUnder, eq_self, implies_true, deadOk, ne_eq, allOk, RVar.val, RVar.ok, retV, PV.seen, PV.view, beq_self_eq_true, PV.flat, PV.noOwn, id_eq, behind, PV.kill, MObj.kill, killTag, reduceCtorEq, nilB]; (try go_unwrap; try simp only [hd, hd2, hlen, hg, d1, d2, getC4, getC5, getC6, toNat_add2, toNat_add1, Int.toNat_natCast, Bool.false_and, Bool.true_and, true_implies, true_and, Bool.false_eq_true, reduceCtorEq, false_implies, Bool.not_false, Bool.not_true, Bool.true_or, Bool.false_or]))) | (refine PW.cond rfl ?_ ?_ <;> intro hcond <;> (try contradiction) <;> try simp only [decide_eq_true_eq, decide_eq_false_iff_not] at hcond) | (refine gd_i ?_; intro hg; try simp only [hg]) | ((first | show @LE.le Nat _ _ _ | show @LT.lt Nat _ _ _ | show @LE.le Int _ _ _ | show @LT.lt Int _ _ _ | show @Eq Nat _ _ | show @Eq Int _ _ | show @Eq Bool _ _ | show _ ∨ _ | show ¬ _); first | omega | (simp only [decide_eq_true_eq, decide_eq_false_iff_not, List.length_cons, List.length_nil, List.length_append, List.length_map, Sh.size] <;> omega) | (go_unwrap; omega)) | ((first | refine PW.region ?_ | refine PW.regionQ ?_ | refine schedW_done_i ?_ | show (_ : Post) _ _ _ | show @Eq (List PV) _ _ | show @Eq Bool _ _ | show opsW _ _ _ _ _ _ _ _ | show okAll _ | show @Eq Bool _ _ ∨ _); focus (simp only [hd, hd2, hlen, hg, d1, d2, getC4, getC5, getC6, SS, SS2, SS3, SS4, Option.map_some, Bool.not_false, Bool.not_true, gArgs, gOk, Nat.reduceAdd, PV.shift, MObj.shift, rdV, rdD, reduceIte, Nat.reduceEqDiff, Nat.reduceBEq, PV.bin, PV.binOk, binI, binS, PV.withInt, PV.withIntP, okAll, PV.under, PV.okUnder, eq_self, implies_true, deadOk, ne_eq, allOk, RVar.val, RVar.ok, retV, PV.seen, PV.view, beq_self_eq_true, PV.flat, PV.noOwn, id_eq, behind, PV.kill, MObj.kill, killTag, reduceCtorEq, nilB]; (try go_unwrap; try simp only [hd, hd2, hlen, hg, d1, d2, getC4, getC5, getC6, toNat_add2, toNat_add1, Int.toNat_natCast, Bool.false_and, Bool.true_and, true_implies, true_and, Bool.false_eq_true, reduceCtorEq, false_implies, Bool.not_false, Bool.not_true, Bool.true_or, Bool.false_or]))) | refine And.intro ?_ ?_ | exact Or.inr ⟨rfl, Nat.le_refl _⟩ | exact (fun h => Bool.noConfusion h))
      all_goals (rw [hX])
    have d2 : decide ((300 : Int) < k.text.length) = false := by simp only [decide_eq_false_iff_not]; omega
    have hn := hn (by simp [c1, c2])
    repeat' (first | exact True.intro | (refine PW.seqK ?_; intro K hK) | refine PW.block ?_ | refine PW.exit ?_ | refine PW.ret ?_ | refine PW.skip ?_ | refine seqK_n (by assumption) ?_ | refine seqK_r (by assumption) ?_ | refine seqK_e (by assumption) ?_ | refine PW.regionA ?_ | exact schedW_stop_i | refine schK_n (by assumption) ?_ | (refine schedW_alt_k ?_ ?_; focus (intro K hK; simp only [hd, hd2, hlen, hg, d1, d2, getC4, getC5, getC6, SS, SS2, SS3, SS4, Option.map_some, Bool.not_false, Bool.not_true, gArgs, gOk, Nat.reduceAdd, PV.shift, MObj.shift, rdV, rdD, reduceIte, Nat.reduceEqDiff, Nat.reduceBEq, PV.bin, PV.binOk, binI, binS, PV.withInt, PV.withIntP, okAll, PV.under, PV.okUnder, eq_self, implies_true, deadOk, ne_eq, allOk, RVar.val, RVar.ok, retV, PV.seen, PV.view, beq_self_eq_true, PV.flat, PV.noOwn, id_eq, behind, PV.kill, MObj.kill, killTag, reduceCtorEq, nilB]; (try go_unwrap; try simp only [hd, hd2, hlen, hg, d1, d2, getC4, getC5, getC6, toNat_add2, toNat_add1, Int.toNat_natCast, Bool.false_and, Bool.true_and, true_implies, true_and, Bool.false_eq_true, reduceCtorEq, false_implies, Bool.not_false, Bool.not_true, Bool.true_or, Bool.false_or]))) | (refine PW.cond rfl ?_ ?_ <;> intro hcond <;> (try contradiction) <;> try simp only [decide_eq_true_eq, decide_eq_false_iff_not] at hcond) | (refine gd_i ?_; intro hg; try simp only [hg]) | ((first | show @LE.le Nat _ _ _ | show @LT.lt Nat _ _ _ | show @LE.le Int _ _ _ | show @LT.lt Int _ _ _ | show @Eq Nat _ _ | show @Eq Int _ _ | show @Eq Bool _ _ | show _ ∨ _ | show ¬ _); first | omega | (simp only [decide_eq_true_eq, decide_eq_false_iff_not, List.length_cons, List.length_nil, List.length_append, List.length_map, Sh.size] <;> omega) | (go_unwrap; omega)) | ((first | refine PW.region ?_ | refine PW.regionQ ?_ | refine schedW_done_i ?_ | show (_ : Post) _ _ _ | show @Eq (List PV) _ _ | show @Eq Bool _ _ | show opsW _ _ _ _ _ _ _ _ | show okAll _ | show @Eq Bool _ _ ∨ _); focus (simp only [hd, hd2, hlen, hg, d1, d2, getC4, getC5, getC6, SS, SS2, SS3, SS4, Option.map_some, Bool.not_false, Bool.not_true, gArgs, gOk, Nat.reduceAdd, PV.shift, MObj.shift, rdV, rdD, reduceIte, Nat.reduceEqDiff, Nat.reduceBEq, PV.bin, PV.binOk, binI, binS, PV.withInt, PV.withIntP, okAll, PV.under, PV.okUnder, eq_self, implies_true, deadOk, ne_eq, allOk, RVar.val, RVar.ok, retV, PV.seen, PV.view, beq_self_eq_true, PV.flat, PV.noOwn, id_eq, behind, PV.kill, MObj.kill, killTag, reduceCtorEq, nilB]; (try go_unwrap; try simp only [hd, hd2, hlen, hg, d1, d2, getC4, getC5, getC6, toNat_add2, toNat_add1, Int.toNat_natCast, Bool.false_and, Bool.true_and, true_implies, true_and, Bool.false_eq_true, reduceCtorEq, false_implies, Bool.not_false, Bool.not_true, Bool.true_or, Bool.false_or]))) | refine And.intro ?_ ?_ | exact Or.inr ⟨rfl, Nat.le_refl _⟩ | exact (fun h => Bool.noConfusion h))
    all_goals exact ⟨i + 1, (by first | rfl | (simp only [trimE, trimM, List.take_succ_cons, List.take_zero, List.take_nil, List.map_cons, List.map_nil, Option.map_some, Option.map_none, MObj.kill, PV.kill, Nat.reduceLeDiff, decide_true, decide_false, dec_true, dec_false, Bool.false_eq_true, if_false, if_true, reduceIte, List.zip_cons_cons, List.zip_nil_left, Nat.le_refl, Nat.zero_le, Nat.not_le, Nat.lt_irrefl]; done) | (simp [trimE, trimM, MObj.kill, PV.kill]; done)), (by first | rfl | (simp only [trimE, trimM, List.take_succ_cons, List.take_zero, List.take_nil, List.map_cons, List.map_nil, Option.map_some, Option.map_none, MObj.kill, PV.kill, Nat.reduceLeDiff, decide_true, decide_false, dec_true, dec_false, Bool.false_eq_true, if_false, if_true, reduceIte, List.zip_cons_cons, List.zip_nil_left, Nat.le_refl, Nat.zero_le, Nat.not_le, Nat.lt_irrefl]; done) | (simp [trimE, trimM, MObj.kill, PV.kill]; done)), ⟨by omega, by omega, hn⟩, by omega⟩
  · have hX : shM l = decide ((l.length : Int) ≤ 40) := by
      have h2 : (l.take 40).all shrB = true := by
        rw [List.all_eq_true]
        intro x hx
        obtain ⟨j, hj, rfl⟩ := List.getElem_of_mem hx
        simp only [List.length_take] at hj
        rw [List.getElem_take]
        exact hall j (by omega) (by omega)
      unfold shM
      rw [h2, Bool.true_and, decide_eq_decide]; omega
    by_cases h1 : i < l.length
    · have hd : decide ((i : Int) < l.length) = true := by simp only [decide_eq_true_eq]; omega
      have hd2 : decide ((i : Int) < 40) = false := by simp only [decide_eq_false_iff_not]; omega
      repeat' (first | exact True.intro | (refine PW.seqK ?_; intro K hK) | refine PW.block ?_ | refine PW.exit ?_ | refine PW.ret ?_ | refine PW.skip ?_ | refine seqK_n (by assumption) ?_ | refine seqK_r (by assumption) ?_ | refine seqK_e (by assumption) ?_ | refine PW.regionA ?_ | exact schedW_stop_i | refine schK_n (by assumption) ?_ | (refine schedW_alt_k ?_ ?_; focus (intro K hK; simp only [hd, hd2, hlen, SS, SS2, SS3, SS4, Option.map_some, Bool.not_false, Bool.not_true, gArgs, gOk, Nat.reduceAdd, PV.shift, MObj.shift, rdV, rdD, reduceIte, Nat.reduceEqDiff, Nat.reduceBEq, PV.bin, PV.binOk, binI, binS, PV.withInt, PV.withIntP, okAll, PV.under, PV.okUnder, eq_self, implies_true, deadOk, ne_eq, allOk, RVar.val, RVar.ok, retV, PV.seen, PV.view, beq_self_eq_true, PV.flat, PV.noOwn, id_eq, behind, PV.kill, MObj.kill, killTag, reduceCtorEq, nilB]; (try go_unwrap; try simp only [hd, hd2, hlen, toNat_add2, toNat_add1, Int.toNat_natCast, Bool.false_and, Bool.true_and, true_implies, true_and, Bool.false_eq_true, reduceCtorEq, false_implies, Bool.not_false, Bool.not_true, Bool.true_or, Bool.false_or]))) | (refine PW.cond rfl ?_ ?_ <;> intro hcond <;> (try contradiction) <;> try simp only [decide_eq_true_eq, decide_eq_false_iff_not] at hcond) | (refine gd_i ?_; intro hg; try simp only [hg]) | ((first | show @LE.le Nat _ _ _ | show @LT.lt Nat _ _ _ | show @LE.le Int _ _ _ | show @LT.lt Int _ _ _ | show @Eq Nat _ _ | show @Eq Int _ _ | show @Eq Bool _ _ | show _ ∨ _ | show ¬ _); first | omega | (simp only [decide_eq_true_eq, decide_eq_false_iff_not, List.length_cons, List.length_nil, List.length_append, List.length_map, Sh.size] <;> omega) | (go_unwrap; omega)) | ((first | refine PW.region ?_ | refine PW.regionQ ?_ | refine schedW_done_i ?_ | show (_ : Post) _ _ _ | show @Eq (List PV) _ _ | show @Eq Bool _ _ | show opsW _ _ _ _ _ _ _ _ | show okAll _ | show @Eq Bool _ _ ∨ _); focus (simp only [hd, hd2, hlen, SS, SS2, SS3, SS4, Option.map_some, Bool.not_false, Bool.not_true, gArgs, gOk, Nat.reduceAdd, PV.shift, MObj.shift, rdV, rdD, reduceIte, Nat.reduceEqDiff, Nat.reduceBEq, PV.bin, PV.binOk, binI, binS, PV.withInt, PV.withIntP, okAll, PV.under, PV.okUnder, eq_self, implies_true, deadOk, ne_eq, allOk, RVar.val, RVar.ok, retV, PV.seen, PV.view, beq_self_eq_true, PV.flat, PV.noOwn, id_eq, behind, PV.kill, MObj.kill, killTag, reduceCtorEq, nilB]; (try go_unwrap; try simp only [hd, hd2, hlen, toNat_add2, toNat_add1, Int.toNat_natCast, Bool.false_and, Bool.true_and, true_implies, true_and, Bool.false_eq_true, reduceCtorEq, false_implies, Bool.not_false, Bool.not_true, Bool.true_or, Bool.false_or]))) | refine And.intro ?_ ?_ | exact Or.inr ⟨rfl, Nat.le_refl _⟩ | exact (fun h => Bool.noConfusion h))
      all_goals (rw [hX])
    · have hd : decide ((i : Int) < l.length) = false := by simp only [decide_eq_false_iff_not]; omega
      repeat' (first | exact True.intro | (refine PW.seqK ?_; intro K hK) | refine PW.block ?_ | refine PW.exit ?_ | refine PW.ret ?_ | refine PW.skip ?_ | refine seqK_n (by assumption) ?_ | refine seqK_r (by assumption) ?_ | refine seqK_e (by assumption) ?_ | refine PW.regionA ?_ | exact schedW_stop_i | refine schK_n (by assumption) ?_ | (refine schedW_alt_k ?_ ?_; focus (intro K hK; simp only [hd, hlen, SS, SS2, SS3, SS4, Option.map_some, Bool.not_false, Bool.not_true, gArgs, gOk, Nat.reduceAdd, PV.shift, MObj.shift, rdV, rdD, reduceIte, Nat.reduceEqDiff, Nat.reduceBEq, PV.bin, PV.binOk, binI, binS, PV.withInt, PV.withIntP, okAll, PV.under, PV.okUnder, eq_self, implies_true, deadOk, ne_eq, allOk, RVar.val, RVar.ok, retV, PV.seen, PV.view, beq_self_eq_true, PV.flat, PV.noOwn, id_eq, behind, PV.kill, MObj.kill, killTag, reduceCtorEq, nilB]; (try go_unwrap; try simp only [hd, hlen, toNat_add2, toNat_add1, Int.toNat_natCast, Bool.false_and, Bool.true_and, true_implies, true_and, Bool.false_eq_true, reduceCtorEq, false_implies, Bool.not_false, Bool.not_true, Bool.true_or, Bool.false_or]))) | (refine PW.cond rfl ?_ ?_ <;> intro hcond <;> (try contradiction) <;> try simp only [decide_eq_true_eq, decide_eq_false_iff_not] at hcond) | (refine gd_i ?_; intro hg; try simp only [hg]) | ((first | show @LE.le Nat _ _ _ | show @LT.lt Nat _ _ _ | show @LE.le Int _ _ _ | show @LT.lt Int _ _ _ | show @Eq Nat _ _ | show @Eq Int _ _ | show @Eq Bool _ _ | show _ ∨ _ | show ¬ _); first | omega | (simp only [decide_eq_true_eq, decide_eq_false_iff_not, List.length_cons, List.length_nil, List.length_append, List.length_map, Sh.size] <;> omega) | (go_unwrap; omega)) | ((first | refine PW.region ?_ | refine PW.regionQ ?_ | refine schedW_done_i ?_ | show (_ : Post) _ _ _ | show @Eq (List PV) _ _ | show @Eq Bool _ _ | show opsW _ _ _ _ _ _ _ _ | show okAll _ | show @Eq Bool _ _ ∨ _); focus (simp only [hd, hlen, SS, SS2, SS3, SS4, Option.map_some, Bool.not_false, Bool.not_true, gArgs, gOk, Nat.reduceAdd, PV.shift, MObj.shift, rdV, rdD, reduceIte, Nat.reduceEqDiff, Nat.reduceBEq, PV.bin, PV.binOk, binI, binS, PV.withInt, PV.withIntP, okAll, PV.under, PV.okUnder, eq_self, implies_true, deadOk, ne_eq, allOk, RVar.val, RVar.ok, retV, PV.seen, PV.view, beq_self_eq_true, PV.flat, PV.noOwn, id_eq, behind, PV.kill, MObj.kill, killTag, reduceCtorEq, nilB]; (try go_unwrap; try simp only [hd, hlen, toNat_add2, toNat_add1, Int.toNat_natCast, Bool.false_and, Bool.true_and, true_implies, true_and, Bool.false_eq_true, reduceCtorEq, false_implies, Bool.not_false, Bool.not_true, Bool.true_or, Bool.false_or]))) | refine And.intro ?_ ?_ | exact Or.inr ⟨rfl, Nat.le_refl _⟩ | exact (fun h => Bool.noConfusion h))
      all_goals (rw [hX])
/-! Into some that rise -/
def atP (l : List (List UInt8)) (s : List UInt8) : Nat := (l.takeWhile fun x => Op.bytesLess x s).length
def putM (l : List (List UInt8)) (s : List UInt8) : List (List UInt8) := if l[atP l s]? = some s then l else l.take (atP l s) ++ s :: l.drop (atP l s)
theorem atP_lt : ∀ (l : List (List UInt8)) (s : List UInt8) (i : Nat) (h : i < l.length), i < atP l s → Op.bytesLess l[i] s = true
  | x :: l, s, i, h, hi => by
    unfold atP at hi
    rw [List.takeWhile_cons] at hi
    split at hi
    · rename_i hx
      cases i with
      | zero => exact hx
      | succ i => exact atP_lt l s i (by simpa using h) (by unfold atP; simpa using hi)
    · simp at hi
theorem atP_eq : ∀ (l : List (List UInt8)) (s : List UInt8) (h : atP l s < l.length), Op.bytesLess l[atP l s] s = false
  | x :: l, s, h => by
    have hc : atP (x :: l) s = if Op.bytesLess x s = true then atP l s + 1 else 0 := by
      unfold atP; rw [List.takeWhile_cons]; split <;> simp
    by_cases hx : Op.bytesLess x s = true
    · have e : atP (x :: l) s = atP l s + 1 := by rw [hc, if_pos hx]
      have := atP_eq l s (by simp at h; omega)
      simp only [e, List.getElem_cons_succ]
      exact this
    · have e : atP (x :: l) s = 0 := by rw [hc, if_neg hx]
      simp only [e, List.getElem_cons_zero]
      simpa using hx
/-! The names in force, and what stands under a prefix -/
def nmsN (l : List Kn) (d : Int) : Nat → List (List UInt8)
  | 0 => []
  | i + 1 => if 0 ≤ plcM l (l.getD i default).code d then putM (nmsN l d i) (l.getD i default).code else nmsN l d i
def nmsM (l : List Kn) (d : Int) : List (List UInt8) := nmsN l d l.length
/-- Up to a point. -/
def partM (s : List UInt8) : List UInt8 := s.takeWhile fun c => decide (c ≠ 46)
def undS (p : List UInt8) (out : List (List UInt8)) (s : List UInt8) : List (List UInt8) :=
  if s.take p.length = p then (if partM (s.drop p.length) = [] then out else putM out (partM (s.drop p.length))) else out
def undM (l : List Kn) (p : List UInt8) (d : Int) : List (List UInt8) := (nmsM l d).foldl (undS p) []
end Go.Proofs.Ytjcoenideicmbaa

namespace Go.Proofs.Ytjcoenideicmbaa
open Go PG Go.Proofs
set_option linter.unusedSimpArgs false
set_option linter.unusedVariables false
set_option maxHeartbeats 4000000
set_option maxRecDepth 100000
end Go.Proofs.Ytjcoenideicmbaa

namespace Go.Proofs.Ytjcoenideicmbaa
open PG Go.Proofs
-- internal/stringslite.Index
def L80 : List Nat := [0, 1, 4, 5, 6, 7, 8, 9, 10, 11, 12, 13, 16, 24, 31, 36, 59, 64, 73, 93, 107, 114, 132, 139]
def c80 : CF := ⟨143,
  .seq (.region false [⟨some 4, none, .rd .mov [.pv (.int .i64 0)]⟩] L80)
  (.seq (.region false [⟨some 14, none, .rd .mov [.tmp 1]⟩,
     ⟨some 15, none, .rd .lenS [.tmp 14]⟩,
     ⟨some 5, none, .rd .mov [.tmp 15]⟩] L80)
  (.seq (.block 0
    (.seq (.region false [⟨some 17, none, .rd .mov [.tmp 5]⟩,
        ⟨some 18, none, .rd (.bin .eql) [.tmp 17, .pv (.int .i64 0)]⟩,
        ⟨some 19, none, .rd .mov [.tmp 18]⟩,
        ⟨some 20, some (19, false), .rd .mov [.tmp 1]⟩,
        ⟨some 21, some (19, false), .rd .mov [.tmp 0]⟩,
        ⟨some 22, some (19, false), .rd (.bin .eql) [.tmp 20, .tmp 21]⟩,
        ⟨some 23, none, .rd .pick [.tmp 19, .pv (.bool true), .tmp 22]⟩,
        ⟨some 16, none, .rd .mov [.tmp 23]⟩] L80)
     (.cond (.tmp 16)
      (.seq (.region false [⟨some 4, none, .rd .mov [.pv (.int .i64 0)]⟩] L80)
       (.ret))
      (.seq (.region false [⟨some 25, none, .rd .mov [.tmp 5]⟩,
          ⟨some 26, none, .rd (.bin .eql) [.tmp 25, .pv (.int .i64 1)]⟩,
          ⟨some 24, none, .rd .mov [.tmp 26]⟩] L80)
       (.cond (.tmp 24)
        (.seq (.region false [⟨some 27, none, .rd .mov [.tmp 0]⟩,
            ⟨some 28, none, .rd .mov [.tmp 1]⟩,
            ⟨some 29, none, .rd .idxS [.tmp 28, .pv (.int .i64 0)]⟩,
            ⟨some 30, none, .call (.pv (.fn 88 [] [])) [.tmp 27, .tmp 29]⟩,
            ⟨some 4, none, .rd .mov [.tmp 30]⟩] L80)
         (.ret))
        (.seq (.region false [⟨some 32, none, .rd .mov [.tmp 5]⟩,
            ⟨some 33, none, .rd .mov [.tmp 0]⟩,
            ⟨some 34, none, .rd .lenS [.tmp 33]⟩,
            ⟨some 35, none, .rd (.bin .geq) [.tmp 32, .tmp 34]⟩,
            ⟨some 31, none, .rd .mov [.tmp 35]⟩] L80)
         (.cond (.tmp 31)
          (.seq (.region false [⟨some 4, none, .rd .mov [.pv (.int .i64 (-1))]⟩] L80)
           (.ret))
          (.seq (.region false [⟨some 37, none, .rd .mov [.tmp 5]⟩,
              ⟨some 38, none, .rd (.load none) [.glob 0]⟩,
              ⟨some 39, none, .rd (.bin .leq) [.tmp 37, .tmp 38]⟩,
              ⟨some 40, none, .rd .mov [.tmp 39]⟩,
              ⟨some 41, some (40, true), .rd .mov [.tmp 0]⟩,
              ⟨some 42, some (40, true), .rd .lenS [.tmp 41]⟩,
              ⟨some 43, some (40, true), .rd (.bin .leq) [.tmp 42, .pv (.int .i64 64)]⟩,
              ⟨some 44, none, .rd .pick [.tmp 40, .tmp 43, .pv (.bool false)]⟩,
              ⟨some 36, none, .rd .mov [.tmp 44]⟩] L80)
           (.cond (.tmp 36)
            (.seq (.region false [⟨some 45, none, .rd .mov [.tmp 0]⟩,
                ⟨some 46, none, .rd .mov [.tmp 1]⟩,
                ⟨some 47, none, .call (.pv (.fn 89 [] [])) [.tmp 45, .tmp 46]⟩,
                ⟨some 4, none, .rd .mov [.tmp 47]⟩] L80)
             (.ret))
            (.skip))))))))))
  (.seq (.region false [⟨some 48, none, .rd .mov [.tmp 1]⟩,
     ⟨some 49, none, .rd .idxS [.tmp 48, .pv (.int .i64 0)]⟩,
     ⟨some 6, none, .rd .mov [.tmp 49]⟩] L80)
  (.seq (.region false [⟨some 50, none, .rd .mov [.tmp 1]⟩,
     ⟨some 51, none, .rd .idxS [.tmp 50, .pv (.int .i64 1)]⟩,
     ⟨some 7, none, .rd .mov [.tmp 51]⟩] L80)
  (.seq (.region false [⟨some 8, none, .rd .mov [.pv (.int .i64 0)]⟩] L80)
  (.seq (.region false [⟨some 52, none, .rd .mov [.tmp 0]⟩,
     ⟨some 53, none, .rd .lenS [.tmp 52]⟩,
     ⟨some 54, none, .rd .mov [.tmp 5]⟩,
     ⟨some 55, none, .rd (.bin .sub) [.tmp 53, .tmp 54]⟩,
     ⟨some 56, none, .rd (.bin .add) [.tmp 55, .pv (.int .i64 1)]⟩,
     ⟨some 9, none, .rd .mov [.tmp 56]⟩] L80)
  (.seq (.region false [⟨some 10, none, .rd .mov [.pv (.int .i64 0)]⟩] L80)
  (.seq (.block 1
    (.loop
      (.seq (.seq (.region false [⟨some 57, none, .rd .mov [.tmp 8]⟩,
           ⟨some 58, none, .rd .mov [.tmp 9]⟩,
           ⟨some 59, none, .rd (.bin .lss) [.tmp 57, .tmp 58]⟩] L80)
        (.cond (.tmp 59)
         (.skip)
         (.exit 1)))
       (.block 2
        (.seq (.seq (.region false [⟨some 60, none, .rd .mov [.tmp 0]⟩,
             ⟨some 61, none, .rd .mov [.tmp 8]⟩,
             ⟨some 62, none, .rd .idxS [.tmp 60, .tmp 61]⟩,
             ⟨some 63, none, .rd .mov [.tmp 6]⟩,
             ⟨some 64, none, .rd (.bin .neq) [.tmp 62, .tmp 63]⟩] L80)
          (.cond (.tmp 64)
           (.seq (.region false [⟨some 65, none, .rd .mov [.tmp 0]⟩,
               ⟨some 66, none, .rd .mov [.tmp 8]⟩,
               ⟨some 67, none, .rd (.bin .add) [.tmp 66, .pv (.int .i64 1)]⟩,
               ⟨some 68, none, .rd .mov [.tmp 9]⟩,
               ⟨some 69, none, .rd (.slcS true true) [.tmp 65, .tmp 67, .tmp 68]⟩,
               ⟨some 70, none, .rd .mov [.tmp 6]⟩,
               ⟨some 71, none, .call (.pv (.fn 88 [] [])) [.tmp 69, .tmp 70]⟩,
               ⟨some 11, none, .rd .mov [.tmp 71]⟩] L80)
            (.seq (.seq (.region false [⟨some 72, none, .rd .mov [.tmp 11]⟩,
                ⟨some 73, none, .rd (.bin .lss) [.tmp 72, .pv (.int .i64 0)]⟩] L80)
             (.cond (.tmp 73)
              (.seq (.region false [⟨some 4, none, .rd .mov [.pv (.int .i64 (-1))]⟩] L80)
               (.ret))
              (.skip)))
            (.region false [⟨some 74, none, .rd .mov [.tmp 8]⟩,
              ⟨some 75, none, .rd .mov [.tmp 11]⟩,
              ⟨some 76, none, .rd (.bin .add) [.tmp 75, .pv (.int .i64 1)]⟩,
              ⟨some 77, none, .rd (.bin .add) [.tmp 74, .tmp 76]⟩,
              ⟨some 8, none, .rd .mov [.tmp 77]⟩] L80)))
           (.skip)))
         (.seq (.seq (.region false [⟨some 78, none, .rd .mov [.tmp 0]⟩,
             ⟨some 79, none, .rd .mov [.tmp 8]⟩,
             ⟨some 80, none, .rd (.bin .add) [.tmp 79, .pv (.int .i64 1)]⟩,
             ⟨some 81, none, .rd .idxS [.tmp 78, .tmp 80]⟩,
             ⟨some 82, none, .rd .mov [.tmp 7]⟩,
             ⟨some 83, none, .rd (.bin .eql) [.tmp 81, .tmp 82]⟩,
             ⟨some 84, none, .rd .mov [.tmp 83]⟩,
             ⟨some 85, some (84, true), .rd .mov [.tmp 0]⟩,
             ⟨some 86, some (84, true), .rd .mov [.tmp 8]⟩,
             ⟨some 87, some (84, true), .rd .mov [.tmp 8]⟩,
             ⟨some 88, some (84, true), .rd .mov [.tmp 5]⟩,
             ⟨some 89, some (84, true), .rd (.bin .add) [.tmp 87, .tmp 88]⟩,
             ⟨some 90, some (84, true), .rd (.slcS true true) [.tmp 85, .tmp 86, .tmp 89]⟩,
             ⟨some 91, some (84, true), .rd .mov [.tmp 1]⟩,
             ⟨some 92, some (84, true), .rd (.bin .eql) [.tmp 90, .tmp 91]⟩,
             ⟨some 93, none, .rd .pick [.tmp 84, .tmp 92, .pv (.bool false)]⟩] L80)
          (.cond (.tmp 93)
           (.seq (.region false [⟨some 94, none, .rd .mov [.tmp 8]⟩,
               ⟨some 4, none, .rd .mov [.tmp 94]⟩] L80)
            (.ret))
           (.skip)))
         (.seq (.region false [⟨some 95, none, .rd .mov [.tmp 8]⟩,
            ⟨some 96, none, .rd (.bin .add) [.tmp 95, .pv (.int .i64 1)]⟩,
            ⟨some 8, none, .rd .mov [.tmp 96]⟩] L80)
         (.seq (.region false [⟨some 97, none, .rd .mov [.tmp 10]⟩,
            ⟨some 98, none, .rd (.bin .add) [.tmp 97, .pv (.int .i64 1)]⟩,
            ⟨some 10, none, .rd .mov [.tmp 98]⟩] L80)
         (.seq (.region false [⟨some 99, none, .rd .mov [.tmp 5]⟩,
            ⟨some 100, none, .rd (.load none) [.glob 0]⟩,
            ⟨some 101, none, .rd (.bin .leq) [.tmp 99, .tmp 100]⟩,
            ⟨some 102, none, .rd .mov [.tmp 101]⟩,
            ⟨some 103, some (102, true), .rd .mov [.tmp 10]⟩,
            ⟨some 104, some (102, true), .rd .mov [.tmp 8]⟩,
            ⟨some 105, some (102, true), .call (.pv (.fn 90 [] [])) [.tmp 104]⟩,
            ⟨some 106, some (102, true), .rd (.bin .gtr) [.tmp 103, .tmp 105]⟩,
            ⟨some 107, none, .rd .pick [.tmp 102, .tmp 106, .pv (.bool false)]⟩] L80)
         (.cond (.tmp 107)
          (.seq (.region false [⟨some 108, none, .rd .mov [.tmp 0]⟩,
              ⟨some 109, none, .rd .mov [.tmp 8]⟩,
              ⟨some 110, none, .rd (.slcS true false) [.tmp 108, .tmp 109]⟩,
              ⟨some 111, none, .rd .mov [.tmp 1]⟩,
              ⟨some 112, none, .call (.pv (.fn 89 [] [])) [.tmp 110, .tmp 111]⟩,
              ⟨some 12, none, .rd .mov [.tmp 112]⟩] L80)
           (.seq (.seq (.region false [⟨some 113, none, .rd .mov [.tmp 12]⟩,
               ⟨some 114, none, .rd (.bin .geq) [.tmp 113, .pv (.int .i64 0)]⟩] L80)
            (.cond (.tmp 114)
             (.seq (.region false [⟨some 115, none, .rd .mov [.tmp 12]⟩,
                 ⟨some 116, none, .rd .mov [.tmp 8]⟩,
                 ⟨some 117, none, .rd (.bin .add) [.tmp 115, .tmp 116]⟩,
                 ⟨some 4, none, .rd .mov [.tmp 117]⟩] L80)
              (.ret))
             (.skip)))
           (.seq (.region false [⟨some 4, none, .rd .mov [.pv (.int .i64 (-1))]⟩] L80)
           (.ret))))
          (.seq (.region false [⟨some 118, none, .rd .mov [.tmp 5]⟩,
              ⟨some 119, none, .rd (.load none) [.glob 0]⟩,
              ⟨some 120, none, .rd (.bin .gtr) [.tmp 118, .tmp 119]⟩,
              ⟨some 121, none, .rd .mov [.tmp 120]⟩,
              ⟨some 122, some (121, true), .rd .mov [.tmp 10]⟩,
              ⟨some 123, some (121, true), .rd .mov [.tmp 8]⟩,
              ⟨some 124, some (121, true), .rd (.bin .shr) [.tmp 123, .pv (.int .u64 4)]⟩,
              ⟨some 125, some (121, true), .rd (.bin .add) [.pv (.int .i64 4), .tmp 124]⟩,
              ⟨some 126, some (121, true), .rd (.bin .geq) [.tmp 122, .tmp 125]⟩,
              ⟨some 127, none, .rd .pick [.tmp 121, .tmp 126, .pv (.bool false)]⟩,
              ⟨some 128, none, .rd .mov [.tmp 127]⟩,
              ⟨some 129, some (128, true), .rd .mov [.tmp 8]⟩,
              ⟨some 130, some (128, true), .rd .mov [.tmp 9]⟩,
              ⟨some 131, some (128, true), .rd (.bin .lss) [.tmp 129, .tmp 130]⟩,
              ⟨some 132, none, .rd .pick [.tmp 128, .tmp 131, .pv (.bool false)]⟩] L80)
           (.cond (.tmp 132)
            (.seq (.region false [⟨some 133, none, .rd .mov [.tmp 0]⟩,
                ⟨some 134, none, .rd .mov [.tmp 8]⟩,
                ⟨some 135, none, .rd (.slcS true false) [.tmp 133, .tmp 134]⟩,
                ⟨some 136, none, .rd .mov [.tmp 1]⟩,
                ⟨some 137, none, .call (.pv (.fn 91 [] [])) [.tmp 135, .tmp 136]⟩,
                ⟨some 13, none, .rd .mov [.tmp 137]⟩] L80)
             (.seq (.seq (.region false [⟨some 138, none, .rd .mov [.tmp 13]⟩,
                 ⟨some 139, none, .rd (.bin .lss) [.tmp 138, .pv (.int .i64 0)]⟩] L80)
              (.cond (.tmp 139)
               (.seq (.region false [⟨some 4, none, .rd .mov [.pv (.int .i64 (-1))]⟩] L80)
                (.ret))
               (.skip)))
             (.seq (.region false [⟨some 140, none, .rd .mov [.tmp 8]⟩,
                ⟨some 141, none, .rd .mov [.tmp 13]⟩,
                ⟨some 142, none, .rd (.bin .add) [.tmp 140, .tmp 141]⟩,
                ⟨some 4, none, .rd .mov [.tmp 142]⟩] L80)
             (.ret))))
            (.skip)))))))))))))
  (.seq (.region false [⟨some 4, none, .rd .mov [.pv (.int .i64 (-1))]⟩] L80)
  (.ret)))))))))),
  [.tmp 4]⟩

-- internal/stringslite.IndexByte
theorem k80 : compileF Try.prog [] L80 Try.f80 = some c80 := by kernel_rfl
end Go.Proofs.Ytjcoenideicmbaa

