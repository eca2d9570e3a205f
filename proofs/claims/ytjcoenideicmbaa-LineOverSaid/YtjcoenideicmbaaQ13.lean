import Derived.Test.YtjcoenideicmbaaRows
import Derived.Test.YtjcoenideicmbaaQ12
namespace Go.Proofs.Ytjcoenideicmbaa
open Go PG Go.Proofs
set_option linter.unusedSimpArgs false
set_option linter.unusedVariables false
set_option maxHeartbeats 4000000
set_option maxRecDepth 100000
theorem e22 : Ent Try.prog 22 := ⟨Try.f22, Try.func22, by kernel_rfl, by kernel_rfl⟩
/-! The document's pieces -/
theorem setA3_0 (x y z a b : PV) : setAll [x, y, z] 0 [a, b] = [a, b, z] := rfl
theorem setA3_2 (x y z a : PV) : setAll [x, y, z] 2 [a] = [x, y, a] := rfl
theorem putP3_1 (x y z : PV) (v : Int) : putPart (some 3) none (.agg [x, y, z]) 1 (.int .i64 v) = .agg [x, .int .i64 v, z] := by
  unfold putPart; rw [if_neg (by simp)]; rfl
def p3P (x : St3) : PV := .agg [.int .i64 x.1, .int .i64 x.2.1, .int .i64 x.2.2]
theorem p3_getD (l : List St3) (i : Nat) (h : i < l.length) : (l.map p3P).getD i .junk = p3P l[i] := by simp [List.getD, h]
theorem v22 (l : List En) (hl : l.length ≤ 1000000000) (a b : Int) (ha : -1000000000 ≤ a) (ha' : a ≤ 1000000000) (hb : b ≤ 1000000000) : VCalls Try.prog G0 22 [enL l, .agg [.int .i64 a, .int .i64 b]] (.list (some 3) ((ovU (placeM (l.map knOf)) a (b - a).toNat).map p3P)) := by
  refine VCalls.of_PW Try.func22 k22 mix (by simp [c22]) ?_
  simp only [c22, L22, argE]
  repeat' (first | exact True.intro | (refine PW.seqK ?_; intro K hK) | refine PW.block ?_ | refine PW.exit ?_ | refine PW.ret ?_ | refine PW.skip ?_ | refine seqK_n (by assumption) ?_ | refine seqK_r (by assumption) ?_ | refine seqK_e (by assumption) ?_ | refine PW.regionA ?_ | exact schedW_stop_i | (refine PW.cond rfl ?_ ?_ <;> intro hcond <;> (try contradiction) <;> try simp only [decide_eq_true_eq, decide_eq_false_iff_not] at hcond) | (refine gd_i ?_; intro hg; try simp only [hg]) | ((first | show @LE.le Nat _ _ _ | show @LT.lt Nat _ _ _ | show @LE.le Int _ _ _ | show @LT.lt Int _ _ _ | show @Eq Nat _ _ | show @Eq Int _ _ | show @Eq Bool _ _ | show _ ∨ _ | show ¬ _); first | omega | (simp only [decide_eq_true_eq, decide_eq_false_iff_not, List.length_cons, List.length_nil, List.length_append, List.length_map, Sh.size] <;> omega) | (go_unwrap; omega)) | ((first | refine PW.region ?_ | refine PW.regionQ ?_ | refine schedW_alt_i ?_ ?_ | refine schedW_done_i ?_ | show (_ : Post) _ _ _ | show @Eq (List PV) _ _ | show @Eq Bool _ _ | show opsW _ _ _ _ _ _ _ _ | show okAll _ | show @Eq Bool _ _ ∨ _); focus (simp only [SS, SS2, SS3, SS4, Option.map_some, Bool.not_false, Bool.not_true, gArgs, gOk, Nat.reduceAdd, PV.shift, MObj.shift, rdV, rdD, reduceIte, Nat.reduceEqDiff, Nat.reduceBEq, PV.bin, PV.binOk, binI, binS, PV.withInt, PV.withIntP, okAll, PV.under, PV.okUnder, eq_self, implies_true, deadOk, ne_eq, allOk, RVar.val, RVar.ok, retV, PV.seen, PV.view, beq_self_eq_true, PV.flat, PV.noOwn, id_eq, behind, PV.kill, MObj.kill, killTag, reduceCtorEq, nilB]; (try go_unwrap; try simp only [toNat_add2, toNat_add1, Int.toNat_natCast, Bool.false_and, Bool.true_and, true_implies, true_and, Bool.false_eq_true, reduceCtorEq, false_implies, Bool.not_false, Bool.not_true, Bool.true_or, Bool.false_or]))) | refine And.intro ?_ ?_ | exact Or.inr ⟨rfl, Nat.le_refl _⟩ | exact (fun h => Bool.noConfusion h))
  refine PW.own (some 3) 5 rfl ?_
  refine PW.loopG (σ := Nat) 2 (fun _ _ => rfl) [0, 1, 3, 4, 5, 6, 7] (fun i => [enL l, .agg [.int .i64 a, .int .i64 b], .ref 0 0, .nilSl, .sl (some 3) 1 (ovU (placeM (l.map knOf)) a i).length, .int .i64 (lastF (placeM (l.map knOf)) a i), .int .i64 (a + i)])
    (fun i => [some (MObj.var (some 2) (PV.agg [PV.int IntKind.i64 a, PV.int IntKind.i64 b])), some (.row (some 3) ((ovU (placeM (l.map knOf)) a i).map p3P))]) (fun i => i ≤ (b - a).toNat) (fun i => (b - a).toNat - i) 0 ?_ (by simp [ovU]) (by omega) ?_
  · simp only [SS, SS2, SS3, SS4, Option.map_some, Bool.not_false, Bool.not_true, gArgs, gOk, Nat.reduceAdd, PV.shift, MObj.shift, rdV, rdD, reduceIte, Nat.reduceEqDiff, Nat.reduceBEq, PV.bin, PV.binOk, binI, binS, PV.withInt, PV.withIntP, okAll, PV.under, PV.okUnder, eq_self, implies_true, deadOk, ne_eq, allOk, RVar.val, RVar.ok, retV, PV.seen, PV.view, beq_self_eq_true, PV.flat, PV.noOwn, id_eq, behind, PV.kill, MObj.kill, killTag, reduceCtorEq, nilB]; simp [ovU, lastF]
  rintro i hi
  simp only [List.zip_cons_cons, List.zip_nil_left]
  rcases Nat.lt_or_ge i (b - a).toNat with h | h
  · have hd : decide (a + (i : Int) < b) = true := by simp only [decide_eq_true_eq]; omega
    have w1 : IntKind.i64.wrap (a + (i : Int) + 1) = a + (i : Int) + 1 := IntWalk.i64_in _ (by omega)
    have w2 : a + ((i + 1 : Nat) : Int) = a + (i : Int) + 1 := by omega
    have h1 := v28 l hl (a + i)
    have hlen := ovU_len (placeM (l.map knOf)) a i
    have hL : lastF (placeM (l.map knOf)) a (i + 1) = placeM (l.map knOf) (a + i) := rfl
    have hA : ovU (placeM (l.map knOf)) a (i + 1) = if 0 ≤ placeM (l.map knOf) (a + i) then (if placeM (l.map knOf) (a + i) = lastF (placeM (l.map knOf)) a i then endL (ovU (placeM (l.map knOf)) a i) (a + i + 1) else ovU (placeM (l.map knOf)) a i ++ [(a + i, a + i + 1, placeM (l.map knOf) (a + i))]) else ovU (placeM (l.map knOf)) a i := rfl
    have hne := ovU_last (placeM (l.map knOf)) a i
    generalize ovU (placeM (l.map knOf)) a i = A at hlen hA hne
    generalize lastF (placeM (l.map knOf)) a i = q at hA hne
    generalize placeM (l.map knOf) (a + i) = p at h1 hA hL
    have b1 : (A.length + 1) * 24 ≤ 281474976710656 := by omega
    have htk : (A.map p3P).take A.length = A.map p3P := List.take_of_length_le (by simp)
    by_cases hz : 0 ≤ p
    · have dz : decide (0 ≤ p) = true := by simpa using hz
      rw [if_pos hz] at hA
      by_cases hpq : p = q
      · have dp : decide (p = q) = true := by simpa using hpq
        rw [if_pos hpq] at hA
        obtain ⟨A0, c, rfl⟩ := hne (by omega)
        rw [endL_app] at hA
        have w3 : IntKind.i64.wrap (((A0 ++ [c]).length : Int) - 1) = A0.length := by rw [List.length_append]; exact (IntWalk.i64_in _ (by simp at hlen ⊢; omega)).trans (by simp)
        have hg : ((A0 ++ [c]).map p3P).getD A0.length .junk = p3P c := by simp [List.getD]
        have hs : ((A0 ++ [c]).map p3P).set A0.length (p3P (c.1, a + (i : Int) + 1, c.2.2)) = (A0 ++ [(c.1, a + (i : Int) + 1, c.2.2)]).map p3P := by simp
        simp only [p3P] at hg hs
        repeat' (first | exact True.intro | (refine PW.seqK ?_; intro K hK) | refine PW.block ?_ | refine PW.exit ?_ | refine PW.ret ?_ | refine PW.skip ?_ | refine seqK_n (by assumption) ?_ | refine seqK_r (by assumption) ?_ | refine seqK_e (by assumption) ?_ | refine PW.regionA ?_ | exact schedW_stop_i | (refine PW.cond rfl ?_ ?_ <;> intro hcond <;> (try contradiction) <;> try simp only [decide_eq_true_eq, decide_eq_false_iff_not] at hcond) | (refine gd_i ?_; intro hg; try simp only [hg]) | refine goCall_W e28 (h1) ?_ ?_ ?_ ?_ | ((first | show @LE.le Nat _ _ _ | show @LT.lt Nat _ _ _ | show @LE.le Int _ _ _ | show @LT.lt Int _ _ _ | show @Eq Nat _ _ | show @Eq Int _ _ | show @Eq Bool _ _ | show _ ∨ _ | show ¬ _); first | omega | (simp only [decide_eq_true_eq, decide_eq_false_iff_not, List.length_cons, List.length_nil, List.length_append, List.length_map, Sh.size] <;> omega) | (go_unwrap; omega)) | ((first | refine PW.region ?_ | refine PW.regionQ ?_ | refine schedW_alt_i ?_ ?_ | refine schedW_done_i ?_ | show (_ : Post) _ _ _ | show @Eq (List PV) _ _ | show @Eq Bool _ _ | show opsW _ _ _ _ _ _ _ _ | show okAll _ | show @Eq Bool _ _ ∨ _); focus (simp only [hd, w1, w2, dz, dp, w3, hg, hs, putP3_1, SS, SS2, SS3, SS4, Option.map_some, Bool.not_false, Bool.not_true, gArgs, gOk, Nat.reduceAdd, PV.shift, MObj.shift, rdV, rdD, reduceIte, Nat.reduceEqDiff, Nat.reduceBEq, PV.bin, PV.binOk, binI, binS, PV.withInt, PV.withIntP, okAll, PV.under, PV.okUnder, eq_self, implies_true, deadOk, ne_eq, allOk, RVar.val, RVar.ok, retV, PV.seen, PV.view, beq_self_eq_true, PV.flat, PV.noOwn, id_eq, behind, PV.kill, MObj.kill, killTag, reduceCtorEq, nilB]; (try go_unwrap; try simp only [hd, w1, w2, dz, dp, w3, hg, hs, putP3_1, toNat_add2, toNat_add1, Int.toNat_natCast, Bool.false_and, Bool.true_and, true_implies, true_and, Bool.false_eq_true, reduceCtorEq, false_implies, Bool.not_false, Bool.not_true, Bool.true_or, Bool.false_or]))) | refine And.intro ?_ ?_ | exact Or.inr ⟨rfl, Nat.le_refl _⟩ | exact (fun h => Bool.noConfusion h))
        all_goals first | exact Or.inr ⟨rfl, by omega⟩ | skip
        all_goals exact ⟨i + 1, (by rw [hA, hL, w2, List.length_append, List.length_append]; exact (by first | rfl | (simp only [trimE, trimM, List.take_succ_cons, List.take_zero, List.take_nil, List.map_cons, List.map_nil, Option.map_some, Option.map_none, MObj.kill, PV.kill, Nat.reduceLeDiff, decide_true, decide_false, dec_true, dec_false, Bool.false_eq_true, if_false, if_true, reduceIte, List.zip_cons_cons, List.zip_nil_left, Nat.le_refl, Nat.zero_le, Nat.not_le, Nat.lt_irrefl]; done) | (simp [trimE, trimM, MObj.kill, PV.kill]; done))), (by rw [hA]; exact (by first | rfl | (simp only [trimE, trimM, List.take_succ_cons, List.take_zero, List.take_nil, List.map_cons, List.map_nil, Option.map_some, Option.map_none, MObj.kill, PV.kill, Nat.reduceLeDiff, decide_true, decide_false, dec_true, dec_false, Bool.false_eq_true, if_false, if_true, reduceIte, List.zip_cons_cons, List.zip_nil_left, Nat.le_refl, Nat.zero_le, Nat.not_le, Nat.lt_irrefl]; done) | (simp [trimE, trimM, MObj.kill, PV.kill]; done))), by omega, by omega⟩
      · have dp : decide (p = q) = false := by simpa using hpq
        rw [if_neg hpq] at hA
        have hM : (A ++ [(a + (i : Int), a + (i : Int) + 1, p)]).map p3P = A.map p3P ++ [.agg [.int .i64 (a + i), .int .i64 (a + i + 1), .int .i64 p]] := by simp [p3P]
        repeat' (first | exact True.intro | (refine PW.seqK ?_; intro K hK) | refine PW.block ?_ | refine PW.exit ?_ | refine PW.ret ?_ | refine PW.skip ?_ | refine seqK_n (by assumption) ?_ | refine seqK_r (by assumption) ?_ | refine seqK_e (by assumption) ?_ | refine PW.regionA ?_ | exact schedW_stop_i | (refine PW.cond rfl ?_ ?_ <;> intro hcond <;> (try contradiction) <;> try simp only [decide_eq_true_eq, decide_eq_false_iff_not] at hcond) | (refine gd_i ?_; intro hg; try simp only [hg]) | refine goCall_W e28 (h1) ?_ ?_ ?_ ?_ | ((first | show @LE.le Nat _ _ _ | show @LT.lt Nat _ _ _ | show @LE.le Int _ _ _ | show @LT.lt Int _ _ _ | show @Eq Nat _ _ | show @Eq Int _ _ | show @Eq Bool _ _ | show _ ∨ _ | show ¬ _); first | omega | (simp only [decide_eq_true_eq, decide_eq_false_iff_not, List.length_cons, List.length_nil, List.length_append, List.length_map, Sh.size] <;> omega) | (go_unwrap; omega)) | ((first | refine PW.region ?_ | refine PW.regionQ ?_ | refine schedW_alt_i ?_ ?_ | refine schedW_done_i ?_ | show (_ : Post) _ _ _ | show @Eq (List PV) _ _ | show @Eq Bool _ _ | show opsW _ _ _ _ _ _ _ _ | show okAll _ | show @Eq Bool _ _ ∨ _); focus (simp only [hd, w1, w2, dz, dp, htk, part_agg2, setA3_0, setA3_2, SS, SS2, SS3, SS4, Option.map_some, Bool.not_false, Bool.not_true, gArgs, gOk, Nat.reduceAdd, PV.shift, MObj.shift, rdV, rdD, reduceIte, Nat.reduceEqDiff, Nat.reduceBEq, PV.bin, PV.binOk, binI, binS, PV.withInt, PV.withIntP, okAll, PV.under, PV.okUnder, eq_self, implies_true, deadOk, ne_eq, allOk, RVar.val, RVar.ok, retV, PV.seen, PV.view, beq_self_eq_true, PV.flat, PV.noOwn, id_eq, behind, PV.kill, MObj.kill, killTag, reduceCtorEq, nilB]; (try go_unwrap; try simp only [hd, w1, w2, dz, dp, htk, part_agg2, setA3_0, setA3_2, toNat_add2, toNat_add1, Int.toNat_natCast, Bool.false_and, Bool.true_and, true_implies, true_and, Bool.false_eq_true, reduceCtorEq, false_implies, Bool.not_false, Bool.not_true, Bool.true_or, Bool.false_or]))) | refine And.intro ?_ ?_ | exact Or.inr ⟨rfl, Nat.le_refl _⟩ | exact (fun h => Bool.noConfusion h))
        all_goals exact ⟨i + 1, (by rw [hA, hL, w2, List.length_append]; exact (by first | rfl | (simp only [trimE, trimM, List.take_succ_cons, List.take_zero, List.take_nil, List.map_cons, List.map_nil, Option.map_some, Option.map_none, MObj.kill, PV.kill, Nat.reduceLeDiff, decide_true, decide_false, dec_true, dec_false, Bool.false_eq_true, if_false, if_true, reduceIte, List.zip_cons_cons, List.zip_nil_left, Nat.le_refl, Nat.zero_le, Nat.not_le, Nat.lt_irrefl]; done) | (simp [trimE, trimM, MObj.kill, PV.kill]; done))), (by rw [hA, hM]; exact (by first | rfl | (simp only [trimE, trimM, List.take_succ_cons, List.take_zero, List.take_nil, List.map_cons, List.map_nil, Option.map_some, Option.map_none, MObj.kill, PV.kill, Nat.reduceLeDiff, decide_true, decide_false, dec_true, dec_false, Bool.false_eq_true, if_false, if_true, reduceIte, List.zip_cons_cons, List.zip_nil_left, Nat.le_refl, Nat.zero_le, Nat.not_le, Nat.lt_irrefl]; done) | (simp [trimE, trimM, MObj.kill, PV.kill]; done))), by omega, by omega⟩
    · have dz : decide (0 ≤ p) = false := by simpa using hz
      rw [if_neg hz] at hA
      repeat' (first | exact True.intro | (refine PW.seqK ?_; intro K hK) | refine PW.block ?_ | refine PW.exit ?_ | refine PW.ret ?_ | refine PW.skip ?_ | refine seqK_n (by assumption) ?_ | refine seqK_r (by assumption) ?_ | refine seqK_e (by assumption) ?_ | refine PW.regionA ?_ | exact schedW_stop_i | (refine PW.cond rfl ?_ ?_ <;> intro hcond <;> (try contradiction) <;> try simp only [decide_eq_true_eq, decide_eq_false_iff_not] at hcond) | (refine gd_i ?_; intro hg; try simp only [hg]) | refine goCall_W e28 (h1) ?_ ?_ ?_ ?_ | ((first | show @LE.le Nat _ _ _ | show @LT.lt Nat _ _ _ | show @LE.le Int _ _ _ | show @LT.lt Int _ _ _ | show @Eq Nat _ _ | show @Eq Int _ _ | show @Eq Bool _ _ | show _ ∨ _ | show ¬ _); first | omega | (simp only [decide_eq_true_eq, decide_eq_false_iff_not, List.length_cons, List.length_nil, List.length_append, List.length_map, Sh.size] <;> omega) | (go_unwrap; omega)) | ((first | refine PW.region ?_ | refine PW.regionQ ?_ | refine schedW_alt_i ?_ ?_ | refine schedW_done_i ?_ | show (_ : Post) _ _ _ | show @Eq (List PV) _ _ | show @Eq Bool _ _ | show opsW _ _ _ _ _ _ _ _ | show okAll _ | show @Eq Bool _ _ ∨ _); focus (simp only [hd, w1, w2, dz, SS, SS2, SS3, SS4, Option.map_some, Bool.not_false, Bool.not_true, gArgs, gOk, Nat.reduceAdd, PV.shift, MObj.shift, rdV, rdD, reduceIte, Nat.reduceEqDiff, Nat.reduceBEq, PV.bin, PV.binOk, binI, binS, PV.withInt, PV.withIntP, okAll, PV.under, PV.okUnder, eq_self, implies_true, deadOk, ne_eq, allOk, RVar.val, RVar.ok, retV, PV.seen, PV.view, beq_self_eq_true, PV.flat, PV.noOwn, id_eq, behind, PV.kill, MObj.kill, killTag, reduceCtorEq, nilB]; (try go_unwrap; try simp only [hd, w1, w2, dz, toNat_add2, toNat_add1, Int.toNat_natCast, Bool.false_and, Bool.true_and, true_implies, true_and, Bool.false_eq_true, reduceCtorEq, false_implies, Bool.not_false, Bool.not_true, Bool.true_or, Bool.false_or]))) | refine And.intro ?_ ?_ | exact Or.inr ⟨rfl, Nat.le_refl _⟩ | exact (fun h => Bool.noConfusion h))
      all_goals exact ⟨i + 1, (by rw [hA, hL, w2]; exact (by first | rfl | (simp only [trimE, trimM, List.take_succ_cons, List.take_zero, List.take_nil, List.map_cons, List.map_nil, Option.map_some, Option.map_none, MObj.kill, PV.kill, Nat.reduceLeDiff, decide_true, decide_false, dec_true, dec_false, Bool.false_eq_true, if_false, if_true, reduceIte, List.zip_cons_cons, List.zip_nil_left, Nat.le_refl, Nat.zero_le, Nat.not_le, Nat.lt_irrefl]; done) | (simp [trimE, trimM, MObj.kill, PV.kill]; done))), (by rw [hA]; exact (by first | rfl | (simp only [trimE, trimM, List.take_succ_cons, List.take_zero, List.take_nil, List.map_cons, List.map_nil, Option.map_some, Option.map_none, MObj.kill, PV.kill, Nat.reduceLeDiff, decide_true, decide_false, dec_true, dec_false, Bool.false_eq_true, if_false, if_true, reduceIte, List.zip_cons_cons, List.zip_nil_left, Nat.le_refl, Nat.zero_le, Nat.not_le, Nat.lt_irrefl]; done) | (simp [trimE, trimM, MObj.kill, PV.kill]; done))), by omega, by omega⟩
  · have hd : decide (a + (i : Int) < b) = false := by simp only [decide_eq_false_iff_not]; omega
    have hi' : i = (b - a).toNat := by omega
    subst hi'
    repeat' (first | exact True.intro | (refine PW.seqK ?_; intro K hK) | refine PW.block ?_ | refine PW.exit ?_ | refine PW.ret ?_ | refine PW.skip ?_ | refine seqK_n (by assumption) ?_ | refine seqK_r (by assumption) ?_ | refine seqK_e (by assumption) ?_ | refine PW.regionA ?_ | exact schedW_stop_i | (refine PW.cond rfl ?_ ?_ <;> intro hcond <;> (try contradiction) <;> try simp only [decide_eq_true_eq, decide_eq_false_iff_not] at hcond) | (refine gd_i ?_; intro hg; try simp only [hg]) | ((first | show @LE.le Nat _ _ _ | show @LT.lt Nat _ _ _ | show @LE.le Int _ _ _ | show @LT.lt Int _ _ _ | show @Eq Nat _ _ | show @Eq Int _ _ | show @Eq Bool _ _ | show _ ∨ _ | show ¬ _); first | omega | (simp only [decide_eq_true_eq, decide_eq_false_iff_not, List.length_cons, List.length_nil, List.length_append, List.length_map, Sh.size] <;> omega) | (go_unwrap; omega)) | ((first | refine PW.region ?_ | refine PW.regionQ ?_ | refine schedW_alt_i ?_ ?_ | refine schedW_done_i ?_ | show (_ : Post) _ _ _ | show @Eq (List PV) _ _ | show @Eq Bool _ _ | show opsW _ _ _ _ _ _ _ _ | show okAll _ | show @Eq Bool _ _ ∨ _); focus (simp only [hd, SS, SS2, SS3, SS4, Option.map_some, Bool.not_false, Bool.not_true, gArgs, gOk, Nat.reduceAdd, PV.shift, MObj.shift, rdV, rdD, reduceIte, Nat.reduceEqDiff, Nat.reduceBEq, PV.bin, PV.binOk, binI, binS, PV.withInt, PV.withIntP, okAll, PV.under, PV.okUnder, eq_self, implies_true, deadOk, ne_eq, allOk, RVar.val, RVar.ok, retV, PV.seen, PV.view, beq_self_eq_true, PV.flat, PV.noOwn, id_eq, behind, PV.kill, MObj.kill, killTag, reduceCtorEq, nilB]; (try go_unwrap; try simp only [hd, toNat_add2, toNat_add1, Int.toNat_natCast, Bool.false_and, Bool.true_and, true_implies, true_and, Bool.false_eq_true, reduceCtorEq, false_implies, Bool.not_false, Bool.not_true, Bool.true_or, Bool.false_or]))) | refine And.intro ?_ ?_ | exact Or.inr ⟨rfl, Nat.le_refl _⟩ | exact (fun h => Bool.noConfusion h))
    all_goals (first
      | (rw [if_pos (by simp), List.take_of_length_le (by simp)]; done)
      | (refine congrArg _ ?_; exact List.take_of_length_le (by simp)) | skip)
end Go.Proofs.Ytjcoenideicmbaa

namespace Go.Proofs.Ytjcoenideicmbaa
open Go PG Go.Proofs
set_option linter.unusedSimpArgs false
set_option linter.unusedVariables false
set_option maxHeartbeats 1000000
set_option maxRecDepth 100000
theorem runs_mem {f : Int → Int} {b a : Int} {R : List (Int × Int × Int)} (h : IsRuns f b a R) : ∀ x ∈ R, x.2.2 = f x.1 ∧ a ≤ x.1 ∧ x.1 < x.2.1 ∧ x.2.1 ≤ b := by
  induction h with
  | one a h hf => intro x hx; simp only [List.mem_cons, List.not_mem_nil, or_false] at hx; subst hx; exact ⟨rfl, by simp, h, by simp⟩
  | cons a c l h hf hn ht ih =>
    intro x hx
    have := ht.lt
    rcases List.mem_cons.1 hx with rfl | hx
    · exact ⟨rfl, by simp, h, by simp; omega⟩
    · obtain ⟨h1, h2, h3, h4⟩ := ih x hx
      exact ⟨h1, by omega, h3, h4⟩
theorem cut52 (a b c d e : PV) : cut (some 5) (some 2) (.agg [a, b, c, d, e]) 0 = .agg [a, b] := rfl
theorem cut32 (a b c : PV) : cut (some 3) (some 2) (.agg [a, b, c]) 0 = .agg [a, b] := rfl
theorem cut53 (a b c d e : PV) : cut (some 5) (some 3) (.agg [a, b, c, d, e]) 2 = .agg [c, d, e] := rfl
theorem cut31 (a b c : PV) : cut (some 3) none (.agg [a, b, c]) 2 = c := rfl
theorem pcs_mem {l : List Kn} {a b : Int} {x : St3} (h : x ∈ pcs (fullM l a b)) : 0 ≤ x.2.2 ∧ x.2.2 < l.length ∧ x.2.2 = placeM l x.1 ∧ a ≤ x.1 ∧ x.1 < x.2.1 ∧ x.2.1 ≤ b := by
  obtain ⟨h1, h2⟩ := List.mem_filter.1 h
  have h2 : 0 ≤ x.2.2 := by simpa using h2
  rcases Int.lt_or_le a b with hab | hab
  · obtain ⟨e, h3, h4, h5⟩ := runs_mem (full_runs l hab) x h1
    have := placeM_in l x.1
    exact ⟨h2, by omega, e, h3, h4, h5⟩
  · rw [full_none l hab] at h1; cases h1
theorem pie_getD (l : List Kn) (P : List St3) (i : Nat) (h : i < P.length) : (P.map (pieP l)).getD i .junk = pieP l P[i] := by simp [List.getD, h]
theorem pieP_kn (l : List En) {x : St3} (h0 : 0 ≤ x.2.2) (h : x.2.2.toNat < l.length) : pieP (l.map knOf) x = .agg [.int .i64 x.1, .int .i64 x.2.1, .int .i64 l[x.2.2.toNat].n, .int .i64 l[x.2.2.toNat].num, .str l[x.2.2.toNat].text] := by
  unfold pieP; rw [valM_kn l _ h0 h]; rfl
theorem v3 (l : List En) (hl : l.length ≤ 9223372036854775807) (a n : Nat) (ha : a ≤ 65535) (hn : n ≤ 65535) : VCalls Try.prog G0 3 [enL l, .int .u16 a, .int .u16 n] (.bool true) := by
  refine VCalls.of_PW Try.func3 k3 mix (by simp [c3]) ?_
  simp only [c3, L3, argE]
  have hlen : ((l.map enP).length : Nat) = l.length := by simp
  rcases Nat.lt_or_ge 30 l.length with h | h
  · have d1 : decide ((30 : Int) < l.length) = true := by simp only [decide_eq_true_eq]; omega
    repeat' (first | exact True.intro | (refine PW.seqK ?_; intro K hK) | refine PW.block ?_ | refine PW.exit ?_ | refine PW.ret ?_ | refine PW.skip ?_ | refine seqK_n (by assumption) ?_ | refine seqK_r (by assumption) ?_ | refine seqK_e (by assumption) ?_ | refine PW.regionA ?_ | exact schedW_stop_i | (refine PW.cond rfl ?_ ?_ <;> intro hcond <;> (try contradiction) <;> try simp only [decide_eq_true_eq, decide_eq_false_iff_not] at hcond) | (refine gd_i ?_; intro hg; try simp only [hg]) | refine goCall_W e17 (v17) ?_ ?_ ?_ ?_ | ((first | show @LE.le Nat _ _ _ | show @LT.lt Nat _ _ _ | show @LE.le Int _ _ _ | show @LT.lt Int _ _ _ | show @Eq Nat _ _ | show @Eq Int _ _ | show @Eq Bool _ _ | show _ ∨ _ | show ¬ _); first | omega | (simp only [decide_eq_true_eq, decide_eq_false_iff_not, List.length_cons, List.length_nil, List.length_append, List.length_map, Sh.size] <;> omega) | (go_unwrap; omega)) | ((first | refine PW.region ?_ | refine PW.regionQ ?_ | refine schedW_alt_i ?_ ?_ | refine schedW_done_i ?_ | show (_ : Post) _ _ _ | show @Eq (List PV) _ _ | show @Eq Bool _ _ | show opsW _ _ _ _ _ _ _ _ | show okAll _ | show @Eq Bool _ _ ∨ _); focus (simp only [hlen, d1, SS, SS2, SS3, SS4, Option.map_some, Bool.not_false, Bool.not_true, gArgs, gOk, Nat.reduceAdd, PV.shift, MObj.shift, rdV, rdD, reduceIte, Nat.reduceEqDiff, Nat.reduceBEq, PV.bin, PV.binOk, binI, binS, PV.withInt, PV.withIntP, okAll, PV.under, PV.okUnder, eq_self, implies_true, deadOk, ne_eq, allOk, RVar.val, RVar.ok, retV, PV.seen, PV.view, beq_self_eq_true, PV.flat, PV.noOwn, id_eq, behind, PV.kill, MObj.kill, killTag, reduceCtorEq, nilB]; (try go_unwrap; try simp only [hlen, d1, toNat_add2, toNat_add1, Int.toNat_natCast, Bool.false_and, Bool.true_and, true_implies, true_and, Bool.false_eq_true, reduceCtorEq, false_implies, Bool.not_false, Bool.not_true, Bool.true_or, Bool.false_or]))) | refine And.intro ?_ ?_ | exact Or.inr ⟨rfl, Nat.le_refl _⟩ | exact (fun h => Bool.noConfusion h))
  have d1 : decide ((30 : Int) < l.length) = false := by simp only [decide_eq_false_iff_not]; omega
  have h18 := v18 a n ha hn
  obtain ⟨A, hA⟩ : ∃ A : Int, (a : Int) - 20000 = A := ⟨_, rfl⟩
  obtain ⟨B, hB⟩ : ∃ B : Int, A + ((n % 400 : Nat) : Int) = B := ⟨_, rfl⟩
  rw [hA, hB] at h18
  have h20 := v20 l (by omega)
  have h19 := v19 (l.map knOf) (by simp; omega)
  have h21 := v21 (l.map knOf) (by simp; omega) A B
  have h22 := v22 l (by omega) A B (by omega) (by omega) (by omega)
  rw [ovU_eq (l.map knOf) (by omega : A ≤ B)] at h22
  have h23 := v23 l (by omega)
  have hmem := fun x => @pcs_mem (l.map knOf) A B x
  have hpl : (pcs (fullM (l.map knOf) A B)).length ≤ 1000 := by
    have := full_len (l.map knOf) A B
    have := List.length_filter_le (fun x : St3 => decide (0 ≤ x.2.2)) (fullM (l.map knOf) A B)
    rw [List.length_map] at *
    unfold pcs; omega
  unfold ovP at h21
  generalize pcs (fullM (l.map knOf) A B) = P at h21 h22 hmem hpl
  simp only [List.length_map] at hmem
  obtain ⟨KV, hKV, hKn, hKs, hKw⟩ : ∃ KV, knV (l.map knOf) = KV ∧ KV.noOwn = true ∧ (∀ μ, PV.seen μ KV = true) ∧ (∀ μ, PV.view μ KV = KV) := by
    refine ⟨_, rfl, ?_, ?_, ?_⟩
    · unfold knV; split <;> simp [PV.noOwn]
    · intro μ; unfold knV; split <;> simp [PV.seen]
    · intro μ; unfold knV; split <;> simp [PV.view]
  rw [hKV] at h20 h19
  obtain ⟨XX, hXX⟩ : ∃ XX, (l.map knOf).map knP = XX := ⟨_, rfl⟩
  rw [show linP (l.map knOf) = .agg [.list (some 9) XX] by rw [← hXX]] at h19 h21
  have hgl : (P.map (pieP (l.map knOf))).length = P.length := by simp
  have hwl : (P.map p3P).length = P.length := by simp
  have yy : decide ((P.length : Int) = P.length) = true := by simp
  have hG := pie_getD (l.map knOf) P
  have hW := p3_getD P
  have hGk : ∀ x ∈ P, pieP (l.map knOf) x = .agg [.int .i64 x.1, .int .i64 x.2.1, .int .i64 (l.getD x.2.2.toNat default).n, .int .i64 (l.getD x.2.2.toNat default).num, .str (l.getD x.2.2.toNat default).text] := by
    intro x hx
    obtain ⟨e0, e1, -⟩ := hmem x hx
    rw [pieP_kn l e0 (by omega)]
    simp [List.getD, show x.2.2.toNat < l.length by omega]
  generalize P.map (pieP (l.map knOf)) = GL at h21 hgl hG
  generalize P.map p3P = WL at h22 hwl hW
  clear hXX hKV
  repeat' (first | exact True.intro | (refine PW.seqA (E := ?_) (M := ?_) ?_ ?_; rotate_left 2) | exact mergeQ_mk _ _ | (refine PW.seqK ?_; intro K hK) | refine PW.block ?_ | refine PW.exit ?_ | refine PW.ret ?_ | refine PW.skip ?_ | refine seqK_n (by assumption) ?_ | refine seqK_r (by assumption) ?_ | refine seqK_e (by assumption) ?_ | refine PW.regionA ?_ | exact schedW_stop_i | (refine PW.cond rfl ?_ ?_ <;> intro hcond <;> (try contradiction) <;> try simp only [decide_eq_true_eq, decide_eq_false_iff_not] at hcond) | (refine gd_i ?_; intro hg; try simp only [hg]) | refine goCall_W e18 (h18) ?_ ?_ ?_ ?_ | refine goCall_W e20 (h20) ?_ ?_ ?_ ?_ | refine goCall_W e19 (h19) ?_ ?_ ?_ ?_ | refine goCall_W e21 (h21) ?_ ?_ ?_ ?_ | refine goCall_W e23 (h23) ?_ ?_ ?_ ?_ | refine goCall_W e22 (h22) ?_ ?_ ?_ ?_ | ((first | show @LE.le Nat _ _ _ | show @LT.lt Nat _ _ _ | show @LE.le Int _ _ _ | show @LT.lt Int _ _ _ | show @Eq Nat _ _ | show @Eq Int _ _ | show @Eq Bool _ _ | show _ ∨ _ | show ¬ _); first | omega | (simp only [decide_eq_true_eq, decide_eq_false_iff_not, List.length_cons, List.length_nil, List.length_append, List.length_map, Sh.size] <;> omega) | (go_unwrap; omega)) | ((first | refine PW.region ?_ | refine PW.regionQ ?_ | refine schedW_alt_i ?_ ?_ | refine schedW_done_i ?_ | show (_ : Post) _ _ _ | show @Eq (List PV) _ _ | show @Eq Bool _ _ | show opsW _ _ _ _ _ _ _ _ | show okAll _ | show @Eq Bool _ _ ∨ _); focus (simp only [hlen, d1, hKn, hKs, hKw, hgl, hwl, yy, SS, SS2, SS3, SS4, Option.map_some, Bool.not_false, Bool.not_true, gArgs, gOk, Nat.reduceAdd, PV.shift, MObj.shift, rdV, rdD, reduceIte, Nat.reduceEqDiff, Nat.reduceBEq, PV.bin, PV.binOk, binI, binS, PV.withInt, PV.withIntP, okAll, PV.under, PV.okUnder, eq_self, implies_true, deadOk, ne_eq, allOk, RVar.val, RVar.ok, retV, PV.seen, PV.view, beq_self_eq_true, PV.flat, PV.noOwn, id_eq, behind, PV.kill, MObj.kill, killTag, reduceCtorEq, nilB]; (try go_unwrap; try simp only [hlen, d1, hKn, hKs, hKw, hgl, hwl, yy, toNat_add2, toNat_add1, Int.toNat_natCast, Bool.false_and, Bool.true_and, true_implies, true_and, Bool.false_eq_true, reduceCtorEq, false_implies, Bool.not_false, Bool.not_true, Bool.true_or, Bool.false_or]))) | refine And.intro ?_ ?_ | exact Or.inr ⟨rfl, Nat.le_refl _⟩ | exact (fun h => Bool.noConfusion h))
  refine PW.loopG (σ := Nat) 1 (fun _ _ => rfl) [0, 1, 2, 6, 7, 8, 9, 10] (fun i => [enL l, .int .u16 a, .int .u16 n, .bool false, .ref 0 0, .list (some 5) GL, .list (some 3) WL, .int .i64 i])
    (fun i => [some (MObj.var (some 2) (PV.agg [PV.int IntKind.i64 A, PV.int IntKind.i64 B]))]) (fun i => i ≤ P.length) (fun i => P.length - i) 0 ?_ rfl (by omega) ?_
  · simp only [SS, SS2, SS3, SS4, Option.map_some, Bool.not_false, Bool.not_true, gArgs, gOk, Nat.reduceAdd, PV.shift, MObj.shift, rdV, rdD, reduceIte, Nat.reduceEqDiff, Nat.reduceBEq, PV.bin, PV.binOk, binI, binS, PV.withInt, PV.withIntP, okAll, PV.under, PV.okUnder, eq_self, implies_true, deadOk, ne_eq, allOk, RVar.val, RVar.ok, retV, PV.seen, PV.view, beq_self_eq_true, PV.flat, PV.noOwn, id_eq, behind, PV.kill, MObj.kill, killTag, reduceCtorEq, nilB]; rfl
  rintro i hi
  simp only [List.zip_cons_cons, List.zip_nil_left]
  rcases Nat.lt_or_ge i P.length with h' | h'
  · have hd : decide ((i : Int) < P.length) = true := by simp only [decide_eq_true_eq]; omega
    have hg := hG i h'
    have hw := hW i h'
    have hx := hGk P[i] (List.getElem_mem h')
    obtain ⟨e0, e1, -⟩ := hmem P[i] (List.getElem_mem h')
    generalize P[i] = x at hg hw hx e0 e1
    rw [hx] at hg
    obtain ⟨x1, x2, k⟩ := x
    simp only at e0 e1 hg
    simp only [p3P] at hw
    have he : (l.map enP).getD k.toNat .junk = enP l[k.toNat] := en_getD l k.toNat (by omega)
    have h24 := v24 l[k.toNat]
    rw [show l.getD k.toNat default = l[k.toNat] by simp [List.getD, show k.toNat < l.length by omega]] at hg
    generalize l[k.toNat] = e at hg he h24
    simp only [enP] at he h24
    simp only [vlP, vlOf] at h24
    have y0 : decide (x1 = x1) = true := by simp
    have y3 : decide (x2 = x2) = true := by simp
    have y1 : decide (e.n = e.n) = true := by simp
    have y2 : decide (e.num = e.num) = true := by simp
    have y4 : decide (e.text = e.text) = true := by simp
    repeat' (first | exact True.intro | (refine PW.seqA (E := ?_) (M := ?_) ?_ ?_; rotate_left 2) | exact mergeQ_mk _ _ | (refine PW.seqK ?_; intro K hK) | refine PW.block ?_ | refine PW.exit ?_ | refine PW.ret ?_ | refine PW.skip ?_ | refine seqK_n (by assumption) ?_ | refine seqK_r (by assumption) ?_ | refine seqK_e (by assumption) ?_ | refine PW.regionA ?_ | exact schedW_stop_i | (refine PW.cond rfl ?_ ?_ <;> intro hcond <;> (try contradiction) <;> try simp only [decide_eq_true_eq, decide_eq_false_iff_not] at hcond) | (apply goCallG_N e23; (case hV => (intro hg; simp only [hg, hd, hlen, hgl, hwl, hg, hw, he, y0, y1, y2, y3, y4, part_agg5, part_agg3, getC4, cut52, cut32, cut53, cut31, SS, SS2, SS3, SS4, Option.map_some, Bool.not_false, Bool.not_true, gArgs, gOk, Nat.reduceAdd, PV.shift, MObj.shift, rdV, rdD, reduceIte, Nat.reduceEqDiff, Nat.reduceBEq, PV.bin, PV.binOk, binI, binS, PV.withInt, PV.withIntP, okAll, PV.under, PV.okUnder, eq_self, implies_true, deadOk, ne_eq, allOk, RVar.val, RVar.ok, retV, PV.seen, PV.view, beq_self_eq_true, PV.flat, PV.noOwn, id_eq, behind, PV.kill, MObj.kill, killTag, reduceCtorEq, nilB]; (try go_unwrap; try simp only [hd, hlen, hgl, hwl, hg, hw, he, y0, y1, y2, y3, y4, part_agg5, part_agg3, getC4, cut52, cut32, cut53, cut31, toNat_add2, toNat_add1, Int.toNat_natCast, Bool.false_and, Bool.true_and, true_implies, true_and, Bool.false_eq_true, reduceCtorEq, false_implies, Bool.not_false, Bool.not_true, Bool.true_or, Bool.false_or]); exact h23)); (case hok => (intro hg; first | (simp only [hg, hd, hlen, hgl, hwl, hg, hw, he, y0, y1, y2, y3, y4, part_agg5, part_agg3, getC4, cut52, cut32, cut53, cut31, SS, SS2, SS3, SS4, Option.map_some, Bool.not_false, Bool.not_true, gArgs, gOk, Nat.reduceAdd, PV.shift, MObj.shift, rdV, rdD, reduceIte, Nat.reduceEqDiff, Nat.reduceBEq, PV.bin, PV.binOk, binI, binS, PV.withInt, PV.withIntP, okAll, PV.under, PV.okUnder, eq_self, implies_true, deadOk, ne_eq, allOk, RVar.val, RVar.ok, retV, PV.seen, PV.view, beq_self_eq_true, PV.flat, PV.noOwn, id_eq, behind, PV.kill, MObj.kill, killTag, reduceCtorEq, nilB]; done) | (simp_all [okAll, PV.okUnder]; done))); (case hs => (intro hg; simp only [hg, hd, hlen, hgl, hwl, hg, hw, he, y0, y1, y2, y3, y4, part_agg5, part_agg3, getC4, cut52, cut32, cut53, cut31, SS, SS2, SS3, SS4, Option.map_some, Bool.not_false, Bool.not_true, gArgs, gOk, Nat.reduceAdd, PV.shift, MObj.shift, rdV, rdD, reduceIte, Nat.reduceEqDiff, Nat.reduceBEq, PV.bin, PV.binOk, binI, binS, PV.withInt, PV.withIntP, okAll, PV.under, PV.okUnder, eq_self, implies_true, deadOk, ne_eq, allOk, RVar.val, RVar.ok, retV, PV.seen, PV.view, beq_self_eq_true, PV.flat, PV.noOwn, id_eq, behind, PV.kill, MObj.kill, killTag, reduceCtorEq, nilB])); (case hn => (intro hg; simp only [hg, hd, hlen, hgl, hwl, hg, hw, he, y0, y1, y2, y3, y4, part_agg5, part_agg3, getC4, cut52, cut32, cut53, cut31, SS, SS2, SS3, SS4, Option.map_some, Bool.not_false, Bool.not_true, gArgs, gOk, Nat.reduceAdd, PV.shift, MObj.shift, rdV, rdD, reduceIte, Nat.reduceEqDiff, Nat.reduceBEq, PV.bin, PV.binOk, binI, binS, PV.withInt, PV.withIntP, okAll, PV.under, PV.okUnder, eq_self, implies_true, deadOk, ne_eq, allOk, RVar.val, RVar.ok, retV, PV.seen, PV.view, beq_self_eq_true, PV.flat, PV.noOwn, id_eq, behind, PV.kill, MObj.kill, killTag, reduceCtorEq, nilB])); (case hq => rfl); (simp only [hd, hlen, hgl, hwl, hg, hw, he, y0, y1, y2, y3, y4, part_agg5, part_agg3, getC4, cut52, cut32, cut53, cut31, SS, SS2, SS3, SS4, Option.map_some, Bool.not_false, Bool.not_true, gArgs, gOk, Nat.reduceAdd, PV.shift, MObj.shift, rdV, rdD, reduceIte, Nat.reduceEqDiff, Nat.reduceBEq, PV.bin, PV.binOk, binI, binS, PV.withInt, PV.withIntP, okAll, PV.under, PV.okUnder, eq_self, implies_true, deadOk, ne_eq, allOk, RVar.val, RVar.ok, retV, PV.seen, PV.view, beq_self_eq_true, PV.flat, PV.noOwn, id_eq, behind, PV.kill, MObj.kill, killTag, reduceCtorEq, nilB]; (try go_unwrap; try simp only [hd, hlen, hgl, hwl, hg, hw, he, y0, y1, y2, y3, y4, part_agg5, part_agg3, getC4, cut52, cut32, cut53, cut31, toNat_add2, toNat_add1, Int.toNat_natCast, Bool.false_and, Bool.true_and, true_implies, true_and, Bool.false_eq_true, reduceCtorEq, false_implies, Bool.not_false, Bool.not_true, Bool.true_or, Bool.false_or]))) | (apply goCallG_N e24; (case hV => (intro hg; simp only [hg, hd, hlen, hgl, hwl, hg, hw, he, y0, y1, y2, y3, y4, part_agg5, part_agg3, getC4, cut52, cut32, cut53, cut31, SS, SS2, SS3, SS4, Option.map_some, Bool.not_false, Bool.not_true, gArgs, gOk, Nat.reduceAdd, PV.shift, MObj.shift, rdV, rdD, reduceIte, Nat.reduceEqDiff, Nat.reduceBEq, PV.bin, PV.binOk, binI, binS, PV.withInt, PV.withIntP, okAll, PV.under, PV.okUnder, eq_self, implies_true, deadOk, ne_eq, allOk, RVar.val, RVar.ok, retV, PV.seen, PV.view, beq_self_eq_true, PV.flat, PV.noOwn, id_eq, behind, PV.kill, MObj.kill, killTag, reduceCtorEq, nilB]; (try go_unwrap; try simp only [hd, hlen, hgl, hwl, hg, hw, he, y0, y1, y2, y3, y4, part_agg5, part_agg3, getC4, cut52, cut32, cut53, cut31, toNat_add2, toNat_add1, Int.toNat_natCast, Bool.false_and, Bool.true_and, true_implies, true_and, Bool.false_eq_true, reduceCtorEq, false_implies, Bool.not_false, Bool.not_true, Bool.true_or, Bool.false_or]); exact h24)); (case hok => (intro hg; first | (simp only [hg, hd, hlen, hgl, hwl, hg, hw, he, y0, y1, y2, y3, y4, part_agg5, part_agg3, getC4, cut52, cut32, cut53, cut31, SS, SS2, SS3, SS4, Option.map_some, Bool.not_false, Bool.not_true, gArgs, gOk, Nat.reduceAdd, PV.shift, MObj.shift, rdV, rdD, reduceIte, Nat.reduceEqDiff, Nat.reduceBEq, PV.bin, PV.binOk, binI, binS, PV.withInt, PV.withIntP, okAll, PV.under, PV.okUnder, eq_self, implies_true, deadOk, ne_eq, allOk, RVar.val, RVar.ok, retV, PV.seen, PV.view, beq_self_eq_true, PV.flat, PV.noOwn, id_eq, behind, PV.kill, MObj.kill, killTag, reduceCtorEq, nilB]; done) | (simp_all [okAll, PV.okUnder]; done))); (case hs => (intro hg; simp only [hg, hd, hlen, hgl, hwl, hg, hw, he, y0, y1, y2, y3, y4, part_agg5, part_agg3, getC4, cut52, cut32, cut53, cut31, SS, SS2, SS3, SS4, Option.map_some, Bool.not_false, Bool.not_true, gArgs, gOk, Nat.reduceAdd, PV.shift, MObj.shift, rdV, rdD, reduceIte, Nat.reduceEqDiff, Nat.reduceBEq, PV.bin, PV.binOk, binI, binS, PV.withInt, PV.withIntP, okAll, PV.under, PV.okUnder, eq_self, implies_true, deadOk, ne_eq, allOk, RVar.val, RVar.ok, retV, PV.seen, PV.view, beq_self_eq_true, PV.flat, PV.noOwn, id_eq, behind, PV.kill, MObj.kill, killTag, reduceCtorEq, nilB])); (case hn => (intro hg; simp only [hg, hd, hlen, hgl, hwl, hg, hw, he, y0, y1, y2, y3, y4, part_agg5, part_agg3, getC4, cut52, cut32, cut53, cut31, SS, SS2, SS3, SS4, Option.map_some, Bool.not_false, Bool.not_true, gArgs, gOk, Nat.reduceAdd, PV.shift, MObj.shift, rdV, rdD, reduceIte, Nat.reduceEqDiff, Nat.reduceBEq, PV.bin, PV.binOk, binI, binS, PV.withInt, PV.withIntP, okAll, PV.under, PV.okUnder, eq_self, implies_true, deadOk, ne_eq, allOk, RVar.val, RVar.ok, retV, PV.seen, PV.view, beq_self_eq_true, PV.flat, PV.noOwn, id_eq, behind, PV.kill, MObj.kill, killTag, reduceCtorEq, nilB])); (case hq => rfl); (simp only [hd, hlen, hgl, hwl, hg, hw, he, y0, y1, y2, y3, y4, part_agg5, part_agg3, getC4, cut52, cut32, cut53, cut31, SS, SS2, SS3, SS4, Option.map_some, Bool.not_false, Bool.not_true, gArgs, gOk, Nat.reduceAdd, PV.shift, MObj.shift, rdV, rdD, reduceIte, Nat.reduceEqDiff, Nat.reduceBEq, PV.bin, PV.binOk, binI, binS, PV.withInt, PV.withIntP, okAll, PV.under, PV.okUnder, eq_self, implies_true, deadOk, ne_eq, allOk, RVar.val, RVar.ok, retV, PV.seen, PV.view, beq_self_eq_true, PV.flat, PV.noOwn, id_eq, behind, PV.kill, MObj.kill, killTag, reduceCtorEq, nilB]; (try go_unwrap; try simp only [hd, hlen, hgl, hwl, hg, hw, he, y0, y1, y2, y3, y4, part_agg5, part_agg3, getC4, cut52, cut32, cut53, cut31, toNat_add2, toNat_add1, Int.toNat_natCast, Bool.false_and, Bool.true_and, true_implies, true_and, Bool.false_eq_true, reduceCtorEq, false_implies, Bool.not_false, Bool.not_true, Bool.true_or, Bool.false_or]))) | (refine gd_i ?_; intro hg; try simp only [hg]) | refine goCallG_W e17 (v17) ?_ ?_ ?_ ?_ ?_ | ((first | show @LE.le Nat _ _ _ | show @LT.lt Nat _ _ _ | show @LE.le Int _ _ _ | show @LT.lt Int _ _ _ | show @Eq Nat _ _ | show @Eq Int _ _ | show @Eq Bool _ _ | show _ ∨ _ | show ¬ _); first | omega | (simp only [decide_eq_true_eq, decide_eq_false_iff_not, List.length_cons, List.length_nil, List.length_append, List.length_map, Sh.size] <;> omega) | (go_unwrap; omega)) | ((first | refine PW.region ?_ | refine PW.regionQ ?_ | refine schedW_alt_i ?_ ?_ | refine schedW_done_i ?_ | show (_ : Post) _ _ _ | show @Eq (List PV) _ _ | show @Eq Bool _ _ | show opsW _ _ _ _ _ _ _ _ | show okAll _ | show @Eq Bool _ _ ∨ _); focus (simp only [hd, hlen, hgl, hwl, hg, hw, he, y0, y1, y2, y3, y4, part_agg5, part_agg3, getC4, cut52, cut32, cut53, cut31, SS, SS2, SS3, SS4, Option.map_some, Bool.not_false, Bool.not_true, gArgs, gOk, Nat.reduceAdd, PV.shift, MObj.shift, rdV, rdD, reduceIte, Nat.reduceEqDiff, Nat.reduceBEq, PV.bin, PV.binOk, binI, binS, PV.withInt, PV.withIntP, okAll, PV.under, PV.okUnder, eq_self, implies_true, deadOk, ne_eq, allOk, RVar.val, RVar.ok, retV, PV.seen, PV.view, beq_self_eq_true, PV.flat, PV.noOwn, id_eq, behind, PV.kill, MObj.kill, killTag, reduceCtorEq, nilB]; (try go_unwrap; try simp only [hd, hlen, hgl, hwl, hg, hw, he, y0, y1, y2, y3, y4, part_agg5, part_agg3, getC4, cut52, cut32, cut53, cut31, toNat_add2, toNat_add1, Int.toNat_natCast, Bool.false_and, Bool.true_and, true_implies, true_and, Bool.false_eq_true, reduceCtorEq, false_implies, Bool.not_false, Bool.not_true, Bool.true_or, Bool.false_or]))) | refine And.intro ?_ ?_ | exact Or.inr ⟨rfl, Nat.le_refl _⟩ | exact (fun h => Bool.noConfusion h))
    all_goals exact ⟨i + 1, (by first | rfl | (simp only [trimE, trimM, List.take_succ_cons, List.take_zero, List.take_nil, List.map_cons, List.map_nil, Option.map_some, Option.map_none, MObj.kill, PV.kill, Nat.reduceLeDiff, decide_true, decide_false, dec_true, dec_false, Bool.false_eq_true, if_false, if_true, reduceIte, List.zip_cons_cons, List.zip_nil_left, Nat.le_refl, Nat.zero_le, Nat.not_le, Nat.lt_irrefl]; done) | (simp [trimE, trimM, MObj.kill, PV.kill]; done)), (by first | rfl | (simp only [trimE, trimM, List.take_succ_cons, List.take_zero, List.take_nil, List.map_cons, List.map_nil, Option.map_some, Option.map_none, MObj.kill, PV.kill, Nat.reduceLeDiff, decide_true, decide_false, dec_true, dec_false, Bool.false_eq_true, if_false, if_true, reduceIte, List.zip_cons_cons, List.zip_nil_left, Nat.le_refl, Nat.zero_le, Nat.not_le, Nat.lt_irrefl]; done) | (simp [trimE, trimM, MObj.kill, PV.kill]; done)), by omega, by omega⟩
  · have hd : decide ((i : Int) < P.length) = false := by simp only [decide_eq_false_iff_not]; omega
    repeat' (first | exact True.intro | (refine PW.seqK ?_; intro K hK) | refine PW.block ?_ | refine PW.exit ?_ | refine PW.ret ?_ | refine PW.skip ?_ | refine seqK_n (by assumption) ?_ | refine seqK_r (by assumption) ?_ | refine seqK_e (by assumption) ?_ | refine PW.regionA ?_ | exact schedW_stop_i | (refine PW.cond rfl ?_ ?_ <;> intro hcond <;> (try contradiction) <;> try simp only [decide_eq_true_eq, decide_eq_false_iff_not] at hcond) | (refine gd_i ?_; intro hg; try simp only [hg]) | refine goCall_W e17 (v17) ?_ ?_ ?_ ?_ | ((first | show @LE.le Nat _ _ _ | show @LT.lt Nat _ _ _ | show @LE.le Int _ _ _ | show @LT.lt Int _ _ _ | show @Eq Nat _ _ | show @Eq Int _ _ | show @Eq Bool _ _ | show _ ∨ _ | show ¬ _); first | omega | (simp only [decide_eq_true_eq, decide_eq_false_iff_not, List.length_cons, List.length_nil, List.length_append, List.length_map, Sh.size] <;> omega) | (go_unwrap; omega)) | ((first | refine PW.region ?_ | refine PW.regionQ ?_ | refine schedW_alt_i ?_ ?_ | refine schedW_done_i ?_ | show (_ : Post) _ _ _ | show @Eq (List PV) _ _ | show @Eq Bool _ _ | show opsW _ _ _ _ _ _ _ _ | show okAll _ | show @Eq Bool _ _ ∨ _); focus (simp only [hd, hgl, SS, SS2, SS3, SS4, Option.map_some, Bool.not_false, Bool.not_true, gArgs, gOk, Nat.reduceAdd, PV.shift, MObj.shift, rdV, rdD, reduceIte, Nat.reduceEqDiff, Nat.reduceBEq, PV.bin, PV.binOk, binI, binS, PV.withInt, PV.withIntP, okAll, PV.under, PV.okUnder, eq_self, implies_true, deadOk, ne_eq, allOk, RVar.val, RVar.ok, retV, PV.seen, PV.view, beq_self_eq_true, PV.flat, PV.noOwn, id_eq, behind, PV.kill, MObj.kill, killTag, reduceCtorEq, nilB]; (try go_unwrap; try simp only [hd, hgl, toNat_add2, toNat_add1, Int.toNat_natCast, Bool.false_and, Bool.true_and, true_implies, true_and, Bool.false_eq_true, reduceCtorEq, false_implies, Bool.not_false, Bool.not_true, Bool.true_or, Bool.false_or]))) | refine And.intro ?_ ?_ | exact Or.inr ⟨rfl, Nat.le_refl _⟩ | exact (fun h => Bool.noConfusion h))
end Go.Proofs.Ytjcoenideicmbaa

namespace Go.Proofs.Ytjcoenideicmbaa
open Go PG Go.Proofs
set_option linter.unusedSimpArgs false
set_option linter.unusedVariables false
set_option maxRecDepth 100000
theorem own1 : ownKnob Try.prog.godebug = none := by kernel_rfl
theorem laidOut : laidOutB Try.prog = true := by kernel_rfl
theorem shAs3 {P : Program} {n : Nat} {a b c : TypeId} {ps : List PV} (h : ShAs P n [a, b, c] ps) : ∃ p q r, ps = [p, q, r] ∧ ShA P n a p ∧ ShA P n b q ∧ ShA P n c r := by
  match ps, h with
  | [p, q, r], h => exact ⟨p, q, r, rfl, h.1, h.2.1, h.2.2.1⟩
theorem en_of {n : Nat} {cs : List PV} (hl : cs.length = 5) (h : ShC Try.prog (n + 2) 50 cs) : ∃ e : En, .agg cs = enP e := by
  obtain ⟨-, hf⟩ := shC_struct Try.underlying50 h
  have c3 : Try.prog.cellsOf 3 = 1 := by kernel_rfl
  have c25 : Try.prog.cellsOf 25 = 1 := by kernel_rfl
  have c2 : Try.prog.cellsOf 2 = 1 := by kernel_rfl
  have c9 : Try.prog.cellsOf 9 = 1 := by kernel_rfl
  simp only [List.mem_cons, List.not_mem_nil, or_false, forall_eq_or_imp, forall_eq, c3, c25, c2, c9] at hf
  match cs, hl with
  | [a, b, c, d, e], _ =>
    obtain ⟨h1, h2, h3, h4, h5⟩ := hf
    obtain ⟨m1, e1, -, -⟩ := shC_int Try.underlying3 h1
    obtain ⟨m2, e2, -, -⟩ := shC_int Try.underlying25 h2
    obtain ⟨m3, e3, -, -⟩ := shC_int Try.underlying25 h3
    obtain ⟨m4, e4, -, -⟩ := shC_int Try.underlying2 h4
    obtain ⟨s5, e5, -⟩ := shC_str Try.underlying9 h5
    simp at e1 e2 e3 e4 e5
    subst e1; subst e2; subst e3; subst e4; subst e5
    exact ⟨⟨m1, m2, m3, m4, s5⟩, rfl⟩
theorem read_en {n : Nat} {x : PV} (hx : fits (some 5) x) (h : ShC Try.prog (n + 2) 50 x.cells) : ∃ e : En, x = enP e ∧ True := by
  obtain ⟨cs, rfl, -, hl⟩ := fits_cells hx
  obtain ⟨e, he⟩ := en_of hl h
  exact ⟨e, he, trivial⟩
theorem read_ens {n : Nat} {p : PV} (h : ShA Try.prog (n + 3) 22 p) : ∃ l : List En, p = enL l ∧ l.length ≤ 9223372036854775807 := by
  obtain ⟨sh, xs, hs, rfl, b, hx⟩ := shA_slice Try.underlying22 h
  have hsh : shOf Try.prog 50 = some (some 5) := by kernel_rfl
  obtain rfl := Option.some.inj (hsh.symm.trans hs)
  obtain ⟨l, rfl, -⟩ := list_of enP (fun _ => True) (xs := xs) (fun x hx' => read_en (hx x hx').1 (hx x hx').2)
  exact ⟨l, rfl, by simpa using b⟩
theorem read_u16 {n : Nat} {p : PV} (h : ShA Try.prog (n + 1) 23 p) : ∃ x : Nat, p = .int .u16 x ∧ 0 ≤ x ∧ x ≤ 65535 := by
  obtain ⟨m, rfl, h1, h2⟩ := shA_int (k := .u16) (by kernel_rfl) h
  have h1 : 0 ≤ m := h1
  have h2 : m ≤ 65535 := h2
  exact ⟨m.toNat, by rw [Int.toNat_of_nonneg h1], by omega, by omega⟩
end Go.Proofs.Ytjcoenideicmbaa

