import Derived.Shelf.SlIter.Nil
import Derived.Shelf.SortM.Plain
import Derived.Shelf.SortM.SortNone
import Derived.Test.YtdemgegpnlngeaaDoorQ14
import Derived.Test.YtdemgegpnlngeaaDoorP4
namespace Go.Proofs.YtdemgegpnlngeaaDoor
open Go PG Go.Proofs
set_option linter.unusedSimpArgs false
set_option linter.unusedVariables false
set_option maxHeartbeats 4000000
set_option maxRecDepth 100000
def balE : List Ent4 → List UInt8 → Int
  | [], _ => 0
  | e :: l, a => (if e.d = a then e.n else 0) - (if e.c = a then e.n else 0) + balE l a
theorem balE_app (l r : List Ent4) (a : List UInt8) : balE (l ++ r) a = balE l a + balE r a := by
  induction l with
  | nil => simp [balE]
  | cons e l ih => simp only [List.cons_append, balE, ih]; omega
theorem wrap_accS (a b : Int) : IntKind.i64.wrap (IntKind.i64.wrap a - b) = IntKind.i64.wrap (a - b) := by
  simp only [IntKind.wrap_i64]
  omega
theorem balE_step (l : List Ent4) (j : Nat) (h : j < l.length) (a : List UInt8) : balE (l.take (j + 1)) a = balE (l.take j) a + ((if l[j].d = a then l[j].n else 0) - (if l[j].c = a then l[j].n else 0)) := by
  rw [List.take_succ_eq_append_getElem h, balE_app]; simp [balE]
theorem v38 (l : List Ent4) (hl : l.length ≤ 9223372036854775807) (a : List UInt8) : VCalls Tryd.prog G0 38 [entL l, .str a] (.int .i64 (IntKind.i64.wrap (balE l a))) := by
  refine VCalls.of_PW Tryd.func38 k38 mix (by simp [c38]) ?_
  simp only [c38, L38, argE]
  have hel : ((l.map entP).length : Nat) = l.length := by simp
  repeat' (first | exact True.intro | (refine PW.seqK ?_; intro K hK) | refine PW.block ?_ | refine PW.exit ?_ | refine PW.ret ?_ | refine PW.skip ?_ | refine seqK_n (by assumption) ?_ | refine seqK_r (by assumption) ?_ | refine seqK_e (by assumption) ?_ | refine PW.regionA ?_ | exact schedW_stop_i | (refine PW.cond rfl ?_ ?_ <;> intro hcond <;> (try contradiction) <;> try simp only [decide_eq_true_eq, decide_eq_false_iff_not] at hcond) | (refine gd_i ?_; intro hg; try simp only [hg]) | ((first | show @LE.le Nat _ _ _ | show @LT.lt Nat _ _ _ | show @LE.le Int _ _ _ | show @LT.lt Int _ _ _ | show @Eq Nat _ _ | show @Eq Int _ _ | show @Eq Bool _ _ | show _ ∨ _ | show ¬ _); first | omega | (simp only [decide_eq_true_eq, decide_eq_false_iff_not, List.length_cons, List.length_nil, List.length_append, List.length_map, Sh.size] <;> omega) | (go_unwrap; omega)) | ((first | refine PW.region ?_ | refine PW.regionQ ?_ | refine schedW_alt_i ?_ ?_ | refine schedW_done_i ?_ | show (_ : Post) _ _ _ | show @Eq (List PV) _ _ | show @Eq Bool _ _ | show opsW _ _ _ _ _ _ _ _ | show okAll _ | show @Eq Bool _ _ ∨ _); focus (simp only [hel, SS, SS2, SS3, SS4, Option.map_some, Bool.not_false, Bool.not_true, gArgs, gOk, Nat.reduceAdd, PV.shift, MObj.shift, rdV, rdD, reduceIte, Nat.reduceEqDiff, Nat.reduceBEq, PV.bin, PV.binOk, binI, binS, PV.withInt, PV.withIntP, okAll, PV.under, PV.okUnder, eq_self, implies_true, deadOk, ne_eq, allOk, RVar.val, RVar.ok, retV, PV.seen, PV.view, beq_self_eq_true, PV.flat, PV.noOwn, id_eq, behind, PV.kill, MObj.kill, killTag, reduceCtorEq, nilB]; (try go_unwrap; try simp only [hel, toNat_add2, toNat_add1, Int.toNat_natCast, Bool.false_and, Bool.true_and, true_implies, true_and, Bool.false_eq_true, reduceCtorEq, false_implies, Bool.not_false, Bool.not_true, Bool.true_or, Bool.false_or]))) | refine And.intro ?_ ?_ | exact Or.inr ⟨rfl, Nat.le_refl _⟩ | exact (fun h => Bool.noConfusion h))
  refine PW.loopG (σ := Nat × Int) 0 (fun _ _ => rfl) [0, 1, 4, 5, 6] (fun s => [entL l, .str a, .int .i64 0, .int .i64 s.2, .int .i64 s.1]) (fun _ => []) (fun s => s.1 ≤ l.length ∧ s.2 = IntKind.i64.wrap (balE (l.take s.1) a)) (fun s => l.length - s.1) (0, 0) ?_ rfl ⟨by simp, by simp [balE]; rfl⟩ ?_
  · simp only [SS, SS2, SS3, SS4, Option.map_some, Bool.not_false, Bool.not_true, gArgs, gOk, Nat.reduceAdd, PV.shift, MObj.shift, rdV, rdD, reduceIte, Nat.reduceEqDiff, Nat.reduceBEq, PV.bin, PV.binOk, binI, binS, PV.withInt, PV.withIntP, okAll, PV.under, PV.okUnder, eq_self, implies_true, deadOk, ne_eq, allOk, RVar.val, RVar.ok, retV, PV.seen, PV.view, beq_self_eq_true, PV.flat, PV.noOwn, id_eq, behind, PV.kill, MObj.kill, killTag, reduceCtorEq, nilB]; rfl
  rintro ⟨j, c⟩ ⟨hj, hs⟩
  simp only at hj hs
  simp only [List.zip_cons_cons, List.zip_nil_left]
  rcases Nat.lt_or_ge j l.length with h | h
  · have hd : decide ((j : Int) < l.length) = true := by simp only [decide_eq_true_eq]; omega
    have hg := ents_getD l j h
    have ht := balE_step l j h a
    generalize l[j] = e at hg ht
    simp only [entP] at hg
    obtain ⟨c2, hc2⟩ : ∃ c2, IntKind.i64.wrap (balE (l.take (j + 1)) a) = c2 := ⟨_, rfl⟩
    rw [ht] at hc2
    rcases Decidable.em (e.d = a) with h1 | h1 <;> rcases Decidable.em (e.c = a) with h2 | h2
    · have d1 : decide (e.d = a) = true := by simpa using h1
      have d2 : decide (e.c = a) = true := by simpa using h2
      rw [if_pos h1, if_pos h2] at hc2
      have w : IntKind.i64.wrap (IntKind.i64.wrap (c + e.n) - e.n) = c2 := by rw [← hc2, hs, wrap_acc, wrap_accS]; congr 1; omega
      repeat' (first | exact True.intro | (refine PW.seqK ?_; intro K hK) | refine PW.block ?_ | refine PW.exit ?_ | refine PW.ret ?_ | refine PW.skip ?_ | refine seqK_n (by assumption) ?_ | refine seqK_r (by assumption) ?_ | refine seqK_e (by assumption) ?_ | refine PW.regionA ?_ | exact schedW_stop_i | (refine PW.cond rfl ?_ ?_ <;> intro hcond <;> (try contradiction) <;> try simp only [decide_eq_true_eq, decide_eq_false_iff_not] at hcond) | (refine gd_i ?_; intro hg; try simp only [hg]) | ((first | show @LE.le Nat _ _ _ | show @LT.lt Nat _ _ _ | show @LE.le Int _ _ _ | show @LT.lt Int _ _ _ | show @Eq Nat _ _ | show @Eq Int _ _ | show @Eq Bool _ _ | show _ ∨ _ | show ¬ _); first | omega | (simp only [decide_eq_true_eq, decide_eq_false_iff_not, List.length_cons, List.length_nil, List.length_append, List.length_map, Sh.size] <;> omega) | (go_unwrap; omega)) | ((first | refine PW.region ?_ | refine PW.regionQ ?_ | refine schedW_alt_i ?_ ?_ | refine schedW_done_i ?_ | show (_ : Post) _ _ _ | show @Eq (List PV) _ _ | show @Eq Bool _ _ | show opsW _ _ _ _ _ _ _ _ | show okAll _ | show @Eq Bool _ _ ∨ _); focus (simp only [hd, hg, hel, d1, d2, w, SS, SS2, SS3, SS4, Option.map_some, Bool.not_false, Bool.not_true, gArgs, gOk, Nat.reduceAdd, PV.shift, MObj.shift, rdV, rdD, reduceIte, Nat.reduceEqDiff, Nat.reduceBEq, PV.bin, PV.binOk, binI, binS, PV.withInt, PV.withIntP, okAll, PV.under, PV.okUnder, eq_self, implies_true, deadOk, ne_eq, allOk, RVar.val, RVar.ok, retV, PV.seen, PV.view, beq_self_eq_true, PV.flat, PV.noOwn, id_eq, behind, PV.kill, MObj.kill, killTag, reduceCtorEq, nilB]; (try go_unwrap; try simp only [hd, hg, hel, d1, d2, w, toNat_add2, toNat_add1, Int.toNat_natCast, Bool.false_and, Bool.true_and, true_implies, true_and, Bool.false_eq_true, reduceCtorEq, false_implies, Bool.not_false, Bool.not_true, Bool.true_or, Bool.false_or]))) | refine And.intro ?_ ?_ | exact Or.inr ⟨rfl, Nat.le_refl _⟩ | exact (fun h => Bool.noConfusion h))
      exact ⟨(j + 1, c2), (by first | rfl | (simp only [trimE, trimM, List.take_succ_cons, List.take_zero, List.take_nil, List.map_cons, List.map_nil, Option.map_some, Option.map_none, MObj.kill, PV.kill, Nat.reduceLeDiff, decide_true, decide_false, dec_true, dec_false, Bool.false_eq_true, if_false, if_true, reduceIte, List.zip_cons_cons, List.zip_nil_left, Nat.le_refl, Nat.zero_le, Nat.not_le, Nat.lt_irrefl]; done) | (simp [trimE, trimM, MObj.kill, PV.kill]; done)), (by first | rfl | (simp only [trimE, trimM, List.take_succ_cons, List.take_zero, List.take_nil, List.map_cons, List.map_nil, Option.map_some, Option.map_none, MObj.kill, PV.kill, Nat.reduceLeDiff, decide_true, decide_false, dec_true, dec_false, Bool.false_eq_true, if_false, if_true, reduceIte, List.zip_cons_cons, List.zip_nil_left, Nat.le_refl, Nat.zero_le, Nat.not_le, Nat.lt_irrefl]; done) | (simp [trimE, trimM, MObj.kill, PV.kill]; done)), ⟨by simp only; omega, by simp only; rw [ht, if_pos h1, if_pos h2, hc2]⟩, by simp only; omega⟩
    · have d1 : decide (e.d = a) = true := by simpa using h1
      have d2 : decide (e.c = a) = false := by simpa using h2
      rw [if_pos h1, if_neg h2] at hc2
      have w : IntKind.i64.wrap (c + e.n) = c2 := by rw [← hc2, hs, wrap_acc]; congr 1; omega
      repeat' (first | exact True.intro | (refine PW.seqK ?_; intro K hK) | refine PW.block ?_ | refine PW.exit ?_ | refine PW.ret ?_ | refine PW.skip ?_ | refine seqK_n (by assumption) ?_ | refine seqK_r (by assumption) ?_ | refine seqK_e (by assumption) ?_ | refine PW.regionA ?_ | exact schedW_stop_i | (refine PW.cond rfl ?_ ?_ <;> intro hcond <;> (try contradiction) <;> try simp only [decide_eq_true_eq, decide_eq_false_iff_not] at hcond) | (refine gd_i ?_; intro hg; try simp only [hg]) | ((first | show @LE.le Nat _ _ _ | show @LT.lt Nat _ _ _ | show @LE.le Int _ _ _ | show @LT.lt Int _ _ _ | show @Eq Nat _ _ | show @Eq Int _ _ | show @Eq Bool _ _ | show _ ∨ _ | show ¬ _); first | omega | (simp only [decide_eq_true_eq, decide_eq_false_iff_not, List.length_cons, List.length_nil, List.length_append, List.length_map, Sh.size] <;> omega) | (go_unwrap; omega)) | ((first | refine PW.region ?_ | refine PW.regionQ ?_ | refine schedW_alt_i ?_ ?_ | refine schedW_done_i ?_ | show (_ : Post) _ _ _ | show @Eq (List PV) _ _ | show @Eq Bool _ _ | show opsW _ _ _ _ _ _ _ _ | show okAll _ | show @Eq Bool _ _ ∨ _); focus (simp only [hd, hg, hel, d1, d2, w, SS, SS2, SS3, SS4, Option.map_some, Bool.not_false, Bool.not_true, gArgs, gOk, Nat.reduceAdd, PV.shift, MObj.shift, rdV, rdD, reduceIte, Nat.reduceEqDiff, Nat.reduceBEq, PV.bin, PV.binOk, binI, binS, PV.withInt, PV.withIntP, okAll, PV.under, PV.okUnder, eq_self, implies_true, deadOk, ne_eq, allOk, RVar.val, RVar.ok, retV, PV.seen, PV.view, beq_self_eq_true, PV.flat, PV.noOwn, id_eq, behind, PV.kill, MObj.kill, killTag, reduceCtorEq, nilB]; (try go_unwrap; try simp only [hd, hg, hel, d1, d2, w, toNat_add2, toNat_add1, Int.toNat_natCast, Bool.false_and, Bool.true_and, true_implies, true_and, Bool.false_eq_true, reduceCtorEq, false_implies, Bool.not_false, Bool.not_true, Bool.true_or, Bool.false_or]))) | refine And.intro ?_ ?_ | exact Or.inr ⟨rfl, Nat.le_refl _⟩ | exact (fun h => Bool.noConfusion h))
      exact ⟨(j + 1, c2), (by first | rfl | (simp only [trimE, trimM, List.take_succ_cons, List.take_zero, List.take_nil, List.map_cons, List.map_nil, Option.map_some, Option.map_none, MObj.kill, PV.kill, Nat.reduceLeDiff, decide_true, decide_false, dec_true, dec_false, Bool.false_eq_true, if_false, if_true, reduceIte, List.zip_cons_cons, List.zip_nil_left, Nat.le_refl, Nat.zero_le, Nat.not_le, Nat.lt_irrefl]; done) | (simp [trimE, trimM, MObj.kill, PV.kill]; done)), (by first | rfl | (simp only [trimE, trimM, List.take_succ_cons, List.take_zero, List.take_nil, List.map_cons, List.map_nil, Option.map_some, Option.map_none, MObj.kill, PV.kill, Nat.reduceLeDiff, decide_true, decide_false, dec_true, dec_false, Bool.false_eq_true, if_false, if_true, reduceIte, List.zip_cons_cons, List.zip_nil_left, Nat.le_refl, Nat.zero_le, Nat.not_le, Nat.lt_irrefl]; done) | (simp [trimE, trimM, MObj.kill, PV.kill]; done)), ⟨by simp only; omega, by simp only; rw [ht, if_pos h1, if_neg h2, hc2]⟩, by simp only; omega⟩
    · have d1 : decide (e.d = a) = false := by simpa using h1
      have d2 : decide (e.c = a) = true := by simpa using h2
      rw [if_neg h1, if_pos h2] at hc2
      have w : IntKind.i64.wrap (c - e.n) = c2 := by rw [← hc2, hs, wrap_accS]; congr 1; omega
      repeat' (first | exact True.intro | (refine PW.seqK ?_; intro K hK) | refine PW.block ?_ | refine PW.exit ?_ | refine PW.ret ?_ | refine PW.skip ?_ | refine seqK_n (by assumption) ?_ | refine seqK_r (by assumption) ?_ | refine seqK_e (by assumption) ?_ | refine PW.regionA ?_ | exact schedW_stop_i | (refine PW.cond rfl ?_ ?_ <;> intro hcond <;> (try contradiction) <;> try simp only [decide_eq_true_eq, decide_eq_false_iff_not] at hcond) | (refine gd_i ?_; intro hg; try simp only [hg]) | ((first | show @LE.le Nat _ _ _ | show @LT.lt Nat _ _ _ | show @LE.le Int _ _ _ | show @LT.lt Int _ _ _ | show @Eq Nat _ _ | show @Eq Int _ _ | show @Eq Bool _ _ | show _ ∨ _ | show ¬ _); first | omega | (simp only [decide_eq_true_eq, decide_eq_false_iff_not, List.length_cons, List.length_nil, List.length_append, List.length_map, Sh.size] <;> omega) | (go_unwrap; omega)) | ((first | refine PW.region ?_ | refine PW.regionQ ?_ | refine schedW_alt_i ?_ ?_ | refine schedW_done_i ?_ | show (_ : Post) _ _ _ | show @Eq (List PV) _ _ | show @Eq Bool _ _ | show opsW _ _ _ _ _ _ _ _ | show okAll _ | show @Eq Bool _ _ ∨ _); focus (simp only [hd, hg, hel, d1, d2, w, SS, SS2, SS3, SS4, Option.map_some, Bool.not_false, Bool.not_true, gArgs, gOk, Nat.reduceAdd, PV.shift, MObj.shift, rdV, rdD, reduceIte, Nat.reduceEqDiff, Nat.reduceBEq, PV.bin, PV.binOk, binI, binS, PV.withInt, PV.withIntP, okAll, PV.under, PV.okUnder, eq_self, implies_true, deadOk, ne_eq, allOk, RVar.val, RVar.ok, retV, PV.seen, PV.view, beq_self_eq_true, PV.flat, PV.noOwn, id_eq, behind, PV.kill, MObj.kill, killTag, reduceCtorEq, nilB]; (try go_unwrap; try simp only [hd, hg, hel, d1, d2, w, toNat_add2, toNat_add1, Int.toNat_natCast, Bool.false_and, Bool.true_and, true_implies, true_and, Bool.false_eq_true, reduceCtorEq, false_implies, Bool.not_false, Bool.not_true, Bool.true_or, Bool.false_or]))) | refine And.intro ?_ ?_ | exact Or.inr ⟨rfl, Nat.le_refl _⟩ | exact (fun h => Bool.noConfusion h))
      exact ⟨(j + 1, c2), (by first | rfl | (simp only [trimE, trimM, List.take_succ_cons, List.take_zero, List.take_nil, List.map_cons, List.map_nil, Option.map_some, Option.map_none, MObj.kill, PV.kill, Nat.reduceLeDiff, decide_true, decide_false, dec_true, dec_false, Bool.false_eq_true, if_false, if_true, reduceIte, List.zip_cons_cons, List.zip_nil_left, Nat.le_refl, Nat.zero_le, Nat.not_le, Nat.lt_irrefl]; done) | (simp [trimE, trimM, MObj.kill, PV.kill]; done)), (by first | rfl | (simp only [trimE, trimM, List.take_succ_cons, List.take_zero, List.take_nil, List.map_cons, List.map_nil, Option.map_some, Option.map_none, MObj.kill, PV.kill, Nat.reduceLeDiff, decide_true, decide_false, dec_true, dec_false, Bool.false_eq_true, if_false, if_true, reduceIte, List.zip_cons_cons, List.zip_nil_left, Nat.le_refl, Nat.zero_le, Nat.not_le, Nat.lt_irrefl]; done) | (simp [trimE, trimM, MObj.kill, PV.kill]; done)), ⟨by simp only; omega, by simp only; rw [ht, if_neg h1, if_pos h2, hc2]⟩, by simp only; omega⟩
    · have d1 : decide (e.d = a) = false := by simpa using h1
      have d2 : decide (e.c = a) = false := by simpa using h2
      rw [if_neg h1, if_neg h2] at hc2
      have w : c = c2 := by rw [← hc2, hs]; congr 1; omega
      repeat' (first | exact True.intro | (refine PW.seqK ?_; intro K hK) | refine PW.block ?_ | refine PW.exit ?_ | refine PW.ret ?_ | refine PW.skip ?_ | refine seqK_n (by assumption) ?_ | refine seqK_r (by assumption) ?_ | refine seqK_e (by assumption) ?_ | refine PW.regionA ?_ | exact schedW_stop_i | (refine PW.cond rfl ?_ ?_ <;> intro hcond <;> (try contradiction) <;> try simp only [decide_eq_true_eq, decide_eq_false_iff_not] at hcond) | (refine gd_i ?_; intro hg; try simp only [hg]) | ((first | show @LE.le Nat _ _ _ | show @LT.lt Nat _ _ _ | show @LE.le Int _ _ _ | show @LT.lt Int _ _ _ | show @Eq Nat _ _ | show @Eq Int _ _ | show @Eq Bool _ _ | show _ ∨ _ | show ¬ _); first | omega | (simp only [decide_eq_true_eq, decide_eq_false_iff_not, List.length_cons, List.length_nil, List.length_append, List.length_map, Sh.size] <;> omega) | (go_unwrap; omega)) | ((first | refine PW.region ?_ | refine PW.regionQ ?_ | refine schedW_alt_i ?_ ?_ | refine schedW_done_i ?_ | show (_ : Post) _ _ _ | show @Eq (List PV) _ _ | show @Eq Bool _ _ | show opsW _ _ _ _ _ _ _ _ | show okAll _ | show @Eq Bool _ _ ∨ _); focus (simp only [hd, hg, hel, d1, d2, SS, SS2, SS3, SS4, Option.map_some, Bool.not_false, Bool.not_true, gArgs, gOk, Nat.reduceAdd, PV.shift, MObj.shift, rdV, rdD, reduceIte, Nat.reduceEqDiff, Nat.reduceBEq, PV.bin, PV.binOk, binI, binS, PV.withInt, PV.withIntP, okAll, PV.under, PV.okUnder, eq_self, implies_true, deadOk, ne_eq, allOk, RVar.val, RVar.ok, retV, PV.seen, PV.view, beq_self_eq_true, PV.flat, PV.noOwn, id_eq, behind, PV.kill, MObj.kill, killTag, reduceCtorEq, nilB]; (try go_unwrap; try simp only [hd, hg, hel, d1, d2, toNat_add2, toNat_add1, Int.toNat_natCast, Bool.false_and, Bool.true_and, true_implies, true_and, Bool.false_eq_true, reduceCtorEq, false_implies, Bool.not_false, Bool.not_true, Bool.true_or, Bool.false_or]))) | refine And.intro ?_ ?_ | exact Or.inr ⟨rfl, Nat.le_refl _⟩ | exact (fun h => Bool.noConfusion h))
      exact ⟨(j + 1, c), (by first | rfl | (simp only [trimE, trimM, List.take_succ_cons, List.take_zero, List.take_nil, List.map_cons, List.map_nil, Option.map_some, Option.map_none, MObj.kill, PV.kill, Nat.reduceLeDiff, decide_true, decide_false, dec_true, dec_false, Bool.false_eq_true, if_false, if_true, reduceIte, List.zip_cons_cons, List.zip_nil_left, Nat.le_refl, Nat.zero_le, Nat.not_le, Nat.lt_irrefl]; done) | (simp [trimE, trimM, MObj.kill, PV.kill]; done)), (by first | rfl | (simp only [trimE, trimM, List.take_succ_cons, List.take_zero, List.take_nil, List.map_cons, List.map_nil, Option.map_some, Option.map_none, MObj.kill, PV.kill, Nat.reduceLeDiff, decide_true, decide_false, dec_true, dec_false, Bool.false_eq_true, if_false, if_true, reduceIte, List.zip_cons_cons, List.zip_nil_left, Nat.le_refl, Nat.zero_le, Nat.not_le, Nat.lt_irrefl]; done) | (simp [trimE, trimM, MObj.kill, PV.kill]; done)), ⟨by simp only; omega, by simp only; rw [ht, if_neg h1, if_neg h2, hc2, w]⟩, by simp only; omega⟩
  · have hd : decide ((j : Int) < l.length) = false := by simp only [decide_eq_false_iff_not]; omega
    rw [List.take_of_length_le h] at hs
    repeat' (first | exact True.intro | (refine PW.seqK ?_; intro K hK) | refine PW.block ?_ | refine PW.exit ?_ | refine PW.ret ?_ | refine PW.skip ?_ | refine seqK_n (by assumption) ?_ | refine seqK_r (by assumption) ?_ | refine seqK_e (by assumption) ?_ | refine PW.regionA ?_ | exact schedW_stop_i | (refine PW.cond rfl ?_ ?_ <;> intro hcond <;> (try contradiction) <;> try simp only [decide_eq_true_eq, decide_eq_false_iff_not] at hcond) | (refine gd_i ?_; intro hg; try simp only [hg]) | ((first | show @LE.le Nat _ _ _ | show @LT.lt Nat _ _ _ | show @LE.le Int _ _ _ | show @LT.lt Int _ _ _ | show @Eq Nat _ _ | show @Eq Int _ _ | show @Eq Bool _ _ | show _ ∨ _ | show ¬ _); first | omega | (simp only [decide_eq_true_eq, decide_eq_false_iff_not, List.length_cons, List.length_nil, List.length_append, List.length_map, Sh.size] <;> omega) | (go_unwrap; omega)) | ((first | refine PW.region ?_ | refine PW.regionQ ?_ | refine schedW_alt_i ?_ ?_ | refine schedW_done_i ?_ | show (_ : Post) _ _ _ | show @Eq (List PV) _ _ | show @Eq Bool _ _ | show opsW _ _ _ _ _ _ _ _ | show okAll _ | show @Eq Bool _ _ ∨ _); focus (simp only [hd, hel, SS, SS2, SS3, SS4, Option.map_some, Bool.not_false, Bool.not_true, gArgs, gOk, Nat.reduceAdd, PV.shift, MObj.shift, rdV, rdD, reduceIte, Nat.reduceEqDiff, Nat.reduceBEq, PV.bin, PV.binOk, binI, binS, PV.withInt, PV.withIntP, okAll, PV.under, PV.okUnder, eq_self, implies_true, deadOk, ne_eq, allOk, RVar.val, RVar.ok, retV, PV.seen, PV.view, beq_self_eq_true, PV.flat, PV.noOwn, id_eq, behind, PV.kill, MObj.kill, killTag, reduceCtorEq, nilB]; (try go_unwrap; try simp only [hd, hel, toNat_add2, toNat_add1, Int.toNat_natCast, Bool.false_and, Bool.true_and, true_implies, true_and, Bool.false_eq_true, reduceCtorEq, false_implies, Bool.not_false, Bool.not_true, Bool.true_or, Bool.false_or]))) | refine And.intro ?_ ?_ | exact Or.inr ⟨rfl, Nat.le_refl _⟩ | exact (fun h => Bool.noConfusion h))
    rw [hs]
theorem bat_getD (l : List (List Ent4)) (i : Nat) (h : i < l.length) : (l.map entL).getD i .junk = entL l[i] := by simp [List.getD, h]
theorem flat_take_le (l : List (List Ent4)) (j : Nat) : (l.take j).flatten.length ≤ l.flatten.length := by
  have : l.flatten = (l.take j).flatten ++ (l.drop j).flatten := by rw [← List.flatten_append, List.take_append_drop]
  rw [this, List.length_append]; omega
theorem v39 (l : List (List Ent4)) (hl : l.length ≤ 1000000) (ht : l.flatten.length ≤ 1000000000) : VCalls Tryd.prog G0 39 [batP l] (entL l.flatten) := by
  refine VCalls.of_PW Tryd.func39 k39 mix (by simp [c39]) ?_
  simp only [c39, L39, argE, batP]
  have hel : ((l.map entL).length : Nat) = l.length := by simp
  repeat' (first | exact True.intro | (refine PW.seqK ?_; intro K hK) | refine PW.block ?_ | refine PW.exit ?_ | refine PW.ret ?_ | refine PW.skip ?_ | refine seqK_n (by assumption) ?_ | refine seqK_r (by assumption) ?_ | refine seqK_e (by assumption) ?_ | refine PW.regionA ?_ | exact schedW_stop_i | (refine PW.cond rfl ?_ ?_ <;> intro hcond <;> (try contradiction) <;> try simp only [decide_eq_true_eq, decide_eq_false_iff_not] at hcond) | (refine gd_i ?_; intro hg; try simp only [hg]) | ((first | show @LE.le Nat _ _ _ | show @LT.lt Nat _ _ _ | show @LE.le Int _ _ _ | show @LT.lt Int _ _ _ | show @Eq Nat _ _ | show @Eq Int _ _ | show @Eq Bool _ _ | show _ ∨ _ | show ¬ _); first | omega | (simp only [decide_eq_true_eq, decide_eq_false_iff_not, List.length_cons, List.length_nil, List.length_append, List.length_map, Sh.size] <;> omega) | (go_unwrap; omega)) | ((first | refine PW.region ?_ | refine PW.regionQ ?_ | refine schedW_alt_i ?_ ?_ | refine schedW_done_i ?_ | show (_ : Post) _ _ _ | show @Eq (List PV) _ _ | show @Eq Bool _ _ | show opsW _ _ _ _ _ _ _ _ | show okAll _ | show @Eq Bool _ _ ∨ _); focus (simp only [hel, SS, SS2, SS3, SS4, Option.map_some, Bool.not_false, Bool.not_true, gArgs, gOk, Nat.reduceAdd, PV.shift, MObj.shift, rdV, rdD, reduceIte, Nat.reduceEqDiff, Nat.reduceBEq, PV.bin, PV.binOk, binI, binS, PV.withInt, PV.withIntP, okAll, PV.under, PV.okUnder, eq_self, implies_true, deadOk, ne_eq, allOk, RVar.val, RVar.ok, retV, PV.seen, PV.view, beq_self_eq_true, PV.flat, PV.noOwn, id_eq, behind, PV.kill, MObj.kill, killTag, reduceCtorEq, nilB]; (try go_unwrap; try simp only [hel, toNat_add2, toNat_add1, Int.toNat_natCast, Bool.false_and, Bool.true_and, true_implies, true_and, Bool.false_eq_true, reduceCtorEq, false_implies, Bool.not_false, Bool.not_true, Bool.true_or, Bool.false_or]))) | refine And.intro ?_ ?_ | exact Or.inr ⟨rfl, Nat.le_refl _⟩ | exact (fun h => Bool.noConfusion h))
  refine PW.own (some 4) 3 rfl ?_
  refine PW.loopG (σ := Nat) 1 (fun _ _ => rfl) [0, 2, 3, 4] (fun j => [.list none (l.map entL), .nilSl, .sl (some 4) 0 (l.take j).flatten.length, .int .i64 j]) (fun j => [some (.row (some 4) ((l.take j).flatten.map entP))]) (fun j => j ≤ l.length) (fun j => l.length - j) 0 ?_ (by simp) (by omega) ?_
  · simp only [SS, SS2, SS3, SS4, Option.map_some, Bool.not_false, Bool.not_true, gArgs, gOk, Nat.reduceAdd, PV.shift, MObj.shift, rdV, rdD, reduceIte, Nat.reduceEqDiff, Nat.reduceBEq, PV.bin, PV.binOk, binI, binS, PV.withInt, PV.withIntP, okAll, PV.under, PV.okUnder, eq_self, implies_true, deadOk, ne_eq, allOk, RVar.val, RVar.ok, retV, PV.seen, PV.view, beq_self_eq_true, PV.flat, PV.noOwn, id_eq, behind, PV.kill, MObj.kill, killTag, reduceCtorEq, nilB]; rfl
  rintro j hj
  simp only [List.zip_cons_cons, List.zip_nil_left]
  rcases Nat.lt_or_ge j l.length with h | h
  · have hd : decide ((j : Int) < l.length) = true := by simp only [decide_eq_true_eq]; omega
    have hg := bat_getD l j h
    have hb := flat_take_le l (j + 1)
    have hs : (l.take (j + 1)).flatten = (l.take j).flatten ++ l[j] := by rw [List.take_succ_eq_append_getElem h, List.flatten_append]; simp
    rw [hs] at hb
    have hA : ((l.take j).flatten.map entP).length = (l.take j).flatten.length := List.length_map _
    have hT : ((l.take j).flatten.map entP).take (l.take j).flatten.length = (l.take j).flatten.map entP := List.take_of_length_le (by rw [List.length_map]; exact Nat.le_refl _)
    generalize l[j] = b at hg hs hb
    generalize (l.take j).flatten = A at *
    rw [List.length_append] at hb
    have b1 : ((A.map entP).take A.length).length + (b.map entP).length ≤ 9223372036854775807 := by rw [hT]; simp; omega
    have b2 : (((A.map entP).take A.length).length + (b.map entP).length) * 56 ≤ 140737488355328 := by rw [hT]; simp; omega
    have hbl : (b.map entP).length = b.length := by simp
    repeat' (first | exact True.intro | (refine PW.seqK ?_; intro K hK) | refine PW.block ?_ | refine PW.exit ?_ | refine PW.ret ?_ | refine PW.skip ?_ | refine seqK_n (by assumption) ?_ | refine seqK_r (by assumption) ?_ | refine seqK_e (by assumption) ?_ | refine PW.regionA ?_ | exact schedW_stop_i | (refine PW.cond rfl ?_ ?_ <;> intro hcond <;> (try contradiction) <;> try simp only [decide_eq_true_eq, decide_eq_false_iff_not] at hcond) | (refine gd_i ?_; intro hg; try simp only [hg]) | ((first | show @LE.le Nat _ _ _ | show @LT.lt Nat _ _ _ | show @LE.le Int _ _ _ | show @LT.lt Int _ _ _ | show @Eq Nat _ _ | show @Eq Int _ _ | show @Eq Bool _ _ | show _ ∨ _ | show ¬ _); first | omega | (simp only [decide_eq_true_eq, decide_eq_false_iff_not, List.length_cons, List.length_nil, List.length_append, List.length_map, Sh.size] <;> omega) | (go_unwrap; omega)) | ((first | refine PW.region ?_ | refine PW.regionQ ?_ | refine schedW_alt_i ?_ ?_ | refine schedW_done_i ?_ | show (_ : Post) _ _ _ | show @Eq (List PV) _ _ | show @Eq Bool _ _ | show opsW _ _ _ _ _ _ _ _ | show okAll _ | show @Eq Bool _ _ ∨ _); focus (simp only [hd, hg, hel, hT, hA, hbl, SS, SS2, SS3, SS4, Option.map_some, Bool.not_false, Bool.not_true, gArgs, gOk, Nat.reduceAdd, PV.shift, MObj.shift, rdV, rdD, reduceIte, Nat.reduceEqDiff, Nat.reduceBEq, PV.bin, PV.binOk, binI, binS, PV.withInt, PV.withIntP, okAll, PV.under, PV.okUnder, eq_self, implies_true, deadOk, ne_eq, allOk, RVar.val, RVar.ok, retV, PV.seen, PV.view, beq_self_eq_true, PV.flat, PV.noOwn, id_eq, behind, PV.kill, MObj.kill, killTag, reduceCtorEq, nilB]; (try go_unwrap; try simp only [hd, hg, hel, hT, hA, hbl, toNat_add2, toNat_add1, Int.toNat_natCast, Bool.false_and, Bool.true_and, true_implies, true_and, Bool.false_eq_true, reduceCtorEq, false_implies, Bool.not_false, Bool.not_true, Bool.true_or, Bool.false_or]))) | refine And.intro ?_ ?_ | exact Or.inr ⟨rfl, Nat.le_refl _⟩ | exact (fun h => Bool.noConfusion h))
    all_goals (try (simp only [hA, hbl]; omega))
    refine ⟨j + 1, ?_, ?_, by omega, by omega⟩
    · rw [hs, List.length_append]; exact (by first | rfl | (simp only [trimE, trimM, List.take_succ_cons, List.take_zero, List.take_nil, List.map_cons, List.map_nil, Option.map_some, Option.map_none, MObj.kill, PV.kill, Nat.reduceLeDiff, decide_true, decide_false, dec_true, dec_false, Bool.false_eq_true, if_false, if_true, reduceIte, List.zip_cons_cons, List.zip_nil_left, Nat.le_refl, Nat.zero_le, Nat.not_le, Nat.lt_irrefl]; done) | (simp [trimE, trimM, MObj.kill, PV.kill]; done))
    · rw [hs, List.map_append]; exact (by first | rfl | (simp only [trimE, trimM, List.take_succ_cons, List.take_zero, List.take_nil, List.map_cons, List.map_nil, Option.map_some, Option.map_none, MObj.kill, PV.kill, Nat.reduceLeDiff, decide_true, decide_false, dec_true, dec_false, Bool.false_eq_true, if_false, if_true, reduceIte, List.zip_cons_cons, List.zip_nil_left, Nat.le_refl, Nat.zero_le, Nat.not_le, Nat.lt_irrefl]; done) | (simp [trimE, trimM, MObj.kill, PV.kill]; done))
  · have hd : decide ((j : Int) < l.length) = false := by simp only [decide_eq_false_iff_not]; omega
    have hT : ((l.take j).flatten.map entP).take (l.take j).flatten.length = (l.take j).flatten.map entP := List.take_of_length_le (by rw [List.length_map]; exact Nat.le_refl _)
    have hA : ((l.take j).flatten.map entP).length = (l.take j).flatten.length := List.length_map _
    repeat' (first | exact True.intro | (refine PW.seqK ?_; intro K hK) | refine PW.block ?_ | refine PW.exit ?_ | refine PW.ret ?_ | refine PW.skip ?_ | refine seqK_n (by assumption) ?_ | refine seqK_r (by assumption) ?_ | refine seqK_e (by assumption) ?_ | refine PW.regionA ?_ | exact schedW_stop_i | (refine PW.cond rfl ?_ ?_ <;> intro hcond <;> (try contradiction) <;> try simp only [decide_eq_true_eq, decide_eq_false_iff_not] at hcond) | (refine gd_i ?_; intro hg; try simp only [hg]) | ((first | show @LE.le Nat _ _ _ | show @LT.lt Nat _ _ _ | show @LE.le Int _ _ _ | show @LT.lt Int _ _ _ | show @Eq Nat _ _ | show @Eq Int _ _ | show @Eq Bool _ _ | show _ ∨ _ | show ¬ _); first | omega | (simp only [decide_eq_true_eq, decide_eq_false_iff_not, List.length_cons, List.length_nil, List.length_append, List.length_map, Sh.size] <;> omega) | (go_unwrap; omega)) | ((first | refine PW.region ?_ | refine PW.regionQ ?_ | refine schedW_alt_i ?_ ?_ | refine schedW_done_i ?_ | show (_ : Post) _ _ _ | show @Eq (List PV) _ _ | show @Eq Bool _ _ | show opsW _ _ _ _ _ _ _ _ | show okAll _ | show @Eq Bool _ _ ∨ _); focus (simp only [hd, hel, hT, hA, Nat.le_refl, SS, SS2, SS3, SS4, Option.map_some, Bool.not_false, Bool.not_true, gArgs, gOk, Nat.reduceAdd, PV.shift, MObj.shift, rdV, rdD, reduceIte, Nat.reduceEqDiff, Nat.reduceBEq, PV.bin, PV.binOk, binI, binS, PV.withInt, PV.withIntP, okAll, PV.under, PV.okUnder, eq_self, implies_true, deadOk, ne_eq, allOk, RVar.val, RVar.ok, retV, PV.seen, PV.view, beq_self_eq_true, PV.flat, PV.noOwn, id_eq, behind, PV.kill, MObj.kill, killTag, reduceCtorEq, nilB]; (try go_unwrap; try simp only [hd, hel, hT, hA, Nat.le_refl, toNat_add2, toNat_add1, Int.toNat_natCast, Bool.false_and, Bool.true_and, true_implies, true_and, Bool.false_eq_true, reduceCtorEq, false_implies, Bool.not_false, Bool.not_true, Bool.true_or, Bool.false_or]))) | refine And.intro ?_ ?_ | exact Or.inr ⟨rfl, Nat.le_refl _⟩ | exact (fun h => Bool.noConfusion h))
    rw [List.take_of_length_le h]
end Go.Proofs.YtdemgegpnlngeaaDoor

namespace Go.Proofs.YtdemgegpnlngeaaDoor
open Go PG Go.Proofs
set_option linter.unusedSimpArgs false
set_option linter.unusedVariables false
set_option maxHeartbeats 4000000
set_option maxRecDepth 100000
theorem v46 (o : Off) (hz : o.code.length ≤ 1048576) (a : List UInt8) (c : Int) : VCalls Tryd.prog G0 46 [offP o, .str a, .int .i64 c] (entP (entM o a c)) := by
  refine VCalls.of_PW Tryd.func46 k46 mix (by simp [c46]) ?_
  simp only [c46, L46, argE, offP]
  have hm : ([114, 101, 109, 105, 116, 32] : List UInt8).length + o.code.length ≤ 9223372036854775807 := by simp; omega
  repeat' (first | exact True.intro | (refine PW.seqK ?_; intro K hK) | refine PW.block ?_ | refine PW.exit ?_ | refine PW.ret ?_ | refine PW.skip ?_ | refine seqK_n (by assumption) ?_ | refine seqK_r (by assumption) ?_ | refine seqK_e (by assumption) ?_ | refine PW.regionA ?_ | exact schedW_stop_i | (refine PW.cond rfl ?_ ?_ <;> intro hcond <;> (try contradiction) <;> try simp only [decide_eq_true_eq, decide_eq_false_iff_not] at hcond) | (refine gd_i ?_; intro hg; try simp only [hg]) | ((first | show @LE.le Nat _ _ _ | show @LT.lt Nat _ _ _ | show @LE.le Int _ _ _ | show @LT.lt Int _ _ _ | show @Eq Nat _ _ | show @Eq Int _ _ | show @Eq Bool _ _ | show _ ∨ _ | show ¬ _); first | omega | (simp only [decide_eq_true_eq, decide_eq_false_iff_not, List.length_cons, List.length_nil, List.length_append, List.length_map, Sh.size] <;> omega) | (go_unwrap; omega)) | ((first | refine PW.region ?_ | refine PW.regionQ ?_ | refine schedW_alt_i ?_ ?_ | refine schedW_done_i ?_ | show (_ : Post) _ _ _ | show @Eq (List PV) _ _ | show @Eq Bool _ _ | show opsW _ _ _ _ _ _ _ _ | show okAll _ | show @Eq Bool _ _ ∨ _); focus (simp only [hm, SS, SS2, SS3, SS4, Option.map_some, Bool.not_false, Bool.not_true, gArgs, gOk, Nat.reduceAdd, PV.shift, MObj.shift, rdV, rdD, reduceIte, Nat.reduceEqDiff, Nat.reduceBEq, PV.bin, PV.binOk, binI, binS, PV.withInt, PV.withIntP, okAll, PV.under, PV.okUnder, eq_self, implies_true, deadOk, ne_eq, allOk, RVar.val, RVar.ok, retV, PV.seen, PV.view, beq_self_eq_true, PV.flat, PV.noOwn, id_eq, behind, PV.kill, MObj.kill, killTag, reduceCtorEq, nilB]; (try go_unwrap; try simp only [hm, toNat_add2, toNat_add1, Int.toNat_natCast, Bool.false_and, Bool.true_and, true_implies, true_and, Bool.false_eq_true, reduceCtorEq, false_implies, Bool.not_false, Bool.not_true, Bool.true_or, Bool.false_or]))) | refine And.intro ?_ ?_ | exact Or.inr ⟨rfl, Nat.le_refl _⟩ | exact (fun h => Bool.noConfusion h))
  · rw [entM, if_pos (by simpa using hcond)]; rfl
  · rw [entM, if_neg (by simpa using hcond)]; rfl
structure LgW (l : Lg) : Prop where
  len : l.bs.length ≤ 4096
  inb : inB l.map
  bal : ∀ a, bget l.map a = balE l.bs.flatten a
  ok : ∀ b ∈ l.bs, batchW b = 0
theorem LgW.flat {l : Lg} (h : LgW l) : l.bs.flatten.length ≤ 268435456 := by
  have key : ∀ bs : List (List Ent4), (∀ b ∈ bs, batchW b = 0) → bs.flatten.length ≤ bs.length * 65536 := by
    intro bs
    induction bs with
    | nil => simp
    | cons b bs ih =>
      intro hb
      have h1 := (batch0 (hb b (by simp))).2.1
      have h2 := ih (fun b h => hb b (by simp [h]))
      simp only [List.flatten_cons, List.length_append, List.length_cons, Nat.add_mul]; omega
  have := key _ h.ok
  have := h.len
  have : l.bs.length * 65536 ≤ 4096 * 65536 := Nat.mul_le_mul_right _ h.len
  omega
theorem balE_post1 (m : Bal) (e : Ent4) (h : e.d ≠ e.c) (a : List UInt8) : bget (post1 m e) a = bget m a + balE [e] a := by
  rw [post1_get m e h]
  simp only [balE]
  by_cases h1 : e.c = a
  · have h2 : ¬ e.d = a := fun q => h (q.trans h1.symm)
    simp only [h1, h2, if_true, if_false]; omega
  · have h1' : ¬ a = e.c := fun q => h1 q.symm
    by_cases h2 : e.d = a
    · simp only [h1, h1', h2, if_true, if_false]; omega
    · have h2' : ¬ a = e.d := fun q => h2 q.symm
      simp only [h1, h1', h2, h2', if_false]; omega
theorem postB_bal : ∀ {es : List Ent4} {m m' : Bal}, (∀ e ∈ es, chk e = 0) → postB m es = some m' → ∀ a, bget m' a = bget m a + balE es a
  | [], m, m', _, h, a => by cases h; simp [balE]
  | e :: es, m, m', hk, h, a => by
    simp only [postB] at h
    split at h
    · cases h
    rw [postB_bal (fun e he => hk e (by simp [he])) h a, balE_post1 m e (chk0 (hk e (by simp))).1]
    simp only [balE]; omega
theorem postM_W {l : Lg} (h : LgW l) (es : List Ent4) : LgW (postM l es).1 := by
  unfold postM
  split
  · exact h
  rename_i h0
  have h0 : batchW es = 0 := by simpa using h0
  obtain ⟨-, -, hk⟩ := batch0 h0
  split
  · exact h
  rename_i h1
  cases hq : postB l.map es with
  | none => exact h
  | some m =>
    refine ⟨?_, postB_in h.inb hk hq, fun a => ?_, fun b hb => ?_⟩
    · have := h.len; simp; omega
    · show bget m a = _
      rw [postB_bal hk hq a, h.bal a]
      simp [balE_app]
    · rcases List.mem_append.1 hb with hb | hb
      · exact h.ok b hb
      · simp at hb; rw [hb]; exact h0
theorem LgW_nil : LgW lg0 := ⟨by simp, inB_nil, fun a => by simp [bget, aget, balE, Lg.map], fun b hb => by cases hb⟩
end Go.Proofs.YtdemgegpnlngeaaDoor

namespace Go.Proofs.YtdemgegpnlngeaaDoor
open Go PG Go.Proofs Go.Shelf Go.RowKit Go.Maps Go.Sort
set_option linter.unusedSimpArgs false
set_option linter.unusedVariables false
set_option maxHeartbeats 4000000
set_option maxRecDepth 100000
def Tryd.keysA_ren : Go.Shelf.Ren := ⟨fun | 7 => 51 | 10 => 60 | n => n, fun | 23 => 29 | 26 => 23 | 3 => 24 | 28 => 100 | 0 => 0 | 27 => 99 | 33 => 106 | 4 => 4 | n => n, fun | n => n⟩
theorem Tryd.keysA : Go.Proofs.SlLaysZ.n7 Tryd.prog Tryd.keysA_ren := {
  mixed := by kernel_rfl
  f7 := ⟨Tryd.f51.name, by decide, Tryd.func51.trans (congrArg some (by kernel_rfl))⟩
  f10 := ⟨Tryd.f60.name, by decide, Tryd.func60.trans (congrArg some (by kernel_rfl))⟩
  t0 := Tryd.underlying0
  a0 := Tryd.isAgg0
  z0 := Tryd.sizeOf0
  v0 := Tryd.zeroValue0
  t4 := Tryd.underlying4
  a4 := Tryd.isAgg4
  z4 := Tryd.sizeOf4
  v4 := Tryd.zeroValue4
  t23 := Tryd.underlying29
  a23 := Tryd.isAgg29
  z23 := Tryd.sizeOf29
  v23 := Tryd.zeroValue29
  t26 := Tryd.underlying23
  a26 := Tryd.isAgg23
  z26 := Tryd.sizeOf23
  v26 := Tryd.zeroValue23
  t27 := Tryd.underlying99
  a27 := Tryd.isAgg99
  z27 := Tryd.sizeOf99
  v27 := Tryd.zeroValue99
  t28 := Tryd.underlying100
  a28 := Tryd.isAgg100
  z28 := Tryd.sizeOf100
  v28 := Tryd.zeroValue100
  t33 := Tryd.underlying106
  a33 := Tryd.isAgg106
  z33 := Tryd.sizeOf106
  v33 := Tryd.zeroValue106 }
def Tryd.sortedA_ren : Go.Shelf.Ren := ⟨fun | 6 => 50 | 8 => 58 | 9 => 59 | 11 => 64 | 13 => 66 | 12 => 65 | 23 => 78 | 24 => 79 | 14 => 69 | 15 => 70 | 16 => 71 | 17 => 72 | 18 => 73 | 19 => 74 | 20 => 75 | 21 => 76 | 22 => 77 | 25 => 83 | 26 => 84 | 27 => 85 | 28 => 86 | 29 => 87 | 30 => 88 | 31 => 93 | n => n, fun | 26 => 23 | 28 => 100 | 24 => 43 | 0 => 0 | 3 => 3 | 37 => 113 | 48 => 125 | 50 => 127 | 4 => 4 | 40 => 117 | 39 => 116 | 45 => 122 | 5 => 5 | 9 => 9 | 51 => 130 | 55 => 134 | 57 => 140 | 58 => 141 | 33 => 106 | n => n, fun | n => n⟩
theorem Tryd.sortedA : Go.Proofs.SlLaysZ.n6 Tryd.prog Tryd.sortedA_ren := {
  mixed := by kernel_rfl
  f6 := ⟨Tryd.f50.name, by decide, Tryd.func50.trans (congrArg some (by kernel_rfl))⟩
  f8 := ⟨Tryd.f58.name, by decide, Tryd.func58.trans (congrArg some (by kernel_rfl))⟩
  f11 := ⟨Tryd.f64.name, by decide, Tryd.func64.trans (congrArg some (by kernel_rfl))⟩
  t0 := Tryd.underlying0
  a0 := Tryd.isAgg0
  z0 := Tryd.sizeOf0
  v0 := Tryd.zeroValue0
  t24 := Tryd.underlying43
  a24 := Tryd.isAgg43
  z24 := Tryd.sizeOf43
  v24 := Tryd.zeroValue43
  t26 := Tryd.underlying23
  a26 := Tryd.isAgg23
  z26 := Tryd.sizeOf23
  v26 := Tryd.zeroValue23
  t28 := Tryd.underlying100
  a28 := Tryd.isAgg100
  z28 := Tryd.sizeOf100
  v28 := Tryd.zeroValue100
  i26 := by kernel_rfl }
def Tryd.sortA_ren : Go.Shelf.Ren := ⟨fun | 6 => 59 | 8 => 66 | 9 => 65 | 19 => 78 | 20 => 79 | 21 => 69 | 22 => 70 | 23 => 71 | 24 => 72 | 25 => 73 | 26 => 74 | 27 => 75 | 28 => 76 | 29 => 77 | 36 => 83 | 31 => 84 | 32 => 85 | 37 => 86 | 38 => 87 | 39 => 88 | 41 => 93 | n => n, fun | 27 => 43 | 29 => 23 | 3 => 3 | 32 => 113 | 26 => 43 | 0 => 0 | 44 => 125 | 46 => 127 | 4 => 4 | 36 => 117 | 35 => 116 | 41 => 122 | 5 => 5 | 9 => 9 | 53 => 130 | 57 => 134 | 63 => 140 | 64 => 141 | n => n, fun | n => n⟩
theorem Tryd.sortA : Go.Proofs.SlLaysM.n6 Tryd.prog Tryd.sortA_ren := {
  mixed := by kernel_rfl
  f6 := ⟨Tryd.f59.name, by decide, Tryd.func59.trans (congrArg some (by kernel_rfl))⟩
  f8 := Tryd.func66.trans (congrArg some (by kernel_rfl))
  f9 := ⟨Tryd.f65.name, by decide, Tryd.func65.trans (congrArg some (by kernel_rfl))⟩
  f19 := Tryd.func78.trans (congrArg some (by kernel_rfl))
  f20 := Tryd.func79.trans (congrArg some (by kernel_rfl))
  f21 := ⟨Tryd.f69.name, by decide, Tryd.func69.trans (congrArg some (by kernel_rfl))⟩
  f22 := ⟨Tryd.f70.name, by decide, Tryd.func70.trans (congrArg some (by kernel_rfl))⟩
  f23 := ⟨Tryd.f71.name, by decide, Tryd.func71.trans (congrArg some (by kernel_rfl))⟩
  f24 := ⟨Tryd.f72.name, by decide, Tryd.func72.trans (congrArg some (by kernel_rfl))⟩
  f25 := ⟨Tryd.f73.name, by decide, Tryd.func73.trans (congrArg some (by kernel_rfl))⟩
  f26 := ⟨Tryd.f74.name, by decide, Tryd.func74.trans (congrArg some (by kernel_rfl))⟩
  f27 := ⟨Tryd.f75.name, by decide, Tryd.func75.trans (congrArg some (by kernel_rfl))⟩
  f28 := ⟨Tryd.f76.name, by decide, Tryd.func76.trans (congrArg some (by kernel_rfl))⟩
  f29 := ⟨Tryd.f77.name, by decide, Tryd.func77.trans (congrArg some (by kernel_rfl))⟩
  f31 := Tryd.func84.trans (congrArg some (by kernel_rfl))
  f32 := Tryd.func85.trans (congrArg some (by kernel_rfl))
  f36 := ⟨Tryd.f83.name, by decide, Tryd.func83.trans (congrArg some (by kernel_rfl))⟩
  f37 := ⟨Tryd.f86.name, by decide, Tryd.func86.trans (congrArg some (by kernel_rfl))⟩
  f38 := ⟨Tryd.f87.name, by decide, Tryd.func87.trans (congrArg some (by kernel_rfl))⟩
  f39 := ⟨Tryd.f88.name, by decide, Tryd.func88.trans (congrArg some (by kernel_rfl))⟩
  f41 := ⟨Tryd.f93.name, by decide, Tryd.func93.trans (congrArg some (by kernel_rfl))⟩
  t0 := Tryd.underlying0
  a0 := Tryd.isAgg0
  z0 := Tryd.sizeOf0
  v0 := Tryd.zeroValue0
  t3 := Tryd.underlying3
  a3 := Tryd.isAgg3
  z3 := Tryd.sizeOf3
  v3 := Tryd.zeroValue3
  t4 := Tryd.underlying4
  a4 := Tryd.isAgg4
  z4 := Tryd.sizeOf4
  v4 := Tryd.zeroValue4
  t5 := Tryd.underlying5
  a5 := Tryd.isAgg5
  z5 := Tryd.sizeOf5
  v5 := Tryd.zeroValue5
  t9 := Tryd.underlying9
  a9 := Tryd.isAgg9
  z9 := Tryd.sizeOf9
  v9 := Tryd.zeroValue9
  t26 := Tryd.underlying43
  a26 := Tryd.isAgg43
  z26 := Tryd.sizeOf43
  v26 := Tryd.zeroValue43
  t27 := Tryd.underlying43
  a27 := Tryd.isAgg43
  z27 := Tryd.sizeOf43
  v27 := Tryd.zeroValue43
  t29 := Tryd.underlying23
  a29 := Tryd.isAgg23
  z29 := Tryd.sizeOf23
  v29 := Tryd.zeroValue23
  t32 := Tryd.underlying113
  a32 := Tryd.isAgg113
  z32 := Tryd.sizeOf113
  v32 := Tryd.zeroValue113
  t35 := Tryd.underlying116
  a35 := Tryd.isAgg116
  z35 := Tryd.sizeOf116
  v35 := Tryd.zeroValue116
  t36 := Tryd.underlying117
  a36 := Tryd.isAgg117
  z36 := Tryd.sizeOf117
  v36 := Tryd.zeroValue117
  t41 := Tryd.underlying122
  a41 := Tryd.isAgg122
  z41 := Tryd.sizeOf122
  v41 := Tryd.zeroValue122
  t44 := Tryd.underlying125
  a44 := Tryd.isAgg125
  z44 := Tryd.sizeOf125
  v44 := Tryd.zeroValue125
  t46 := Tryd.underlying127
  a46 := Tryd.isAgg127
  z46 := Tryd.sizeOf127
  v46 := Tryd.zeroValue127
  t53 := Tryd.underlying130
  a53 := Tryd.isAgg130
  z53 := Tryd.sizeOf130
  v53 := Tryd.zeroValue130
  t57 := Tryd.underlying134
  a57 := Tryd.isAgg134
  z57 := Tryd.sizeOf134
  v57 := Tryd.zeroValue134
  t63 := Tryd.underlying140
  a63 := Tryd.isAgg140
  z63 := Tryd.sizeOf140
  v63 := Tryd.zeroValue140
  t64 := Tryd.underlying141
  a64 := Tryd.isAgg141
  z64 := Tryd.sizeOf141
  v64 := Tryd.zeroValue141 }
theorem sortsA (m : Nat) : AnyZ.SortsIn Tryd.prog Tryd.sortedA_ren Fence.wide m :=
  ⟨fun blk off cap ss W hH hblk hsz => callsIn_wide.2 (AnyM.slices_Sort_string Tryd.sortA blk off cap ss W hH hblk hsz),
   fun p cap W => callsIn_wide.2 (AnyM.slices_Sort_string_none Tryd.sortA p cap W)⟩
theorem w33 {H : Type} (x : Value) (b nn : Nat) (D0 : DataW H) (R : Value → Option (DataW H × List MemPlace)) (w : World) (hown : w.ownsMap Tryd.prog 23 R b nn D0) (hmax : Maps.size D0 ≤ maxLen) (hbytes : Maps.size D0 * 16 ≤ 140737488355328) :
    Calls Tryd.prog 33 #[.agg #[x, .map (some b)]] w fun e w' => ∃ (v : Value) (ss : List (List UInt8)), e = .returned v ∧ ss.Perm (strKeys D0) ∧
      w'.ownsRow w.heap.size 23 1 v ss.length ((ss.mergeSort (fun x y => decide (x ≤ y))).map encStr) ∧ (v = .slice none 0 0 ↔ ss = []) ∧ Below w.heap.size w w' := by
  refine (callsIn_wide (n := 6)).1 ?_
  obtain ⟨w1, hw1⟩ : ∃ w1, w.alloc (.cells #[x, .map (some b)] 31) = w1 := ⟨_, rfl⟩
  have e1 : w1.heap.size = w.heap.size + 1 := by rw [← hw1]; simp
  have hown : w1.ownsMap Tryd.prog 23 R b nn D0 := by
    rw [← hw1]
    obtain ⟨es, clock, hb, Ft, hs, hD⟩ := hown
    exact ⟨es, clock, (Below.heap_alloc _ _ b (Array.getElem?_eq_some_iff.1 hb).1).trans hb, Ft, hs, hD⟩
  have hbl := hown.lt
  have hseq : SeqGives Fence.wide 2 Tryd.prog 60 #[.pointer (some ⟨w1.heap.size, 0, none⟩)] encStr (fun ss => ss.Perm (strKeys D0)) (Maps.size D0) (w1.alloc (.cells #[.map (some b)] 29)) :=
    AnyZ.keys_gives (ρ := Tryd.keysA_ren) { Tryd.keysA with } Fence.wide _ trivial rfl (by omega) w1.heap.size b nn D0 _ (by simp) (by simp) (by
      obtain ⟨es, clock, hb, Ft, hs, hD⟩ := hown
      exact ⟨es, clock, (Below.heap_alloc _ _ b hbl).trans hb, Ft, hs, hD⟩)
  have cK : ∀ mb W, CallsIn Fence.wide 5 Tryd.prog 51 #[.map mb] W fun e w' => e = .returned (.func (.func 60) #[] #[.pointer (some ⟨W.heap.size, 0, none⟩)]) ∧ w' = W.alloc (.cells #[.map mb] 29) := fun mb W => AnyZ.keys_in Tryd.keysA Fence.wide 5 trivial rfl mb W
  have cS := AnyZ.sorted_in Tryd.sortedA Fence.wide 5 trivial trivial trivial trivial rfl (by omega) (sortsA _) (enters_of Tryd.func59 (by kernel_rfl) rfl) 60 #[.pointer (some ⟨w1.heap.size, 0, none⟩)] trivial (enters_of Tryd.func60 (by kernel_rfl) rfl) _ _ hmax hbytes _ hseq
  change CallsIn _ _ Tryd.prog 50 _ _ _ at cS
  rw [e1] at cS
  subst hw1
  clear hseq e1 hbl hown
  have hfK : Fence.wide.fn 51 := trivial
  have hfS : Fence.wide.fn 50 := trivial
  refine callsIn_of_wp Tryd.func33 rfl trivial ?_ rfl
  simp only [Tryd.ntmps33, List.size_toArray, List.length_cons, List.length_nil, Nat.reduceAdd, Nat.reduceSub, Array.replicate_succ, Array.replicate_zero, List.push_toArray, List.append_toArray, List.nil_append, List.cons_append]
  gi_wp2_with (first
    | (gi_at_call 51; refine (cK _ _).mono ?_; rintro e w' ⟨rfl, rfl⟩)
    | (gi_at_call 50; refine cS.mono ?_; rintro e w' ⟨v, ss, rfl, hS, hrow, hnil, hb⟩))
  go_ret
  have e2 : ((w.alloc (.cells #[x, .map (some b)] 31)).alloc (.cells #[.map (some b)] 29)).heap.size = w.heap.size + 2 := by simp
  rw [e2] at hrow hb
  exact ⟨v, ss, rfl, hS, ownsRow_base_a hrow (by omega), hnil, (((Below.refl w.heap.size w).alloc (Nat.le_refl _) _).alloc (by simp) _).trans (hb.mono (by omega))⟩
theorem w33n (x : Value) (w : World) : Calls Tryd.prog 33 #[.agg #[x, .map none]] w fun e w' => e = .returned (.slice none 0 0) ∧ Below w.heap.size w w' := by
  refine (callsIn_wide (n := 6)).1 ?_
  have hseq : ∀ w1 : World, SeqGives Fence.wide 2 Tryd.prog 60 #[.pointer (some ⟨w1.heap.size, 0, none⟩)] encStr (fun ss : List (List UInt8) => ss = []) 0 (w1.alloc (.cells #[.map none] 29)) := fun w1 =>
    AnyZ.keys_gives_nil (ρ := Tryd.keysA_ren) { Tryd.keysA with } Fence.wide _ trivial rfl w1.heap.size _ (by simp) (by simp)
  have cK : ∀ mb W, CallsIn Fence.wide 5 Tryd.prog 51 #[.map mb] W fun e w' => e = .returned (.func (.func 60) #[] #[.pointer (some ⟨W.heap.size, 0, none⟩)]) ∧ w' = W.alloc (.cells #[.map mb] 29) := fun mb W => AnyZ.keys_in Tryd.keysA Fence.wide 5 trivial rfl mb W
  have cS := AnyZ.sorted_in Tryd.sortedA Fence.wide 5 trivial trivial trivial trivial rfl (by omega) (sortsA _) (enters_of Tryd.func59 (by kernel_rfl) rfl) 60 #[.pointer (some ⟨(w.alloc (.cells #[x, .map none] 31)).heap.size, 0, none⟩)] trivial (enters_of Tryd.func60 (by kernel_rfl) rfl) _ 0 (Nat.zero_le _) (by omega) _ (hseq (w.alloc (.cells #[x, .map none] 31)))
  change CallsIn _ _ Tryd.prog 50 _ _ _ at cS
  rw [show (w.alloc (.cells #[x, .map none] 31)).heap.size = w.heap.size + 1 by simp] at cS
  clear hseq
  have hfK : Fence.wide.fn 51 := trivial
  have hfS : Fence.wide.fn 50 := trivial
  refine callsIn_of_wp Tryd.func33 rfl trivial ?_ rfl
  simp only [Tryd.ntmps33, List.size_toArray, List.length_cons, List.length_nil, Nat.reduceAdd, Nat.reduceSub, Array.replicate_succ, Array.replicate_zero, List.push_toArray, List.append_toArray, List.nil_append, List.cons_append]
  gi_wp2_with (first
    | (gi_at_call 51; refine (cK _ _).mono ?_; rintro e w' ⟨rfl, rfl⟩)
    | (gi_at_call 50; refine cS.mono ?_; rintro e w' ⟨v, ss, rfl, rfl, hrow, hnil, hb⟩; obtain rfl : v = .slice none 0 0 := hnil.2 rfl))
  go_ret
  have e2 : ((w.alloc (.cells #[x, .map none] 31)).alloc (.cells #[.map none] 29)).heap.size = w.heap.size + 2 := by simp
  rw [e2] at hb
  exact ⟨rfl, (((Below.refl w.heap.size w).alloc (Nat.le_refl _) _).alloc (by simp) _).trans (hb.mono (by omega))⟩
theorem keysOf_w {es : List (List UInt8 × Int)} {ents : Array MapEntry} {clock b : Nat} {w : World} {ex : Nat → Prop} (hn : (es.map (·.1)).Nodup) (hl : ∀ s ∈ es.map (·.1), s.length ≤ maxLen) (hc : es.length ≤ maxLen)
    (h : w.heap[b]? = some (.map ents clock)) (hs : ents.size = (strM intV es).length) (hb : Born ents clock)
    (hk : ∀ (i : Nat) (e : MapEntry) (q : PV × PV), ents[i]? = some e → (strM intV es)[i]? = some q → RepC w ex e.key q.1) :
    ∃ D0 : DataW Unit, w.ownsMap Tryd.prog 23 (fun _ => some (.nil, [])) b ents.size D0 ∧ Maps.size D0 = es.length ∧ (strKeys D0).Perm (es.map (·.1)) := by
  have hlen : ents.size = es.length := by rw [hs, mapP_len]
  have hkey : ∀ (i : Nat) (e : MapEntry), ents[i]? = some e → ∃ s : ByteArray, e.key = .string s ∧ (es.map (·.1))[i]? = some s.data.toList := by
    intro i e he
    have hi : i < es.length := by rw [← hlen]; exact (Array.getElem?_eq_some_iff.1 he).1
    have := hk i e (.str es[i].1, intV es[i].2) he (by simp [mapP, hi])
    generalize hq : es[i].1 = s at this
    cases hkk : e.key <;> rw [hkk] at this <;> cases this
    rename_i s'
    exact ⟨s', rfl, by simp [hi, hq]⟩
  have hread : ents.toList.map (fun e => (keyOf Tryd.prog 23 e.key)) = es.map (fun q => some (Lit.string q.1)) := by
    apply List.ext_getElem?
    intro i
    rcases Nat.lt_or_ge i ents.size with hi | hi
    · obtain ⟨s, e1, e2⟩ := hkey i ents[i] (by simp [hi])
      have hi' : i < es.length := by omega
      have e3 : es[i].1 = s.data.toList := by simpa [hi'] using e2
      have hsz : s.size ≤ maxLen := by
        have := hl es[i].1 (List.mem_map.2 ⟨_, List.getElem_mem hi', rfl⟩)
        rw [e3] at this
        simpa using this
      simp only [List.getElem?_map, Array.getElem?_toList, Array.getElem?_eq_getElem hi, List.getElem?_eq_getElem hi', Option.map_some, e1, Go.WideMaps.keyOf_string_mk Tryd.underlying23 hsz, e3]
    · simp [List.getElem?_eq_none, hi, show es.length ≤ i by omega, Array.getElem?_eq_none]
  have hrd : ∀ e ∈ ents.toList, ∃ s, keyOf Tryd.prog 23 e.key = some (.string s) := by
    intro e he
    have : keyOf Tryd.prog 23 e.key ∈ es.map (fun q => some (Lit.string q.1)) := by rw [← hread]; exact List.mem_map.2 ⟨e, he, rfl⟩
    obtain ⟨q, _, hq⟩ := List.mem_map.1 this
    exact ⟨q.1, hq.symm⟩
  have hrg : ents.toList.map (Go.WideElems.rg (H := Unit) Tryd.prog 23 (fun _ => some (.nil, []))) = es.map (fun q => (Lit.string q.1, DataW.nil)) := by
    have h2 : ents.toList.map (Go.WideElems.rg (H := Unit) Tryd.prog 23 (fun _ => some (.nil, []))) = (ents.toList.map (fun e => (keyOf Tryd.prog 23 e.key))).map (fun o => (o.getD (.bool false), DataW.nil)) := by
      rw [List.map_map]
      refine List.map_congr_left fun e he => ?_
      obtain ⟨s, hs⟩ := hrd e he
      simp [Go.WideElems.rg, Go.WideElems.rd, hs]
    rw [h2, hread, List.map_map]
    rfl
  refine ⟨_, ⟨ents, clock, h, ⟨by omega, ⟨?_, ?_, ?_⟩, fun e he => ?_⟩, Nat.le_refl _, rfl⟩, ?_, ?_⟩
  · intro e he
    obtain ⟨i, hi, he⟩ := List.getElem_of_mem he
    have := hb.1 i e (by rw [← he]; simp at hi ⊢)
    rw [hb.2, this]; simpa using hi
  · have : ents.toList.map (·.born) = List.range ents.size := by
      apply List.ext_getElem?
      intro i
      rcases Nat.lt_or_ge i ents.size with hi | hi
      · have := hb.1 i ents[i] (by simp [hi])
        simp [hi, this]
      · simp [hi]
    rw [this]; exact List.nodup_range
  · have : ents.toList.map (·.key) = (es.map (·.1)).map (fun s => Value.string ⟨s.toArray⟩) := by
      apply List.ext_getElem?
      intro i
      rcases Nat.lt_or_ge i ents.size with hi | hi
      · obtain ⟨s, e1, e2⟩ := hkey i ents[i] (by simp [hi])
        rw [List.getElem?_map, List.getElem?_map, e2]
        simp [hi, e1]
      · simp [hi, show es.length ≤ i by omega]
    rw [this]
    exact List.Pairwise.map _ (fun a b h e => h (by simpa using e)) hn
  · obtain ⟨s, hs⟩ := hrd e he
    exact ⟨_, by simp [Go.WideElems.rd, hs]; rfl⟩
  · rw [Maps.size_eq, length_sorted, hrg]; simp
  · refine ((Go.WideShapes.sorted_perm _).map _).trans ?_
    rw [hrg, List.map_map]
    exact List.Perm.of_eq (List.map_congr_left fun q _ => rfl)
end Go.Proofs.YtdemgegpnlngeaaDoor

