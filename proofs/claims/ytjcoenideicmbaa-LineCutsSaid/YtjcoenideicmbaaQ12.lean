import Derived.Test.YtjcoenideicmbaaQ11
import Derived.Test.YtjcoenideicmbaaQ9
namespace Go.Proofs.Ytjcoenideicmbaa
open Go PG Go.Proofs
set_option linter.unusedSimpArgs false
set_option linter.unusedVariables false
set_option maxHeartbeats 4000000
set_option maxRecDepth 100000
theorem valM_kn (l : List En) (p : Int) (h0 : 0 ≤ p) (h : p.toNat < l.length) : valM (l.map knOf) p = vlOf l[p.toNat] := by
  unfold valM
  rw [if_neg (by omega)]
  have : (l.map knOf).getD p.toNat default = knOf l[p.toNat] := by simp [List.getD, h]
  rw [this]; rfl
end Go.Proofs.Ytjcoenideicmbaa

namespace Go.Proofs.Ytjcoenideicmbaa
open PG Go.Proofs
theorem full_none (l : List Kn) {a b : Int} (h : b ≤ a) : fullM l a b = [] := by unfold fullM; rw [if_pos h]
/-- The last stretch may be longer. -/
theorem runs_last {f : Int → Int} {b a : Int} {R : List (Int × Int × Int)} (h : IsRuns f b a R) : ∃ R0 c, R = R0 ++ [(c, b, f c)] ∧ a ≤ c ∧ c < b ∧ (∀ d, c ≤ d → d < b → f d = f c) ∧
    ∀ b', c < b' → (∀ d, c ≤ d → d < b' → f d = f c) → IsRuns f b' a (R0 ++ [(c, b', f c)]) := by
  induction h with
  | one a h hf => exact ⟨[], a, rfl, by omega, h, hf, fun b' h1 h2 => .one a h1 h2⟩
  | cons a c l h hf hn ht ih =>
    obtain ⟨R0, c', rfl, h0, h1, h2, h3⟩ := ih
    exact ⟨(a, c, f a) :: R0, c', rfl, by omega, h1, h2, fun b' e1 e2 => .cons a c _ h hf hn (h3 b' e1 e2)⟩
theorem pcs_app (l m : List St3) : pcs (l ++ m) = pcs l ++ pcs m := by simp [pcs]
theorem pcs_one (a b k : Int) : pcs [(a, b, k)] = if 0 ≤ k then [(a, b, k)] else [] := by
  unfold pcs; by_cases h : 0 ≤ k <;> simp [h]
/-- The pieces so far, day by day. -/
def lastF (f : Int → Int) (a : Int) : Nat → Int
  | 0 => -1
  | i + 1 => f (a + i)
def endL (l : List St3) (d : Int) : List St3 := l.set (l.length - 1) ((l.getD (l.length - 1) (0, 0, 0)).1, d, (l.getD (l.length - 1) (0, 0, 0)).2.2)
def ovU (f : Int → Int) (a : Int) : Nat → List St3
  | 0 => []
  | i + 1 => if 0 ≤ f (a + i) then (if f (a + i) = lastF f a i then endL (ovU f a i) (a + i + 1) else ovU f a i ++ [(a + i, a + i + 1, f (a + i))]) else ovU f a i
theorem endL_app (l : List St3) (x : St3) (d : Int) : endL (l ++ [x]) d = l ++ [(x.1, d, x.2.2)] := by
  unfold endL
  rw [show (l ++ [x]).length - 1 = l.length by simp]
  simp [List.getD]
theorem ovU_len (f : Int → Int) (a : Int) : ∀ i, (ovU f a i).length ≤ i
  | 0 => by simp [ovU]
  | i + 1 => by
    have := ovU_len f a i
    unfold ovU; split
    · split
      · simp [endL]; omega
      · simp; omega
    · omega
theorem ovU_runs (f : Int → Int) (a : Int) : ∀ i : Nat, ∃ R, IsRuns f (a + i + 1) a R ∧ pcs R = ovU f a (i + 1)
  | 0 => by
    refine ⟨[(a, a + (0 : Nat) + 1, f a)], .one a (by omega) (fun d h1 h2 => by rw [show d = a by omega]), ?_⟩
    rw [pcs_one]
    unfold ovU
    simp only [Int.ofNat_zero, Int.add_zero, ovU, lastF]
    split
    · rw [if_neg (by omega)]; rfl
    · rfl
  | i + 1 => by
    obtain ⟨R, h1, h2⟩ := ovU_runs f a i
    obtain ⟨R0, c, rfl, h0, h3, h4, h5⟩ := runs_last h1
    have hd : a + ((i + 1 : Nat) : Int) = a + i + 1 := by omega
    have hfc : f (a + i) = f c := h4 _ (by omega) (by omega)
    rw [pcs_app, pcs_one] at h2
    rw [show a + ((i + 1 : Nat) : Int) + 1 = a + i + 1 + 1 by omega]
    by_cases he : f (a + i + 1) = f (a + i)
    · refine ⟨_, h5 (a + i + 1 + 1) (by omega) (fun d e1 e2 => ?_), ?_⟩
      · rcases Int.lt_or_le d (a + i + 1) with e | e
        · exact h4 d e1 e
        · rw [show d = a + i + 1 by omega, he, hfc]
      · conv => rhs; unfold ovU
        rw [hd, lastF, he, pcs_app, pcs_one, ← h2, hfc]
        by_cases hz : 0 ≤ f c
        · simp only [if_pos hz, if_true]
          rw [endL_app]
        · simp only [if_neg hz]
    · refine ⟨_, IsRuns.append (h5 (a + i + 1) (by omega) h4) (.one (a + i + 1) (by omega : a + i + 1 < a + i + 1 + 1) fun d e1 e2 => by rw [show d = a + i + 1 by omega]) (by rw [show a + i + 1 - 1 = a + i by omega]; exact he) , ?_⟩
      conv => rhs; unfold ovU
      rw [hd, lastF, if_neg he, pcs_app, pcs_app, pcs_one, pcs_one, h2]
      split <;> simp
theorem ovU_eq (l : List Kn) {a b : Int} (h : a ≤ b) : ovU (placeM l) a (b - a).toNat = pcs (fullM l a b) := by
  rcases Int.lt_or_eq_of_le h with h | h
  · obtain ⟨R, h1, h2⟩ := ovU_runs (placeM l) a (b - a - 1).toNat
    rw [show a + ((b - a - 1).toNat : Int) + 1 = b by omega] at h1
    rw [show (b - a).toNat = (b - a - 1).toNat + 1 by omega, ← h2, h1.uniq (full_runs l h)]
  · subst h; rw [full_none l (by omega)]; simp [ovU, pcs]
theorem ovU_last (f : Int → Int) (a : Int) (i : Nat) (h : 0 ≤ lastF f a i) : ∃ A0 c, ovU f a i = A0 ++ [c] := by
  match i with
  | 0 => simp [lastF] at h
  | i + 1 =>
    obtain ⟨R, h1, h2⟩ := ovU_runs f a i
    obtain ⟨R0, c, rfl, h0, h3, h4, h5⟩ := runs_last h1
    have hfc : f (a + i) = f c := h4 _ (by omega) (by omega)
    rw [lastF, hfc] at h
    rw [← h2, pcs_app, pcs_one, if_pos h]
    exact ⟨_, _, rfl⟩
end Go.Proofs.Ytjcoenideicmbaa

namespace Go.Proofs.Ytjcoenideicmbaa
open Go PG Go.Proofs
set_option linter.unusedSimpArgs false
set_option linter.unusedVariables false
set_option maxHeartbeats 4000000
set_option maxRecDepth 100000
theorem e22 : Ent Try.prog 22 := ⟨Try.f22, Try.func22, by kernel_rfl, by kernel_rfl⟩
/-! The document's pieces -/
theorem setA3_0 (x y z a b : PV) : setAll [x, y, z] 0 [a, b] = [a, b, z] := rfl
theorem setA3_2 (x y z a : PV) : setAll [x, y, z] 2 [a] = [x, y, a] := rfl
theorem putP3_1 (x y z : PV) (v : Int) : putPart (some 3) none (.agg [x, y, z]) 1 (.int .i64 v) = .agg [x, .int .i64 v, z] := by
  unfold putPart; rw [if_neg (by simp)]; rfl
def p3P (x : St3) : PV := .agg [.int .i64 x.1, .int .i64 x.2.1, .int .i64 x.2.2]
theorem p3_getD (l : List St3) (i : Nat) (h : i < l.length) : (l.map p3P).getD i .junk = p3P l[i] := by simp [List.getD, h]
theorem v22 (l : List En) (hl : l.length ≤ 1000000000) (a b : Int) (ha : -1000000000 ≤ a) (ha' : a ≤ 1000000000) (hb : b ≤ 1000000000) : VCalls Try.prog G0 22 [enL l, .agg [.int .i64 a, .int .i64 b]] (.list (some 3) ((ovU (placeM (l.map knOf)) a (b - a).toNat).map p3P)) := by
  refine VCalls.of_PW Try.func22 k22 mix (by simp [c22]) ?_
  simp only [c22, L22, argE]
  repeat' (first | exact True.intro | (refine PW.seqK ?_; intro K hK) | refine PW.block ?_ | refine PW.exit ?_ | refine PW.ret ?_ | refine PW.skip ?_ | refine seqK_n (by assumption) ?_ | refine seqK_r (by assumption) ?_ | refine seqK_e (by assumption) ?_ | refine PW.regionA ?_ | exact schedW_stop_i | (refine PW.cond rfl ?_ ?_ <;> intro hcond <;> (try contradiction) <;> try simp only [decide_eq_true_eq, decide_eq_false_iff_not] at hcond) | (refine gd_i ?_; intro hg; try simp only [hg]) | ((first | show @LE.le Nat _ _ _ | show @LT.lt Nat _ _ _ | show @LE.le Int _ _ _ | show @LT.lt Int _ _ _ | show @Eq Nat _ _ | show @Eq Int _ _ | show @Eq Bool _ _ | show _ ∨ _ | show ¬ _); first | omega | (simp only [decide_eq_true_eq, decide_eq_false_iff_not, List.length_cons, List.length_nil, List.length_append, List.length_map, Sh.size] <;> omega) | (go_unwrap; omega)) | ((first | refine PW.region ?_ | refine PW.regionQ ?_ | refine schedW_alt_i ?_ ?_ | refine schedW_done_i ?_ | show (_ : Post) _ _ _ | show @Eq (List PV) _ _ | show @Eq Bool _ _ | show opsW _ _ _ _ _ _ _ _ | show okAll _ | show @Eq Bool _ _ ∨ _); focus (simp only [SS, SS2, SS3, SS4, Option.map_some, Bool.not_false, Bool.not_true, gArgs, gOk, Nat.reduceAdd, PV.shift, MObj.shift, rdV, rdD, reduceIte, Nat.reduceEqDiff, Nat.reduceBEq, PV.bin, PV.binOk, binI, binS, PV.withInt, PV.withIntP, okAll, PV.under, PV.okUnder, eq_self, implies_true, deadOk, ne_eq, allOk, RVar.val, RVar.ok, retV, PV.seen, PV.view, beq_self_eq_true, PV.flat, PV.noOwn, id_eq, behind, PV.kill, MObj.kill, killTag, reduceCtorEq, nilB]; (try go_unwrap; try simp only [toNat_add2, toNat_add1, Int.toNat_natCast, Bool.false_and, Bool.true_and, true_implies, true_and, Bool.false_eq_true, reduceCtorEq, false_implies, Bool.not_false, Bool.not_true, Bool.true_or, Bool.false_or]))) | refine And.intro ?_ ?_ | exact Or.inr ⟨rfl, Nat.le_refl _⟩ | exact (fun h => Bool.noConfusion h))
  refine PW.own (some 3) 5 rfl ?_
  refine PW.loopG (σ := Nat) 2 (fun _ _ => rfl) [0, 1, 3, 4, 5, 6, 7] (fun i => [enL l, .agg [.int .i64 a, .int .i64 b], .ref 0 0, .nilSl, .sl (some 3) 1 (ovU (placeM (l.map knOf)) a i).length, .int .i64 (lastF (placeM (l.map knOf)) a i), .int .i64 (a + i)])
    (fun i => [some (MObj.var (some 2) (PV.agg [PV.int IntKind.i64 a, PV.int IntKind.i64 b])), some (.row (some 3) ((ovU (placeM (l.map knOf)) a i).map p3P))]) (fun i => i ≤ (b - a).toNat) (fun i => (b - a).toNat - i) 0 ?_ (by simp [ovU]) (by omega) ?_
  · simp only [SS, SS2, SS3, SS4, Option.map_some, Bool.not_false, Bool.not_true, gArgs, gOk, Nat.reduceAdd, PV.shift, MObj.shift, rdV, rdD, reduceIte, Nat.reduceEqDiff, Nat.reduceBEq, PV.bin, PV.binOk, binI, binS, PV.withInt, PV.withIntP, okAll, PV.under, PV.okUnder, eq_self, implies_true, deadOk, ne_eq, allOk, RVar.val, RVar.ok, retV, PV.seen, PV.view, beq_self_eq_true, PV.flat, PV.noOwn, id_eq, behind, PV.kill, MObj.kill, killTag, reduceCtorEq, nilB]; simp [ovU, lastF]
  rintro i hi
  simp only [List.zip_cons_cons, List.zip_nil_left]
  rcases Nat.lt_or_ge i (b - a).toNat with h | h
  · have hd : decide (a + (i : Int) < b) = true := by simp only [decide_eq_true_eq]; omega
    have w1 : IntKind.i64.wrap (a + (i : Int) + 1) = a + (i : Int) + 1 := IntWalk.i64_in _ (by omega)
    have w2 : a + ((i + 1 : Nat) : Int) = a + (i : Int) + 1 := by omega
    have h1 := v28 l hl (a + i)
    have hlen := ovU_len (placeM (l.map knOf)) a i
    have hL : lastF (placeM (l.map knOf)) a (i + 1) = placeM (l.map knOf) (a + i) := rfl
    have hA : ovU (placeM (l.map knOf)) a (i + 1) = if 0 ≤ placeM (l.map knOf) (a + i) then (if placeM (l.map knOf) (a + i) = lastF (placeM (l.map knOf)) a i then endL (ovU (placeM (l.map knOf)) a i) (a + i + 1) else ovU (placeM (l.map knOf)) a i ++ [(a + i, a + i + 1, placeM (l.map knOf) (a + i))]) else ovU (placeM (l.map knOf)) a i := rfl
    have hne := ovU_last (placeM (l.map knOf)) a i
    generalize ovU (placeM (l.map knOf)) a i = A at hlen hA hne
    generalize lastF (placeM (l.map knOf)) a i = q at hA hne
    generalize placeM (l.map knOf) (a + i) = p at h1 hA hL
    have b1 : (A.length + 1) * 24 ≤ 281474976710656 := by omega
    have htk : (A.map p3P).take A.length = A.map p3P := List.take_of_length_le (by simp)
    by_cases hz : 0 ≤ p
    · have dz : decide (0 ≤ p) = true := by simpa using hz
      rw [if_pos hz] at hA
      by_cases hpq : p = q
      · have dp : decide (p = q) = true := by simpa using hpq
        rw [if_pos hpq] at hA
        obtain ⟨A0, c, rfl⟩ := hne (by omega)
        rw [endL_app] at hA
        have w3 : IntKind.i64.wrap (((A0 ++ [c]).length : Int) - 1) = A0.length := by rw [List.length_append]; exact (IntWalk.i64_in _ (by simp at hlen ⊢; omega)).trans (by simp)
        have hg : ((A0 ++ [c]).map p3P).getD A0.length .junk = p3P c := by simp [List.getD]
        have hs : ((A0 ++ [c]).map p3P).set A0.length (p3P (c.1, a + (i : Int) + 1, c.2.2)) = (A0 ++ [(c.1, a + (i : Int) + 1, c.2.2)]).map p3P := by simp
        simp only [p3P] at hg hs
        repeat' (first | exact True.intro | (refine PW.seqK ?_; intro K hK) | refine PW.block ?_ | refine PW.exit ?_ | refine PW.ret ?_ | refine PW.skip ?_ | refine seqK_n (by assumption) ?_ | refine seqK_r (by assumption) ?_ | refine seqK_e (by assumption) ?_ | refine PW.regionA ?_ | exact schedW_stop_i | (refine PW.cond rfl ?_ ?_ <;> intro hcond <;> (try contradiction) <;> try simp only [decide_eq_true_eq, decide_eq_false_iff_not] at hcond) | (refine gd_i ?_; intro hg; try simp only [hg]) | refine goCall_W e28 (h1) ?_ ?_ ?_ ?_ | ((first | show @LE.le Nat _ _ _ | show @LT.lt Nat _ _ _ | show @LE.le Int _ _ _ | show @LT.lt Int _ _ _ | show @Eq Nat _ _ | show @Eq Int _ _ | show @Eq Bool _ _ | show _ ∨ _ | show ¬ _); first | omega | (simp only [decide_eq_true_eq, decide_eq_false_iff_not, List.length_cons, List.length_nil, List.length_append, List.length_map, Sh.size] <;> omega) | (go_unwrap; omega)) | ((first | refine PW.region ?_ | refine PW.regionQ ?_ | refine schedW_alt_i ?_ ?_ | refine schedW_done_i ?_ | show (_ : Post) _ _ _ | show @Eq (List PV) _ _ | show @Eq Bool _ _ | show opsW _ _ _ _ _ _ _ _ | show okAll _ | show @Eq Bool _ _ ∨ _); focus (simp only [hd, w1, w2, dz, dp, w3, hg, hs, putP3_1, SS, SS2, SS3, SS4, Option.map_some, Bool.not_false, Bool.not_true, gArgs, gOk, Nat.reduceAdd, PV.shift, MObj.shift, rdV, rdD, reduceIte, Nat.reduceEqDiff, Nat.reduceBEq, PV.bin, PV.binOk, binI, binS, PV.withInt, PV.withIntP, okAll, PV.under, PV.okUnder, eq_self, implies_true, deadOk, ne_eq, allOk, RVar.val, RVar.ok, retV, PV.seen, PV.view, beq_self_eq_true, PV.flat, PV.noOwn, id_eq, behind, PV.kill, MObj.kill, killTag, reduceCtorEq, nilB]; (try go_unwrap; try simp only [hd, w1, w2, dz, dp, w3, hg, hs, putP3_1, toNat_add2, toNat_add1, Int.toNat_natCast, Bool.false_and, Bool.true_and, true_implies, true_and, Bool.false_eq_true, reduceCtorEq, false_implies, Bool.not_false, Bool.not_true, Bool.true_or, Bool.false_or]))) | refine And.intro ?_ ?_ | exact Or.inr ⟨rfl, Nat.le_refl _⟩ | exact (fun h => Bool.noConfusion h))
        all_goals first | exact Or.inr ⟨rfl, by omega⟩ | skip
        all_goals exact ⟨i + 1, (by rw [hA, hL, w2, List.length_append, List.length_append]; exact (by first | rfl | (simp only [trimE, trimM, List.take_succ_cons, List.take_zero, List.take_nil, List.map_cons, List.map_nil, Option.map_some, Option.map_none, MObj.kill, PV.kill, Nat.reduceLeDiff, decide_true, decide_false, dec_true, dec_false, Bool.false_eq_true, if_false, if_true, reduceIte, List.zip_cons_cons, List.zip_nil_left, Nat.le_refl, Nat.zero_le, Nat.not_le, Nat.lt_irrefl]; done) | (simp [trimE, trimM, MObj.kill, PV.kill]; done))), (by rw [hA]; exact (by first | rfl | (simp only [trimE, trimM, List.take_succ_cons, List.take_zero, List.take_nil, List.map_cons, List.map_nil, Option.map_some, Option.map_none, MObj.kill, PV.kill, Nat.reduceLeDiff, decide_true, decide_false, dec_true, dec_false, Bool.false_eq_true, if_false, if_true, reduceIte, List.zip_cons_cons, List.zip_nil_left, Nat.le_refl, Nat.zero_le, Nat.not_le, Nat.lt_irrefl]; done) | (simp [trimE, trimM, MObj.kill, PV.kill]; done))), by omega, by omega⟩
      · have dp : decide (p = q) = false := by simpa using hpq
        rw [if_neg hpq] at hA
        have hM : (A ++ [(a + (i : Int), a + (i : Int) + 1, p)]).map p3P = A.map p3P ++ [.agg [.int .i64 (a + i), .int .i64 (a + i + 1), .int .i64 p]] := by simp [p3P]
        repeat' (first | exact True.intro | (refine PW.seqK ?_; intro K hK) | refine PW.block ?_ | refine PW.exit ?_ | refine PW.ret ?_ | refine PW.skip ?_ | refine seqK_n (by assumption) ?_ | refine seqK_r (by assumption) ?_ | refine seqK_e (by assumption) ?_ | refine PW.regionA ?_ | exact schedW_stop_i | (refine PW.cond rfl ?_ ?_ <;> intro hcond <;> (try contradiction) <;> try simp only [decide_eq_true_eq, decide_eq_false_iff_not] at hcond) | (refine gd_i ?_; intro hg; try simp only [hg]) | refine goCall_W e28 (h1) ?_ ?_ ?_ ?_ | ((first | show @LE.le Nat _ _ _ | show @LT.lt Nat _ _ _ | show @LE.le Int _ _ _ | show @LT.lt Int _ _ _ | show @Eq Nat _ _ | show @Eq Int _ _ | show @Eq Bool _ _ | show _ ∨ _ | show ¬ _); first | omega | (simp only [decide_eq_true_eq, decide_eq_false_iff_not, List.length_cons, List.length_nil, List.length_append, List.length_map, Sh.size] <;> omega) | (go_unwrap; omega)) | ((first | refine PW.region ?_ | refine PW.regionQ ?_ | refine schedW_alt_i ?_ ?_ | refine schedW_done_i ?_ | show (_ : Post) _ _ _ | show @Eq (List PV) _ _ | show @Eq Bool _ _ | show opsW _ _ _ _ _ _ _ _ | show okAll _ | show @Eq Bool _ _ ∨ _); focus (simp only [hd, w1, w2, dz, dp, htk, part_agg2, setA3_0, setA3_2, SS, SS2, SS3, SS4, Option.map_some, Bool.not_false, Bool.not_true, gArgs, gOk, Nat.reduceAdd, PV.shift, MObj.shift, rdV, rdD, reduceIte, Nat.reduceEqDiff, Nat.reduceBEq, PV.bin, PV.binOk, binI, binS, PV.withInt, PV.withIntP, okAll, PV.under, PV.okUnder, eq_self, implies_true, deadOk, ne_eq, allOk, RVar.val, RVar.ok, retV, PV.seen, PV.view, beq_self_eq_true, PV.flat, PV.noOwn, id_eq, behind, PV.kill, MObj.kill, killTag, reduceCtorEq, nilB]; (try go_unwrap; try simp only [hd, w1, w2, dz, dp, htk, part_agg2, setA3_0, setA3_2, toNat_add2, toNat_add1, Int.toNat_natCast, Bool.false_and, Bool.true_and, true_implies, true_and, Bool.false_eq_true, reduceCtorEq, false_implies, Bool.not_false, Bool.not_true, Bool.true_or, Bool.false_or]))) | refine And.intro ?_ ?_ | exact Or.inr ⟨rfl, Nat.le_refl _⟩ | exact (fun h => Bool.noConfusion h))
        all_goals exact ⟨i + 1, (by rw [hA, hL, w2, List.length_append]; exact (by first | rfl | (simp only [trimE, trimM, List.take_succ_cons, List.take_zero, List.take_nil, List.map_cons, List.map_nil, Option.map_some, Option.map_none, MObj.kill, PV.kill, Nat.reduceLeDiff, decide_true, decide_false, dec_true, dec_false, Bool.false_eq_true, if_false, if_true, reduceIte, List.zip_cons_cons, List.zip_nil_left, Nat.le_refl, Nat.zero_le, Nat.not_le, Nat.lt_irrefl]; done) | (simp [trimE, trimM, MObj.kill, PV.kill]; done))), (by rw [hA, hM]; exact (by first | rfl | (simp only [trimE, trimM, List.take_succ_cons, List.take_zero, List.take_nil, List.map_cons, List.map_nil, Option.map_some, Option.map_none, MObj.kill, PV.kill, Nat.reduceLeDiff, decide_true, decide_false, dec_true, dec_false, Bool.false_eq_true, if_false, if_true, reduceIte, List.zip_cons_cons, List.zip_nil_left, Nat.le_refl, Nat.zero_le, Nat.not_le, Nat.lt_irrefl]; done) | (simp [trimE, trimM, MObj.kill, PV.kill]; done))), by omega, by omega⟩
    · have dz : decide (0 ≤ p) = false := by simpa using hz
      rw [if_neg hz] at hA
      repeat' (first | exact True.intro | (refine PW.seqK ?_; intro K hK) | refine PW.block ?_ | refine PW.exit ?_ | refine PW.ret ?_ | refine PW.skip ?_ | refine seqK_n (by assumption) ?_ | refine seqK_r (by assumption) ?_ | refine seqK_e (by assumption) ?_ | refine PW.regionA ?_ | exact schedW_stop_i | (refine PW.cond rfl ?_ ?_ <;> intro hcond <;> (try contradiction) <;> try simp only [decide_eq_true_eq, decide_eq_false_iff_not] at hcond) | (refine gd_i ?_; intro hg; try simp only [hg]) | refine goCall_W e28 (h1) ?_ ?_ ?_ ?_ | ((first | show @LE.le Nat _ _ _ | show @LT.lt Nat _ _ _ | show @LE.le Int _ _ _ | show @LT.lt Int _ _ _ | show @Eq Nat _ _ | show @Eq Int _ _ | show @Eq Bool _ _ | show _ ∨ _ | show ¬ _); first | omega | (simp only [decide_eq_true_eq, decide_eq_false_iff_not, List.length_cons, List.length_nil, List.length_append, List.length_map, Sh.size] <;> omega) | (go_unwrap; omega)) | ((first | refine PW.region ?_ | refine PW.regionQ ?_ | refine schedW_alt_i ?_ ?_ | refine schedW_done_i ?_ | show (_ : Post) _ _ _ | show @Eq (List PV) _ _ | show @Eq Bool _ _ | show opsW _ _ _ _ _ _ _ _ | show okAll _ | show @Eq Bool _ _ ∨ _); focus (simp only [hd, w1, w2, dz, SS, SS2, SS3, SS4, Option.map_some, Bool.not_false, Bool.not_true, gArgs, gOk, Nat.reduceAdd, PV.shift, MObj.shift, rdV, rdD, reduceIte, Nat.reduceEqDiff, Nat.reduceBEq, PV.bin, PV.binOk, binI, binS, PV.withInt, PV.withIntP, okAll, PV.under, PV.okUnder, eq_self, implies_true, deadOk, ne_eq, allOk, RVar.val, RVar.ok, retV, PV.seen, PV.view, beq_self_eq_true, PV.flat, PV.noOwn, id_eq, behind, PV.kill, MObj.kill, killTag, reduceCtorEq, nilB]; (try go_unwrap; try simp only [hd, w1, w2, dz, toNat_add2, toNat_add1, Int.toNat_natCast, Bool.false_and, Bool.true_and, true_implies, true_and, Bool.false_eq_true, reduceCtorEq, false_implies, Bool.not_false, Bool.not_true, Bool.true_or, Bool.false_or]))) | refine And.intro ?_ ?_ | exact Or.inr ⟨rfl, Nat.le_refl _⟩ | exact (fun h => Bool.noConfusion h))
      all_goals exact ⟨i + 1, (by rw [hA, hL, w2]; exact (by first | rfl | (simp only [trimE, trimM, List.take_succ_cons, List.take_zero, List.take_nil, List.map_cons, List.map_nil, Option.map_some, Option.map_none, MObj.kill, PV.kill, Nat.reduceLeDiff, decide_true, decide_false, dec_true, dec_false, Bool.false_eq_true, if_false, if_true, reduceIte, List.zip_cons_cons, List.zip_nil_left, Nat.le_refl, Nat.zero_le, Nat.not_le, Nat.lt_irrefl]; done) | (simp [trimE, trimM, MObj.kill, PV.kill]; done))), (by rw [hA]; exact (by first | rfl | (simp only [trimE, trimM, List.take_succ_cons, List.take_zero, List.take_nil, List.map_cons, List.map_nil, Option.map_some, Option.map_none, MObj.kill, PV.kill, Nat.reduceLeDiff, decide_true, decide_false, dec_true, dec_false, Bool.false_eq_true, if_false, if_true, reduceIte, List.zip_cons_cons, List.zip_nil_left, Nat.le_refl, Nat.zero_le, Nat.not_le, Nat.lt_irrefl]; done) | (simp [trimE, trimM, MObj.kill, PV.kill]; done))), by omega, by omega⟩
  · have hd : decide (a + (i : Int) < b) = false := by simp only [decide_eq_false_iff_not]; omega
    have hi' : i = (b - a).toNat := by omega
    subst hi'
    repeat' (first | exact True.intro | (refine PW.seqK ?_; intro K hK) | refine PW.block ?_ | refine PW.exit ?_ | refine PW.ret ?_ | refine PW.skip ?_ | refine seqK_n (by assumption) ?_ | refine seqK_r (by assumption) ?_ | refine seqK_e (by assumption) ?_ | refine PW.regionA ?_ | exact schedW_stop_i | (refine PW.cond rfl ?_ ?_ <;> intro hcond <;> (try contradiction) <;> try simp only [decide_eq_true_eq, decide_eq_false_iff_not] at hcond) | (refine gd_i ?_; intro hg; try simp only [hg]) | ((first | show @LE.le Nat _ _ _ | show @LT.lt Nat _ _ _ | show @LE.le Int _ _ _ | show @LT.lt Int _ _ _ | show @Eq Nat _ _ | show @Eq Int _ _ | show @Eq Bool _ _ | show _ ∨ _ | show ¬ _); first | omega | (simp only [decide_eq_true_eq, decide_eq_false_iff_not, List.length_cons, List.length_nil, List.length_append, List.length_map, Sh.size] <;> omega) | (go_unwrap; omega)) | ((first | refine PW.region ?_ | refine PW.regionQ ?_ | refine schedW_alt_i ?_ ?_ | refine schedW_done_i ?_ | show (_ : Post) _ _ _ | show @Eq (List PV) _ _ | show @Eq Bool _ _ | show opsW _ _ _ _ _ _ _ _ | show okAll _ | show @Eq Bool _ _ ∨ _); focus (simp only [hd, SS, SS2, SS3, SS4, Option.map_some, Bool.not_false, Bool.not_true, gArgs, gOk, Nat.reduceAdd, PV.shift, MObj.shift, rdV, rdD, reduceIte, Nat.reduceEqDiff, Nat.reduceBEq, PV.bin, PV.binOk, binI, binS, PV.withInt, PV.withIntP, okAll, PV.under, PV.okUnder, eq_self, implies_true, deadOk, ne_eq, allOk, RVar.val, RVar.ok, retV, PV.seen, PV.view, beq_self_eq_true, PV.flat, PV.noOwn, id_eq, behind, PV.kill, MObj.kill, killTag, reduceCtorEq, nilB]; (try go_unwrap; try simp only [hd, toNat_add2, toNat_add1, Int.toNat_natCast, Bool.false_and, Bool.true_and, true_implies, true_and, Bool.false_eq_true, reduceCtorEq, false_implies, Bool.not_false, Bool.not_true, Bool.true_or, Bool.false_or]))) | refine And.intro ?_ ?_ | exact Or.inr ⟨rfl, Nat.le_refl _⟩ | exact (fun h => Bool.noConfusion h))
    all_goals (first
      | (rw [if_pos (by simp), List.take_of_length_le (by simp)]; done)
      | (refine congrArg _ ?_; exact List.take_of_length_le (by simp)) | skip)
theorem v29n (l : List Kn) (hl : l.length ≤ 1000000000) (a b : Int) (h : b ≤ a) : VCalls Try.prog G0 29 [linP l, .agg [.int .i64 a, .int .i64 b]] .nilSl := by
  refine VCalls.of_PW Try.func29 k29 mix (by simp [c29]) ?_
  simp only [c29, L29, argE]
  have d1 : decide (b ≤ a) = true := by simpa using h
  repeat' (first | exact True.intro | (refine PW.seqK ?_; intro K hK) | refine PW.block ?_ | refine PW.exit ?_ | refine PW.ret ?_ | refine PW.skip ?_ | refine seqK_n (by assumption) ?_ | refine seqK_r (by assumption) ?_ | refine seqK_e (by assumption) ?_ | refine PW.regionA ?_ | exact schedW_stop_i | (refine PW.cond rfl ?_ ?_ <;> intro hcond <;> (try contradiction) <;> try simp only [decide_eq_true_eq, decide_eq_false_iff_not] at hcond) | (refine gd_i ?_; intro hg; try simp only [hg]) | ((first | show @LE.le Nat _ _ _ | show @LT.lt Nat _ _ _ | show @LE.le Int _ _ _ | show @LT.lt Int _ _ _ | show @Eq Nat _ _ | show @Eq Int _ _ | show @Eq Bool _ _ | show _ ∨ _ | show ¬ _); first | omega | (simp only [decide_eq_true_eq, decide_eq_false_iff_not, List.length_cons, List.length_nil, List.length_append, List.length_map, Sh.size] <;> omega) | (go_unwrap; omega)) | ((first | refine PW.region ?_ | refine PW.regionQ ?_ | refine schedW_alt_i ?_ ?_ | refine schedW_done_i ?_ | show (_ : Post) _ _ _ | show @Eq (List PV) _ _ | show @Eq Bool _ _ | show opsW _ _ _ _ _ _ _ _ | show okAll _ | show @Eq Bool _ _ ∨ _); focus (simp only [d1, SS, SS2, SS3, SS4, Option.map_some, Bool.not_false, Bool.not_true, gArgs, gOk, Nat.reduceAdd, PV.shift, MObj.shift, rdV, rdD, reduceIte, Nat.reduceEqDiff, Nat.reduceBEq, PV.bin, PV.binOk, binI, binS, PV.withInt, PV.withIntP, okAll, PV.under, PV.okUnder, eq_self, implies_true, deadOk, ne_eq, allOk, RVar.val, RVar.ok, retV, PV.seen, PV.view, beq_self_eq_true, PV.flat, PV.noOwn, id_eq, behind, PV.kill, MObj.kill, killTag, reduceCtorEq, nilB]; (try go_unwrap; try simp only [d1, toNat_add2, toNat_add1, Int.toNat_natCast, Bool.false_and, Bool.true_and, true_implies, true_and, Bool.false_eq_true, reduceCtorEq, false_implies, Bool.not_false, Bool.not_true, Bool.true_or, Bool.false_or]))) | refine And.intro ?_ ?_ | exact Or.inr ⟨rfl, Nat.le_refl _⟩ | exact (fun h => Bool.noConfusion h))
theorem u64_is (n : Int) : IntKind.u64.wrap n = n % 18446744073709551616 := rfl
theorem wrap_diff (a b : Int) (h : a < b) (ha : -9223372036854775808 ≤ a) (hb : b ≤ 9223372036854775807) : IntKind.u64.wrap (IntKind.u64.wrap b - IntKind.u64.wrap a) = b - a := by
  rw [u64_is, u64_is, u64_is]
  omega
theorem v29m (l : List Kn) (hl : l.length ≤ 1000000000) (a b : Int) (h : a < b) (h2 : 4096 < b - a) (ha : -9223372036854775808 ≤ a) (hb : b ≤ 9223372036854775807) : VCalls Try.prog G0 29 [linP l, .agg [.int .i64 a, .int .i64 b]] .nilSl := by
  refine VCalls.of_PW Try.func29 k29 mix (by simp [c29]) ?_
  simp only [c29, L29, argE]
  have d1 : decide (b ≤ a) = false := by simp only [decide_eq_false_iff_not]; omega
  have w1 : IntKind.u64.wrap (IntKind.u64.wrap b - IntKind.u64.wrap a) = b - a := wrap_diff a b h ha hb
  have d2 : decide ((4096 : Int) < b - a) = true := by simp only [decide_eq_true_eq]; omega
  repeat' (first | exact True.intro | (refine PW.seqK ?_; intro K hK) | refine PW.block ?_ | refine PW.exit ?_ | refine PW.ret ?_ | refine PW.skip ?_ | refine seqK_n (by assumption) ?_ | refine seqK_r (by assumption) ?_ | refine seqK_e (by assumption) ?_ | refine PW.regionA ?_ | exact schedW_stop_i | (refine PW.cond rfl ?_ ?_ <;> intro hcond <;> (try contradiction) <;> try simp only [decide_eq_true_eq, decide_eq_false_iff_not] at hcond) | (refine gd_i ?_; intro hg; try simp only [hg]) | ((first | show @LE.le Nat _ _ _ | show @LT.lt Nat _ _ _ | show @LE.le Int _ _ _ | show @LT.lt Int _ _ _ | show @Eq Nat _ _ | show @Eq Int _ _ | show @Eq Bool _ _ | show _ ∨ _ | show ¬ _); first | omega | (simp only [decide_eq_true_eq, decide_eq_false_iff_not, List.length_cons, List.length_nil, List.length_append, List.length_map, Sh.size] <;> omega) | (go_unwrap; omega)) | ((first | refine PW.region ?_ | refine PW.regionQ ?_ | refine schedW_alt_i ?_ ?_ | refine schedW_done_i ?_ | show (_ : Post) _ _ _ | show @Eq (List PV) _ _ | show @Eq Bool _ _ | show opsW _ _ _ _ _ _ _ _ | show okAll _ | show @Eq Bool _ _ ∨ _); focus (simp only [d1, d2, w1, SS, SS2, SS3, SS4, Option.map_some, Bool.not_false, Bool.not_true, gArgs, gOk, Nat.reduceAdd, PV.shift, MObj.shift, rdV, rdD, reduceIte, Nat.reduceEqDiff, Nat.reduceBEq, PV.bin, PV.binOk, binI, binS, PV.withInt, PV.withIntP, okAll, PV.under, PV.okUnder, eq_self, implies_true, deadOk, ne_eq, allOk, RVar.val, RVar.ok, retV, PV.seen, PV.view, beq_self_eq_true, PV.flat, PV.noOwn, id_eq, behind, PV.kill, MObj.kill, killTag, reduceCtorEq, nilB]; (try go_unwrap; try simp only [d1, d2, w1, toNat_add2, toNat_add1, Int.toNat_natCast, Bool.false_and, Bool.true_and, true_implies, true_and, Bool.false_eq_true, reduceCtorEq, false_implies, Bool.not_false, Bool.not_true, Bool.true_or, Bool.false_or]))) | refine And.intro ?_ ?_ | exact Or.inr ⟨rfl, Nat.le_refl _⟩ | exact (fun h => Bool.noConfusion h))
def numsU (l : List Kn) (a : Int) (i : Nat) : List Int := (List.range i).map fun (j : Nat) => (valM l (placeM l (a + j))).num
theorem numsU_len (l : List Kn) (a : Int) (i : Nat) : (numsU l a i).length = i := by simp [numsU]
theorem v29 (l : List Kn) (hl : l.length ≤ 1000000000) (a b : Int) (h : a < b) (h2 : b - a ≤ 4096) (ha : -9223372036854775808 ≤ a) (hb : b ≤ 9223372036854775807) : VCalls Try.prog G0 29 [linP l, .agg [.int .i64 a, .int .i64 b]] (.list none ((numsU l a (b - a).toNat).map (PV.int .i64))) := by
  refine VCalls.of_PW Try.func29 k29 mix (by simp [c29]) ?_
  simp only [c29, L29, argE]
  have d1 : decide (b ≤ a) = false := by simp only [decide_eq_false_iff_not]; omega
  have w1 : IntKind.u64.wrap (IntKind.u64.wrap b - IntKind.u64.wrap a) = b - a := wrap_diff a b h ha hb
  have d2 : decide ((4096 : Int) < b - a) = false := by simp only [decide_eq_false_iff_not]; omega
  repeat' (first | exact True.intro | (refine PW.seqK ?_; intro K hK) | refine PW.block ?_ | refine PW.exit ?_ | refine PW.ret ?_ | refine PW.skip ?_ | refine seqK_n (by assumption) ?_ | refine seqK_r (by assumption) ?_ | refine seqK_e (by assumption) ?_ | refine PW.regionA ?_ | exact schedW_stop_i | (refine PW.cond rfl ?_ ?_ <;> intro hcond <;> (try contradiction) <;> try simp only [decide_eq_true_eq, decide_eq_false_iff_not] at hcond) | (refine gd_i ?_; intro hg; try simp only [hg]) | ((first | show @LE.le Nat _ _ _ | show @LT.lt Nat _ _ _ | show @LE.le Int _ _ _ | show @LT.lt Int _ _ _ | show @Eq Nat _ _ | show @Eq Int _ _ | show @Eq Bool _ _ | show _ ∨ _ | show ¬ _); first | omega | (simp only [decide_eq_true_eq, decide_eq_false_iff_not, List.length_cons, List.length_nil, List.length_append, List.length_map, Sh.size] <;> omega) | (go_unwrap; omega)) | ((first | refine PW.region ?_ | refine PW.regionQ ?_ | refine schedW_alt_i ?_ ?_ | refine schedW_done_i ?_ | show (_ : Post) _ _ _ | show @Eq (List PV) _ _ | show @Eq Bool _ _ | show opsW _ _ _ _ _ _ _ _ | show okAll _ | show @Eq Bool _ _ ∨ _); focus (simp only [d1, d2, w1, SS, SS2, SS3, SS4, Option.map_some, Bool.not_false, Bool.not_true, gArgs, gOk, Nat.reduceAdd, PV.shift, MObj.shift, rdV, rdD, reduceIte, Nat.reduceEqDiff, Nat.reduceBEq, PV.bin, PV.binOk, binI, binS, PV.withInt, PV.withIntP, okAll, PV.under, PV.okUnder, eq_self, implies_true, deadOk, ne_eq, allOk, RVar.val, RVar.ok, retV, PV.seen, PV.view, beq_self_eq_true, PV.flat, PV.noOwn, id_eq, behind, PV.kill, MObj.kill, killTag, reduceCtorEq, nilB]; (try go_unwrap; try simp only [d1, d2, w1, toNat_add2, toNat_add1, Int.toNat_natCast, Bool.false_and, Bool.true_and, true_implies, true_and, Bool.false_eq_true, reduceCtorEq, false_implies, Bool.not_false, Bool.not_true, Bool.true_or, Bool.false_or]))) | refine And.intro ?_ ?_ | exact Or.inr ⟨rfl, Nat.le_refl _⟩ | exact (fun h => Bool.noConfusion h))
  refine PW.own none 5 rfl ?_
  refine PW.loopG (σ := Nat) 3 (fun _ _ => rfl) [0, 1, 2, 3, 4, 5, 6] (fun i => [linP l, .agg [.int .i64 a, .int .i64 b], .ref 0 0, .ref 1 0, .nilSl, .sl none 2 i, .int .i64 (a + i)])
    (fun i => [some (MObj.var (some 1) (linP l)), some (MObj.var (some 2) (PV.agg [PV.int IntKind.i64 a, PV.int IntKind.i64 b])), some (.row none ((numsU l a i).map (PV.int .i64)))]) (fun i => i ≤ (b - a).toNat) (fun i => (b - a).toNat - i) 0 ?_ (by simp [numsU]) (by omega) ?_
  · simp only [SS, SS2, SS3, SS4, Option.map_some, Bool.not_false, Bool.not_true, gArgs, gOk, Nat.reduceAdd, PV.shift, MObj.shift, rdV, rdD, reduceIte, Nat.reduceEqDiff, Nat.reduceBEq, PV.bin, PV.binOk, binI, binS, PV.withInt, PV.withIntP, okAll, PV.under, PV.okUnder, eq_self, implies_true, deadOk, ne_eq, allOk, RVar.val, RVar.ok, retV, PV.seen, PV.view, beq_self_eq_true, PV.flat, PV.noOwn, id_eq, behind, PV.kill, MObj.kill, killTag, reduceCtorEq, nilB]; first | rfl | (simp; done)
  rintro i hi
  simp only [List.zip_cons_cons, List.zip_nil_left]
  rcases Nat.lt_or_ge i (b - a).toNat with h' | h'
  · have hd : decide (a + (i : Int) < b) = true := by simp only [decide_eq_true_eq]; omega
    have w2 : IntKind.i64.wrap (a + (i : Int) + 1) = a + ((i + 1 : Nat) : Int) := by rw [show a + (i : Int) + 1 = a + ((i + 1 : Nat) : Int) by omega]; exact IntWalk.i64_in _ (by omega)
    have h27 := v27 l hl (a + i)
    have hlen := numsU_len l a i
    have hA : numsU l a (i + 1) = numsU l a i ++ [(valM l (placeM l (a + i))).num] := by simp [numsU, List.range_succ]
    simp only [vlP] at h27
    generalize numsU l a i = A at hlen hA
    generalize valM l (placeM l (a + i)) = V at h27 hA
    generalize decide (0 ≤ placeM l (a + i)) = B at h27
    have b1 : (i + 1) * 8 ≤ 281474976710656 := by omega
    have hAl : (A.map (PV.int .i64)).length = i := by simpa using hlen
    have htk : (A.map (PV.int .i64)).take i = A.map (PV.int .i64) := List.take_of_length_le (by simp; omega)
    repeat' (first | exact True.intro | (refine PW.seqK ?_; intro K hK) | refine PW.block ?_ | refine PW.exit ?_ | refine PW.ret ?_ | refine PW.skip ?_ | refine seqK_n (by assumption) ?_ | refine seqK_r (by assumption) ?_ | refine seqK_e (by assumption) ?_ | refine PW.regionA ?_ | exact schedW_stop_i | (refine PW.cond rfl ?_ ?_ <;> intro hcond <;> (try contradiction) <;> try simp only [decide_eq_true_eq, decide_eq_false_iff_not] at hcond) | (refine gd_i ?_; intro hg; try simp only [hg]) | refine goCall_W e27 (h27) ?_ ?_ ?_ ?_ | ((first | show @LE.le Nat _ _ _ | show @LT.lt Nat _ _ _ | show @LE.le Int _ _ _ | show @LT.lt Int _ _ _ | show @Eq Nat _ _ | show @Eq Int _ _ | show @Eq Bool _ _ | show _ ∨ _ | show ¬ _); first | omega | (simp only [decide_eq_true_eq, decide_eq_false_iff_not, List.length_cons, List.length_nil, List.length_append, List.length_map, Sh.size] <;> omega) | (go_unwrap; omega)) | ((first | refine PW.region ?_ | refine PW.regionQ ?_ | refine schedW_alt_i ?_ ?_ | refine schedW_done_i ?_ | show (_ : Post) _ _ _ | show @Eq (List PV) _ _ | show @Eq Bool _ _ | show opsW _ _ _ _ _ _ _ _ | show okAll _ | show @Eq Bool _ _ ∨ _); focus (simp only [hd, w2, htk, hAl, SS, SS2, SS3, SS4, Option.map_some, Bool.not_false, Bool.not_true, gArgs, gOk, Nat.reduceAdd, PV.shift, MObj.shift, rdV, rdD, reduceIte, Nat.reduceEqDiff, Nat.reduceBEq, PV.bin, PV.binOk, binI, binS, PV.withInt, PV.withIntP, okAll, PV.under, PV.okUnder, eq_self, implies_true, deadOk, ne_eq, allOk, RVar.val, RVar.ok, retV, PV.seen, PV.view, beq_self_eq_true, PV.flat, PV.noOwn, id_eq, behind, PV.kill, MObj.kill, killTag, reduceCtorEq, nilB]; (try go_unwrap; try simp only [hd, w2, htk, hAl, toNat_add2, toNat_add1, Int.toNat_natCast, Bool.false_and, Bool.true_and, true_implies, true_and, Bool.false_eq_true, reduceCtorEq, false_implies, Bool.not_false, Bool.not_true, Bool.true_or, Bool.false_or]))) | refine And.intro ?_ ?_ | exact Or.inr ⟨rfl, Nat.le_refl _⟩ | exact (fun h => Bool.noConfusion h))
    all_goals exact ⟨i + 1, (by first | rfl | (simp only [trimE, trimM, List.take_succ_cons, List.take_zero, List.take_nil, List.map_cons, List.map_nil, Option.map_some, Option.map_none, MObj.kill, PV.kill, Nat.reduceLeDiff, decide_true, decide_false, dec_true, dec_false, Bool.false_eq_true, if_false, if_true, reduceIte, List.zip_cons_cons, List.zip_nil_left, Nat.le_refl, Nat.zero_le, Nat.not_le, Nat.lt_irrefl]; done) | (simp [trimE, trimM, MObj.kill, PV.kill]; done)), (by rw [hA]; exact (by first | rfl | (simp only [trimE, trimM, List.take_succ_cons, List.take_zero, List.take_nil, List.map_cons, List.map_nil, Option.map_some, Option.map_none, MObj.kill, PV.kill, Nat.reduceLeDiff, decide_true, decide_false, dec_true, dec_false, Bool.false_eq_true, if_false, if_true, reduceIte, List.zip_cons_cons, List.zip_nil_left, Nat.le_refl, Nat.zero_le, Nat.not_le, Nat.lt_irrefl]; done) | (simp [trimE, trimM, MObj.kill, PV.kill]; done))), by omega, by omega⟩
  · have hd : decide (a + (i : Int) < b) = false := by simp only [decide_eq_false_iff_not]; omega
    have hi' : i = (b - a).toNat := by omega
    subst hi'
    have hlen := numsU_len l a (b - a).toNat
    repeat' (first | exact True.intro | (refine PW.seqK ?_; intro K hK) | refine PW.block ?_ | refine PW.exit ?_ | refine PW.ret ?_ | refine PW.skip ?_ | refine seqK_n (by assumption) ?_ | refine seqK_r (by assumption) ?_ | refine seqK_e (by assumption) ?_ | refine PW.regionA ?_ | exact schedW_stop_i | (refine PW.cond rfl ?_ ?_ <;> intro hcond <;> (try contradiction) <;> try simp only [decide_eq_true_eq, decide_eq_false_iff_not] at hcond) | (refine gd_i ?_; intro hg; try simp only [hg]) | ((first | show @LE.le Nat _ _ _ | show @LT.lt Nat _ _ _ | show @LE.le Int _ _ _ | show @LT.lt Int _ _ _ | show @Eq Nat _ _ | show @Eq Int _ _ | show @Eq Bool _ _ | show _ ∨ _ | show ¬ _); first | omega | (simp only [decide_eq_true_eq, decide_eq_false_iff_not, List.length_cons, List.length_nil, List.length_append, List.length_map, Sh.size] <;> omega) | (go_unwrap; omega)) | ((first | refine PW.region ?_ | refine PW.regionQ ?_ | refine schedW_alt_i ?_ ?_ | refine schedW_done_i ?_ | show (_ : Post) _ _ _ | show @Eq (List PV) _ _ | show @Eq Bool _ _ | show opsW _ _ _ _ _ _ _ _ | show okAll _ | show @Eq Bool _ _ ∨ _); focus (simp only [hd, hlen, SS, SS2, SS3, SS4, Option.map_some, Bool.not_false, Bool.not_true, gArgs, gOk, Nat.reduceAdd, PV.shift, MObj.shift, rdV, rdD, reduceIte, Nat.reduceEqDiff, Nat.reduceBEq, PV.bin, PV.binOk, binI, binS, PV.withInt, PV.withIntP, okAll, PV.under, PV.okUnder, eq_self, implies_true, deadOk, ne_eq, allOk, RVar.val, RVar.ok, retV, PV.seen, PV.view, beq_self_eq_true, PV.flat, PV.noOwn, id_eq, behind, PV.kill, MObj.kill, killTag, reduceCtorEq, nilB]; (try go_unwrap; try simp only [hd, hlen, toNat_add2, toNat_add1, Int.toNat_natCast, Bool.false_and, Bool.true_and, true_implies, true_and, Bool.false_eq_true, reduceCtorEq, false_implies, Bool.not_false, Bool.not_true, Bool.true_or, Bool.false_or]))) | refine And.intro ?_ ?_ | exact Or.inr ⟨rfl, Nat.le_refl _⟩ | exact (fun h => Bool.noConfusion h))
    all_goals (first
        | (rw [if_pos (by simp; omega), List.take_of_length_le (by simp; omega)]; done)
        | (refine congrArg _ ?_; exact List.take_of_length_le (by simp; omega)) | skip)
end Go.Proofs.Ytjcoenideicmbaa

