import Derived.Test.YtjcoenideicmbaaRows
import Derived.Test.YtjcoenideicmbaaQ11
namespace Go.Proofs.Ytjcoenideicmbaa
open Go PG Go.Proofs
set_option linter.unusedSimpArgs false
set_option linter.unusedVariables false
set_option maxHeartbeats 4000000
set_option maxRecDepth 100000
theorem valM_kn (l : List En) (p : Int) (h0 : 0 ≤ p) (h : p.toNat < l.length) : valM (l.map knOf) p = vlOf l[p.toNat] := by
  unfold valM
  rw [if_neg (by omega)]
  have : (l.map knOf).getD p.toNat default = knOf l[p.toNat] := by simp [List.getD, h]
  rw [this]; rfl
theorem v6 (l : List En) (hl : l.length ≤ 9223372036854775807) (d : Int) : VCalls Try.prog G0 6 [enL l, .int .i64 d] (.bool true) := by
  refine VCalls.of_PW Try.func6 k6 mix (by simp [c6]) ?_
  simp only [c6, L6, argE]
  have hlen : ((l.map enP).length : Nat) = l.length := by simp
  rcases Nat.lt_or_ge 60 l.length with h | h
  · have d1 : decide ((60 : Int) < l.length) = true := by simp only [decide_eq_true_eq]; omega
    repeat' (first | exact True.intro | (refine PW.seqK ?_; intro K hK) | refine PW.block ?_ | refine PW.exit ?_ | refine PW.ret ?_ | refine PW.skip ?_ | refine seqK_n (by assumption) ?_ | refine seqK_r (by assumption) ?_ | refine seqK_e (by assumption) ?_ | refine PW.regionA ?_ | exact schedW_stop_i | (refine PW.cond rfl ?_ ?_ <;> intro hcond <;> (try contradiction) <;> try simp only [decide_eq_true_eq, decide_eq_false_iff_not] at hcond) | (refine gd_i ?_; intro hg; try simp only [hg]) | refine goCall_W e17 (v17) ?_ ?_ ?_ ?_ | ((first | show @LE.le Nat _ _ _ | show @LT.lt Nat _ _ _ | show @LE.le Int _ _ _ | show @LT.lt Int _ _ _ | show @Eq Nat _ _ | show @Eq Int _ _ | show @Eq Bool _ _ | show _ ∨ _ | show ¬ _); first | omega | (simp only [decide_eq_true_eq, decide_eq_false_iff_not, List.length_cons, List.length_nil, List.length_append, List.length_map, Sh.size] <;> omega) | (go_unwrap; omega)) | ((first | refine PW.region ?_ | refine PW.regionQ ?_ | refine schedW_alt_i ?_ ?_ | refine schedW_done_i ?_ | show (_ : Post) _ _ _ | show @Eq (List PV) _ _ | show @Eq Bool _ _ | show opsW _ _ _ _ _ _ _ _ | show okAll _ | show @Eq Bool _ _ ∨ _); focus (simp only [hlen, d1, SS, SS2, SS3, SS4, Option.map_some, Bool.not_false, Bool.not_true, gArgs, gOk, Nat.reduceAdd, PV.shift, MObj.shift, rdV, rdD, reduceIte, Nat.reduceEqDiff, Nat.reduceBEq, PV.bin, PV.binOk, binI, binS, PV.withInt, PV.withIntP, okAll, PV.under, PV.okUnder, eq_self, implies_true, deadOk, ne_eq, allOk, RVar.val, RVar.ok, retV, PV.seen, PV.view, beq_self_eq_true, PV.flat, PV.noOwn, id_eq, behind, PV.kill, MObj.kill, killTag, reduceCtorEq, nilB]; (try go_unwrap; try simp only [hlen, d1, toNat_add2, toNat_add1, Int.toNat_natCast, Bool.false_and, Bool.true_and, true_implies, true_and, Bool.false_eq_true, reduceCtorEq, false_implies, Bool.not_false, Bool.not_true, Bool.true_or, Bool.false_or]))) | refine And.intro ?_ ?_ | exact Or.inr ⟨rfl, Nat.le_refl _⟩ | exact (fun h => Bool.noConfusion h))
  have d1 : decide ((60 : Int) < l.length) = false := by simp only [decide_eq_false_iff_not]; omega
  have h20 := v20 l (by omega)
  have h19 := v19 (l.map knOf) (by simp; omega)
  have h27 := v27 (l.map knOf) (by simp; omega) d
  have h23 := v23 l (by omega)
  have h28 := v28 l (by omega) d
  have hpi := placeM_in (l.map knOf) d
  rw [List.length_map] at hpi
  have hvk := valM_kn l (placeM (l.map knOf) d)
  have hv0 : placeM (l.map knOf) d < 0 → valM (l.map knOf) (placeM (l.map knOf) d) = vl0 := fun h => by unfold valM; rw [if_pos h]
  obtain ⟨KV, hKV, hKn, hKs, hKw⟩ : ∃ KV, knV (l.map knOf) = KV ∧ KV.noOwn = true ∧ (∀ μ, PV.seen μ KV = true) ∧ (∀ μ, PV.view μ KV = KV) := by
    refine ⟨_, rfl, ?_, ?_, ?_⟩
    · unfold knV; split <;> simp [PV.noOwn]
    · intro μ; unfold knV; split <;> simp [PV.seen]
    · intro μ; unfold knV; split <;> simp [PV.view]
  rw [hKV] at h20 h19
  obtain ⟨XX, hXX⟩ : ∃ XX, (l.map knOf).map knP = XX := ⟨_, rfl⟩
  rw [show linP (l.map knOf) = .agg [.list (some 9) XX] by rw [← hXX]] at h19 h27
  simp only [vlP] at h27
  generalize valM (l.map knOf) (placeM (l.map knOf) d) = V at h27 hvk hv0
  generalize placeM (l.map knOf) d = p at h27 h28 hpi hvk hv0
  clear hXX hKV
  rcases Int.lt_or_le p 0 with h0 | h0
  · have d2 : decide (p < 0) = true := by simpa using h0
    have d3 : decide (0 ≤ p) = false := by simp only [decide_eq_false_iff_not]; omega
    rw [hv0 h0] at h27
    simp only [vl0] at h27
    repeat' (first | exact True.intro | (refine PW.seqK ?_; intro K hK) | refine PW.block ?_ | refine PW.exit ?_ | refine PW.ret ?_ | refine PW.skip ?_ | refine seqK_n (by assumption) ?_ | refine seqK_r (by assumption) ?_ | refine seqK_e (by assumption) ?_ | refine PW.regionA ?_ | exact schedW_stop_i | (refine PW.cond rfl ?_ ?_ <;> intro hcond <;> (try contradiction) <;> try simp only [decide_eq_true_eq, decide_eq_false_iff_not] at hcond) | (refine gd_i ?_; intro hg; try simp only [hg]) | refine goCall_W e20 (h20) ?_ ?_ ?_ ?_ | refine goCall_W e19 (h19) ?_ ?_ ?_ ?_ | refine goCall_W e27 (h27) ?_ ?_ ?_ ?_ | refine goCall_W e23 (h23) ?_ ?_ ?_ ?_ | refine goCall_W e28 (h28) ?_ ?_ ?_ ?_ | refine goCallG_W e17 (v17) ?_ ?_ ?_ ?_ ?_ | ((first | show @LE.le Nat _ _ _ | show @LT.lt Nat _ _ _ | show @LE.le Int _ _ _ | show @LT.lt Int _ _ _ | show @Eq Nat _ _ | show @Eq Int _ _ | show @Eq Bool _ _ | show _ ∨ _ | show ¬ _); first | omega | (simp only [decide_eq_true_eq, decide_eq_false_iff_not, List.length_cons, List.length_nil, List.length_append, List.length_map, Sh.size] <;> omega) | (go_unwrap; omega)) | ((first | refine PW.region ?_ | refine PW.regionQ ?_ | refine schedW_alt_i ?_ ?_ | refine schedW_done_i ?_ | show (_ : Post) _ _ _ | show @Eq (List PV) _ _ | show @Eq Bool _ _ | show opsW _ _ _ _ _ _ _ _ | show okAll _ | show @Eq Bool _ _ ∨ _); focus (simp only [hlen, d1, d2, d3, hKn, hKs, hKw, SS, SS2, SS3, SS4, Option.map_some, Bool.not_false, Bool.not_true, gArgs, gOk, Nat.reduceAdd, PV.shift, MObj.shift, rdV, rdD, reduceIte, Nat.reduceEqDiff, Nat.reduceBEq, PV.bin, PV.binOk, binI, binS, PV.withInt, PV.withIntP, okAll, PV.under, PV.okUnder, eq_self, implies_true, deadOk, ne_eq, allOk, RVar.val, RVar.ok, retV, PV.seen, PV.view, beq_self_eq_true, PV.flat, PV.noOwn, id_eq, behind, PV.kill, MObj.kill, killTag, reduceCtorEq, nilB]; (try go_unwrap; try simp only [hlen, d1, d2, d3, hKn, hKs, hKw, toNat_add2, toNat_add1, Int.toNat_natCast, Bool.false_and, Bool.true_and, true_implies, true_and, Bool.false_eq_true, reduceCtorEq, false_implies, Bool.not_false, Bool.not_true, Bool.true_or, Bool.false_or]))) | refine And.intro ?_ ?_ | exact Or.inr ⟨rfl, Nat.le_refl _⟩ | exact (fun h => Bool.noConfusion h))
  · have d2 : decide (p < 0) = false := by simp only [decide_eq_false_iff_not]; omega
    have d3 : decide (0 ≤ p) = true := by simpa using h0
    have hg := en_getD l p.toNat (by omega)
    have h24 := v24 l[p.toNat]
    rw [hvk h0 (by omega)] at h27
    generalize l[p.toNat] = e at hg h24 h27
    simp only [enP] at hg h24
    simp only [vlP, vlOf] at h24 h27
    have y1 : decide (e.n = e.n) = true := by simp
    have y2 : decide (e.num = e.num) = true := by simp
    have y3 : decide (e.text = e.text) = true := by simp
    repeat' (first | exact True.intro | (refine PW.seqK ?_; intro K hK) | refine PW.block ?_ | refine PW.exit ?_ | refine PW.ret ?_ | refine PW.skip ?_ | refine seqK_n (by assumption) ?_ | refine seqK_r (by assumption) ?_ | refine seqK_e (by assumption) ?_ | refine PW.regionA ?_ | exact schedW_stop_i | (refine PW.cond rfl ?_ ?_ <;> intro hcond <;> (try contradiction) <;> try simp only [decide_eq_true_eq, decide_eq_false_iff_not] at hcond) | (apply goCallG_N e23; (case hV => (intro hg; simp only [hg, hlen, d1, d2, d3, hg, y1, y2, y3, hKn, hKs, hKw, SS, SS2, SS3, SS4, Option.map_some, Bool.not_false, Bool.not_true, gArgs, gOk, Nat.reduceAdd, PV.shift, MObj.shift, rdV, rdD, reduceIte, Nat.reduceEqDiff, Nat.reduceBEq, PV.bin, PV.binOk, binI, binS, PV.withInt, PV.withIntP, okAll, PV.under, PV.okUnder, eq_self, implies_true, deadOk, ne_eq, allOk, RVar.val, RVar.ok, retV, PV.seen, PV.view, beq_self_eq_true, PV.flat, PV.noOwn, id_eq, behind, PV.kill, MObj.kill, killTag, reduceCtorEq, nilB]; (try go_unwrap; try simp only [hlen, d1, d2, d3, hg, y1, y2, y3, hKn, hKs, hKw, toNat_add2, toNat_add1, Int.toNat_natCast, Bool.false_and, Bool.true_and, true_implies, true_and, Bool.false_eq_true, reduceCtorEq, false_implies, Bool.not_false, Bool.not_true, Bool.true_or, Bool.false_or]); exact h23)); (case hok => (intro hg; first | (simp only [hg, hlen, d1, d2, d3, hg, y1, y2, y3, hKn, hKs, hKw, SS, SS2, SS3, SS4, Option.map_some, Bool.not_false, Bool.not_true, gArgs, gOk, Nat.reduceAdd, PV.shift, MObj.shift, rdV, rdD, reduceIte, Nat.reduceEqDiff, Nat.reduceBEq, PV.bin, PV.binOk, binI, binS, PV.withInt, PV.withIntP, okAll, PV.under, PV.okUnder, eq_self, implies_true, deadOk, ne_eq, allOk, RVar.val, RVar.ok, retV, PV.seen, PV.view, beq_self_eq_true, PV.flat, PV.noOwn, id_eq, behind, PV.kill, MObj.kill, killTag, reduceCtorEq, nilB]; done) | (simp_all [okAll, PV.okUnder]; done))); (case hs => (intro hg; simp only [hg, hlen, d1, d2, d3, hg, y1, y2, y3, hKn, hKs, hKw, SS, SS2, SS3, SS4, Option.map_some, Bool.not_false, Bool.not_true, gArgs, gOk, Nat.reduceAdd, PV.shift, MObj.shift, rdV, rdD, reduceIte, Nat.reduceEqDiff, Nat.reduceBEq, PV.bin, PV.binOk, binI, binS, PV.withInt, PV.withIntP, okAll, PV.under, PV.okUnder, eq_self, implies_true, deadOk, ne_eq, allOk, RVar.val, RVar.ok, retV, PV.seen, PV.view, beq_self_eq_true, PV.flat, PV.noOwn, id_eq, behind, PV.kill, MObj.kill, killTag, reduceCtorEq, nilB])); (case hn => (intro hg; simp only [hg, hlen, d1, d2, d3, hg, y1, y2, y3, hKn, hKs, hKw, SS, SS2, SS3, SS4, Option.map_some, Bool.not_false, Bool.not_true, gArgs, gOk, Nat.reduceAdd, PV.shift, MObj.shift, rdV, rdD, reduceIte, Nat.reduceEqDiff, Nat.reduceBEq, PV.bin, PV.binOk, binI, binS, PV.withInt, PV.withIntP, okAll, PV.under, PV.okUnder, eq_self, implies_true, deadOk, ne_eq, allOk, RVar.val, RVar.ok, retV, PV.seen, PV.view, beq_self_eq_true, PV.flat, PV.noOwn, id_eq, behind, PV.kill, MObj.kill, killTag, reduceCtorEq, nilB])); (case hq => rfl); (simp only [hlen, d1, d2, d3, hg, y1, y2, y3, hKn, hKs, hKw, SS, SS2, SS3, SS4, Option.map_some, Bool.not_false, Bool.not_true, gArgs, gOk, Nat.reduceAdd, PV.shift, MObj.shift, rdV, rdD, reduceIte, Nat.reduceEqDiff, Nat.reduceBEq, PV.bin, PV.binOk, binI, binS, PV.withInt, PV.withIntP, okAll, PV.under, PV.okUnder, eq_self, implies_true, deadOk, ne_eq, allOk, RVar.val, RVar.ok, retV, PV.seen, PV.view, beq_self_eq_true, PV.flat, PV.noOwn, id_eq, behind, PV.kill, MObj.kill, killTag, reduceCtorEq, nilB]; (try go_unwrap; try simp only [hlen, d1, d2, d3, hg, y1, y2, y3, hKn, hKs, hKw, toNat_add2, toNat_add1, Int.toNat_natCast, Bool.false_and, Bool.true_and, true_implies, true_and, Bool.false_eq_true, reduceCtorEq, false_implies, Bool.not_false, Bool.not_true, Bool.true_or, Bool.false_or]))) | (apply goCallG_N e24; (case hV => (intro hg; simp only [hg, hlen, d1, d2, d3, hg, y1, y2, y3, hKn, hKs, hKw, SS, SS2, SS3, SS4, Option.map_some, Bool.not_false, Bool.not_true, gArgs, gOk, Nat.reduceAdd, PV.shift, MObj.shift, rdV, rdD, reduceIte, Nat.reduceEqDiff, Nat.reduceBEq, PV.bin, PV.binOk, binI, binS, PV.withInt, PV.withIntP, okAll, PV.under, PV.okUnder, eq_self, implies_true, deadOk, ne_eq, allOk, RVar.val, RVar.ok, retV, PV.seen, PV.view, beq_self_eq_true, PV.flat, PV.noOwn, id_eq, behind, PV.kill, MObj.kill, killTag, reduceCtorEq, nilB]; (try go_unwrap; try simp only [hlen, d1, d2, d3, hg, y1, y2, y3, hKn, hKs, hKw, toNat_add2, toNat_add1, Int.toNat_natCast, Bool.false_and, Bool.true_and, true_implies, true_and, Bool.false_eq_true, reduceCtorEq, false_implies, Bool.not_false, Bool.not_true, Bool.true_or, Bool.false_or]); exact h24)); (case hok => (intro hg; first | (simp only [hg, hlen, d1, d2, d3, hg, y1, y2, y3, hKn, hKs, hKw, SS, SS2, SS3, SS4, Option.map_some, Bool.not_false, Bool.not_true, gArgs, gOk, Nat.reduceAdd, PV.shift, MObj.shift, rdV, rdD, reduceIte, Nat.reduceEqDiff, Nat.reduceBEq, PV.bin, PV.binOk, binI, binS, PV.withInt, PV.withIntP, okAll, PV.under, PV.okUnder, eq_self, implies_true, deadOk, ne_eq, allOk, RVar.val, RVar.ok, retV, PV.seen, PV.view, beq_self_eq_true, PV.flat, PV.noOwn, id_eq, behind, PV.kill, MObj.kill, killTag, reduceCtorEq, nilB]; done) | (simp_all [okAll, PV.okUnder]; done))); (case hs => (intro hg; simp only [hg, hlen, d1, d2, d3, hg, y1, y2, y3, hKn, hKs, hKw, SS, SS2, SS3, SS4, Option.map_some, Bool.not_false, Bool.not_true, gArgs, gOk, Nat.reduceAdd, PV.shift, MObj.shift, rdV, rdD, reduceIte, Nat.reduceEqDiff, Nat.reduceBEq, PV.bin, PV.binOk, binI, binS, PV.withInt, PV.withIntP, okAll, PV.under, PV.okUnder, eq_self, implies_true, deadOk, ne_eq, allOk, RVar.val, RVar.ok, retV, PV.seen, PV.view, beq_self_eq_true, PV.flat, PV.noOwn, id_eq, behind, PV.kill, MObj.kill, killTag, reduceCtorEq, nilB])); (case hn => (intro hg; simp only [hg, hlen, d1, d2, d3, hg, y1, y2, y3, hKn, hKs, hKw, SS, SS2, SS3, SS4, Option.map_some, Bool.not_false, Bool.not_true, gArgs, gOk, Nat.reduceAdd, PV.shift, MObj.shift, rdV, rdD, reduceIte, Nat.reduceEqDiff, Nat.reduceBEq, PV.bin, PV.binOk, binI, binS, PV.withInt, PV.withIntP, okAll, PV.under, PV.okUnder, eq_self, implies_true, deadOk, ne_eq, allOk, RVar.val, RVar.ok, retV, PV.seen, PV.view, beq_self_eq_true, PV.flat, PV.noOwn, id_eq, behind, PV.kill, MObj.kill, killTag, reduceCtorEq, nilB])); (case hq => rfl); (simp only [hlen, d1, d2, d3, hg, y1, y2, y3, hKn, hKs, hKw, SS, SS2, SS3, SS4, Option.map_some, Bool.not_false, Bool.not_true, gArgs, gOk, Nat.reduceAdd, PV.shift, MObj.shift, rdV, rdD, reduceIte, Nat.reduceEqDiff, Nat.reduceBEq, PV.bin, PV.binOk, binI, binS, PV.withInt, PV.withIntP, okAll, PV.under, PV.okUnder, eq_self, implies_true, deadOk, ne_eq, allOk, RVar.val, RVar.ok, retV, PV.seen, PV.view, beq_self_eq_true, PV.flat, PV.noOwn, id_eq, behind, PV.kill, MObj.kill, killTag, reduceCtorEq, nilB]; (try go_unwrap; try simp only [hlen, d1, d2, d3, hg, y1, y2, y3, hKn, hKs, hKw, toNat_add2, toNat_add1, Int.toNat_natCast, Bool.false_and, Bool.true_and, true_implies, true_and, Bool.false_eq_true, reduceCtorEq, false_implies, Bool.not_false, Bool.not_true, Bool.true_or, Bool.false_or]))) | (refine gd_i ?_; intro hg; try simp only [hg]) | refine goCall_W e20 (h20) ?_ ?_ ?_ ?_ | refine goCall_W e19 (h19) ?_ ?_ ?_ ?_ | refine goCall_W e27 (h27) ?_ ?_ ?_ ?_ | refine goCall_W e23 (h23) ?_ ?_ ?_ ?_ | refine goCall_W e28 (h28) ?_ ?_ ?_ ?_ | refine goCallG_W e17 (v17) ?_ ?_ ?_ ?_ ?_ | ((first | show @LE.le Nat _ _ _ | show @LT.lt Nat _ _ _ | show @LE.le Int _ _ _ | show @LT.lt Int _ _ _ | show @Eq Nat _ _ | show @Eq Int _ _ | show @Eq Bool _ _ | show _ ∨ _ | show ¬ _); first | omega | (simp only [decide_eq_true_eq, decide_eq_false_iff_not, List.length_cons, List.length_nil, List.length_append, List.length_map, Sh.size] <;> omega) | (go_unwrap; omega)) | ((first | refine PW.region ?_ | refine PW.regionQ ?_ | refine schedW_alt_i ?_ ?_ | refine schedW_done_i ?_ | show (_ : Post) _ _ _ | show @Eq (List PV) _ _ | show @Eq Bool _ _ | show opsW _ _ _ _ _ _ _ _ | show okAll _ | show @Eq Bool _ _ ∨ _); focus (simp only [hlen, d1, d2, d3, hg, y1, y2, y3, hKn, hKs, hKw, SS, SS2, SS3, SS4, Option.map_some, Bool.not_false, Bool.not_true, gArgs, gOk, Nat.reduceAdd, PV.shift, MObj.shift, rdV, rdD, reduceIte, Nat.reduceEqDiff, Nat.reduceBEq, PV.bin, PV.binOk, binI, binS, PV.withInt, PV.withIntP, okAll, PV.under, PV.okUnder, eq_self, implies_true, deadOk, ne_eq, allOk, RVar.val, RVar.ok, retV, PV.seen, PV.view, beq_self_eq_true, PV.flat, PV.noOwn, id_eq, behind, PV.kill, MObj.kill, killTag, reduceCtorEq, nilB]; (try go_unwrap; try simp only [hlen, d1, d2, d3, hg, y1, y2, y3, hKn, hKs, hKw, toNat_add2, toNat_add1, Int.toNat_natCast, Bool.false_and, Bool.true_and, true_implies, true_and, Bool.false_eq_true, reduceCtorEq, false_implies, Bool.not_false, Bool.not_true, Bool.true_or, Bool.false_or]))) | refine And.intro ?_ ?_ | exact Or.inr ⟨rfl, Nat.le_refl _⟩ | exact (fun h => Bool.noConfusion h))
end Go.Proofs.Ytjcoenideicmbaa

namespace Go.Proofs.Ytjcoenideicmbaa
open Go PG Go.Proofs
set_option linter.unusedSimpArgs false
set_option linter.unusedVariables false
set_option maxRecDepth 100000
theorem own1 : ownKnob Try.prog.godebug = none := by kernel_rfl
theorem laidOut : laidOutB Try.prog = true := by kernel_rfl
theorem shAs2 {P : Program} {n : Nat} {a b : TypeId} {ps : List PV} (h : ShAs P n [a, b] ps) : ∃ p q, ps = [p, q] ∧ ShA P n a p ∧ ShA P n b q := by
  match ps, h with
  | [p, q], h => exact ⟨p, q, rfl, h.1, h.2.1⟩
theorem read_en {n : Nat} {x : PV} (hx : fits (some 5) x) (h : ShC Try.prog (n + 2) 50 x.cells) : ∃ e : En, x = enP e ∧ True := by
  obtain ⟨cs, rfl, -, hl⟩ := fits_cells hx
  obtain ⟨-, hf⟩ := shC_struct Try.underlying50 h
  have c3 : Try.prog.cellsOf 3 = 1 := by kernel_rfl
  have c25 : Try.prog.cellsOf 25 = 1 := by kernel_rfl
  have c2 : Try.prog.cellsOf 2 = 1 := by kernel_rfl
  have c9 : Try.prog.cellsOf 9 = 1 := by kernel_rfl
  simp only [List.mem_cons, List.not_mem_nil, or_false, forall_eq_or_imp, forall_eq, c3, c25, c2, c9, PV.cells] at hf
  match cs, hl with
  | [a, b, c, d, e], _ =>
    obtain ⟨h1, h2, h3, h4, h5⟩ := hf
    obtain ⟨m1, e1, -, -⟩ := shC_int Try.underlying3 h1
    obtain ⟨m2, e2, -, -⟩ := shC_int Try.underlying25 h2
    obtain ⟨m3, e3, -, -⟩ := shC_int Try.underlying25 h3
    obtain ⟨m4, e4, -, -⟩ := shC_int Try.underlying2 h4
    obtain ⟨s5, e5, -⟩ := shC_str Try.underlying9 h5
    simp at e1 e2 e3 e4 e5
    subst e1; subst e2; subst e3; subst e4; subst e5
    exact ⟨⟨m1, m2, m3, m4, s5⟩, rfl, trivial⟩
theorem read_ens {n : Nat} {p : PV} (h : ShA Try.prog (n + 3) 22 p) : ∃ l : List En, p = enL l ∧ l.length ≤ 9223372036854775807 := by
  obtain ⟨sh, xs, hs, rfl, b, hx⟩ := shA_slice Try.underlying22 h
  have hsh : shOf Try.prog 50 = some (some 5) := by kernel_rfl
  obtain rfl := Option.some.inj (hsh.symm.trans hs)
  obtain ⟨l, rfl, -⟩ := list_of enP (fun _ => True) (xs := xs) (fun x hx' => read_en (hx x hx').1 (hx x hx').2)
  exact ⟨l, rfl, by simpa using b⟩
end Go.Proofs.Ytjcoenideicmbaa

