import Derived.Shelf.SlMaps.Clone
import Derived.Test.YtdemgegpnlngeaaDoorQ7
namespace Go.Proofs.YtdemgegpnlngeaaDoor
open Go PG Go.Proofs
set_option linter.unusedSimpArgs false
set_option linter.unusedVariables false
set_option maxHeartbeats 4000000
set_option maxRecDepth 100000
theorem v15 (l : List Ent4) (hz : ∀ e ∈ l, entSz e) : VCalls Tryd.prog G0 15 [entL l] (.int .i64 (batchW l)) := by
  refine VCalls.of_PW Tryd.func15 k15 mix (by simp [c15]) ?_
  simp only [c15, L15, argE]
  have hm : ((l.map entP).length : Nat) = l.length := by simp
  repeat' (first | refine PW.seq ?_ | refine PW.block ?_ | ((first | refine PW.region ?_ | refine PW.regionQ ?_ | refine PW.exit ?_ | refine PW.ret ?_ | refine PW.skip ?_); simp only [hm, SS, SS2, SS3, SS4, Option.map_some, Bool.not_false, Bool.not_true, gArgs, gOk, Nat.reduceAdd, PV.shift, MObj.shift, rdV, rdD, reduceIte, Nat.reduceEqDiff, Nat.reduceBEq, PV.bin, PV.binOk, binI, binS, PV.withInt, PV.withIntP, okAll, PV.under, PV.okUnder, eq_self, implies_true, deadOk, ne_eq, allOk, RVar.val, RVar.ok, retV, PV.seen, PV.view, beq_self_eq_true, PV.flat, PV.noOwn, id_eq, behind, PV.kill, MObj.kill, killTag, reduceCtorEq, nilB]; (try go_unwrap; try simp only [hm, toNat_add2, toNat_add1, Int.toNat_natCast, Bool.false_and, Bool.true_and, true_implies, true_and, Bool.false_eq_true, reduceCtorEq, false_implies, Bool.not_false, Bool.not_true, Bool.true_or, Bool.false_or])) | refine PW.regionA ?_ | exact schedW_stop_i | ((first | refine schedW_alt_i ?_ ?_ | refine schedW_done_i ?_); focus (simp only [hm, SS, SS2, SS3, SS4, Option.map_some, Bool.not_false, Bool.not_true, gArgs, gOk, Nat.reduceAdd, PV.shift, MObj.shift, rdV, rdD, reduceIte, Nat.reduceEqDiff, Nat.reduceBEq, PV.bin, PV.binOk, binI, binS, PV.withInt, PV.withIntP, okAll, PV.under, PV.okUnder, eq_self, implies_true, deadOk, ne_eq, allOk, RVar.val, RVar.ok, retV, PV.seen, PV.view, beq_self_eq_true, PV.flat, PV.noOwn, id_eq, behind, PV.kill, MObj.kill, killTag, reduceCtorEq, nilB]; (try go_unwrap; try simp only [hm, toNat_add2, toNat_add1, Int.toNat_natCast, Bool.false_and, Bool.true_and, true_implies, true_and, Bool.false_eq_true, reduceCtorEq, false_implies, Bool.not_false, Bool.not_true, Bool.true_or, Bool.false_or]))) | (refine PW.cond rfl ?_ ?_ <;> intro hcond <;> (try contradiction) <;> try simp only [decide_eq_true_eq, decide_eq_false_iff_not] at hcond) | refine And.intro ?_ ?_ | exact Or.inr ⟨rfl, Nat.le_refl _⟩ | exact (fun h => Bool.noConfusion h) | omega | (simp only [decide_eq_true_eq, decide_eq_false_iff_not, List.length_cons, List.length_nil, List.length_append, List.length_map, Sh.size] <;> omega) | (go_unwrap; omega))
  · have : l.length = 0 := by omega
    simp [batchW, this]
  · have h1 : ¬ l.length = 0 := by omega
    have h2 : 65536 < l.length := by omega
    simp [batchW, h1, h2]
  have hb : batchW l = chks l := by
    have h1 : ¬ l.length = 0 := by omega
    have h2 : ¬ 65536 < l.length := by omega
    simp [batchW, h1, h2]
  rw [hb]
  refine PW.loopG (σ := Nat) 0 (fun _ _ => rfl) [0, 2, 3] (fun j => [entL l, .int .i64 0, .int .i64 j]) (fun _ => []) (fun j => j ≤ l.length ∧ chks l = chks (l.drop j)) (fun j => l.length - j) 0 ?_ rfl ⟨by omega, by simp⟩ ?_
  · simp only [SS, SS2, SS3, SS4, Option.map_some, Bool.not_false, Bool.not_true, gArgs, gOk, Nat.reduceAdd, PV.shift, MObj.shift, rdV, rdD, reduceIte, Nat.reduceEqDiff, Nat.reduceBEq, PV.bin, PV.binOk, binI, binS, PV.withInt, PV.withIntP, okAll, PV.under, PV.okUnder, eq_self, implies_true, deadOk, ne_eq, allOk, RVar.val, RVar.ok, retV, PV.seen, PV.view, beq_self_eq_true, PV.flat, PV.noOwn, id_eq, behind, PV.kill, MObj.kill, killTag, reduceCtorEq, nilB]; rfl
  rintro j ⟨hj, hr⟩
  simp only [List.zip_cons_cons, List.zip_nil_left]
  rcases Nat.lt_or_ge j l.length with h | h
  · have hd : decide ((j : Int) < l.length) = true := by simp only [decide_eq_true_eq]; omega
    have hg := ents_getD l j h
    rw [List.drop_eq_getElem_cons h, chks] at hr
    have hp := hz l[j] (by simp)
    generalize l[j] = b at hg hr hp
    simp only [entP] at hg
    obtain ⟨h1, h2, h3⟩ := hp
    have w1 := v43 _ h1
    have w2 := v43 _ h2
    have hchk : chk b = chk b := rfl
    rcases hda : accOk b.d with _ | _
    · rw [hda] at w1
      repeat' (first | refine PW.seq ?_ | refine PW.block ?_ | ((first | refine PW.region ?_ | refine PW.regionQ ?_ | refine PW.exit ?_ | refine PW.ret ?_ | refine PW.skip ?_); simp only [hd, hg, hm, SS, SS2, SS3, SS4, Option.map_some, Bool.not_false, Bool.not_true, gArgs, gOk, Nat.reduceAdd, PV.shift, MObj.shift, rdV, rdD, reduceIte, Nat.reduceEqDiff, Nat.reduceBEq, PV.bin, PV.binOk, binI, binS, PV.withInt, PV.withIntP, okAll, PV.under, PV.okUnder, eq_self, implies_true, deadOk, ne_eq, allOk, RVar.val, RVar.ok, retV, PV.seen, PV.view, beq_self_eq_true, PV.flat, PV.noOwn, id_eq, behind, PV.kill, MObj.kill, killTag, reduceCtorEq, nilB]; (try go_unwrap; try simp only [hd, hg, hm, toNat_add2, toNat_add1, Int.toNat_natCast, Bool.false_and, Bool.true_and, true_implies, true_and, Bool.false_eq_true, reduceCtorEq, false_implies, Bool.not_false, Bool.not_true, Bool.true_or, Bool.false_or])) | refine PW.regionA ?_ | exact schedW_stop_i | ((first | refine schedW_alt_i ?_ ?_ | refine schedW_done_i ?_); focus (simp only [hd, hg, hm, SS, SS2, SS3, SS4, Option.map_some, Bool.not_false, Bool.not_true, gArgs, gOk, Nat.reduceAdd, PV.shift, MObj.shift, rdV, rdD, reduceIte, Nat.reduceEqDiff, Nat.reduceBEq, PV.bin, PV.binOk, binI, binS, PV.withInt, PV.withIntP, okAll, PV.under, PV.okUnder, eq_self, implies_true, deadOk, ne_eq, allOk, RVar.val, RVar.ok, retV, PV.seen, PV.view, beq_self_eq_true, PV.flat, PV.noOwn, id_eq, behind, PV.kill, MObj.kill, killTag, reduceCtorEq, nilB]; (try go_unwrap; try simp only [hd, hg, hm, toNat_add2, toNat_add1, Int.toNat_natCast, Bool.false_and, Bool.true_and, true_implies, true_and, Bool.false_eq_true, reduceCtorEq, false_implies, Bool.not_false, Bool.not_true, Bool.true_or, Bool.false_or]))) | (refine PW.cond rfl ?_ ?_ <;> intro hcond <;> (try contradiction) <;> try simp only [decide_eq_true_eq, decide_eq_false_iff_not] at hcond) | (apply goCall_V e43; (case hV => (simp only [hd, hg, hm, SS, SS2, SS3, SS4, Option.map_some, Bool.not_false, Bool.not_true, gArgs, gOk, Nat.reduceAdd, PV.shift, MObj.shift, rdV, rdD, reduceIte, Nat.reduceEqDiff, Nat.reduceBEq, PV.bin, PV.binOk, binI, binS, PV.withInt, PV.withIntP, okAll, PV.under, PV.okUnder, eq_self, implies_true, deadOk, ne_eq, allOk, RVar.val, RVar.ok, retV, PV.seen, PV.view, beq_self_eq_true, PV.flat, PV.noOwn, id_eq, behind, PV.kill, MObj.kill, killTag, reduceCtorEq, nilB]; (try go_unwrap; try simp only [hd, hg, hm, toNat_add2, toNat_add1, Int.toNat_natCast, Bool.false_and, Bool.true_and, true_implies, true_and, Bool.false_eq_true, reduceCtorEq, false_implies, Bool.not_false, Bool.not_true, Bool.true_or, Bool.false_or]); exact w1)); (try (case hs => rfl)); (try (case hf => first | exact Or.inl rfl | exact Or.inr ⟨rfl, rfl⟩ | (refine Or.inl ?_; simp only [hd, hg, hm, SS, SS2, SS3, SS4, Option.map_some, Bool.not_false, Bool.not_true, gArgs, gOk, Nat.reduceAdd, PV.shift, MObj.shift, rdV, rdD, reduceIte, Nat.reduceEqDiff, Nat.reduceBEq, PV.bin, PV.binOk, binI, binS, PV.withInt, PV.withIntP, okAll, PV.under, PV.okUnder, eq_self, implies_true, deadOk, ne_eq, allOk, RVar.val, RVar.ok, retV, PV.seen, PV.view, beq_self_eq_true, PV.flat, PV.noOwn, id_eq, behind, PV.kill, MObj.kill, killTag, reduceCtorEq, nilB]; done) | (refine Or.inr ⟨rfl, ?_⟩; simp only [hd, hg, hm, SS, SS2, SS3, SS4, Option.map_some, Bool.not_false, Bool.not_true, gArgs, gOk, Nat.reduceAdd, PV.shift, MObj.shift, rdV, rdD, reduceIte, Nat.reduceEqDiff, Nat.reduceBEq, PV.bin, PV.binOk, binI, binS, PV.withInt, PV.withIntP, okAll, PV.under, PV.okUnder, eq_self, implies_true, deadOk, ne_eq, allOk, RVar.val, RVar.ok, retV, PV.seen, PV.view, beq_self_eq_true, PV.flat, PV.noOwn, id_eq, behind, PV.kill, MObj.kill, killTag, reduceCtorEq, nilB]; done))); all_goals (simp only [hd, hg, hm, SS, SS2, SS3, SS4, Option.map_some, Bool.not_false, Bool.not_true, gArgs, gOk, Nat.reduceAdd, PV.shift, MObj.shift, rdV, rdD, reduceIte, Nat.reduceEqDiff, Nat.reduceBEq, PV.bin, PV.binOk, binI, binS, PV.withInt, PV.withIntP, okAll, PV.under, PV.okUnder, eq_self, implies_true, deadOk, ne_eq, allOk, RVar.val, RVar.ok, retV, PV.seen, PV.view, beq_self_eq_true, PV.flat, PV.noOwn, id_eq, behind, PV.kill, MObj.kill, killTag, reduceCtorEq, nilB]; (try go_unwrap; try simp only [hd, hg, hm, toNat_add2, toNat_add1, Int.toNat_natCast, Bool.false_and, Bool.true_and, true_implies, true_and, Bool.false_eq_true, reduceCtorEq, false_implies, Bool.not_false, Bool.not_true, Bool.true_or, Bool.false_or]))) | (apply goCallG_V e43; (case hV => (intro hg; simp only [hg, hd, hg, hm, SS, SS2, SS3, SS4, Option.map_some, Bool.not_false, Bool.not_true, gArgs, gOk, Nat.reduceAdd, PV.shift, MObj.shift, rdV, rdD, reduceIte, Nat.reduceEqDiff, Nat.reduceBEq, PV.bin, PV.binOk, binI, binS, PV.withInt, PV.withIntP, okAll, PV.under, PV.okUnder, eq_self, implies_true, deadOk, ne_eq, allOk, RVar.val, RVar.ok, retV, PV.seen, PV.view, beq_self_eq_true, PV.flat, PV.noOwn, id_eq, behind, PV.kill, MObj.kill, killTag, reduceCtorEq, nilB]; (try go_unwrap; try simp only [hd, hg, hm, toNat_add2, toNat_add1, Int.toNat_natCast, Bool.false_and, Bool.true_and, true_implies, true_and, Bool.false_eq_true, reduceCtorEq, false_implies, Bool.not_false, Bool.not_true, Bool.true_or, Bool.false_or]); exact w2)); (case hok => (intro hg; first | (simp only [hg, hd, hg, hm, SS, SS2, SS3, SS4, Option.map_some, Bool.not_false, Bool.not_true, gArgs, gOk, Nat.reduceAdd, PV.shift, MObj.shift, rdV, rdD, reduceIte, Nat.reduceEqDiff, Nat.reduceBEq, PV.bin, PV.binOk, binI, binS, PV.withInt, PV.withIntP, okAll, PV.under, PV.okUnder, eq_self, implies_true, deadOk, ne_eq, allOk, RVar.val, RVar.ok, retV, PV.seen, PV.view, beq_self_eq_true, PV.flat, PV.noOwn, id_eq, behind, PV.kill, MObj.kill, killTag, reduceCtorEq, nilB]; done) | (simp_all [okAll, PV.okUnder]; done))); (case hs => (intro hg; simp only [hg, hd, hg, hm, SS, SS2, SS3, SS4, Option.map_some, Bool.not_false, Bool.not_true, gArgs, gOk, Nat.reduceAdd, PV.shift, MObj.shift, rdV, rdD, reduceIte, Nat.reduceEqDiff, Nat.reduceBEq, PV.bin, PV.binOk, binI, binS, PV.withInt, PV.withIntP, okAll, PV.under, PV.okUnder, eq_self, implies_true, deadOk, ne_eq, allOk, RVar.val, RVar.ok, retV, PV.seen, PV.view, beq_self_eq_true, PV.flat, PV.noOwn, id_eq, behind, PV.kill, MObj.kill, killTag, reduceCtorEq, nilB])); (case hf => first | rfl | simp only [hd, hg, hm, SS, SS2, SS3, SS4, Option.map_some, Bool.not_false, Bool.not_true, gArgs, gOk, Nat.reduceAdd, PV.shift, MObj.shift, rdV, rdD, reduceIte, Nat.reduceEqDiff, Nat.reduceBEq, PV.bin, PV.binOk, binI, binS, PV.withInt, PV.withIntP, okAll, PV.under, PV.okUnder, eq_self, implies_true, deadOk, ne_eq, allOk, RVar.val, RVar.ok, retV, PV.seen, PV.view, beq_self_eq_true, PV.flat, PV.noOwn, id_eq, behind, PV.kill, MObj.kill, killTag, reduceCtorEq, nilB]); (simp only [hd, hg, hm, SS, SS2, SS3, SS4, Option.map_some, Bool.not_false, Bool.not_true, gArgs, gOk, Nat.reduceAdd, PV.shift, MObj.shift, rdV, rdD, reduceIte, Nat.reduceEqDiff, Nat.reduceBEq, PV.bin, PV.binOk, binI, binS, PV.withInt, PV.withIntP, okAll, PV.under, PV.okUnder, eq_self, implies_true, deadOk, ne_eq, allOk, RVar.val, RVar.ok, retV, PV.seen, PV.view, beq_self_eq_true, PV.flat, PV.noOwn, id_eq, behind, PV.kill, MObj.kill, killTag, reduceCtorEq, nilB]; (try go_unwrap; try simp only [hd, hg, hm, toNat_add2, toNat_add1, Int.toNat_natCast, Bool.false_and, Bool.true_and, true_implies, true_and, Bool.false_eq_true, reduceCtorEq, false_implies, Bool.not_false, Bool.not_true, Bool.true_or, Bool.false_or]))) | refine And.intro ?_ ?_ | exact Or.inr ⟨rfl, Nat.le_refl _⟩ | exact (fun h => Bool.noConfusion h) | omega | (simp only [decide_eq_true_eq, decide_eq_false_iff_not, List.length_cons, List.length_nil, List.length_append, List.length_map, Sh.size] <;> omega) | (go_unwrap; omega))
      have hck : chk b = 12 := by simp [chk, hda]
      rw [hr, hck]; rfl
    · rw [hda] at w1
      repeat' (first | refine PW.seq ?_ | refine PW.block ?_ | ((first | refine PW.region ?_ | refine PW.regionQ ?_ | refine PW.exit ?_ | refine PW.ret ?_ | refine PW.skip ?_); simp only [hd, hg, hm, SS, SS2, SS3, SS4, Option.map_some, Bool.not_false, Bool.not_true, gArgs, gOk, Nat.reduceAdd, PV.shift, MObj.shift, rdV, rdD, reduceIte, Nat.reduceEqDiff, Nat.reduceBEq, PV.bin, PV.binOk, binI, binS, PV.withInt, PV.withIntP, okAll, PV.under, PV.okUnder, eq_self, implies_true, deadOk, ne_eq, allOk, RVar.val, RVar.ok, retV, PV.seen, PV.view, beq_self_eq_true, PV.flat, PV.noOwn, id_eq, behind, PV.kill, MObj.kill, killTag, reduceCtorEq, nilB]; (try go_unwrap; try simp only [hd, hg, hm, toNat_add2, toNat_add1, Int.toNat_natCast, Bool.false_and, Bool.true_and, true_implies, true_and, Bool.false_eq_true, reduceCtorEq, false_implies, Bool.not_false, Bool.not_true, Bool.true_or, Bool.false_or])) | refine PW.regionA ?_ | exact schedW_stop_i | ((first | refine schedW_alt_i ?_ ?_ | refine schedW_done_i ?_); focus (simp only [hd, hg, hm, SS, SS2, SS3, SS4, Option.map_some, Bool.not_false, Bool.not_true, gArgs, gOk, Nat.reduceAdd, PV.shift, MObj.shift, rdV, rdD, reduceIte, Nat.reduceEqDiff, Nat.reduceBEq, PV.bin, PV.binOk, binI, binS, PV.withInt, PV.withIntP, okAll, PV.under, PV.okUnder, eq_self, implies_true, deadOk, ne_eq, allOk, RVar.val, RVar.ok, retV, PV.seen, PV.view, beq_self_eq_true, PV.flat, PV.noOwn, id_eq, behind, PV.kill, MObj.kill, killTag, reduceCtorEq, nilB]; (try go_unwrap; try simp only [hd, hg, hm, toNat_add2, toNat_add1, Int.toNat_natCast, Bool.false_and, Bool.true_and, true_implies, true_and, Bool.false_eq_true, reduceCtorEq, false_implies, Bool.not_false, Bool.not_true, Bool.true_or, Bool.false_or]))) | (refine PW.cond rfl ?_ ?_ <;> intro hcond <;> (try contradiction) <;> try simp only [decide_eq_true_eq, decide_eq_false_iff_not] at hcond) | (apply goCall_V e43; (case hV => (simp only [hd, hg, hm, SS, SS2, SS3, SS4, Option.map_some, Bool.not_false, Bool.not_true, gArgs, gOk, Nat.reduceAdd, PV.shift, MObj.shift, rdV, rdD, reduceIte, Nat.reduceEqDiff, Nat.reduceBEq, PV.bin, PV.binOk, binI, binS, PV.withInt, PV.withIntP, okAll, PV.under, PV.okUnder, eq_self, implies_true, deadOk, ne_eq, allOk, RVar.val, RVar.ok, retV, PV.seen, PV.view, beq_self_eq_true, PV.flat, PV.noOwn, id_eq, behind, PV.kill, MObj.kill, killTag, reduceCtorEq, nilB]; (try go_unwrap; try simp only [hd, hg, hm, toNat_add2, toNat_add1, Int.toNat_natCast, Bool.false_and, Bool.true_and, true_implies, true_and, Bool.false_eq_true, reduceCtorEq, false_implies, Bool.not_false, Bool.not_true, Bool.true_or, Bool.false_or]); exact w1)); (try (case hs => rfl)); (try (case hf => first | exact Or.inl rfl | exact Or.inr ⟨rfl, rfl⟩ | (refine Or.inl ?_; simp only [hd, hg, hm, SS, SS2, SS3, SS4, Option.map_some, Bool.not_false, Bool.not_true, gArgs, gOk, Nat.reduceAdd, PV.shift, MObj.shift, rdV, rdD, reduceIte, Nat.reduceEqDiff, Nat.reduceBEq, PV.bin, PV.binOk, binI, binS, PV.withInt, PV.withIntP, okAll, PV.under, PV.okUnder, eq_self, implies_true, deadOk, ne_eq, allOk, RVar.val, RVar.ok, retV, PV.seen, PV.view, beq_self_eq_true, PV.flat, PV.noOwn, id_eq, behind, PV.kill, MObj.kill, killTag, reduceCtorEq, nilB]; done) | (refine Or.inr ⟨rfl, ?_⟩; simp only [hd, hg, hm, SS, SS2, SS3, SS4, Option.map_some, Bool.not_false, Bool.not_true, gArgs, gOk, Nat.reduceAdd, PV.shift, MObj.shift, rdV, rdD, reduceIte, Nat.reduceEqDiff, Nat.reduceBEq, PV.bin, PV.binOk, binI, binS, PV.withInt, PV.withIntP, okAll, PV.under, PV.okUnder, eq_self, implies_true, deadOk, ne_eq, allOk, RVar.val, RVar.ok, retV, PV.seen, PV.view, beq_self_eq_true, PV.flat, PV.noOwn, id_eq, behind, PV.kill, MObj.kill, killTag, reduceCtorEq, nilB]; done))); all_goals (simp only [hd, hg, hm, SS, SS2, SS3, SS4, Option.map_some, Bool.not_false, Bool.not_true, gArgs, gOk, Nat.reduceAdd, PV.shift, MObj.shift, rdV, rdD, reduceIte, Nat.reduceEqDiff, Nat.reduceBEq, PV.bin, PV.binOk, binI, binS, PV.withInt, PV.withIntP, okAll, PV.under, PV.okUnder, eq_self, implies_true, deadOk, ne_eq, allOk, RVar.val, RVar.ok, retV, PV.seen, PV.view, beq_self_eq_true, PV.flat, PV.noOwn, id_eq, behind, PV.kill, MObj.kill, killTag, reduceCtorEq, nilB]; (try go_unwrap; try simp only [hd, hg, hm, toNat_add2, toNat_add1, Int.toNat_natCast, Bool.false_and, Bool.true_and, true_implies, true_and, Bool.false_eq_true, reduceCtorEq, false_implies, Bool.not_false, Bool.not_true, Bool.true_or, Bool.false_or]))) | (apply goCallG_V e43; (case hV => (intro hg; simp only [hg, hd, hg, hm, SS, SS2, SS3, SS4, Option.map_some, Bool.not_false, Bool.not_true, gArgs, gOk, Nat.reduceAdd, PV.shift, MObj.shift, rdV, rdD, reduceIte, Nat.reduceEqDiff, Nat.reduceBEq, PV.bin, PV.binOk, binI, binS, PV.withInt, PV.withIntP, okAll, PV.under, PV.okUnder, eq_self, implies_true, deadOk, ne_eq, allOk, RVar.val, RVar.ok, retV, PV.seen, PV.view, beq_self_eq_true, PV.flat, PV.noOwn, id_eq, behind, PV.kill, MObj.kill, killTag, reduceCtorEq, nilB]; (try go_unwrap; try simp only [hd, hg, hm, toNat_add2, toNat_add1, Int.toNat_natCast, Bool.false_and, Bool.true_and, true_implies, true_and, Bool.false_eq_true, reduceCtorEq, false_implies, Bool.not_false, Bool.not_true, Bool.true_or, Bool.false_or]); exact w2)); (case hok => (intro hg; first | (simp only [hg, hd, hg, hm, SS, SS2, SS3, SS4, Option.map_some, Bool.not_false, Bool.not_true, gArgs, gOk, Nat.reduceAdd, PV.shift, MObj.shift, rdV, rdD, reduceIte, Nat.reduceEqDiff, Nat.reduceBEq, PV.bin, PV.binOk, binI, binS, PV.withInt, PV.withIntP, okAll, PV.under, PV.okUnder, eq_self, implies_true, deadOk, ne_eq, allOk, RVar.val, RVar.ok, retV, PV.seen, PV.view, beq_self_eq_true, PV.flat, PV.noOwn, id_eq, behind, PV.kill, MObj.kill, killTag, reduceCtorEq, nilB]; done) | (simp_all [okAll, PV.okUnder]; done))); (case hs => (intro hg; simp only [hg, hd, hg, hm, SS, SS2, SS3, SS4, Option.map_some, Bool.not_false, Bool.not_true, gArgs, gOk, Nat.reduceAdd, PV.shift, MObj.shift, rdV, rdD, reduceIte, Nat.reduceEqDiff, Nat.reduceBEq, PV.bin, PV.binOk, binI, binS, PV.withInt, PV.withIntP, okAll, PV.under, PV.okUnder, eq_self, implies_true, deadOk, ne_eq, allOk, RVar.val, RVar.ok, retV, PV.seen, PV.view, beq_self_eq_true, PV.flat, PV.noOwn, id_eq, behind, PV.kill, MObj.kill, killTag, reduceCtorEq, nilB])); (case hf => first | rfl | simp only [hd, hg, hm, SS, SS2, SS3, SS4, Option.map_some, Bool.not_false, Bool.not_true, gArgs, gOk, Nat.reduceAdd, PV.shift, MObj.shift, rdV, rdD, reduceIte, Nat.reduceEqDiff, Nat.reduceBEq, PV.bin, PV.binOk, binI, binS, PV.withInt, PV.withIntP, okAll, PV.under, PV.okUnder, eq_self, implies_true, deadOk, ne_eq, allOk, RVar.val, RVar.ok, retV, PV.seen, PV.view, beq_self_eq_true, PV.flat, PV.noOwn, id_eq, behind, PV.kill, MObj.kill, killTag, reduceCtorEq, nilB]); (simp only [hd, hg, hm, SS, SS2, SS3, SS4, Option.map_some, Bool.not_false, Bool.not_true, gArgs, gOk, Nat.reduceAdd, PV.shift, MObj.shift, rdV, rdD, reduceIte, Nat.reduceEqDiff, Nat.reduceBEq, PV.bin, PV.binOk, binI, binS, PV.withInt, PV.withIntP, okAll, PV.under, PV.okUnder, eq_self, implies_true, deadOk, ne_eq, allOk, RVar.val, RVar.ok, retV, PV.seen, PV.view, beq_self_eq_true, PV.flat, PV.noOwn, id_eq, behind, PV.kill, MObj.kill, killTag, reduceCtorEq, nilB]; (try go_unwrap; try simp only [hd, hg, hm, toNat_add2, toNat_add1, Int.toNat_natCast, Bool.false_and, Bool.true_and, true_implies, true_and, Bool.false_eq_true, reduceCtorEq, false_implies, Bool.not_false, Bool.not_true, Bool.true_or, Bool.false_or]))) | refine And.intro ?_ ?_ | exact Or.inr ⟨rfl, Nat.le_refl _⟩ | exact (fun h => Bool.noConfusion h) | omega | (simp only [decide_eq_true_eq, decide_eq_false_iff_not, List.length_cons, List.length_nil, List.length_append, List.length_map, Sh.size] <;> omega) | (go_unwrap; omega))
      · have hck : chk b = 12 := by simp_all [chk]
        rw [hr, hck]; rfl
      · have hck : chk b = 7 := by simp_all [chk]
        rw [hr, hck]; rfl
      · intro h; exact ⟨by simp [h], .inr (by simp)⟩
      · have hck : chk b = 2 := by simp_all [chk]
        rw [hr, hck]; rfl
      · have hn : noteOk b.note = false := by
          have : ¬ b.note.length ≤ 64 := by omega
          simp [noteOk, this]
        have hck : chk b = 3 := by simp_all [chk]
        rw [hr, hck]; rfl
      have hn : noteOk b.note = b.note.all noteB := by simp [noteOk]; omega
      have hck : chk b = if noteOk b.note = false then 3 else 0 := by
        rename_i q1 q2 q3
        simp only [Bool.or_eq_false_iff, decide_eq_false_iff_not] at q3
        have q4 : ¬ (b.n < 1 ∨ 1125899906842624 < b.n) := by omega
        simp only [chk, hda, q4, if_false]
        simp_all
      rw [hn] at hck
      refine PW.loop (σ := Nat) [0, 2, 3, 4, 5] (fun k => [entL l, .int .i64 0, .int .i64 j, .ref 0 0, .int .i64 k]) (fun _ => [some (.var (some 4) (.agg [.str b.d, .str b.c, .int .i64 b.n, .str b.note]))])
        (fun k => k ≤ b.note.length ∧ b.note.all noteB = (b.note.drop k).all noteB) (fun k => b.note.length - k) 0 ?_ rfl ⟨by omega, by simp⟩ ?_
      · simp only [SS, SS2, SS3, SS4, Option.map_some, Bool.not_false, Bool.not_true, gArgs, gOk, Nat.reduceAdd, PV.shift, MObj.shift, rdV, rdD, reduceIte, Nat.reduceEqDiff, Nat.reduceBEq, PV.bin, PV.binOk, binI, binS, PV.withInt, PV.withIntP, okAll, PV.under, PV.okUnder, eq_self, implies_true, deadOk, ne_eq, allOk, RVar.val, RVar.ok, retV, PV.seen, PV.view, beq_self_eq_true, PV.flat, PV.noOwn, id_eq, behind, PV.kill, MObj.kill, killTag, reduceCtorEq, nilB]; rfl
      rintro k ⟨hk, hrk⟩
      simp only [List.zip_cons_cons, List.zip_nil_left]
      rcases Nat.lt_or_ge k b.note.length with h' | h'
      · have hd' : decide ((k : Int) < b.note.length) = true := by simp only [decide_eq_true_eq]; omega
        rw [all_from h'] at hrk
        obtain ⟨x, hx⟩ : ∃ x, b.note.getD k 0 = x := ⟨_, rfl⟩
        rw [hx] at hrk
        repeat' (first | refine PW.seq ?_ | refine PW.block ?_ | ((first | refine PW.region ?_ | refine PW.regionQ ?_ | refine PW.exit ?_ | refine PW.ret ?_ | refine PW.skip ?_); simp only [hd', hx, SS, SS2, SS3, SS4, Option.map_some, Bool.not_false, Bool.not_true, gArgs, gOk, Nat.reduceAdd, PV.shift, MObj.shift, rdV, rdD, reduceIte, Nat.reduceEqDiff, Nat.reduceBEq, PV.bin, PV.binOk, binI, binS, PV.withInt, PV.withIntP, okAll, PV.under, PV.okUnder, eq_self, implies_true, deadOk, ne_eq, allOk, RVar.val, RVar.ok, retV, PV.seen, PV.view, beq_self_eq_true, PV.flat, PV.noOwn, id_eq, behind, PV.kill, MObj.kill, killTag, reduceCtorEq, nilB]; (try go_unwrap; try simp only [hd', hx, toNat_add2, toNat_add1, Int.toNat_natCast, Bool.false_and, Bool.true_and, true_implies, true_and, Bool.false_eq_true, reduceCtorEq, false_implies, Bool.not_false, Bool.not_true, Bool.true_or, Bool.false_or])) | refine PW.regionA ?_ | exact schedW_stop_i | ((first | refine schedW_alt_i ?_ ?_ | refine schedW_done_i ?_); focus (simp only [hd', hx, SS, SS2, SS3, SS4, Option.map_some, Bool.not_false, Bool.not_true, gArgs, gOk, Nat.reduceAdd, PV.shift, MObj.shift, rdV, rdD, reduceIte, Nat.reduceEqDiff, Nat.reduceBEq, PV.bin, PV.binOk, binI, binS, PV.withInt, PV.withIntP, okAll, PV.under, PV.okUnder, eq_self, implies_true, deadOk, ne_eq, allOk, RVar.val, RVar.ok, retV, PV.seen, PV.view, beq_self_eq_true, PV.flat, PV.noOwn, id_eq, behind, PV.kill, MObj.kill, killTag, reduceCtorEq, nilB]; (try go_unwrap; try simp only [hd', hx, toNat_add2, toNat_add1, Int.toNat_natCast, Bool.false_and, Bool.true_and, true_implies, true_and, Bool.false_eq_true, reduceCtorEq, false_implies, Bool.not_false, Bool.not_true, Bool.true_or, Bool.false_or]))) | (refine PW.cond rfl ?_ ?_ <;> intro hcond <;> (try contradiction) <;> try simp only [decide_eq_true_eq, decide_eq_false_iff_not] at hcond) | refine And.intro ?_ ?_ | exact Or.inr ⟨rfl, Nat.le_refl _⟩ | exact (fun h => Bool.noConfusion h) | omega | (simp only [decide_eq_true_eq, decide_eq_false_iff_not, List.length_cons, List.length_nil, List.length_append, List.length_map, Sh.size] <;> omega) | (go_unwrap; omega))
        · intro h; exact ⟨by simp [h], .inr (by simp)⟩
        · intro h; exact ⟨by simp [h], by omega, by omega⟩
        · have hxb : noteB x = false := by
            simp only [Bool.or_eq_true, decide_eq_true_eq] at hcond
            simp only [noteB, Bool.and_eq_false_iff, decide_eq_false_iff_not]; omega
          rw [hrk, hxb] at hck
          rw [hr, hck]; rfl
        · have hxb : noteB x = true := by
            simp only [Bool.or_eq_false_iff, decide_eq_false_iff_not] at hcond
            simp only [noteB, Bool.and_eq_true, decide_eq_true_eq]; omega
          refine ⟨k + 1, rfl, ⟨by omega, by rw [hrk, hxb]; rfl⟩, by omega⟩
      · have hd' : decide ((k : Int) < b.note.length) = false := by simp only [decide_eq_false_iff_not]; omega
        have hall : b.note.all noteB = true := by rw [hrk, List.drop_eq_nil_of_le h']; rfl
        rw [hall] at hck
        repeat' (first | refine PW.seq ?_ | refine PW.block ?_ | ((first | refine PW.region ?_ | refine PW.regionQ ?_ | refine PW.exit ?_ | refine PW.ret ?_ | refine PW.skip ?_); simp only [hd', hm, SS, SS2, SS3, SS4, Option.map_some, Bool.not_false, Bool.not_true, gArgs, gOk, Nat.reduceAdd, PV.shift, MObj.shift, rdV, rdD, reduceIte, Nat.reduceEqDiff, Nat.reduceBEq, PV.bin, PV.binOk, binI, binS, PV.withInt, PV.withIntP, okAll, PV.under, PV.okUnder, eq_self, implies_true, deadOk, ne_eq, allOk, RVar.val, RVar.ok, retV, PV.seen, PV.view, beq_self_eq_true, PV.flat, PV.noOwn, id_eq, behind, PV.kill, MObj.kill, killTag, reduceCtorEq, nilB]; (try go_unwrap; try simp only [hd', hm, toNat_add2, toNat_add1, Int.toNat_natCast, Bool.false_and, Bool.true_and, true_implies, true_and, Bool.false_eq_true, reduceCtorEq, false_implies, Bool.not_false, Bool.not_true, Bool.true_or, Bool.false_or])) | refine PW.regionA ?_ | exact schedW_stop_i | ((first | refine schedW_alt_i ?_ ?_ | refine schedW_done_i ?_); focus (simp only [hd', hm, SS, SS2, SS3, SS4, Option.map_some, Bool.not_false, Bool.not_true, gArgs, gOk, Nat.reduceAdd, PV.shift, MObj.shift, rdV, rdD, reduceIte, Nat.reduceEqDiff, Nat.reduceBEq, PV.bin, PV.binOk, binI, binS, PV.withInt, PV.withIntP, okAll, PV.under, PV.okUnder, eq_self, implies_true, deadOk, ne_eq, allOk, RVar.val, RVar.ok, retV, PV.seen, PV.view, beq_self_eq_true, PV.flat, PV.noOwn, id_eq, behind, PV.kill, MObj.kill, killTag, reduceCtorEq, nilB]; (try go_unwrap; try simp only [hd', hm, toNat_add2, toNat_add1, Int.toNat_natCast, Bool.false_and, Bool.true_and, true_implies, true_and, Bool.false_eq_true, reduceCtorEq, false_implies, Bool.not_false, Bool.not_true, Bool.true_or, Bool.false_or]))) | (refine PW.cond rfl ?_ ?_ <;> intro hcond <;> (try contradiction) <;> try simp only [decide_eq_true_eq, decide_eq_false_iff_not] at hcond) | refine And.intro ?_ ?_ | exact Or.inr ⟨rfl, Nat.le_refl _⟩ | exact (fun h => Bool.noConfusion h) | omega | (simp only [decide_eq_true_eq, decide_eq_false_iff_not, List.length_cons, List.length_nil, List.length_append, List.length_map, Sh.size] <;> omega) | (go_unwrap; omega))
        refine ⟨j + 1, (by first | rfl | (simp only [trimE, trimM, List.take_succ_cons, List.take_zero, List.take_nil, List.map_cons, List.map_nil, Option.map_some, Option.map_none, MObj.kill, PV.kill, Nat.reduceLeDiff, decide_true, decide_false, dec_true, dec_false, Bool.false_eq_true, if_false, if_true, reduceIte, List.zip_cons_cons, List.zip_nil_left, Nat.le_refl, Nat.zero_le, Nat.not_le, Nat.lt_irrefl]; done) | (simp [trimE, trimM, MObj.kill, PV.kill]; done)), rfl, ⟨by omega, by rw [hr, hck]; rfl⟩, by omega⟩
  · have hd : decide ((j : Int) < l.length) = false := by simp only [decide_eq_false_iff_not]; omega
    repeat' (first | refine PW.seq ?_ | refine PW.block ?_ | ((first | refine PW.region ?_ | refine PW.regionQ ?_ | refine PW.exit ?_ | refine PW.ret ?_ | refine PW.skip ?_); simp only [hd, hm, SS, SS2, SS3, SS4, Option.map_some, Bool.not_false, Bool.not_true, gArgs, gOk, Nat.reduceAdd, PV.shift, MObj.shift, rdV, rdD, reduceIte, Nat.reduceEqDiff, Nat.reduceBEq, PV.bin, PV.binOk, binI, binS, PV.withInt, PV.withIntP, okAll, PV.under, PV.okUnder, eq_self, implies_true, deadOk, ne_eq, allOk, RVar.val, RVar.ok, retV, PV.seen, PV.view, beq_self_eq_true, PV.flat, PV.noOwn, id_eq, behind, PV.kill, MObj.kill, killTag, reduceCtorEq, nilB]; (try go_unwrap; try simp only [hd, hm, toNat_add2, toNat_add1, Int.toNat_natCast, Bool.false_and, Bool.true_and, true_implies, true_and, Bool.false_eq_true, reduceCtorEq, false_implies, Bool.not_false, Bool.not_true, Bool.true_or, Bool.false_or])) | refine PW.regionA ?_ | exact schedW_stop_i | ((first | refine schedW_alt_i ?_ ?_ | refine schedW_done_i ?_); focus (simp only [hd, hm, SS, SS2, SS3, SS4, Option.map_some, Bool.not_false, Bool.not_true, gArgs, gOk, Nat.reduceAdd, PV.shift, MObj.shift, rdV, rdD, reduceIte, Nat.reduceEqDiff, Nat.reduceBEq, PV.bin, PV.binOk, binI, binS, PV.withInt, PV.withIntP, okAll, PV.under, PV.okUnder, eq_self, implies_true, deadOk, ne_eq, allOk, RVar.val, RVar.ok, retV, PV.seen, PV.view, beq_self_eq_true, PV.flat, PV.noOwn, id_eq, behind, PV.kill, MObj.kill, killTag, reduceCtorEq, nilB]; (try go_unwrap; try simp only [hd, hm, toNat_add2, toNat_add1, Int.toNat_natCast, Bool.false_and, Bool.true_and, true_implies, true_and, Bool.false_eq_true, reduceCtorEq, false_implies, Bool.not_false, Bool.not_true, Bool.true_or, Bool.false_or]))) | (refine PW.cond rfl ?_ ?_ <;> intro hcond <;> (try contradiction) <;> try simp only [decide_eq_true_eq, decide_eq_false_iff_not] at hcond) | refine And.intro ?_ ?_ | exact Or.inr ⟨rfl, Nat.le_refl _⟩ | exact (fun h => Bool.noConfusion h) | omega | (simp only [decide_eq_true_eq, decide_eq_false_iff_not, List.length_cons, List.length_nil, List.length_append, List.length_map, Sh.size] <;> omega) | (go_unwrap; omega))
    rw [hr, List.drop_eq_nil_of_le h]; rfl
end Go.Proofs.YtdemgegpnlngeaaDoor

namespace Go.Proofs.YtdemgegpnlngeaaDoor
open Go PG Go.Proofs
set_option linter.unusedSimpArgs false
set_option linter.unusedVariables false
set_option maxHeartbeats 4000000
set_option maxRecDepth 100000
theorem e42 : Ent Tryd.prog 42 := ⟨Tryd.f42, Tryd.func42, by kernel_rfl, by kernel_rfl⟩
theorem e16 : Ent Tryd.prog 16 := ⟨Tryd.f16, Tryd.func16, by kernel_rfl, by kernel_rfl⟩
theorem v42 (l : List Ent4) (hl : l.length ≤ 65536) (hn : l ≠ []) : VCalls Tryd.prog G0 42 [entL l] (entL l) := by
  refine VCalls.of_PW Tryd.func42 k42 mix (by simp [c42]) ?_
  simp only [c42, L42, argE]
  obtain ⟨x, l', rfl⟩ := List.exists_cons_of_ne_nil hn
  have hA : entL (x :: l') = .list (some 4) (entP x :: l'.map entP) := rfl
  simp only [hA]
  have hm : (entP x :: l'.map entP).length = l'.length + 1 := by simp
  simp only [List.length_cons] at hl
  have h1 : (l'.length + 1) * 56 ≤ 281474976710656 := by omega
  have h2 : l'.length + 1 ≤ 9223372036854775807 := by omega
  repeat' (first | exact True.intro | (refine PW.seqK ?_; intro K hK) | refine PW.block ?_ | refine PW.exit ?_ | refine PW.ret ?_ | refine PW.skip ?_ | refine seqK_n (by assumption) ?_ | refine seqK_r (by assumption) ?_ | refine seqK_e (by assumption) ?_ | refine PW.regionA ?_ | exact schedW_stop_i | (refine PW.cond rfl ?_ ?_ <;> intro hcond <;> (try contradiction) <;> try simp only [decide_eq_true_eq, decide_eq_false_iff_not] at hcond) | (refine gd_i ?_; intro hg; try simp only [hg]) | ((first | show @LE.le Nat _ _ _ | show @LT.lt Nat _ _ _ | show @LE.le Int _ _ _ | show @LT.lt Int _ _ _ | show @Eq Nat _ _ | show @Eq Int _ _ | show @Eq Bool _ _ | show _ ∨ _ | show ¬ _); first | omega | (simp only [decide_eq_true_eq, decide_eq_false_iff_not, List.length_cons, List.length_nil, List.length_append, List.length_map, Sh.size] <;> omega) | (go_unwrap; omega)) | ((first | refine PW.region ?_ | refine PW.regionQ ?_ | refine schedW_alt_i ?_ ?_ | refine schedW_done_i ?_ | show (_ : Post) _ _ _ | show @Eq (List PV) _ _ | show @Eq Bool _ _ | show opsW _ _ _ _ _ _ _ _ | show okAll _ | show @Eq Bool _ _ ∨ _); focus (simp only [hm, h1, h2, nilB, SS, SS2, SS3, SS4, Option.map_some, Bool.not_false, Bool.not_true, gArgs, gOk, Nat.reduceAdd, PV.shift, MObj.shift, rdV, rdD, reduceIte, Nat.reduceEqDiff, Nat.reduceBEq, PV.bin, PV.binOk, binI, binS, PV.withInt, PV.withIntP, okAll, PV.under, PV.okUnder, eq_self, implies_true, deadOk, ne_eq, allOk, RVar.val, RVar.ok, retV, PV.seen, PV.view, beq_self_eq_true, PV.flat, PV.noOwn, id_eq, behind, PV.kill, MObj.kill, killTag, reduceCtorEq, nilB]; (try go_unwrap; try simp only [hm, h1, h2, nilB, toNat_add2, toNat_add1, Int.toNat_natCast, Bool.false_and, Bool.true_and, true_implies, true_and, Bool.false_eq_true, reduceCtorEq, false_implies, Bool.not_false, Bool.not_true, Bool.true_or, Bool.false_or]))) | refine And.intro ?_ ?_ | exact Or.inr ⟨rfl, Nat.le_refl _⟩ | exact (fun h => Bool.noConfusion h))
  rw [if_pos (by simp)]
  refine congrArg _ ?_
  exact List.take_of_length_le (by simp)
theorem v16 (l : List Ent4) (hl : l.length ≤ 65536) : VCalls Tryd.prog G0 16 [entL l] (entL l) := by
  refine VCalls.of_PW Tryd.func16 k16 mix (by simp [c16]) ?_
  simp only [c16, L16, argE]
  have hm : ((l.map entP).length : Nat) = l.length := by simp
  repeat' (first | exact True.intro | (refine PW.seqK ?_; intro K hK) | refine PW.block ?_ | refine PW.exit ?_ | refine PW.ret ?_ | refine PW.skip ?_ | refine seqK_n (by assumption) ?_ | refine seqK_r (by assumption) ?_ | refine seqK_e (by assumption) ?_ | refine PW.regionA ?_ | exact schedW_stop_i | (refine PW.cond rfl ?_ ?_ <;> intro hcond <;> (try contradiction) <;> try simp only [decide_eq_true_eq, decide_eq_false_iff_not] at hcond) | (refine gd_i ?_; intro hg; try simp only [hg]) | ((first | show @LE.le Nat _ _ _ | show @LT.lt Nat _ _ _ | show @LE.le Int _ _ _ | show @LT.lt Int _ _ _ | show @Eq Nat _ _ | show @Eq Int _ _ | show @Eq Bool _ _ | show _ ∨ _ | show ¬ _); first | omega | (simp only [decide_eq_true_eq, decide_eq_false_iff_not, List.length_cons, List.length_nil, List.length_append, List.length_map, Sh.size] <;> omega) | (go_unwrap; omega)) | ((first | refine PW.region ?_ | refine PW.regionQ ?_ | refine schedW_alt_i ?_ ?_ | refine schedW_done_i ?_ | show (_ : Post) _ _ _ | show @Eq (List PV) _ _ | show @Eq Bool _ _ | show opsW _ _ _ _ _ _ _ _ | show okAll _ | show @Eq Bool _ _ ∨ _); focus (simp only [hm, SS, SS2, SS3, SS4, Option.map_some, Bool.not_false, Bool.not_true, gArgs, gOk, Nat.reduceAdd, PV.shift, MObj.shift, rdV, rdD, reduceIte, Nat.reduceEqDiff, Nat.reduceBEq, PV.bin, PV.binOk, binI, binS, PV.withInt, PV.withIntP, okAll, PV.under, PV.okUnder, eq_self, implies_true, deadOk, ne_eq, allOk, RVar.val, RVar.ok, retV, PV.seen, PV.view, beq_self_eq_true, PV.flat, PV.noOwn, id_eq, behind, PV.kill, MObj.kill, killTag, reduceCtorEq, nilB]; (try go_unwrap; try simp only [hm, toNat_add2, toNat_add1, Int.toNat_natCast, Bool.false_and, Bool.true_and, true_implies, true_and, Bool.false_eq_true, reduceCtorEq, false_implies, Bool.not_false, Bool.not_true, Bool.true_or, Bool.false_or]))) | refine And.intro ?_ ?_ | exact Or.inr ⟨rfl, Nat.le_refl _⟩ | exact (fun h => Bool.noConfusion h))
  refine PW.own (some 4) 3 rfl ?_
  refine PW.loopG (σ := Nat) 1 (fun _ _ => rfl) [0, 2, 3, 6, 7, 8] (fun j => [entL l, .nilSl, .sl (some 4) 0 j, entL l, .int .i64 l.length, .int .i64 j]) (fun j => [some (.row (some 4) ((l.take j).map entP))]) (fun j => j ≤ l.length) (fun j => l.length - j) 0 ?_ (by simp) (by omega) ?_
  · simp only [SS, SS2, SS3, SS4, Option.map_some, Bool.not_false, Bool.not_true, gArgs, gOk, Nat.reduceAdd, PV.shift, MObj.shift, rdV, rdD, reduceIte, Nat.reduceEqDiff, Nat.reduceBEq, PV.bin, PV.binOk, binI, binS, PV.withInt, PV.withIntP, okAll, PV.under, PV.okUnder, eq_self, implies_true, deadOk, ne_eq, allOk, RVar.val, RVar.ok, retV, PV.seen, PV.view, beq_self_eq_true, PV.flat, PV.noOwn, id_eq, behind, PV.kill, MObj.kill, killTag, reduceCtorEq, nilB]; rfl
  rintro j hj
  simp only [List.zip_cons_cons, List.zip_nil_left]
  rcases Nat.lt_or_ge j l.length with h | h
  · have hd : decide ((j : Int) < l.length) = true := by simp only [decide_eq_true_eq]; omega
    have hg := ents_getD l j h
    have ht : (l.take (j + 1)).map entP = (l.take j).map entP ++ [entP l[j]] := by rw [List.take_succ_eq_append_getElem h, List.map_append]; rfl
    have hlt : ((l.take j).map entP).length = j := by simp; omega
    have htk : ((l.take j).map entP).take j = (l.take j).map entP := List.take_of_length_le (by omega)
    generalize hb : l[j] = b at hg ht
    simp only [entP] at hg
    generalize hA : (l.take j).map entP = A at ht hlt htk
    have b1 : (j + 1) * 56 ≤ 281474976710656 := by omega
    repeat' (first | exact True.intro | (refine PW.seqK ?_; intro K hK) | refine PW.block ?_ | refine PW.exit ?_ | refine PW.ret ?_ | refine PW.skip ?_ | refine seqK_n (by assumption) ?_ | refine seqK_r (by assumption) ?_ | refine seqK_e (by assumption) ?_ | refine PW.regionA ?_ | exact schedW_stop_i | (refine PW.cond rfl ?_ ?_ <;> intro hcond <;> (try contradiction) <;> try simp only [decide_eq_true_eq, decide_eq_false_iff_not] at hcond) | (refine gd_i ?_; intro hg; try simp only [hg]) | ((first | show @LE.le Nat _ _ _ | show @LT.lt Nat _ _ _ | show @LE.le Int _ _ _ | show @LT.lt Int _ _ _ | show @Eq Nat _ _ | show @Eq Int _ _ | show @Eq Bool _ _ | show _ ∨ _ | show ¬ _); first | omega | (simp only [decide_eq_true_eq, decide_eq_false_iff_not, List.length_cons, List.length_nil, List.length_append, List.length_map, Sh.size] <;> omega) | (go_unwrap; omega)) | ((first | refine PW.region ?_ | refine PW.regionQ ?_ | refine schedW_alt_i ?_ ?_ | refine schedW_done_i ?_ | show (_ : Post) _ _ _ | show @Eq (List PV) _ _ | show @Eq Bool _ _ | show opsW _ _ _ _ _ _ _ _ | show okAll _ | show @Eq Bool _ _ ∨ _); focus (simp only [hd, hg, hlt, htk, SS, SS2, SS3, SS4, Option.map_some, Bool.not_false, Bool.not_true, gArgs, gOk, Nat.reduceAdd, PV.shift, MObj.shift, rdV, rdD, reduceIte, Nat.reduceEqDiff, Nat.reduceBEq, PV.bin, PV.binOk, binI, binS, PV.withInt, PV.withIntP, okAll, PV.under, PV.okUnder, eq_self, implies_true, deadOk, ne_eq, allOk, RVar.val, RVar.ok, retV, PV.seen, PV.view, beq_self_eq_true, PV.flat, PV.noOwn, id_eq, behind, PV.kill, MObj.kill, killTag, reduceCtorEq, nilB]; (try go_unwrap; try simp only [hd, hg, hlt, htk, toNat_add2, toNat_add1, Int.toNat_natCast, Bool.false_and, Bool.true_and, true_implies, true_and, Bool.false_eq_true, reduceCtorEq, false_implies, Bool.not_false, Bool.not_true, Bool.true_or, Bool.false_or]))) | refine And.intro ?_ ?_ | exact Or.inr ⟨rfl, Nat.le_refl _⟩ | exact (fun h => Bool.noConfusion h))
    refine ⟨j + 1, (by first | rfl | (simp only [trimE, trimM, List.take_succ_cons, List.take_zero, List.take_nil, List.map_cons, List.map_nil, Option.map_some, Option.map_none, MObj.kill, PV.kill, Nat.reduceLeDiff, decide_true, decide_false, dec_true, dec_false, Bool.false_eq_true, if_false, if_true, reduceIte, List.zip_cons_cons, List.zip_nil_left, Nat.le_refl, Nat.zero_le, Nat.not_le, Nat.lt_irrefl]; done) | (simp [trimE, trimM, MObj.kill, PV.kill]; done)), ?_, by omega, by omega⟩
    rw [ht]; rfl
  · have hd : decide ((j : Int) < l.length) = false := by simp only [decide_eq_false_iff_not]; omega
    have hj' : j = l.length := by omega
    subst hj'
    simp only [List.take_length]
    repeat' (first | exact True.intro | (refine PW.seqK ?_; intro K hK) | refine PW.block ?_ | refine PW.exit ?_ | refine PW.ret ?_ | refine PW.skip ?_ | refine seqK_n (by assumption) ?_ | refine seqK_r (by assumption) ?_ | refine seqK_e (by assumption) ?_ | refine PW.regionA ?_ | exact schedW_stop_i | (refine PW.cond rfl ?_ ?_ <;> intro hcond <;> (try contradiction) <;> try simp only [decide_eq_true_eq, decide_eq_false_iff_not] at hcond) | (refine gd_i ?_; intro hg; try simp only [hg]) | ((first | show @LE.le Nat _ _ _ | show @LT.lt Nat _ _ _ | show @LE.le Int _ _ _ | show @LT.lt Int _ _ _ | show @Eq Nat _ _ | show @Eq Int _ _ | show @Eq Bool _ _ | show _ ∨ _ | show ¬ _); first | omega | (simp only [decide_eq_true_eq, decide_eq_false_iff_not, List.length_cons, List.length_nil, List.length_append, List.length_map, Sh.size] <;> omega) | (go_unwrap; omega)) | ((first | refine PW.region ?_ | refine PW.regionQ ?_ | refine schedW_alt_i ?_ ?_ | refine schedW_done_i ?_ | show (_ : Post) _ _ _ | show @Eq (List PV) _ _ | show @Eq Bool _ _ | show opsW _ _ _ _ _ _ _ _ | show okAll _ | show @Eq Bool _ _ ∨ _); focus (simp only [hd, SS, SS2, SS3, SS4, Option.map_some, Bool.not_false, Bool.not_true, gArgs, gOk, Nat.reduceAdd, PV.shift, MObj.shift, rdV, rdD, reduceIte, Nat.reduceEqDiff, Nat.reduceBEq, PV.bin, PV.binOk, binI, binS, PV.withInt, PV.withIntP, okAll, PV.under, PV.okUnder, eq_self, implies_true, deadOk, ne_eq, allOk, RVar.val, RVar.ok, retV, PV.seen, PV.view, beq_self_eq_true, PV.flat, PV.noOwn, id_eq, behind, PV.kill, MObj.kill, killTag, reduceCtorEq, nilB]; (try go_unwrap; try simp only [hd, toNat_add2, toNat_add1, Int.toNat_natCast, Bool.false_and, Bool.true_and, true_implies, true_and, Bool.false_eq_true, reduceCtorEq, false_implies, Bool.not_false, Bool.not_true, Bool.true_or, Bool.false_or]))) | refine And.intro ?_ ?_ | exact Or.inr ⟨rfl, Nat.le_refl _⟩ | exact (fun h => Bool.noConfusion h))
    first
      | (rw [if_pos (by simp), List.take_of_length_le (by simp)]; done)
      | (refine congrArg _ ?_; exact List.take_of_length_le (by simp))
end Go.Proofs.YtdemgegpnlngeaaDoor

namespace Go.Proofs.YtdemgegpnlngeaaDoor
open Go PG Go.Proofs Go.Shelf
def Tryd.cloneM_ren : Go.Shelf.Ren := ⟨fun | 5 => 41 | 7 => 55 | n => n, fun | 23 => 29 | 25 => 23 | 3 => 24 | 4 => 4 | 20 => 20 | n => n, fun | n => n⟩
theorem Tryd.cloneM : Go.Proofs.SlLaysW.n5 Tryd.prog Tryd.cloneM_ren := {
  mixed := by kernel_rfl
  f5 := ⟨Tryd.f41.name, by decide, Tryd.func41.trans (congrArg some (by kernel_rfl))⟩
  f7 := Tryd.func55.trans (congrArg some (by kernel_rfl))
  t4 := Tryd.underlying4
  a4 := Tryd.isAgg4
  z4 := Tryd.sizeOf4
  v4 := Tryd.zeroValue4
  t20 := Tryd.underlying20
  a20 := Tryd.isAgg20
  z20 := Tryd.sizeOf20
  v20 := Tryd.zeroValue20
  t23 := Tryd.underlying29
  a23 := Tryd.isAgg29
  z23 := Tryd.sizeOf29
  v23 := Tryd.zeroValue29 }
theorem w41 (b : Nat) (es : Array MapEntry) (clock : Nat) (w : World) (hb : w.heap[b]? = some (.map es clock)) :
    Calls Tryd.prog 41 #[.map (some b)] w fun e w' => e = .returned (.map (some w.heap.size)) ∧ w' = w.alloc (.map es clock) := by
  have hcon := AnyW.maps_Clone Tryd.cloneM b es clock w hb
  exact hcon
theorem w41n (w : World) : Calls Tryd.prog 41 #[.map none] w fun e w' => e = .returned (.map none) ∧ w' = w := by
  have hcon := AnyW.maps_Clone_nil Tryd.cloneM w
  exact hcon
theorem v41 (es : List (PV × PV)) : FCalls Tryd.prog G0 41 [.cmap .str es] (fun p ν => p = .mref 0 ∧ ν = [some (.mp .str es)]) := by
  intro w ex vs hex hG hr
  obtain ⟨hs, hr⟩ := hr
  obtain ⟨l⟩ := vs
  match l, hs with
  | [x], _ =>
    have h0 := hr 0 x _ rfl rfl
    cases h0 with
    | cmap r kd _ ents clock hx h hs hb hkd hk hv =>
    refine (w41 r ents clock w h).mono ?_
    rintro e w' ⟨rfl, rfl⟩
    have hB : RowKit.Below w.heap.size w (w.alloc (.map ents clock)) := (RowKit.Below.refl _ w).alloc (Nat.le_refl _) _
    have hheap : (w.alloc (.map ents clock)).heap = w.heap.push (.map ents clock) := rfl
    have hnew : (w.alloc (.map ents clock)).heap[w.heap.size]? = some (.map ents clock) := by rw [hheap]; exact Array.getElem?_push_size
    have hsz : (w.alloc (.map ents clock)).heap.size = w.heap.size + 1 := by rw [hheap]; exact Array.size_push _
    obtain ⟨κ', hκ⟩ : ∃ κ' : Kap, κ' = ⟨fun t => if t = 0 then some (some w.heap.size) else none, ex⟩ := ⟨_, rfl⟩
    have k0 : κ' 0 = some (some w.heap.size) := by rw [hκ]; rfl
    have kt : ∀ t c, κ' t = some c → t = 0 ∧ c = some w.heap.size := by
      intro t c ht
      rw [hκ] at ht
      by_cases h0 : t = 0
      · subst h0; exact ⟨rfl, by cases ht; rfl⟩
      · exact absurd ht (by show (if t = 0 then some (some w.heap.size) else none) ≠ some c; rw [if_neg h0]; exact fun h => by cases h)
    have kx : κ'.ex = ex := by rw [hκ]
    have hA : Agree w ex (w.alloc (.map ents clock)) (own κ') := by
      refine ⟨fun b hlt hn => by rw [hheap, Array.getElem?_push, if_neg (Nat.ne_of_lt hlt)], fun b hlt hn ho => ?_⟩
      rcases ho with ho | ⟨t, ht⟩
      · exact hn (by rw [← kx]; exact ho)
      · have := (kt t _ ht).2
        cases this; omega
    refine ⟨_, .mref 0, [some (.mp .str es)], κ', rfl, ⟨rfl, rfl⟩, ⟨?_, ?_, ?_, ?_, ?_, ?_⟩, kx, .mref 0 w.heap.size k0, hB, ?_⟩
    · intro t t' b h1 h2; rw [(kt t _ h1).1, (kt t' _ h2).1]
    · intro t b h1; have := (kt t _ h1).2; cases this; omega
    · intro t c h1
      obtain ⟨rfl, rfl⟩ := kt t c h1
      exact ⟨_, rfl, .mp _ _ _ ents clock hnew hs hb hkd (fun i e q a b => (hk i e q a b).mono hA) (fun i e q a b => (hv i e q a b).mono hA)⟩
    · intro t o h1
      cases t with
      | zero => rw [k0]; exact fun h => by cases h
      | succ t => simp at h1
    · intro b h1; rw [kx] at h1; have := hex b h1; omega
    · intro t b h1 h2; rw [kx] at h2; have := hex b h2; have := (kt t _ h1).2; cases this; omega
    · intro t b h1; have := (kt t _ h1).2; cases this; omega
theorem v41n : VCalls Tryd.prog G0 41 [.nilMap] .nilMap := by
  intro w ex vs _ _ hr
  obtain ⟨hs, hr⟩ := hr
  obtain ⟨l⟩ := vs
  match l, hs with
  | [x], _ =>
    have h0 := hr 0 x _ rfl rfl
    cases h0
    refine (w41n w).mono ?_
    rintro e w' ⟨rfl, rfl⟩
    exact ⟨_, rfl, RowKit.Below.refl _ _, .nilMap⟩
end Go.Proofs.YtdemgegpnlngeaaDoor

