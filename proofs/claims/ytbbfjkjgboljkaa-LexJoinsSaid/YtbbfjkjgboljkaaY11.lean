import Derived.Test.YtbbfjkjgboljkaaY10
namespace Go.Proofs.Ytbbfjkjgboljkaa
open Go PG Go.Proofs
set_option linter.unusedSimpArgs false
set_option linter.unusedVariables false
set_option maxHeartbeats 4000000
/-- The tokens in memory that the caller may write. -/
theorem f9 (s : List UInt8) (hs : s.length ≤ 9223372036854775800) (l : List Tok) (hl : allE s = .ok l) : FCalls Try.prog G0 9 [.str s] (fun p ν => p = .tup [.sl (some 3) 0 l.length, .int .i64 0, .int .i64 0] ∧ ν = [some (.row (some 3) (l.map tokP))]) := by
  refine FCalls.of_PW Try.func9 k9 mix (by simp [c9]) ?_
  unfold allE at hl
  simp only [c9, L9, argE]
  split at hl
  · cases hl
  have hs' : s.length ≤ 4096 := by omega
  have hd0 : decide (4096 < (s.length : Int)) = false := by rw [decide_eq_false_iff_not]; omega
  repeat' (first | refine PW.seq ?_ | refine PW.block ?_ | ((first | refine PW.region ?_ | refine PW.regionQ ?_ | refine PW.exit ?_ | refine PW.ret ?_ | refine PW.skip ?_); simp only [hd0, SS, SS2, gArgs, gOk, Nat.reduceAdd, PV.shift, MObj.shift, rdV, rdD, reduceIte, Nat.reduceEqDiff, Nat.reduceBEq, PV.bin, PV.binOk, binI, binS, PV.withInt, PV.withIntP, okAll, PV.under, PV.okUnder, eq_self, implies_true, deadOk, ne_eq, allOk, RVar.val, RVar.ok, retV, PV.seen, PV.view, beq_self_eq_true, PV.flat, PV.noOwn, id_eq, behind, PV.kill, MObj.kill, killTag, reduceCtorEq, nilB]; (try go_unwrap; try simp only [hd0, toNat_add2, toNat_add1, Int.toNat_natCast, Bool.false_and, Bool.true_and, true_implies, true_and, Bool.false_eq_true, reduceCtorEq, false_implies, Bool.not_false, Bool.not_true, Bool.true_or, Bool.false_or])) | refine PW.regionA ?_ | exact schedW_stop_i | ((first | refine schedW_alt_i ?_ ?_ | refine schedW_done_i ?_); focus (simp only [hd0, SS, SS2, gArgs, gOk, Nat.reduceAdd, PV.shift, MObj.shift, rdV, rdD, reduceIte, Nat.reduceEqDiff, Nat.reduceBEq, PV.bin, PV.binOk, binI, binS, PV.withInt, PV.withIntP, okAll, PV.under, PV.okUnder, eq_self, implies_true, deadOk, ne_eq, allOk, RVar.val, RVar.ok, retV, PV.seen, PV.view, beq_self_eq_true, PV.flat, PV.noOwn, id_eq, behind, PV.kill, MObj.kill, killTag, reduceCtorEq, nilB]; (try go_unwrap; try simp only [hd0, toNat_add2, toNat_add1, Int.toNat_natCast, Bool.false_and, Bool.true_and, true_implies, true_and, Bool.false_eq_true, reduceCtorEq, false_implies, Bool.not_false, Bool.not_true, Bool.true_or, Bool.false_or]))) | (refine PW.cond rfl ?_ ?_ <;> intro hcond <;> (try contradiction) <;> try simp only [decide_eq_true_eq, decide_eq_false_iff_not] at hcond) | refine And.intro ?_ ?_ | exact (fun h => Bool.noConfusion h) | omega | (simp only [decide_eq_true_eq, decide_eq_false_iff_not, List.length_cons, List.length_nil, List.length_append, List.length_map, Sh.size] <;> omega) | (go_unwrap; omega))
  refine PW.loop (σ := Nat × List Tok) [0, 5, 6] (fun j => [.str s, outV j.2, .int .i64 j.1]) (fun j => outM j.2) (fun j => j.1 ≤ s.length ∧ j.2.length ≤ j.1 ∧ scanA [] 0 s = scanA j.2 j.1 (s.drop j.1)) (fun j => s.length - j.1) (0, []) ?_ rfl ⟨by simp, by simp, by simp⟩ ?_
  · simp only [SS, SS2, gArgs, gOk, Nat.reduceAdd, PV.shift, MObj.shift, rdV, rdD, reduceIte, Nat.reduceEqDiff, Nat.reduceBEq, PV.bin, PV.binOk, binI, binS, PV.withInt, PV.withIntP, okAll, PV.under, PV.okUnder, eq_self, implies_true, deadOk, ne_eq, allOk, RVar.val, RVar.ok, retV, PV.seen, PV.view, beq_self_eq_true, PV.flat, PV.noOwn, id_eq, behind, PV.kill, MObj.kill, killTag, reduceCtorEq, nilB]; rfl
  rintro ⟨a, acc⟩ ⟨ha, hal, hc⟩
  simp only at ha hal hc
  simp only [List.zip_cons_cons, List.zip_nil_left]
  rw [hc] at hl
  rcases Nat.lt_or_ge a s.length with hlt | hlt
  · have hd : decide ((a : Int) < s.length) = true := by simp only [decide_eq_true_eq]; omega
    by_cases hb : s.getD a 0 = 32
    · have hb' : decide (((s.getD a 0).toNat : Int) = 32) = true := by rw [hb]; rfl
      rw [scan_blank hlt hb] at hc
      repeat' (first | refine PW.seq ?_ | refine PW.block ?_ | ((first | refine PW.region ?_ | refine PW.regionQ ?_ | refine PW.exit ?_ | refine PW.ret ?_ | refine PW.skip ?_); simp only [hd, hb', SS, SS2, gArgs, gOk, Nat.reduceAdd, PV.shift, MObj.shift, rdV, rdD, reduceIte, Nat.reduceEqDiff, Nat.reduceBEq, PV.bin, PV.binOk, binI, binS, PV.withInt, PV.withIntP, okAll, PV.under, PV.okUnder, eq_self, implies_true, deadOk, ne_eq, allOk, RVar.val, RVar.ok, retV, PV.seen, PV.view, beq_self_eq_true, PV.flat, PV.noOwn, id_eq, behind, PV.kill, MObj.kill, killTag, reduceCtorEq, nilB]; (try go_unwrap; try simp only [hd, hb', toNat_add2, toNat_add1, Int.toNat_natCast, Bool.false_and, Bool.true_and, true_implies, true_and, Bool.false_eq_true, reduceCtorEq, false_implies, Bool.not_false, Bool.not_true, Bool.true_or, Bool.false_or])) | refine PW.regionA ?_ | exact schedW_stop_i | ((first | refine schedW_alt_i ?_ ?_ | refine schedW_done_i ?_); focus (simp only [hd, hb', SS, SS2, gArgs, gOk, Nat.reduceAdd, PV.shift, MObj.shift, rdV, rdD, reduceIte, Nat.reduceEqDiff, Nat.reduceBEq, PV.bin, PV.binOk, binI, binS, PV.withInt, PV.withIntP, okAll, PV.under, PV.okUnder, eq_self, implies_true, deadOk, ne_eq, allOk, RVar.val, RVar.ok, retV, PV.seen, PV.view, beq_self_eq_true, PV.flat, PV.noOwn, id_eq, behind, PV.kill, MObj.kill, killTag, reduceCtorEq, nilB]; (try go_unwrap; try simp only [hd, hb', toNat_add2, toNat_add1, Int.toNat_natCast, Bool.false_and, Bool.true_and, true_implies, true_and, Bool.false_eq_true, reduceCtorEq, false_implies, Bool.not_false, Bool.not_true, Bool.true_or, Bool.false_or]))) | (refine PW.cond rfl ?_ ?_ <;> intro hcond <;> (try contradiction) <;> try simp only [decide_eq_true_eq, decide_eq_false_iff_not] at hcond) | refine And.intro ?_ ?_ | exact (fun h => Bool.noConfusion h) | omega | (simp only [decide_eq_true_eq, decide_eq_false_iff_not, List.length_cons, List.length_nil, List.length_append, List.length_map, Sh.size] <;> omega) | (go_unwrap; omega))
      exact ⟨(a + 1, acc), rfl, rfl, ⟨by simp only; omega, by simp only; omega, hc⟩, by simp only; omega⟩
    · have hb' : decide (((s.getD a 0).toNat : Int) = 32) = false := by
        rw [decide_eq_false_iff_not]; exact fun h => hb (UInt8.toNat_inj.1 (Int.ofNat.inj h))
      have h13 := v13 s a hs hlt
      cases ht : tokE a (s.drop a) with
      | error p =>
        rw [scan_err hlt hb ht] at hl
        cases hl
      | ok p =>
        obtain ⟨k, n⟩ := p
        obtain ⟨h1, h2, h4⟩ := tokE_ok (by simp; omega) ht
        rw [List.length_drop] at h2
        rw [h4] at h13
        rw [scan_tok hlt hb ht h1] at hc
        have he : decide ((0 : Int) = 0) = true := rfl
        have hdt : List.drop a (List.take (a + n) s) = List.take n (List.drop a s) := by rw [List.drop_take, Nat.add_sub_cancel_left]
        by_cases hacc : acc = []
        · subst hacc
          simp only [outV, outM]
          repeat' (first | refine PW.seq ?_ | refine PW.block ?_ | ((first | refine PW.region ?_ | refine PW.regionQ ?_ | refine PW.exit ?_ | refine PW.ret ?_ | refine PW.skip ?_); simp only [hd, hb', he, hdt, Bool.not_false, Bool.not_true, SS, SS2, gArgs, gOk, Nat.reduceAdd, PV.shift, MObj.shift, rdV, rdD, reduceIte, Nat.reduceEqDiff, Nat.reduceBEq, PV.bin, PV.binOk, binI, binS, PV.withInt, PV.withIntP, okAll, PV.under, PV.okUnder, eq_self, implies_true, deadOk, ne_eq, allOk, RVar.val, RVar.ok, retV, PV.seen, PV.view, beq_self_eq_true, PV.flat, PV.noOwn, id_eq, behind, PV.kill, MObj.kill, killTag, reduceCtorEq, nilB]; (try go_unwrap; try simp only [hd, hb', he, hdt, Bool.not_false, Bool.not_true, toNat_add2, toNat_add1, Int.toNat_natCast, Bool.false_and, Bool.true_and, true_implies, true_and, Bool.false_eq_true, reduceCtorEq, false_implies, Bool.not_false, Bool.not_true, Bool.true_or, Bool.false_or])) | refine PW.regionA ?_ | exact schedW_stop_i | ((first | refine schedW_alt_i ?_ ?_ | refine schedW_done_i ?_); focus (simp only [hd, hb', he, hdt, Bool.not_false, Bool.not_true, SS, SS2, gArgs, gOk, Nat.reduceAdd, PV.shift, MObj.shift, rdV, rdD, reduceIte, Nat.reduceEqDiff, Nat.reduceBEq, PV.bin, PV.binOk, binI, binS, PV.withInt, PV.withIntP, okAll, PV.under, PV.okUnder, eq_self, implies_true, deadOk, ne_eq, allOk, RVar.val, RVar.ok, retV, PV.seen, PV.view, beq_self_eq_true, PV.flat, PV.noOwn, id_eq, behind, PV.kill, MObj.kill, killTag, reduceCtorEq, nilB]; (try go_unwrap; try simp only [hd, hb', he, hdt, Bool.not_false, Bool.not_true, toNat_add2, toNat_add1, Int.toNat_natCast, Bool.false_and, Bool.true_and, true_implies, true_and, Bool.false_eq_true, reduceCtorEq, false_implies, Bool.not_false, Bool.not_true, Bool.true_or, Bool.false_or]))) | (refine PW.cond rfl ?_ ?_ <;> intro hcond <;> (try contradiction) <;> try simp only [decide_eq_true_eq, decide_eq_false_iff_not] at hcond) | (apply goCall_V e13; (case hV => (simp only [hd, hb', he, hdt, Bool.not_false, Bool.not_true, SS, SS2, gArgs, gOk, Nat.reduceAdd, PV.shift, MObj.shift, rdV, rdD, reduceIte, Nat.reduceEqDiff, Nat.reduceBEq, PV.bin, PV.binOk, binI, binS, PV.withInt, PV.withIntP, okAll, PV.under, PV.okUnder, eq_self, implies_true, deadOk, ne_eq, allOk, RVar.val, RVar.ok, retV, PV.seen, PV.view, beq_self_eq_true, PV.flat, PV.noOwn, id_eq, behind, PV.kill, MObj.kill, killTag, reduceCtorEq, nilB]; (try go_unwrap; try simp only [hd, hb', he, hdt, Bool.not_false, Bool.not_true, toNat_add2, toNat_add1, Int.toNat_natCast, Bool.false_and, Bool.true_and, true_implies, true_and, Bool.false_eq_true, reduceCtorEq, false_implies, Bool.not_false, Bool.not_true, Bool.true_or, Bool.false_or]); exact h13)); (try (case hs => rfl)); (try (case hf => first | exact Or.inl rfl | exact Or.inr ⟨rfl, rfl⟩ | exact Or.inr ⟨rfl, by simp only [hd, hb', he, hdt, Bool.not_false, Bool.not_true, SS, SS2, gArgs, gOk, Nat.reduceAdd, PV.shift, MObj.shift, rdV, rdD, reduceIte, Nat.reduceEqDiff, Nat.reduceBEq, PV.bin, PV.binOk, binI, binS, PV.withInt, PV.withIntP, okAll, PV.under, PV.okUnder, eq_self, implies_true, deadOk, ne_eq, allOk, RVar.val, RVar.ok, retV, PV.seen, PV.view, beq_self_eq_true, PV.flat, PV.noOwn, id_eq, behind, PV.kill, MObj.kill, killTag, reduceCtorEq, nilB]⟩)); all_goals (simp only [hd, hb', he, hdt, Bool.not_false, Bool.not_true, SS, SS2, gArgs, gOk, Nat.reduceAdd, PV.shift, MObj.shift, rdV, rdD, reduceIte, Nat.reduceEqDiff, Nat.reduceBEq, PV.bin, PV.binOk, binI, binS, PV.withInt, PV.withIntP, okAll, PV.under, PV.okUnder, eq_self, implies_true, deadOk, ne_eq, allOk, RVar.val, RVar.ok, retV, PV.seen, PV.view, beq_self_eq_true, PV.flat, PV.noOwn, id_eq, behind, PV.kill, MObj.kill, killTag, reduceCtorEq, nilB]; (try go_unwrap; try simp only [hd, hb', he, hdt, Bool.not_false, Bool.not_true, toNat_add2, toNat_add1, Int.toNat_natCast, Bool.false_and, Bool.true_and, true_implies, true_and, Bool.false_eq_true, reduceCtorEq, false_implies, Bool.not_false, Bool.not_true, Bool.true_or, Bool.false_or]))) | refine And.intro ?_ ?_ | exact (fun h => Bool.noConfusion h) | omega | (simp only [decide_eq_true_eq, decide_eq_false_iff_not, List.length_cons, List.length_nil, List.length_append, List.length_map, Sh.size] <;> omega) | (go_unwrap; omega))
          exact ⟨(a + n, [(k, List.take n (List.drop a s), a)]), rfl, rfl, ⟨by simp only; omega, by simp; omega, hc⟩, by simp only; omega⟩
        · have hne : acc ++ [(k, List.take n (List.drop a s), a)] ≠ [] := by simp
          have hov := outV_ne hne
          have hom := outM_ne hne
          rw [List.length_append] at hov
          rw [List.map_append] at hom
          rw [outV_ne hacc, outM_ne hacc]
          have htk : (acc.map tokP).take acc.length = acc.map tokP := by rw [List.take_of_length_le (by simp)]
          repeat' (first | refine PW.seq ?_ | refine PW.block ?_ | ((first | refine PW.region ?_ | refine PW.regionQ ?_ | refine PW.exit ?_ | refine PW.ret ?_ | refine PW.skip ?_); simp only [hd, hb', he, hdt, Bool.not_false, Bool.not_true, htk, List.length_map, SS, SS2, gArgs, gOk, Nat.reduceAdd, PV.shift, MObj.shift, rdV, rdD, reduceIte, Nat.reduceEqDiff, Nat.reduceBEq, PV.bin, PV.binOk, binI, binS, PV.withInt, PV.withIntP, okAll, PV.under, PV.okUnder, eq_self, implies_true, deadOk, ne_eq, allOk, RVar.val, RVar.ok, retV, PV.seen, PV.view, beq_self_eq_true, PV.flat, PV.noOwn, id_eq, behind, PV.kill, MObj.kill, killTag, reduceCtorEq, nilB]; (try go_unwrap; try simp only [hd, hb', he, hdt, Bool.not_false, Bool.not_true, htk, List.length_map, toNat_add2, toNat_add1, Int.toNat_natCast, Bool.false_and, Bool.true_and, true_implies, true_and, Bool.false_eq_true, reduceCtorEq, false_implies, Bool.not_false, Bool.not_true, Bool.true_or, Bool.false_or])) | refine PW.regionA ?_ | exact schedW_stop_i | ((first | refine schedW_alt_i ?_ ?_ | refine schedW_done_i ?_); focus (simp only [hd, hb', he, hdt, Bool.not_false, Bool.not_true, htk, List.length_map, SS, SS2, gArgs, gOk, Nat.reduceAdd, PV.shift, MObj.shift, rdV, rdD, reduceIte, Nat.reduceEqDiff, Nat.reduceBEq, PV.bin, PV.binOk, binI, binS, PV.withInt, PV.withIntP, okAll, PV.under, PV.okUnder, eq_self, implies_true, deadOk, ne_eq, allOk, RVar.val, RVar.ok, retV, PV.seen, PV.view, beq_self_eq_true, PV.flat, PV.noOwn, id_eq, behind, PV.kill, MObj.kill, killTag, reduceCtorEq, nilB]; (try go_unwrap; try simp only [hd, hb', he, hdt, Bool.not_false, Bool.not_true, htk, List.length_map, toNat_add2, toNat_add1, Int.toNat_natCast, Bool.false_and, Bool.true_and, true_implies, true_and, Bool.false_eq_true, reduceCtorEq, false_implies, Bool.not_false, Bool.not_true, Bool.true_or, Bool.false_or]))) | (refine PW.cond rfl ?_ ?_ <;> intro hcond <;> (try contradiction) <;> try simp only [decide_eq_true_eq, decide_eq_false_iff_not] at hcond) | (apply goCall_V e13; (case hV => (simp only [hd, hb', he, hdt, Bool.not_false, Bool.not_true, htk, List.length_map, SS, SS2, gArgs, gOk, Nat.reduceAdd, PV.shift, MObj.shift, rdV, rdD, reduceIte, Nat.reduceEqDiff, Nat.reduceBEq, PV.bin, PV.binOk, binI, binS, PV.withInt, PV.withIntP, okAll, PV.under, PV.okUnder, eq_self, implies_true, deadOk, ne_eq, allOk, RVar.val, RVar.ok, retV, PV.seen, PV.view, beq_self_eq_true, PV.flat, PV.noOwn, id_eq, behind, PV.kill, MObj.kill, killTag, reduceCtorEq, nilB]; (try go_unwrap; try simp only [hd, hb', he, hdt, Bool.not_false, Bool.not_true, htk, List.length_map, toNat_add2, toNat_add1, Int.toNat_natCast, Bool.false_and, Bool.true_and, true_implies, true_and, Bool.false_eq_true, reduceCtorEq, false_implies, Bool.not_false, Bool.not_true, Bool.true_or, Bool.false_or]); exact h13)); (try (case hs => rfl)); (try (case hf => first | exact Or.inl rfl | exact Or.inr ⟨rfl, rfl⟩ | exact Or.inr ⟨rfl, by simp only [hd, hb', he, hdt, Bool.not_false, Bool.not_true, htk, List.length_map, SS, SS2, gArgs, gOk, Nat.reduceAdd, PV.shift, MObj.shift, rdV, rdD, reduceIte, Nat.reduceEqDiff, Nat.reduceBEq, PV.bin, PV.binOk, binI, binS, PV.withInt, PV.withIntP, okAll, PV.under, PV.okUnder, eq_self, implies_true, deadOk, ne_eq, allOk, RVar.val, RVar.ok, retV, PV.seen, PV.view, beq_self_eq_true, PV.flat, PV.noOwn, id_eq, behind, PV.kill, MObj.kill, killTag, reduceCtorEq, nilB]⟩)); all_goals (simp only [hd, hb', he, hdt, Bool.not_false, Bool.not_true, htk, List.length_map, SS, SS2, gArgs, gOk, Nat.reduceAdd, PV.shift, MObj.shift, rdV, rdD, reduceIte, Nat.reduceEqDiff, Nat.reduceBEq, PV.bin, PV.binOk, binI, binS, PV.withInt, PV.withIntP, okAll, PV.under, PV.okUnder, eq_self, implies_true, deadOk, ne_eq, allOk, RVar.val, RVar.ok, retV, PV.seen, PV.view, beq_self_eq_true, PV.flat, PV.noOwn, id_eq, behind, PV.kill, MObj.kill, killTag, reduceCtorEq, nilB]; (try go_unwrap; try simp only [hd, hb', he, hdt, Bool.not_false, Bool.not_true, htk, List.length_map, toNat_add2, toNat_add1, Int.toNat_natCast, Bool.false_and, Bool.true_and, true_implies, true_and, Bool.false_eq_true, reduceCtorEq, false_implies, Bool.not_false, Bool.not_true, Bool.true_or, Bool.false_or]))) | refine And.intro ?_ ?_ | exact (fun h => Bool.noConfusion h) | omega | (simp only [decide_eq_true_eq, decide_eq_false_iff_not, List.length_cons, List.length_nil, List.length_append, List.length_map, Sh.size] <;> omega) | (go_unwrap; omega))
          exact ⟨(a + n, acc ++ [(k, List.take n (List.drop a s), a)]), by simp only [hov]; rfl, by simp only [hom]; rfl, ⟨by simp only; omega, by simp; omega, hc⟩, by simp only; omega⟩
  · have hd : decide ((a : Int) < s.length) = false := by simp only [decide_eq_false_iff_not]; omega
    rw [scan_nil hlt] at hl
    have hla : a = s.length := by omega
    subst hla
    cases hl
    by_cases hacc : acc = []
    · subst hacc
      simp only [outV, outM]
      repeat' (first | refine PW.seq ?_ | refine PW.block ?_ | ((first | refine PW.region ?_ | refine PW.regionQ ?_ | refine PW.exit ?_ | refine PW.ret ?_ | refine PW.skip ?_); simp only [hd, SS, SS2, gArgs, gOk, Nat.reduceAdd, PV.shift, MObj.shift, rdV, rdD, reduceIte, Nat.reduceEqDiff, Nat.reduceBEq, PV.bin, PV.binOk, binI, binS, PV.withInt, PV.withIntP, okAll, PV.under, PV.okUnder, eq_self, implies_true, deadOk, ne_eq, allOk, RVar.val, RVar.ok, retV, PV.seen, PV.view, beq_self_eq_true, PV.flat, PV.noOwn, id_eq, behind, PV.kill, MObj.kill, killTag, reduceCtorEq, nilB]; (try go_unwrap; try simp only [hd, toNat_add2, toNat_add1, Int.toNat_natCast, Bool.false_and, Bool.true_and, true_implies, true_and, Bool.false_eq_true, reduceCtorEq, false_implies, Bool.not_false, Bool.not_true, Bool.true_or, Bool.false_or])) | refine PW.regionA ?_ | exact schedW_stop_i | ((first | refine schedW_alt_i ?_ ?_ | refine schedW_done_i ?_); focus (simp only [hd, SS, SS2, gArgs, gOk, Nat.reduceAdd, PV.shift, MObj.shift, rdV, rdD, reduceIte, Nat.reduceEqDiff, Nat.reduceBEq, PV.bin, PV.binOk, binI, binS, PV.withInt, PV.withIntP, okAll, PV.under, PV.okUnder, eq_self, implies_true, deadOk, ne_eq, allOk, RVar.val, RVar.ok, retV, PV.seen, PV.view, beq_self_eq_true, PV.flat, PV.noOwn, id_eq, behind, PV.kill, MObj.kill, killTag, reduceCtorEq, nilB]; (try go_unwrap; try simp only [hd, toNat_add2, toNat_add1, Int.toNat_natCast, Bool.false_and, Bool.true_and, true_implies, true_and, Bool.false_eq_true, reduceCtorEq, false_implies, Bool.not_false, Bool.not_true, Bool.true_or, Bool.false_or]))) | (refine PW.cond rfl ?_ ?_ <;> intro hcond <;> (try contradiction) <;> try simp only [decide_eq_true_eq, decide_eq_false_iff_not] at hcond) | refine And.intro ?_ ?_ | exact (fun h => Bool.noConfusion h) | omega | (simp only [decide_eq_true_eq, decide_eq_false_iff_not, List.length_cons, List.length_nil, List.length_append, List.length_map, Sh.size] <;> omega) | (go_unwrap; omega))
      all_goals rfl
    · rw [outV_ne hacc, outM_ne hacc]
      have htk : (acc.map tokP).take acc.length = acc.map tokP := by rw [List.take_of_length_le (by simp)]
      repeat' (first | refine PW.seq ?_ | refine PW.block ?_ | ((first | refine PW.region ?_ | refine PW.regionQ ?_ | refine PW.exit ?_ | refine PW.ret ?_ | refine PW.skip ?_); simp only [hd, htk, List.length_map, SS, SS2, gArgs, gOk, Nat.reduceAdd, PV.shift, MObj.shift, rdV, rdD, reduceIte, Nat.reduceEqDiff, Nat.reduceBEq, PV.bin, PV.binOk, binI, binS, PV.withInt, PV.withIntP, okAll, PV.under, PV.okUnder, eq_self, implies_true, deadOk, ne_eq, allOk, RVar.val, RVar.ok, retV, PV.seen, PV.view, beq_self_eq_true, PV.flat, PV.noOwn, id_eq, behind, PV.kill, MObj.kill, killTag, reduceCtorEq, nilB]; (try go_unwrap; try simp only [hd, htk, List.length_map, toNat_add2, toNat_add1, Int.toNat_natCast, Bool.false_and, Bool.true_and, true_implies, true_and, Bool.false_eq_true, reduceCtorEq, false_implies, Bool.not_false, Bool.not_true, Bool.true_or, Bool.false_or])) | refine PW.regionA ?_ | exact schedW_stop_i | ((first | refine schedW_alt_i ?_ ?_ | refine schedW_done_i ?_); focus (simp only [hd, htk, List.length_map, SS, SS2, gArgs, gOk, Nat.reduceAdd, PV.shift, MObj.shift, rdV, rdD, reduceIte, Nat.reduceEqDiff, Nat.reduceBEq, PV.bin, PV.binOk, binI, binS, PV.withInt, PV.withIntP, okAll, PV.under, PV.okUnder, eq_self, implies_true, deadOk, ne_eq, allOk, RVar.val, RVar.ok, retV, PV.seen, PV.view, beq_self_eq_true, PV.flat, PV.noOwn, id_eq, behind, PV.kill, MObj.kill, killTag, reduceCtorEq, nilB]; (try go_unwrap; try simp only [hd, htk, List.length_map, toNat_add2, toNat_add1, Int.toNat_natCast, Bool.false_and, Bool.true_and, true_implies, true_and, Bool.false_eq_true, reduceCtorEq, false_implies, Bool.not_false, Bool.not_true, Bool.true_or, Bool.false_or]))) | (refine PW.cond rfl ?_ ?_ <;> intro hcond <;> (try contradiction) <;> try simp only [decide_eq_true_eq, decide_eq_false_iff_not] at hcond) | refine And.intro ?_ ?_ | exact (fun h => Bool.noConfusion h) | omega | (simp only [decide_eq_true_eq, decide_eq_false_iff_not, List.length_cons, List.length_nil, List.length_append, List.length_map, Sh.size] <;> omega) | (go_unwrap; omega))
      all_goals (first | rfl | simp [tokP])
def shT (c : Nat) (t : Tok) : Tok := (t.1, t.2.1, t.2.2 + c)
theorem tokE_shift (a c : Nat) (l : List UInt8) : (∃ p, tokE a l = .ok p ∧ tokE (a + c) l = .ok p) ∨ (∃ o e, tokE a l = .error (o, e) ∧ tokE (a + c) l = .error (o + c, e)) := by
  unfold tokE
  split
  · split
    · exact .inl ⟨_, rfl, rfl⟩
    · exact .inr ⟨_, _, rfl, rfl⟩
  · split
    · cases numL l with
      | ok p => exact .inl ⟨_, rfl, rfl⟩
      | error p => exact .inr ⟨_, _, rfl, by simp; omega⟩
    · split
      · exact .inl ⟨_, rfl, rfl⟩
      · exact .inr ⟨_, _, rfl, rfl⟩
theorem scan_cons_err {acc : List Tok} {a : Nat} {b : UInt8} {r : List UInt8} {e : Nat × Nat} (hb : b ≠ 32) (h : tokE a (b :: r) = .error e) : scanA acc a (b :: r) = .error e := by
  rw [scanA, if_neg hb, h]
theorem scan_cons_ok {acc : List Tok} {a k n : Nat} {b : UInt8} {r : List UInt8} (hb : b ≠ 32) (h : tokE a (b :: r) = .ok (k, n)) : scanA acc a (b :: r) = scanA (acc ++ [(k, (b :: r).take n, a)]) (a + n) (r.drop (n - 1)) := by
  rw [scanA, if_neg hb, h]
theorem scan_shift : ∀ (n : Nat) (l : List UInt8) (acc acc2 : List Tok) (a c : Nat), l.length ≤ n →
    (∃ m, scanA acc a l = .ok (acc ++ m) ∧ scanA acc2 (a + c) l = .ok (acc2 ++ m.map (shT c))) ∨ (∃ o e, scanA acc a l = .error (o, e) ∧ scanA acc2 (a + c) l = .error (o + c, e)) := by
  intro n
  induction n with
  | zero =>
    intro l acc acc2 a c hl
    obtain rfl : l = [] := List.length_eq_zero_iff.1 (by omega)
    exact .inl ⟨[(0, [], a)], by rw [scanA], by rw [scanA]; rfl⟩
  | succ n ih =>
    intro l acc acc2 a c hl
    cases l with
    | nil => exact .inl ⟨[(0, [], a)], by rw [scanA], by rw [scanA]; rfl⟩
    | cons b r =>
      simp only [List.length_cons] at hl
      by_cases hb : b = 32
      · rw [scanA, if_pos hb, scanA, if_pos hb]
        have := ih r acc acc2 (a + 1) c (by omega)
        rw [show a + 1 + c = a + c + 1 by omega] at this
        exact this
      · rcases tokE_shift a c (b :: r) with ⟨⟨k, m⟩, h1, h2⟩ | ⟨o, e, h1, h2⟩
        · rw [scan_cons_ok hb h1, scan_cons_ok hb h2]
          rcases ih (r.drop (m - 1)) (acc ++ [(k, (b :: r).take m, a)]) (acc2 ++ [(k, (b :: r).take m, a + c)]) (a + m) c (by rw [List.length_drop]; omega) with ⟨q, h3, h4⟩ | ⟨o, e, h3, h4⟩
          · rw [show a + m + c = a + c + m by omega] at h4
            exact .inl ⟨(k, (b :: r).take m, a) :: q, by rw [h3]; simp, by rw [h4]; simp [shT]⟩
          · rw [show a + m + c = a + c + m by omega] at h4
            exact .inr ⟨o, e, h3, h4⟩
        · rw [scan_cons_err hb h1, scan_cons_err hb h2]
          exact .inr ⟨o, e, rfl, rfl⟩
theorem scan_app : ∀ (n : Nat) (l r : List UInt8) (acc : List Tok) (a : Nat), l.length ≤ n →
    (∃ m, scanA acc a l = .ok (m ++ [(0, [], a + l.length)]) ∧ scanA acc a (l ++ 32 :: r) = scanA m (a + l.length + 1) r) ∨ (∃ o e, scanA acc a l = .error (o, e) ∧ scanA acc a (l ++ 32 :: r) = .error (o, e)) := by
  intro n
  induction n with
  | zero =>
    intro l r acc a hl
    obtain rfl : l = [] := List.length_eq_zero_iff.1 (by omega)
    exact .inl ⟨acc, by rw [scanA]; rfl, by rw [List.nil_append, scanA, if_pos rfl]; rfl⟩
  | succ n ih =>
    intro l r acc a hl
    cases l with
    | nil => exact .inl ⟨acc, by rw [scanA]; rfl, by rw [List.nil_append, scanA, if_pos rfl]; rfl⟩
    | cons b q =>
      simp only [List.length_cons] at hl
      by_cases hb : b = 32
      · rw [List.cons_append, scanA, if_pos hb, scanA, if_pos hb]
        have := ih q r acc (a + 1) (by omega)
        rw [show a + (b :: q).length = a + 1 + q.length by simp only [List.length_cons]; omega]
        exact this
      · have hbl := tokE_blank a r (l := b :: q) (by simp)
        rw [List.cons_append] at hbl
        cases ht : tokE a (b :: q) with
        | error p =>
          obtain ⟨o, e⟩ := p
          rw [ht] at hbl
          rw [scan_cons_err hb ht, List.cons_append, scan_cons_err hb hbl]
          exact .inr ⟨o, e, rfl, rfl⟩
        | ok p =>
          obtain ⟨k, m⟩ := p
          rw [ht] at hbl
          obtain ⟨h1, h2, -⟩ := tokE_ok (by simp) ht
          simp only [List.length_cons] at h2
          rw [scan_cons_ok hb ht, List.cons_append, scan_cons_ok hb hbl]
          have e1 : (b :: (q ++ 32 :: r)).take m = (b :: q).take m := by rw [← List.cons_append, List.take_append_of_le_length (by simpa using h2)]
          have e2 : (q ++ 32 :: r).drop (m - 1) = q.drop (m - 1) ++ 32 :: r := by rw [List.drop_append_of_le_length (by omega)]
          rw [e1, e2]
          have := ih (q.drop (m - 1)) r (acc ++ [(k, (b :: q).take m, a)]) (a + m) (by rw [List.length_drop]; omega)
          rw [List.length_drop, show a + m + (q.length - (m - 1)) = a + (b :: q).length by simp only [List.length_cons]; omega] at this
          exact this
/-- Two formulas with a blank between. -/
theorem all_app {s t : List UInt8} (h : s.length + t.length + 1 ≤ 4096) :
    (∃ o e, allE s = .error (o, e) ∧ e ≠ 0 ∧ ∃ o', allE (s ++ 32 :: t) = .error (o', e)) ∨
    (∃ A, allE s = .ok (A ++ [(0, [], s.length)]) ∧ ((∃ o e, allE t = .error (o, e) ∧ e ≠ 0 ∧ allE (s ++ 32 :: t) = .error (s.length + 1 + o, e)) ∨
      (∃ B, allE t = .ok B ∧ B ≠ [] ∧ allE (s ++ 32 :: t) = .ok (A ++ B.map (shT (s.length + 1)))))) := by
  have hlen : (s ++ 32 :: t).length = s.length + t.length + 1 := by simp; omega
  have hne : ∀ {u : List UInt8} {o e : Nat}, allE u = .error (o, e) → e ≠ 0 := fun h => (all_errs h).2
  rcases scan_app s.length s t [] 0 (Nat.le_refl _) with ⟨A, h1, h2⟩ | ⟨o, e, h1, h2⟩
  · simp only [Nat.zero_add] at h1 h2
    have hs : allE s = .ok (A ++ [(0, [], s.length)]) := by unfold allE; rw [if_neg (by omega)]; exact h1
    refine .inr ⟨A, hs, ?_⟩
    rcases scan_shift t.length t [] A 0 (s.length + 1) (Nat.le_refl _) with ⟨B, h3, h4⟩ | ⟨o, e, h3, h4⟩
    · simp only [Nat.zero_add, List.nil_append] at h3 h4
      have ht : allE t = .ok B := by unfold allE; rw [if_neg (by omega)]; exact h3
      exact .inr ⟨B, ht, (all_tiles ht).1, by unfold allE; rw [if_neg (by omega), h2]; exact h4⟩
    · simp only [Nat.zero_add] at h3 h4
      have ht : allE t = .error (o, e) := by unfold allE; rw [if_neg (by omega)]; exact h3
      exact .inl ⟨o, e, ht, hne ht, by unfold allE; rw [if_neg (by omega), h2, h4, Nat.add_comm o]⟩
  · have hs : allE s = .error (o, e) := by unfold allE; rw [if_neg (by omega)]; exact h1
    exact .inl ⟨o, e, hs, hne hs, o, by unfold allE; rw [if_neg (by omega)]; exact h2⟩
end Go.Proofs.Ytbbfjkjgboljkaa
