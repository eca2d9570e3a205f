import Derived.Test.YtbbfjkjgboljkaaY3
namespace Go.Proofs.Ytbbfjkjgboljkaa
open Go PG Go.Proofs
set_option linter.unusedSimpArgs false
set_option linter.unusedVariables false
set_option maxHeartbeats 1000000
theorem e20 : Ent Try.prog 20 := ⟨Try.f20, Try.func20, by kernel_rfl, by kernel_rfl⟩
theorem e17 : Ent Try.prog 17 := ⟨Try.f17, Try.func17, by kernel_rfl, by kernel_rfl⟩
theorem e18 : Ent Try.prog 18 := ⟨Try.f18, Try.func18, by kernel_rfl, by kernel_rfl⟩
theorem e27 : Ent Try.prog 27 := ⟨Try.f27, Try.func27, by kernel_rfl, by kernel_rfl⟩
theorem e13 : Ent Try.prog 13 := ⟨Try.f13, Try.func13, by kernel_rfl, by kernel_rfl⟩
theorem e9 : Ent Try.prog 9 := ⟨Try.f9, Try.func9, by kernel_rfl, by kernel_rfl⟩
theorem e10 : Ent Try.prog 10 := ⟨Try.f10, Try.func10, by kernel_rfl, by kernel_rfl⟩

theorem partV_digits (u : Nat) (l : List UInt8) : partV u (l.take (runL digitB l)) ≤ 10 * u - 1 := by
  induction l generalizing u with
  | nil => simp [runL, partV]
  | cons b l ih =>
    by_cases hb : digitB b = true
    · have h := ih (u / 10)
      have h1 : (b - 48).toNat ≤ 9 := by
        simp only [digitB, Bool.and_eq_true, decide_eq_true_eq] at hb
        rw [UInt8.toNat_sub]
        have := b.toNat_lt
        simp; omega
      have h2 : u * (b - 48).toNat ≤ u * 9 := Nat.mul_le_mul_left u h1
      simp only [runL, hb, if_true, List.take_succ_cons, partV]
      omega
    · simp [runL, hb, partV]
theorem valV_eq {t w r : List UInt8} {b : Bool} (h : cutS t 46 = (w, r, b)) (hp : partV 100000 r ≤ 999999) :
    ∃ a : Int, valV t = .tup [.int .i64 a, .bool (decide (milV w r ≤ 1000000000000000000))] ∧ (milV w r ≤ 1000000000000000000 → a = (milV w r : Int)) := by
  unfold valV milV
  rw [h]
  rcases lexV_capV (n := 0) (l := w) (by omega) with ⟨h1, h2⟩ | ⟨m, h1, h2, h3⟩
  · simp only [h1, h2]
    exact ⟨0, by rw [decide_eq_false (by omega)], fun h => by omega⟩
  · simp only [h1, h2]
    split
    · exact ⟨0, by rw [decide_eq_false (by omega)], fun h => by omega⟩
    · exact ⟨_, by rw [decide_eq_true (by omega)], fun h => rfl⟩

theorem digit_46 {b : UInt8} (h : digitB b = true) : (b == 46) = false := by
  rw [beq_eq_false_iff_ne]
  rintro rfl
  exact absurd h (by decide)
theorem index_run {l r : List UInt8} : Lib.indexByte (l.take (runL digitB l) ++ 46 :: r) 46 = runL digitB l := by
  induction l with
  | nil => simp [runL, Lib.indexByte]
  | cons b l ih =>
    by_cases hb : digitB b = true
    · have h1 := digit_46 hb
      simp only [runL, hb, if_true, List.take_succ_cons, List.cons_append, Lib.indexByte, h1, ih, Bool.false_eq_true, if_false]
      have : ((runL digitB l : Int) == -1) = false := by rw [beq_eq_false_iff_ne]; omega
      rw [this]; simp
    · simp [runL, hb, Lib.indexByte]
theorem index_run0 {l : List UInt8} : Lib.indexByte (l.take (runL digitB l)) 46 = -1 := by
  induction l with
  | nil => simp [runL, Lib.indexByte]
  | cons b l ih =>
    by_cases hb : digitB b = true
    · have h1 := digit_46 hb
      simp only [runL, hb, if_true, List.take_succ_cons, Lib.indexByte, h1, ih, Bool.false_eq_true, if_false]
      rfl
    · simp [runL, hb, Lib.indexByte]
theorem cut_run0 (l : List UInt8) : cutS (l.take (runL digitB l)) 46 = (l.take (runL digitB l), [], false) := by
  unfold cutS; rw [index_run0]; rfl
theorem cut_run1 (l r : List UInt8) : cutS (l.take (runL digitB l) ++ 46 :: r) 46 = (l.take (runL digitB l), r, true) := by
  unfold cutS; rw [index_run]
  have h1 := runL_le digitB l
  have hl : (l.take (runL digitB l)).length = runL digitB l := by rw [List.length_take]; omega
  rw [if_pos (by omega), Int.toNat_natCast]
  congr 1
  · rw [List.take_append_of_le_length (by omega), List.take_of_length_le (by omega)]
  · congr 1
    rw [List.drop_append]
    rw [List.drop_eq_nil_of_le (by omega), hl, Nat.add_sub_cancel_left]
    rfl

/-- The number with which a text begins. -/
def numL (l : List UInt8) : Except (Nat × Nat) (Nat × Nat) :=
  if runL digitB l < l.length ∧ l.getD (runL digitB l) 0 = 46 then
    if runL digitB (l.drop (runL digitB l + 1)) = 0 then .error (runL digitB l, 3)
    else if 4 < runL digitB (l.drop (runL digitB l + 1)) then .error (runL digitB l + 5, 3)
    else if milV (l.take (runL digitB l)) ((l.drop (runL digitB l + 1)).take (runL digitB (l.drop (runL digitB l + 1)))) ≤ 1000000000000000000 then
      .ok (runL digitB l + 1 + runL digitB (l.drop (runL digitB l + 1)), milV (l.take (runL digitB l)) ((l.drop (runL digitB l + 1)).take (runL digitB (l.drop (runL digitB l + 1)))))
      else .error (0, 2)
  else if milV (l.take (runL digitB l)) [] ≤ 1000000000000000000 then .ok (runL digitB l, milV (l.take (runL digitB l)) []) else .error (0, 2)
def lexNum (a : Nat) : Except (Nat × Nat) (Nat × Nat) → PV
  | .error (o, e) => .tup [.int .i64 0, .int .i64 (a + o : Nat), .int .i64 e]
  | .ok (n, _) => .tup [.int .i64 n, .int .i64 0, .int .i64 0]
def refNum (a : Nat) : Except (Nat × Nat) (Nat × Nat) → PV
  | .error (o, e) => .tup [.int .i64 0, .int .i64 0, .int .i64 (a + o : Nat), .int .i64 e]
  | .ok (n, v) => .tup [.int .i64 n, .int .i64 v, .int .i64 0, .int .i64 0]
theorem take_split {l : List UInt8} {n k : Nat} (h : n < l.length) (hb : l.getD n 0 = 46) : l.take (n + 1 + k) = l.take n ++ 46 :: (l.drop (n + 1)).take k := by
  rw [show n + 1 + k = n + (1 + k) by omega, List.take_add, drop_cons h, hb, show 1 + k = k + 1 by omega, List.take_succ_cons]

theorem v20 (s : List UInt8) (at_ : Nat) (hs : s.length ≤ 9223372036854775800) (hat : at_ ≤ s.length) : VCalls Try.prog G0 20 [.str s, .int .i64 at_] (lexNum at_ (numL (s.drop at_))) := by
  refine VCalls.of_PW Try.func20 k20 mix (by simp [c20]) ?_
  have h21 := v21 s at_ 19 digitB (by omega) hat e19 v19
  have h0 : runL digitB (s.drop at_) ≤ (s.drop at_).length := runL_le _ _
  have hl : (s.drop at_).length = s.length - at_ := List.length_drop
  have hg : (s.drop at_).getD (runL digitB (s.drop at_)) 0 = s.getD (at_ + runL digitB (s.drop at_)) 0 := by simp [List.getD]
  have c0 := cut_run0 (s.drop at_)
  have c1 := cut_run1 (s.drop at_)
  unfold numL
  have hdd : (s.drop at_).drop (runL digitB (s.drop at_) + 1) = s.drop (at_ + (runL digitB (s.drop at_) + 1)) := by rw [List.drop_drop]
  have h24 : ∀ t w r b, cutS t 46 = (w, r, b) → partV 100000 r ≤ 999999 → t.length ≤ s.length → ∃ a : Int, ∀ t', t' = t → VCalls Try.prog G0 24 [.str t'] (.tup [.int .i64 a, .bool (decide (milV w r ≤ 1000000000000000000))]) := by
    intro t w r b hc hr ht
    obtain ⟨a, h1, -⟩ := valV_eq hc hr
    exact ⟨a, by rintro _ rfl; rw [← h1]; exact v24 _ (by omega)⟩
  generalize hn : runL digitB (s.drop at_) = n at *
  by_cases hp : n < (s.drop at_).length ∧ (s.drop at_).getD n 0 = 46
  · rw [if_pos hp]
    have hd1 : decide ((at_ : Int) + n < s.length) = true := by simp only [decide_eq_true_eq]; omega
    have hd2 : decide (((s.getD (at_ + n) 0).toNat : Int) = 46) = true := by rw [← hg, hp.2]; rfl
    have h21' := v21 s (at_ + n + 1) 19 digitB (by omega) (by omega) e19 v19
    rw [hdd]
    rw [show at_ + n + 1 = at_ + (n + 1) by omega] at h21'
    have h3 : runL digitB (s.drop (at_ + (n + 1))) ≤ (s.drop (at_ + (n + 1))).length := runL_le _ _
    rw [List.length_drop] at h3
    obtain ⟨a, h24'⟩ := h24 _ _ _ _ (c1 ((s.drop (at_ + (n + 1))).take (runL digitB (s.drop (at_ + (n + 1)))))) (partV_digits _ _) (by simp; omega)
    have ht := take_split (k := runL digitB (s.drop (at_ + (n + 1)))) hp.1 hp.2
    rw [hdd] at ht
    rw [← ht] at h24'
    generalize runL digitB (s.drop (at_ + (n + 1))) = k at *
    generalize milV (List.take n (List.drop at_ s)) (List.take k (List.drop (at_ + (n + 1)) s)) = v at *
    simp only [c20, L20, argE]
    repeat' (first | refine PW.seq ?_ | refine PW.block ?_ | ((first | refine PW.region ?_ | refine PW.regionQ ?_ | refine PW.exit ?_ | refine PW.ret ?_ | refine PW.skip ?_); simp only [hd1, hd2, SS, SS2, gArgs, gOk, Nat.reduceAdd, PV.shift, MObj.shift, rdV, rdD, reduceIte, Nat.reduceEqDiff, Nat.reduceBEq, PV.bin, PV.binOk, binI, binS, PV.withInt, PV.withIntP, okAll, PV.under, PV.okUnder, eq_self, implies_true, deadOk, ne_eq, allOk, RVar.val, RVar.ok, retV, PV.seen, PV.view, beq_self_eq_true, PV.flat, PV.noOwn, id_eq, behind, PV.kill, MObj.kill, killTag, reduceCtorEq, nilB]; (try go_unwrap; try simp only [hd1, hd2, toNat_add2, toNat_add1, Int.toNat_natCast, Bool.false_and, Bool.true_and, true_implies, true_and, Bool.false_eq_true, reduceCtorEq, false_implies, Bool.not_false, Bool.not_true, Bool.true_or, Bool.false_or])) | refine PW.regionA ?_ | exact schedW_stop_i | ((first | refine schedW_alt_i ?_ ?_ | refine schedW_done_i ?_); focus (simp only [hd1, hd2, SS, SS2, gArgs, gOk, Nat.reduceAdd, PV.shift, MObj.shift, rdV, rdD, reduceIte, Nat.reduceEqDiff, Nat.reduceBEq, PV.bin, PV.binOk, binI, binS, PV.withInt, PV.withIntP, okAll, PV.under, PV.okUnder, eq_self, implies_true, deadOk, ne_eq, allOk, RVar.val, RVar.ok, retV, PV.seen, PV.view, beq_self_eq_true, PV.flat, PV.noOwn, id_eq, behind, PV.kill, MObj.kill, killTag, reduceCtorEq, nilB]; (try go_unwrap; try simp only [hd1, hd2, toNat_add2, toNat_add1, Int.toNat_natCast, Bool.false_and, Bool.true_and, true_implies, true_and, Bool.false_eq_true, reduceCtorEq, false_implies, Bool.not_false, Bool.not_true, Bool.true_or, Bool.false_or]))) | (refine PW.cond rfl ?_ ?_ <;> intro hcond <;> (try contradiction) <;> try simp only [decide_eq_true_eq, decide_eq_false_iff_not] at hcond) | (apply goCall_V e21; (case hV => (simp only [hd1, hd2, SS, SS2, gArgs, gOk, Nat.reduceAdd, PV.shift, MObj.shift, rdV, rdD, reduceIte, Nat.reduceEqDiff, Nat.reduceBEq, PV.bin, PV.binOk, binI, binS, PV.withInt, PV.withIntP, okAll, PV.under, PV.okUnder, eq_self, implies_true, deadOk, ne_eq, allOk, RVar.val, RVar.ok, retV, PV.seen, PV.view, beq_self_eq_true, PV.flat, PV.noOwn, id_eq, behind, PV.kill, MObj.kill, killTag, reduceCtorEq, nilB]; (try go_unwrap; try simp only [hd1, hd2, toNat_add2, toNat_add1, Int.toNat_natCast, Bool.false_and, Bool.true_and, true_implies, true_and, Bool.false_eq_true, reduceCtorEq, false_implies, Bool.not_false, Bool.not_true, Bool.true_or, Bool.false_or]); exact h21)); (try (case hs => rfl)); (try (case hf => first | exact Or.inl rfl | exact Or.inr ⟨rfl, rfl⟩ | exact Or.inr ⟨rfl, by simp only [hd1, hd2, SS, SS2, gArgs, gOk, Nat.reduceAdd, PV.shift, MObj.shift, rdV, rdD, reduceIte, Nat.reduceEqDiff, Nat.reduceBEq, PV.bin, PV.binOk, binI, binS, PV.withInt, PV.withIntP, okAll, PV.under, PV.okUnder, eq_self, implies_true, deadOk, ne_eq, allOk, RVar.val, RVar.ok, retV, PV.seen, PV.view, beq_self_eq_true, PV.flat, PV.noOwn, id_eq, behind, PV.kill, MObj.kill, killTag, reduceCtorEq, nilB]⟩)); all_goals (simp only [hd1, hd2, SS, SS2, gArgs, gOk, Nat.reduceAdd, PV.shift, MObj.shift, rdV, rdD, reduceIte, Nat.reduceEqDiff, Nat.reduceBEq, PV.bin, PV.binOk, binI, binS, PV.withInt, PV.withIntP, okAll, PV.under, PV.okUnder, eq_self, implies_true, deadOk, ne_eq, allOk, RVar.val, RVar.ok, retV, PV.seen, PV.view, beq_self_eq_true, PV.flat, PV.noOwn, id_eq, behind, PV.kill, MObj.kill, killTag, reduceCtorEq, nilB]; (try go_unwrap; try simp only [hd1, hd2, toNat_add2, toNat_add1, Int.toNat_natCast, Bool.false_and, Bool.true_and, true_implies, true_and, Bool.false_eq_true, reduceCtorEq, false_implies, Bool.not_false, Bool.not_true, Bool.true_or, Bool.false_or]))) | (apply goCall_V e21; (case hV => (simp only [hd1, hd2, SS, SS2, gArgs, gOk, Nat.reduceAdd, PV.shift, MObj.shift, rdV, rdD, reduceIte, Nat.reduceEqDiff, Nat.reduceBEq, PV.bin, PV.binOk, binI, binS, PV.withInt, PV.withIntP, okAll, PV.under, PV.okUnder, eq_self, implies_true, deadOk, ne_eq, allOk, RVar.val, RVar.ok, retV, PV.seen, PV.view, beq_self_eq_true, PV.flat, PV.noOwn, id_eq, behind, PV.kill, MObj.kill, killTag, reduceCtorEq, nilB]; (try go_unwrap; try simp only [hd1, hd2, toNat_add2, toNat_add1, Int.toNat_natCast, Bool.false_and, Bool.true_and, true_implies, true_and, Bool.false_eq_true, reduceCtorEq, false_implies, Bool.not_false, Bool.not_true, Bool.true_or, Bool.false_or]); exact h21')); (try (case hs => rfl)); (try (case hf => first | exact Or.inl rfl | exact Or.inr ⟨rfl, rfl⟩ | exact Or.inr ⟨rfl, by simp only [hd1, hd2, SS, SS2, gArgs, gOk, Nat.reduceAdd, PV.shift, MObj.shift, rdV, rdD, reduceIte, Nat.reduceEqDiff, Nat.reduceBEq, PV.bin, PV.binOk, binI, binS, PV.withInt, PV.withIntP, okAll, PV.under, PV.okUnder, eq_self, implies_true, deadOk, ne_eq, allOk, RVar.val, RVar.ok, retV, PV.seen, PV.view, beq_self_eq_true, PV.flat, PV.noOwn, id_eq, behind, PV.kill, MObj.kill, killTag, reduceCtorEq, nilB]⟩)); all_goals (simp only [hd1, hd2, SS, SS2, gArgs, gOk, Nat.reduceAdd, PV.shift, MObj.shift, rdV, rdD, reduceIte, Nat.reduceEqDiff, Nat.reduceBEq, PV.bin, PV.binOk, binI, binS, PV.withInt, PV.withIntP, okAll, PV.under, PV.okUnder, eq_self, implies_true, deadOk, ne_eq, allOk, RVar.val, RVar.ok, retV, PV.seen, PV.view, beq_self_eq_true, PV.flat, PV.noOwn, id_eq, behind, PV.kill, MObj.kill, killTag, reduceCtorEq, nilB]; (try go_unwrap; try simp only [hd1, hd2, toNat_add2, toNat_add1, Int.toNat_natCast, Bool.false_and, Bool.true_and, true_implies, true_and, Bool.false_eq_true, reduceCtorEq, false_implies, Bool.not_false, Bool.not_true, Bool.true_or, Bool.false_or]))) | (apply goCall_V e24; (case hV => (simp only [hd1, hd2, SS, SS2, gArgs, gOk, Nat.reduceAdd, PV.shift, MObj.shift, rdV, rdD, reduceIte, Nat.reduceEqDiff, Nat.reduceBEq, PV.bin, PV.binOk, binI, binS, PV.withInt, PV.withIntP, okAll, PV.under, PV.okUnder, eq_self, implies_true, deadOk, ne_eq, allOk, RVar.val, RVar.ok, retV, PV.seen, PV.view, beq_self_eq_true, PV.flat, PV.noOwn, id_eq, behind, PV.kill, MObj.kill, killTag, reduceCtorEq, nilB]; (try go_unwrap; try simp only [hd1, hd2, toNat_add2, toNat_add1, Int.toNat_natCast, Bool.false_and, Bool.true_and, true_implies, true_and, Bool.false_eq_true, reduceCtorEq, false_implies, Bool.not_false, Bool.not_true, Bool.true_or, Bool.false_or]); exact (h24' _ (by rw [List.drop_take]; congr 1; omega)))); (try (case hs => rfl)); (try (case hf => first | exact Or.inl rfl | exact Or.inr ⟨rfl, rfl⟩ | exact Or.inr ⟨rfl, by simp only [hd1, hd2, SS, SS2, gArgs, gOk, Nat.reduceAdd, PV.shift, MObj.shift, rdV, rdD, reduceIte, Nat.reduceEqDiff, Nat.reduceBEq, PV.bin, PV.binOk, binI, binS, PV.withInt, PV.withIntP, okAll, PV.under, PV.okUnder, eq_self, implies_true, deadOk, ne_eq, allOk, RVar.val, RVar.ok, retV, PV.seen, PV.view, beq_self_eq_true, PV.flat, PV.noOwn, id_eq, behind, PV.kill, MObj.kill, killTag, reduceCtorEq, nilB]⟩)); all_goals (simp only [hd1, hd2, SS, SS2, gArgs, gOk, Nat.reduceAdd, PV.shift, MObj.shift, rdV, rdD, reduceIte, Nat.reduceEqDiff, Nat.reduceBEq, PV.bin, PV.binOk, binI, binS, PV.withInt, PV.withIntP, okAll, PV.under, PV.okUnder, eq_self, implies_true, deadOk, ne_eq, allOk, RVar.val, RVar.ok, retV, PV.seen, PV.view, beq_self_eq_true, PV.flat, PV.noOwn, id_eq, behind, PV.kill, MObj.kill, killTag, reduceCtorEq, nilB]; (try go_unwrap; try simp only [hd1, hd2, toNat_add2, toNat_add1, Int.toNat_natCast, Bool.false_and, Bool.true_and, true_implies, true_and, Bool.false_eq_true, reduceCtorEq, false_implies, Bool.not_false, Bool.not_true, Bool.true_or, Bool.false_or]))) | refine And.intro ?_ ?_ | exact (fun h => Bool.noConfusion h) | omega | (simp only [decide_eq_true_eq, decide_eq_false_iff_not, List.length_cons, List.length_nil, List.length_append, List.length_map, Sh.size] <;> omega) | (go_unwrap; omega))
    · rw [if_pos (by omega)]; rfl
    · rw [if_neg (by omega), if_pos (by omega)]; rfl
    · simp only [Bool.not_eq_true', decide_eq_false_iff_not] at hcond
      rw [if_neg (by omega), if_neg (by omega), if_neg (by omega)]; rfl
    · simp only [Bool.not_eq_false', decide_eq_true_eq] at hcond
      rw [if_neg (by omega), if_neg (by omega), if_pos (by omega)]
      simp only [lexNum]
      congr 3; omega
  · rw [if_neg hp]
    obtain ⟨a, h24'⟩ := h24 _ _ _ _ c0 (by simp [partV]) (by simp; omega)
    generalize milV (List.take n (List.drop at_ s)) [] = v at *
    have hd1 : (decide ((at_ : Int) + n < s.length) && decide (((s.getD (at_ + n) 0).toNat : Int) = 46)) = false := by
      simp only [Bool.and_eq_false_iff, decide_eq_false_iff_not]
      rcases Nat.lt_or_ge n (s.drop at_).length with h | h
      · refine .inr fun h' => hp ⟨h, ?_⟩
        rw [hg]
        exact UInt8.toNat_inj.1 (Int.ofNat.inj h')
      · exact .inl (by omega)
    simp only [c20, L20, argE]
    repeat' (first | refine PW.seq ?_ | refine PW.block ?_ | ((first | refine PW.region ?_ | refine PW.regionQ ?_ | refine PW.exit ?_ | refine PW.ret ?_ | refine PW.skip ?_); simp only [hd1, SS, SS2, gArgs, gOk, Nat.reduceAdd, PV.shift, MObj.shift, rdV, rdD, reduceIte, Nat.reduceEqDiff, Nat.reduceBEq, PV.bin, PV.binOk, binI, binS, PV.withInt, PV.withIntP, okAll, PV.under, PV.okUnder, eq_self, implies_true, deadOk, ne_eq, allOk, RVar.val, RVar.ok, retV, PV.seen, PV.view, beq_self_eq_true, PV.flat, PV.noOwn, id_eq, behind, PV.kill, MObj.kill, killTag, reduceCtorEq, nilB]; (try go_unwrap; try simp only [hd1, toNat_add2, toNat_add1, Int.toNat_natCast, Bool.false_and, Bool.true_and, true_implies, true_and, Bool.false_eq_true, reduceCtorEq, false_implies, Bool.not_false, Bool.not_true, Bool.true_or, Bool.false_or])) | refine PW.regionA ?_ | exact schedW_stop_i | ((first | refine schedW_alt_i ?_ ?_ | refine schedW_done_i ?_); focus (simp only [hd1, SS, SS2, gArgs, gOk, Nat.reduceAdd, PV.shift, MObj.shift, rdV, rdD, reduceIte, Nat.reduceEqDiff, Nat.reduceBEq, PV.bin, PV.binOk, binI, binS, PV.withInt, PV.withIntP, okAll, PV.under, PV.okUnder, eq_self, implies_true, deadOk, ne_eq, allOk, RVar.val, RVar.ok, retV, PV.seen, PV.view, beq_self_eq_true, PV.flat, PV.noOwn, id_eq, behind, PV.kill, MObj.kill, killTag, reduceCtorEq, nilB]; (try go_unwrap; try simp only [hd1, toNat_add2, toNat_add1, Int.toNat_natCast, Bool.false_and, Bool.true_and, true_implies, true_and, Bool.false_eq_true, reduceCtorEq, false_implies, Bool.not_false, Bool.not_true, Bool.true_or, Bool.false_or]))) | (refine PW.cond rfl ?_ ?_ <;> intro hcond <;> (try contradiction) <;> try simp only [decide_eq_true_eq, decide_eq_false_iff_not] at hcond) | (apply goCall_V e21; (case hV => (simp only [hd1, SS, SS2, gArgs, gOk, Nat.reduceAdd, PV.shift, MObj.shift, rdV, rdD, reduceIte, Nat.reduceEqDiff, Nat.reduceBEq, PV.bin, PV.binOk, binI, binS, PV.withInt, PV.withIntP, okAll, PV.under, PV.okUnder, eq_self, implies_true, deadOk, ne_eq, allOk, RVar.val, RVar.ok, retV, PV.seen, PV.view, beq_self_eq_true, PV.flat, PV.noOwn, id_eq, behind, PV.kill, MObj.kill, killTag, reduceCtorEq, nilB]; (try go_unwrap; try simp only [hd1, toNat_add2, toNat_add1, Int.toNat_natCast, Bool.false_and, Bool.true_and, true_implies, true_and, Bool.false_eq_true, reduceCtorEq, false_implies, Bool.not_false, Bool.not_true, Bool.true_or, Bool.false_or]); exact h21)); (try (case hs => rfl)); (try (case hf => first | exact Or.inl rfl | exact Or.inr ⟨rfl, rfl⟩ | exact Or.inr ⟨rfl, by simp only [hd1, SS, SS2, gArgs, gOk, Nat.reduceAdd, PV.shift, MObj.shift, rdV, rdD, reduceIte, Nat.reduceEqDiff, Nat.reduceBEq, PV.bin, PV.binOk, binI, binS, PV.withInt, PV.withIntP, okAll, PV.under, PV.okUnder, eq_self, implies_true, deadOk, ne_eq, allOk, RVar.val, RVar.ok, retV, PV.seen, PV.view, beq_self_eq_true, PV.flat, PV.noOwn, id_eq, behind, PV.kill, MObj.kill, killTag, reduceCtorEq, nilB]⟩)); all_goals (simp only [hd1, SS, SS2, gArgs, gOk, Nat.reduceAdd, PV.shift, MObj.shift, rdV, rdD, reduceIte, Nat.reduceEqDiff, Nat.reduceBEq, PV.bin, PV.binOk, binI, binS, PV.withInt, PV.withIntP, okAll, PV.under, PV.okUnder, eq_self, implies_true, deadOk, ne_eq, allOk, RVar.val, RVar.ok, retV, PV.seen, PV.view, beq_self_eq_true, PV.flat, PV.noOwn, id_eq, behind, PV.kill, MObj.kill, killTag, reduceCtorEq, nilB]; (try go_unwrap; try simp only [hd1, toNat_add2, toNat_add1, Int.toNat_natCast, Bool.false_and, Bool.true_and, true_implies, true_and, Bool.false_eq_true, reduceCtorEq, false_implies, Bool.not_false, Bool.not_true, Bool.true_or, Bool.false_or]))) | (apply goCall_V e24; (case hV => (simp only [hd1, SS, SS2, gArgs, gOk, Nat.reduceAdd, PV.shift, MObj.shift, rdV, rdD, reduceIte, Nat.reduceEqDiff, Nat.reduceBEq, PV.bin, PV.binOk, binI, binS, PV.withInt, PV.withIntP, okAll, PV.under, PV.okUnder, eq_self, implies_true, deadOk, ne_eq, allOk, RVar.val, RVar.ok, retV, PV.seen, PV.view, beq_self_eq_true, PV.flat, PV.noOwn, id_eq, behind, PV.kill, MObj.kill, killTag, reduceCtorEq, nilB]; (try go_unwrap; try simp only [hd1, toNat_add2, toNat_add1, Int.toNat_natCast, Bool.false_and, Bool.true_and, true_implies, true_and, Bool.false_eq_true, reduceCtorEq, false_implies, Bool.not_false, Bool.not_true, Bool.true_or, Bool.false_or]); exact (h24' _ (by rw [List.drop_take]; congr 1; omega)))); (try (case hs => rfl)); (try (case hf => first | exact Or.inl rfl | exact Or.inr ⟨rfl, rfl⟩ | exact Or.inr ⟨rfl, by simp only [hd1, SS, SS2, gArgs, gOk, Nat.reduceAdd, PV.shift, MObj.shift, rdV, rdD, reduceIte, Nat.reduceEqDiff, Nat.reduceBEq, PV.bin, PV.binOk, binI, binS, PV.withInt, PV.withIntP, okAll, PV.under, PV.okUnder, eq_self, implies_true, deadOk, ne_eq, allOk, RVar.val, RVar.ok, retV, PV.seen, PV.view, beq_self_eq_true, PV.flat, PV.noOwn, id_eq, behind, PV.kill, MObj.kill, killTag, reduceCtorEq, nilB]⟩)); all_goals (simp only [hd1, SS, SS2, gArgs, gOk, Nat.reduceAdd, PV.shift, MObj.shift, rdV, rdD, reduceIte, Nat.reduceEqDiff, Nat.reduceBEq, PV.bin, PV.binOk, binI, binS, PV.withInt, PV.withIntP, okAll, PV.under, PV.okUnder, eq_self, implies_true, deadOk, ne_eq, allOk, RVar.val, RVar.ok, retV, PV.seen, PV.view, beq_self_eq_true, PV.flat, PV.noOwn, id_eq, behind, PV.kill, MObj.kill, killTag, reduceCtorEq, nilB]; (try go_unwrap; try simp only [hd1, toNat_add2, toNat_add1, Int.toNat_natCast, Bool.false_and, Bool.true_and, true_implies, true_and, Bool.false_eq_true, reduceCtorEq, false_implies, Bool.not_false, Bool.not_true, Bool.true_or, Bool.false_or]))) | refine And.intro ?_ ?_ | exact (fun h => Bool.noConfusion h) | omega | (simp only [decide_eq_true_eq, decide_eq_false_iff_not, List.length_cons, List.length_nil, List.length_append, List.length_map, Sh.size] <;> omega) | (go_unwrap; omega))
    · simp only [Bool.not_eq_true', decide_eq_false_iff_not] at hcond
      rw [if_neg (by omega)]; rfl
    · simp only [Bool.not_eq_false', decide_eq_true_eq] at hcond
      rw [if_pos (by omega)]; rfl
end Go.Proofs.Ytbbfjkjgboljkaa
