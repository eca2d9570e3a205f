import Derived.Test.YthekpjhffciakaaDoorQ9
namespace Go.Proofs.YthekpjhffciakaaDoor
open Go PG Go.Proofs
set_option linter.unusedSimpArgs false
set_option linter.unusedVariables false
set_option maxHeartbeats 4000000
set_option maxRecDepth 100000
variable {G : Globs}
theorem e45 : Ent Tryd.prog 45 := ⟨Tryd.f45, Tryd.func45, by kernel_rfl, by kernel_rfl⟩
theorem e75 : Ent Tryd.prog 75 := ⟨Tryd.f75, Tryd.func75, by kernel_rfl, by kernel_rfl⟩
theorem e43 : Ent Tryd.prog 43 := ⟨Tryd.f43, Tryd.func43, by kernel_rfl, by kernel_rfl⟩
theorem e19 : Ent Tryd.prog 19 := ⟨Tryd.f19, Tryd.func19, by kernel_rfl, by kernel_rfl⟩
theorem partV_digits (u : Nat) (l : List UInt8) : partV u (l.take (runL digitB l)) ≤ 10 * u - 1 := by
  induction l generalizing u with
  | nil => simp [runL, partV]
  | cons b l ih =>
    by_cases hb : digitB b = true
    · have h := ih (u / 10)
      have h1 : (b - 48).toNat ≤ 9 := by
        simp only [digitB, Bool.and_eq_true, decide_eq_true_eq] at hb
        rw [UInt8.toNat_sub]
        have := b.toNat_lt
        simp; omega
      have h2 : u * (b - 48).toNat ≤ u * 9 := Nat.mul_le_mul_left u h1
      simp only [runL, hb, if_true, List.take_succ_cons, partV]
      omega
    · simp [runL, hb, partV]
theorem valV_eq {t w r : List UInt8} {b : Bool} (h : cutS t 46 = (w, r, b)) (hp : partV 100000 r ≤ 999999) :
    ∃ a : Int, valV t = .tup [.int .i64 a, .bool (decide (milV w r ≤ 1000000000000000000))] ∧ (milV w r ≤ 1000000000000000000 → a = (milV w r : Int)) := by
  unfold valV milV
  rw [h]
  rcases lexV_capV (n := 0) (l := w) (by omega) with ⟨h1, h2⟩ | ⟨m, h1, h2, h3⟩
  · simp only [h1, h2]
    exact ⟨0, by rw [decide_eq_false (by omega)], fun h => by omega⟩
  · simp only [h1, h2]
    split
    · exact ⟨0, by rw [decide_eq_false (by omega)], fun h => by omega⟩
    · exact ⟨_, by rw [decide_eq_true (by omega)], fun h => rfl⟩

theorem digit_46 {b : UInt8} (h : digitB b = true) : (b == 46) = false := by
  rw [beq_eq_false_iff_ne]
  rintro rfl
  exact absurd h (by decide)
theorem index_run {l r : List UInt8} : Lib.indexByte (l.take (runL digitB l) ++ 46 :: r) 46 = runL digitB l := by
  induction l with
  | nil => simp [runL, Lib.indexByte]
  | cons b l ih =>
    by_cases hb : digitB b = true
    · have h1 := digit_46 hb
      simp only [runL, hb, if_true, List.take_succ_cons, List.cons_append, Lib.indexByte, h1, ih, Bool.false_eq_true, if_false]
      have : ((runL digitB l : Int) == -1) = false := by rw [beq_eq_false_iff_ne]; omega
      rw [this]; simp
    · simp [runL, hb, Lib.indexByte]
theorem index_run0 {l : List UInt8} : Lib.indexByte (l.take (runL digitB l)) 46 = -1 := by
  induction l with
  | nil => simp [runL, Lib.indexByte]
  | cons b l ih =>
    by_cases hb : digitB b = true
    · have h1 := digit_46 hb
      simp only [runL, hb, if_true, List.take_succ_cons, Lib.indexByte, h1, ih, Bool.false_eq_true, if_false]
      rfl
    · simp [runL, hb, Lib.indexByte]
theorem cut_run0 (l : List UInt8) : cutS (l.take (runL digitB l)) 46 = (l.take (runL digitB l), [], false) := by
  unfold cutS; rw [index_run0]; rfl
theorem cut_run1 (l r : List UInt8) : cutS (l.take (runL digitB l) ++ 46 :: r) 46 = (l.take (runL digitB l), r, true) := by
  unfold cutS; rw [index_run]
  have h1 := runL_le digitB l
  have hl : (l.take (runL digitB l)).length = runL digitB l := by rw [List.length_take]; omega
  rw [if_pos (by omega), Int.toNat_natCast]
  congr 1
  · rw [List.take_append_of_le_length (by omega), List.take_of_length_le (by omega)]
  · congr 1
    rw [List.drop_append]
    rw [List.drop_eq_nil_of_le (by omega), hl, Nat.add_sub_cancel_left]
    rfl

/-- The number with which a text begins. -/
def numL (l : List UInt8) : Except (Nat × Nat) (Nat × Nat) :=
  if runL digitB l < l.length ∧ l.getD (runL digitB l) 0 = 46 then
    if runL digitB (l.drop (runL digitB l + 1)) = 0 then .error (runL digitB l, 3)
    else if 4 < runL digitB (l.drop (runL digitB l + 1)) then .error (runL digitB l + 5, 3)
    else if milV (l.take (runL digitB l)) ((l.drop (runL digitB l + 1)).take (runL digitB (l.drop (runL digitB l + 1)))) ≤ 1000000000000000000 then
      .ok (runL digitB l + 1 + runL digitB (l.drop (runL digitB l + 1)), milV (l.take (runL digitB l)) ((l.drop (runL digitB l + 1)).take (runL digitB (l.drop (runL digitB l + 1)))))
      else .error (0, 2)
  else if milV (l.take (runL digitB l)) [] ≤ 1000000000000000000 then .ok (runL digitB l, milV (l.take (runL digitB l)) []) else .error (0, 2)
def lexNum (a : Nat) : Except (Nat × Nat) (Nat × Nat) → PV
  | .error (o, e) => .tup [.int .i64 0, .int .i64 (a + o : Nat), .int .i64 e]
  | .ok (n, _) => .tup [.int .i64 n, .int .i64 0, .int .i64 0]
theorem take_split {l : List UInt8} {n k : Nat} (h : n < l.length) (hb : l.getD n 0 = 46) : l.take (n + 1 + k) = l.take n ++ 46 :: (l.drop (n + 1)).take k := by
  rw [show n + 1 + k = n + (1 + k) by omega, List.take_add, drop_cons h, hb, show 1 + k = k + 1 by omega, List.take_succ_cons]

theorem v45 (s : List UInt8) (at_ : Nat) (hs : s.length ≤ 9223372036854775800) (hat : at_ ≤ s.length) : VCalls Tryd.prog G 45 [.str s, .int .i64 at_] (lexNum at_ (numL (s.drop at_))) := by
  refine VCalls.of_PW Tryd.func45 k45 mix (by simp [c45]) ?_
  have h21 := v46 (G := G) s at_ 44 digitB (by omega) hat e44 v44
  have h0 : runL digitB (s.drop at_) ≤ (s.drop at_).length := runL_le _ _
  have hl : (s.drop at_).length = s.length - at_ := List.length_drop
  have hg : (s.drop at_).getD (runL digitB (s.drop at_)) 0 = s.getD (at_ + runL digitB (s.drop at_)) 0 := by simp [List.getD]
  have c0 := cut_run0 (s.drop at_)
  have c1 := cut_run1 (s.drop at_)
  unfold numL
  have hdd : (s.drop at_).drop (runL digitB (s.drop at_) + 1) = s.drop (at_ + (runL digitB (s.drop at_) + 1)) := by rw [List.drop_drop]
  have h24 : ∀ t w r b, cutS t 46 = (w, r, b) → partV 100000 r ≤ 999999 → t.length ≤ s.length → ∃ a : Int, ∀ t', t' = t → VCalls Tryd.prog G 49 [.str t'] (.tup [.int .i64 a, .bool (decide (milV w r ≤ 1000000000000000000))]) := by
    intro t w r b hc hr ht
    obtain ⟨a, h1, -⟩ := valV_eq hc hr
    exact ⟨a, by rintro _ rfl; rw [← h1]; exact v49 _ (by omega)⟩
  generalize hn : runL digitB (s.drop at_) = n at *
  by_cases hp : n < (s.drop at_).length ∧ (s.drop at_).getD n 0 = 46
  · rw [if_pos hp]
    have hd1 : decide ((at_ : Int) + n < s.length) = true := by simp only [decide_eq_true_eq]; omega
    have hd2 : decide (((s.getD (at_ + n) 0).toNat : Int) = 46) = true := by rw [← hg, hp.2]; rfl
    have h21' := v46 (G := G) s (at_ + n + 1) 44 digitB (by omega) (by omega) e44 v44
    rw [hdd]
    rw [show at_ + n + 1 = at_ + (n + 1) by omega] at h21'
    have h3 : runL digitB (s.drop (at_ + (n + 1))) ≤ (s.drop (at_ + (n + 1))).length := runL_le _ _
    rw [List.length_drop] at h3
    obtain ⟨a, h24'⟩ := h24 _ _ _ _ (c1 ((s.drop (at_ + (n + 1))).take (runL digitB (s.drop (at_ + (n + 1)))))) (partV_digits _ _) (by simp; omega)
    have ht := take_split (k := runL digitB (s.drop (at_ + (n + 1)))) hp.1 hp.2
    rw [hdd] at ht
    rw [← ht] at h24'
    generalize runL digitB (s.drop (at_ + (n + 1))) = k at *
    generalize milV (List.take n (List.drop at_ s)) (List.take k (List.drop (at_ + (n + 1)) s)) = v at *
    simp only [c45, L45, CC, argE]
    repeat' (first | refine PW.seq ?_ | refine PW.block ?_ | refine PW.regionA ?_ | exact schedW_stop_i | ((first | refine PW.region ?_ | refine PW.regionQ ?_ | refine PW.exit ?_ | refine PW.ret ?_ | refine PW.skip ?_ | refine schedW_alt_i ?_ ?_ | refine schedW_done_i ?_); focus (simp only [hd1, hd2, SA, Nat.reduceAdd, reduceIte, Nat.reduceEqDiff, Nat.reduceBEq, reduceCtorEq]; (try go_unwrap; try simp only [hd1, hd2, RR, reduceCtorEq]))) | (refine PW.cond rfl ?_ ?_ <;> intro hcond <;> (try contradiction) <;> try simp only [DD] at hcond) | (apply goCall_V e46; (case hV => (simp only [hd1, hd2, SA, Nat.reduceAdd, reduceIte, Nat.reduceEqDiff, Nat.reduceBEq, reduceCtorEq]; (try go_unwrap; try simp only [hd1, hd2, RR, reduceCtorEq]); exact h21)); (try (case hs => rfl)); (try (case hf => first | exact Or.inl rfl | exact Or.inr ⟨rfl, rfl⟩ | (refine Or.inl ?_; simp only [hd1, hd2, SA, Nat.reduceAdd, reduceIte, Nat.reduceEqDiff, Nat.reduceBEq, reduceCtorEq]; done) | (refine Or.inr ⟨rfl, ?_⟩; simp only [hd1, hd2, SA, Nat.reduceAdd, reduceIte, Nat.reduceEqDiff, Nat.reduceBEq, reduceCtorEq]; done))); all_goals (simp only [hd1, hd2, SA, Nat.reduceAdd, reduceIte, Nat.reduceEqDiff, Nat.reduceBEq, reduceCtorEq]; (try go_unwrap; try simp only [hd1, hd2, RR, reduceCtorEq]))) | (apply goCall_V e46; (case hV => (simp only [hd1, hd2, SA, Nat.reduceAdd, reduceIte, Nat.reduceEqDiff, Nat.reduceBEq, reduceCtorEq]; (try go_unwrap; try simp only [hd1, hd2, RR, reduceCtorEq]); exact h21')); (try (case hs => rfl)); (try (case hf => first | exact Or.inl rfl | exact Or.inr ⟨rfl, rfl⟩ | (refine Or.inl ?_; simp only [hd1, hd2, SA, Nat.reduceAdd, reduceIte, Nat.reduceEqDiff, Nat.reduceBEq, reduceCtorEq]; done) | (refine Or.inr ⟨rfl, ?_⟩; simp only [hd1, hd2, SA, Nat.reduceAdd, reduceIte, Nat.reduceEqDiff, Nat.reduceBEq, reduceCtorEq]; done))); all_goals (simp only [hd1, hd2, SA, Nat.reduceAdd, reduceIte, Nat.reduceEqDiff, Nat.reduceBEq, reduceCtorEq]; (try go_unwrap; try simp only [hd1, hd2, RR, reduceCtorEq]))) | (apply goCall_V e49; (case hV => (simp only [hd1, hd2, SA, Nat.reduceAdd, reduceIte, Nat.reduceEqDiff, Nat.reduceBEq, reduceCtorEq]; (try go_unwrap; try simp only [hd1, hd2, RR, reduceCtorEq]); exact (h24' _ (by rw [List.drop_take]; congr 1; omega)))); (try (case hs => rfl)); (try (case hf => first | exact Or.inl rfl | exact Or.inr ⟨rfl, rfl⟩ | (refine Or.inl ?_; simp only [hd1, hd2, SA, Nat.reduceAdd, reduceIte, Nat.reduceEqDiff, Nat.reduceBEq, reduceCtorEq]; done) | (refine Or.inr ⟨rfl, ?_⟩; simp only [hd1, hd2, SA, Nat.reduceAdd, reduceIte, Nat.reduceEqDiff, Nat.reduceBEq, reduceCtorEq]; done))); all_goals (simp only [hd1, hd2, SA, Nat.reduceAdd, reduceIte, Nat.reduceEqDiff, Nat.reduceBEq, reduceCtorEq]; (try go_unwrap; try simp only [hd1, hd2, RR, reduceCtorEq]))) | refine And.intro ?_ ?_ | exact Or.inr ⟨rfl, Nat.le_refl _⟩ | exact (fun h => Bool.noConfusion h) | omega | (simp only [DD, LL] <;> omega) | (go_unwrap; omega))
    · rw [if_pos (by omega)]; rfl
    · rw [if_neg (by omega), if_pos (by omega)]; rfl
    · simp only [Bool.not_eq_true', decide_eq_false_iff_not] at hcond
      rw [if_neg (by omega), if_neg (by omega), if_neg (by omega)]; rfl
    · simp only [Bool.not_eq_false', decide_eq_true_eq] at hcond
      rw [if_neg (by omega), if_neg (by omega), if_pos (by omega)]
      simp only [lexNum]
      congr 3; omega
  · rw [if_neg hp]
    obtain ⟨a, h24'⟩ := h24 _ _ _ _ c0 (by simp [partV]) (by simp; omega)
    generalize milV (List.take n (List.drop at_ s)) [] = v at *
    have hd1 : (decide ((at_ : Int) + n < s.length) && decide (((s.getD (at_ + n) 0).toNat : Int) = 46)) = false := by
      simp only [Bool.and_eq_false_iff, decide_eq_false_iff_not]
      rcases Nat.lt_or_ge n (s.drop at_).length with h | h
      · refine .inr fun h' => hp ⟨h, ?_⟩
        rw [hg]
        exact UInt8.toNat_inj.1 (Int.ofNat.inj h')
      · exact .inl (by omega)
    simp only [c45, L45, CC, argE]
    repeat' (first | refine PW.seq ?_ | refine PW.block ?_ | refine PW.regionA ?_ | exact schedW_stop_i | ((first | refine PW.region ?_ | refine PW.regionQ ?_ | refine PW.exit ?_ | refine PW.ret ?_ | refine PW.skip ?_ | refine schedW_alt_i ?_ ?_ | refine schedW_done_i ?_); focus (simp only [hd1, SA, Nat.reduceAdd, reduceIte, Nat.reduceEqDiff, Nat.reduceBEq, reduceCtorEq]; (try go_unwrap; try simp only [hd1, RR, reduceCtorEq]))) | (refine PW.cond rfl ?_ ?_ <;> intro hcond <;> (try contradiction) <;> try simp only [DD] at hcond) | (apply goCall_V e46; (case hV => (simp only [hd1, SA, Nat.reduceAdd, reduceIte, Nat.reduceEqDiff, Nat.reduceBEq, reduceCtorEq]; (try go_unwrap; try simp only [hd1, RR, reduceCtorEq]); exact h21)); (try (case hs => rfl)); (try (case hf => first | exact Or.inl rfl | exact Or.inr ⟨rfl, rfl⟩ | (refine Or.inl ?_; simp only [hd1, SA, Nat.reduceAdd, reduceIte, Nat.reduceEqDiff, Nat.reduceBEq, reduceCtorEq]; done) | (refine Or.inr ⟨rfl, ?_⟩; simp only [hd1, SA, Nat.reduceAdd, reduceIte, Nat.reduceEqDiff, Nat.reduceBEq, reduceCtorEq]; done))); all_goals (simp only [hd1, SA, Nat.reduceAdd, reduceIte, Nat.reduceEqDiff, Nat.reduceBEq, reduceCtorEq]; (try go_unwrap; try simp only [hd1, RR, reduceCtorEq]))) | (apply goCall_V e49; (case hV => (simp only [hd1, SA, Nat.reduceAdd, reduceIte, Nat.reduceEqDiff, Nat.reduceBEq, reduceCtorEq]; (try go_unwrap; try simp only [hd1, RR, reduceCtorEq]); exact (h24' _ (by rw [List.drop_take]; congr 1; omega)))); (try (case hs => rfl)); (try (case hf => first | exact Or.inl rfl | exact Or.inr ⟨rfl, rfl⟩ | (refine Or.inl ?_; simp only [hd1, SA, Nat.reduceAdd, reduceIte, Nat.reduceEqDiff, Nat.reduceBEq, reduceCtorEq]; done) | (refine Or.inr ⟨rfl, ?_⟩; simp only [hd1, SA, Nat.reduceAdd, reduceIte, Nat.reduceEqDiff, Nat.reduceBEq, reduceCtorEq]; done))); all_goals (simp only [hd1, SA, Nat.reduceAdd, reduceIte, Nat.reduceEqDiff, Nat.reduceBEq, reduceCtorEq]; (try go_unwrap; try simp only [hd1, RR, reduceCtorEq]))) | refine And.intro ?_ ?_ | exact Or.inr ⟨rfl, Nat.le_refl _⟩ | exact (fun h => Bool.noConfusion h) | omega | (simp only [DD, LL] <;> omega) | (go_unwrap; omega))
    · simp only [Bool.not_eq_true', decide_eq_false_iff_not] at hcond
      rw [if_neg (by omega)]; rfl
    · simp only [Bool.not_eq_false', decide_eq_true_eq] at hcond
      rw [if_pos (by omega)]; rfl
theorem sign_index (b : UInt8) : decide (0 ≤ Lib.indexByte signs b) = signB b := by
  have h : ∀ l : List UInt8, (0 ≤ Lib.indexByte l b ↔ l.contains b = true) := by
    intro l
    induction l with
    | nil => simp [Lib.indexByte]
    | cons x l ih =>
      have h1 := Lib.indexByte_ge l b
      rw [List.contains_cons, Lib.indexByte]
      by_cases hx : x = b
      · subst hx; simp
      · have hb : (x == b) = false := beq_eq_false_iff_ne.2 hx
        have hb' : (b == x) = false := beq_eq_false_iff_ne.2 (Ne.symm hx)
        rw [hb, hb', Bool.false_or, ← ih]
        simp only [Bool.false_eq_true, if_false, beq_iff_eq]
        split <;> omega
  unfold signB
  rw [Bool.eq_iff_iff, decide_eq_true_eq]
  exact h signs
theorem v75 (s : List UInt8) (at_ : Nat) (hs : s.length ≤ 9223372036854775800) (hat : at_ ≤ s.length) : VCalls Tryd.prog G 75 [.str s, .int .i64 at_]
    (if runL innerB (s.drop at_) ≤ 32 then .tup [.int .i64 (runL innerB (s.drop at_)), .int .i64 0, .int .i64 0] else .tup [.int .i64 0, .int .i64 at_, .int .i64 4]) := by
  refine VCalls.of_PW Tryd.func75 k75 mix (by simp [c75]) ?_
  have h21 := v46 (G := G) s at_ 84 innerB (by omega) hat e84 v84
  generalize runL innerB (s.drop at_) = n at *
  simp only [c75, L75, CC, argE]
  repeat' (first | refine PW.seq ?_ | refine PW.block ?_ | refine PW.regionA ?_ | exact schedW_stop_i | ((first | refine PW.region ?_ | refine PW.regionQ ?_ | refine PW.exit ?_ | refine PW.ret ?_ | refine PW.skip ?_ | refine schedW_alt_i ?_ ?_ | refine schedW_done_i ?_); focus (simp only [SA, Nat.reduceAdd, reduceIte, Nat.reduceEqDiff, Nat.reduceBEq, reduceCtorEq]; (try go_unwrap; try simp only [RR, reduceCtorEq]))) | (refine PW.cond rfl ?_ ?_ <;> intro hcond <;> (try contradiction) <;> try simp only [DD] at hcond) | (apply goCall_V e46; (case hV => (simp only [SA, Nat.reduceAdd, reduceIte, Nat.reduceEqDiff, Nat.reduceBEq, reduceCtorEq]; (try go_unwrap; try simp only [RR, reduceCtorEq]); exact h21)); (try (case hs => rfl)); (try (case hf => first | exact Or.inl rfl | exact Or.inr ⟨rfl, rfl⟩ | (refine Or.inl ?_; simp only [SA, Nat.reduceAdd, reduceIte, Nat.reduceEqDiff, Nat.reduceBEq, reduceCtorEq]; done) | (refine Or.inr ⟨rfl, ?_⟩; simp only [SA, Nat.reduceAdd, reduceIte, Nat.reduceEqDiff, Nat.reduceBEq, reduceCtorEq]; done))); all_goals (simp only [SA, Nat.reduceAdd, reduceIte, Nat.reduceEqDiff, Nat.reduceBEq, reduceCtorEq]; (try go_unwrap; try simp only [RR, reduceCtorEq]))) | refine And.intro ?_ ?_ | exact Or.inr ⟨rfl, Nat.le_refl _⟩ | exact (fun h => Bool.noConfusion h) | omega | (simp only [DD, LL] <;> omega) | (go_unwrap; omega))
  · rw [if_neg (by omega)]
  · rw [if_pos (by omega)]
/-- The token with which a text begins, as lex.token tells it. -/
def lexTok (a : Nat) (l : List UInt8) : PV :=
  if letterB (l.getD 0 0) = true then
    if runL innerB l ≤ 32 then .tup [.int .i64 1, .int .i64 (runL innerB l), .int .i64 0, .int .i64 0] else .tup [.int .i64 1, .int .i64 0, .int .i64 a, .int .i64 4]
  else if digitB (l.getD 0 0) = true then
    match numL l with
    | .ok (n, _) => .tup [.int .i64 2, .int .i64 n, .int .i64 0, .int .i64 0]
    | .error (o, e) => .tup [.int .i64 2, .int .i64 0, .int .i64 (a + o : Nat), .int .i64 e]
  else if signB (l.getD 0 0) = true then .tup [.int .i64 3, .int .i64 1, .int .i64 0, .int .i64 0]
  else .tup [.int .i64 0, .int .i64 0, .int .i64 a, .int .i64 3]
theorem v43 (s : List UInt8) (at_ : Nat) (hs : s.length ≤ 9223372036854775800) (hat : at_ < s.length) : VCalls Tryd.prog G 43 [.str s, .int .i64 at_] (lexTok at_ (s.drop at_)) := by
  refine VCalls.of_PW Tryd.func43 k43 mix (by simp [c43]) ?_
  have hg : (s.drop at_).getD 0 0 = s.getD at_ 0 := by simp [List.getD]
  have h27 := v75 (G := G) s at_ hs (by omega)
  have h20 := v45 (G := G) s at_ hs (by omega)
  have hS : ([43, 45, 42, 40, 41, 44, 60, 61] : List UInt8) = signs := rfl
  have hsi := sign_index (s.getD at_ 0)
  unfold lexTok
  rw [hg]
  simp only [c43, L43, CC, argE]
  cases h1 : letterB (s.getD at_ 0) with
  | true =>
    rw [if_pos rfl]
    split at h27
    · rw [if_pos (by assumption)]
      repeat' (first | refine PW.seq ?_ | refine PW.block ?_ | refine PW.regionA ?_ | exact schedW_stop_i | ((first | refine PW.region ?_ | refine PW.regionQ ?_ | refine PW.exit ?_ | refine PW.ret ?_ | refine PW.skip ?_ | refine schedW_alt_i ?_ ?_ | refine schedW_done_i ?_); focus (simp only [h1, SA, Nat.reduceAdd, reduceIte, Nat.reduceEqDiff, Nat.reduceBEq, reduceCtorEq]; (try go_unwrap; try simp only [h1, RR, reduceCtorEq]))) | (refine PW.cond rfl ?_ ?_ <;> intro hcond <;> (try contradiction) <;> try simp only [DD] at hcond) | (apply goCall_V e74; (case hV => (simp only [h1, SA, Nat.reduceAdd, reduceIte, Nat.reduceEqDiff, Nat.reduceBEq, reduceCtorEq]; (try go_unwrap; try simp only [h1, RR, reduceCtorEq]); exact v74 _)); (try (case hs => rfl)); (try (case hf => first | exact Or.inl rfl | exact Or.inr ⟨rfl, rfl⟩ | (refine Or.inl ?_; simp only [h1, SA, Nat.reduceAdd, reduceIte, Nat.reduceEqDiff, Nat.reduceBEq, reduceCtorEq]; done) | (refine Or.inr ⟨rfl, ?_⟩; simp only [h1, SA, Nat.reduceAdd, reduceIte, Nat.reduceEqDiff, Nat.reduceBEq, reduceCtorEq]; done))); all_goals (simp only [h1, SA, Nat.reduceAdd, reduceIte, Nat.reduceEqDiff, Nat.reduceBEq, reduceCtorEq]; (try go_unwrap; try simp only [h1, RR, reduceCtorEq]))) | (apply goCall_V e75; (case hV => (simp only [h1, SA, Nat.reduceAdd, reduceIte, Nat.reduceEqDiff, Nat.reduceBEq, reduceCtorEq]; (try go_unwrap; try simp only [h1, RR, reduceCtorEq]); exact h27)); (try (case hs => rfl)); (try (case hf => first | exact Or.inl rfl | exact Or.inr ⟨rfl, rfl⟩ | (refine Or.inl ?_; simp only [h1, SA, Nat.reduceAdd, reduceIte, Nat.reduceEqDiff, Nat.reduceBEq, reduceCtorEq]; done) | (refine Or.inr ⟨rfl, ?_⟩; simp only [h1, SA, Nat.reduceAdd, reduceIte, Nat.reduceEqDiff, Nat.reduceBEq, reduceCtorEq]; done))); all_goals (simp only [h1, SA, Nat.reduceAdd, reduceIte, Nat.reduceEqDiff, Nat.reduceBEq, reduceCtorEq]; (try go_unwrap; try simp only [h1, RR, reduceCtorEq]))) | refine And.intro ?_ ?_ | exact Or.inr ⟨rfl, Nat.le_refl _⟩ | exact (fun h => Bool.noConfusion h) | omega | (simp only [DD, LL] <;> omega) | (go_unwrap; omega))
    · rw [if_neg (by assumption)]
      repeat' (first | refine PW.seq ?_ | refine PW.block ?_ | refine PW.regionA ?_ | exact schedW_stop_i | ((first | refine PW.region ?_ | refine PW.regionQ ?_ | refine PW.exit ?_ | refine PW.ret ?_ | refine PW.skip ?_ | refine schedW_alt_i ?_ ?_ | refine schedW_done_i ?_); focus (simp only [h1, SA, Nat.reduceAdd, reduceIte, Nat.reduceEqDiff, Nat.reduceBEq, reduceCtorEq]; (try go_unwrap; try simp only [h1, RR, reduceCtorEq]))) | (refine PW.cond rfl ?_ ?_ <;> intro hcond <;> (try contradiction) <;> try simp only [DD] at hcond) | (apply goCall_V e74; (case hV => (simp only [h1, SA, Nat.reduceAdd, reduceIte, Nat.reduceEqDiff, Nat.reduceBEq, reduceCtorEq]; (try go_unwrap; try simp only [h1, RR, reduceCtorEq]); exact v74 _)); (try (case hs => rfl)); (try (case hf => first | exact Or.inl rfl | exact Or.inr ⟨rfl, rfl⟩ | (refine Or.inl ?_; simp only [h1, SA, Nat.reduceAdd, reduceIte, Nat.reduceEqDiff, Nat.reduceBEq, reduceCtorEq]; done) | (refine Or.inr ⟨rfl, ?_⟩; simp only [h1, SA, Nat.reduceAdd, reduceIte, Nat.reduceEqDiff, Nat.reduceBEq, reduceCtorEq]; done))); all_goals (simp only [h1, SA, Nat.reduceAdd, reduceIte, Nat.reduceEqDiff, Nat.reduceBEq, reduceCtorEq]; (try go_unwrap; try simp only [h1, RR, reduceCtorEq]))) | (apply goCall_V e75; (case hV => (simp only [h1, SA, Nat.reduceAdd, reduceIte, Nat.reduceEqDiff, Nat.reduceBEq, reduceCtorEq]; (try go_unwrap; try simp only [h1, RR, reduceCtorEq]); exact h27)); (try (case hs => rfl)); (try (case hf => first | exact Or.inl rfl | exact Or.inr ⟨rfl, rfl⟩ | (refine Or.inl ?_; simp only [h1, SA, Nat.reduceAdd, reduceIte, Nat.reduceEqDiff, Nat.reduceBEq, reduceCtorEq]; done) | (refine Or.inr ⟨rfl, ?_⟩; simp only [h1, SA, Nat.reduceAdd, reduceIte, Nat.reduceEqDiff, Nat.reduceBEq, reduceCtorEq]; done))); all_goals (simp only [h1, SA, Nat.reduceAdd, reduceIte, Nat.reduceEqDiff, Nat.reduceBEq, reduceCtorEq]; (try go_unwrap; try simp only [h1, RR, reduceCtorEq]))) | refine And.intro ?_ ?_ | exact Or.inr ⟨rfl, Nat.le_refl _⟩ | exact (fun h => Bool.noConfusion h) | omega | (simp only [DD, LL] <;> omega) | (go_unwrap; omega))
  | false =>
    rw [if_neg (by simp)]
    cases h2 : digitB (s.getD at_ 0) with
    | true =>
      rw [if_pos rfl]
      generalize numL (s.drop at_) = z at *
      rcases z with ⟨o, e⟩ | ⟨n, v⟩
      · simp only [lexNum] at h20
        repeat' (first | refine PW.seq ?_ | refine PW.block ?_ | refine PW.regionA ?_ | exact schedW_stop_i | ((first | refine PW.region ?_ | refine PW.regionQ ?_ | refine PW.exit ?_ | refine PW.ret ?_ | refine PW.skip ?_ | refine schedW_alt_i ?_ ?_ | refine schedW_done_i ?_); focus (simp only [h1, h2, SA, Nat.reduceAdd, reduceIte, Nat.reduceEqDiff, Nat.reduceBEq, reduceCtorEq]; (try go_unwrap; try simp only [h1, h2, RR, reduceCtorEq]))) | (refine PW.cond rfl ?_ ?_ <;> intro hcond <;> (try contradiction) <;> try simp only [DD] at hcond) | (apply goCall_V e74; (case hV => (simp only [h1, h2, SA, Nat.reduceAdd, reduceIte, Nat.reduceEqDiff, Nat.reduceBEq, reduceCtorEq]; (try go_unwrap; try simp only [h1, h2, RR, reduceCtorEq]); exact v74 _)); (try (case hs => rfl)); (try (case hf => first | exact Or.inl rfl | exact Or.inr ⟨rfl, rfl⟩ | (refine Or.inl ?_; simp only [h1, h2, SA, Nat.reduceAdd, reduceIte, Nat.reduceEqDiff, Nat.reduceBEq, reduceCtorEq]; done) | (refine Or.inr ⟨rfl, ?_⟩; simp only [h1, h2, SA, Nat.reduceAdd, reduceIte, Nat.reduceEqDiff, Nat.reduceBEq, reduceCtorEq]; done))); all_goals (simp only [h1, h2, SA, Nat.reduceAdd, reduceIte, Nat.reduceEqDiff, Nat.reduceBEq, reduceCtorEq]; (try go_unwrap; try simp only [h1, h2, RR, reduceCtorEq]))) | (apply goCall_V e44; (case hV => (simp only [h1, h2, SA, Nat.reduceAdd, reduceIte, Nat.reduceEqDiff, Nat.reduceBEq, reduceCtorEq]; (try go_unwrap; try simp only [h1, h2, RR, reduceCtorEq]); exact v44 _)); (try (case hs => rfl)); (try (case hf => first | exact Or.inl rfl | exact Or.inr ⟨rfl, rfl⟩ | (refine Or.inl ?_; simp only [h1, h2, SA, Nat.reduceAdd, reduceIte, Nat.reduceEqDiff, Nat.reduceBEq, reduceCtorEq]; done) | (refine Or.inr ⟨rfl, ?_⟩; simp only [h1, h2, SA, Nat.reduceAdd, reduceIte, Nat.reduceEqDiff, Nat.reduceBEq, reduceCtorEq]; done))); all_goals (simp only [h1, h2, SA, Nat.reduceAdd, reduceIte, Nat.reduceEqDiff, Nat.reduceBEq, reduceCtorEq]; (try go_unwrap; try simp only [h1, h2, RR, reduceCtorEq]))) | (apply goCall_V e45; (case hV => (simp only [h1, h2, SA, Nat.reduceAdd, reduceIte, Nat.reduceEqDiff, Nat.reduceBEq, reduceCtorEq]; (try go_unwrap; try simp only [h1, h2, RR, reduceCtorEq]); exact h20)); (try (case hs => rfl)); (try (case hf => first | exact Or.inl rfl | exact Or.inr ⟨rfl, rfl⟩ | (refine Or.inl ?_; simp only [h1, h2, SA, Nat.reduceAdd, reduceIte, Nat.reduceEqDiff, Nat.reduceBEq, reduceCtorEq]; done) | (refine Or.inr ⟨rfl, ?_⟩; simp only [h1, h2, SA, Nat.reduceAdd, reduceIte, Nat.reduceEqDiff, Nat.reduceBEq, reduceCtorEq]; done))); all_goals (simp only [h1, h2, SA, Nat.reduceAdd, reduceIte, Nat.reduceEqDiff, Nat.reduceBEq, reduceCtorEq]; (try go_unwrap; try simp only [h1, h2, RR, reduceCtorEq]))) | refine And.intro ?_ ?_ | exact Or.inr ⟨rfl, Nat.le_refl _⟩ | exact (fun h => Bool.noConfusion h) | omega | (simp only [DD, LL] <;> omega) | (go_unwrap; omega))
      · simp only [lexNum] at h20
        repeat' (first | refine PW.seq ?_ | refine PW.block ?_ | refine PW.regionA ?_ | exact schedW_stop_i | ((first | refine PW.region ?_ | refine PW.regionQ ?_ | refine PW.exit ?_ | refine PW.ret ?_ | refine PW.skip ?_ | refine schedW_alt_i ?_ ?_ | refine schedW_done_i ?_); focus (simp only [h1, h2, SA, Nat.reduceAdd, reduceIte, Nat.reduceEqDiff, Nat.reduceBEq, reduceCtorEq]; (try go_unwrap; try simp only [h1, h2, RR, reduceCtorEq]))) | (refine PW.cond rfl ?_ ?_ <;> intro hcond <;> (try contradiction) <;> try simp only [DD] at hcond) | (apply goCall_V e74; (case hV => (simp only [h1, h2, SA, Nat.reduceAdd, reduceIte, Nat.reduceEqDiff, Nat.reduceBEq, reduceCtorEq]; (try go_unwrap; try simp only [h1, h2, RR, reduceCtorEq]); exact v74 _)); (try (case hs => rfl)); (try (case hf => first | exact Or.inl rfl | exact Or.inr ⟨rfl, rfl⟩ | (refine Or.inl ?_; simp only [h1, h2, SA, Nat.reduceAdd, reduceIte, Nat.reduceEqDiff, Nat.reduceBEq, reduceCtorEq]; done) | (refine Or.inr ⟨rfl, ?_⟩; simp only [h1, h2, SA, Nat.reduceAdd, reduceIte, Nat.reduceEqDiff, Nat.reduceBEq, reduceCtorEq]; done))); all_goals (simp only [h1, h2, SA, Nat.reduceAdd, reduceIte, Nat.reduceEqDiff, Nat.reduceBEq, reduceCtorEq]; (try go_unwrap; try simp only [h1, h2, RR, reduceCtorEq]))) | (apply goCall_V e44; (case hV => (simp only [h1, h2, SA, Nat.reduceAdd, reduceIte, Nat.reduceEqDiff, Nat.reduceBEq, reduceCtorEq]; (try go_unwrap; try simp only [h1, h2, RR, reduceCtorEq]); exact v44 _)); (try (case hs => rfl)); (try (case hf => first | exact Or.inl rfl | exact Or.inr ⟨rfl, rfl⟩ | (refine Or.inl ?_; simp only [h1, h2, SA, Nat.reduceAdd, reduceIte, Nat.reduceEqDiff, Nat.reduceBEq, reduceCtorEq]; done) | (refine Or.inr ⟨rfl, ?_⟩; simp only [h1, h2, SA, Nat.reduceAdd, reduceIte, Nat.reduceEqDiff, Nat.reduceBEq, reduceCtorEq]; done))); all_goals (simp only [h1, h2, SA, Nat.reduceAdd, reduceIte, Nat.reduceEqDiff, Nat.reduceBEq, reduceCtorEq]; (try go_unwrap; try simp only [h1, h2, RR, reduceCtorEq]))) | (apply goCall_V e45; (case hV => (simp only [h1, h2, SA, Nat.reduceAdd, reduceIte, Nat.reduceEqDiff, Nat.reduceBEq, reduceCtorEq]; (try go_unwrap; try simp only [h1, h2, RR, reduceCtorEq]); exact h20)); (try (case hs => rfl)); (try (case hf => first | exact Or.inl rfl | exact Or.inr ⟨rfl, rfl⟩ | (refine Or.inl ?_; simp only [h1, h2, SA, Nat.reduceAdd, reduceIte, Nat.reduceEqDiff, Nat.reduceBEq, reduceCtorEq]; done) | (refine Or.inr ⟨rfl, ?_⟩; simp only [h1, h2, SA, Nat.reduceAdd, reduceIte, Nat.reduceEqDiff, Nat.reduceBEq, reduceCtorEq]; done))); all_goals (simp only [h1, h2, SA, Nat.reduceAdd, reduceIte, Nat.reduceEqDiff, Nat.reduceBEq, reduceCtorEq]; (try go_unwrap; try simp only [h1, h2, RR, reduceCtorEq]))) | refine And.intro ?_ ?_ | exact Or.inr ⟨rfl, Nat.le_refl _⟩ | exact (fun h => Bool.noConfusion h) | omega | (simp only [DD, LL] <;> omega) | (go_unwrap; omega))
    | false =>
      rw [if_neg (by simp)]
      cases h3 : signB (s.getD at_ 0) with
      | true =>
        rw [h3] at hsi
        rw [if_pos rfl]
        repeat' (first | refine PW.seq ?_ | refine PW.block ?_ | refine PW.regionA ?_ | exact schedW_stop_i | ((first | refine PW.region ?_ | refine PW.regionQ ?_ | refine PW.exit ?_ | refine PW.ret ?_ | refine PW.skip ?_ | refine schedW_alt_i ?_ ?_ | refine schedW_done_i ?_); focus (simp only [h1, h2, hS, hsi, SA, Nat.reduceAdd, reduceIte, Nat.reduceEqDiff, Nat.reduceBEq, reduceCtorEq]; (try go_unwrap; try simp only [h1, h2, hS, hsi, RR, reduceCtorEq]))) | (refine PW.cond rfl ?_ ?_ <;> intro hcond <;> (try contradiction) <;> try simp only [DD] at hcond) | (apply goCall_V e74; (case hV => (simp only [h1, h2, hS, hsi, SA, Nat.reduceAdd, reduceIte, Nat.reduceEqDiff, Nat.reduceBEq, reduceCtorEq]; (try go_unwrap; try simp only [h1, h2, hS, hsi, RR, reduceCtorEq]); exact v74 _)); (try (case hs => rfl)); (try (case hf => first | exact Or.inl rfl | exact Or.inr ⟨rfl, rfl⟩ | (refine Or.inl ?_; simp only [h1, h2, hS, hsi, SA, Nat.reduceAdd, reduceIte, Nat.reduceEqDiff, Nat.reduceBEq, reduceCtorEq]; done) | (refine Or.inr ⟨rfl, ?_⟩; simp only [h1, h2, hS, hsi, SA, Nat.reduceAdd, reduceIte, Nat.reduceEqDiff, Nat.reduceBEq, reduceCtorEq]; done))); all_goals (simp only [h1, h2, hS, hsi, SA, Nat.reduceAdd, reduceIte, Nat.reduceEqDiff, Nat.reduceBEq, reduceCtorEq]; (try go_unwrap; try simp only [h1, h2, hS, hsi, RR, reduceCtorEq]))) | (apply goCall_V e44; (case hV => (simp only [h1, h2, hS, hsi, SA, Nat.reduceAdd, reduceIte, Nat.reduceEqDiff, Nat.reduceBEq, reduceCtorEq]; (try go_unwrap; try simp only [h1, h2, hS, hsi, RR, reduceCtorEq]); exact v44 _)); (try (case hs => rfl)); (try (case hf => first | exact Or.inl rfl | exact Or.inr ⟨rfl, rfl⟩ | (refine Or.inl ?_; simp only [h1, h2, hS, hsi, SA, Nat.reduceAdd, reduceIte, Nat.reduceEqDiff, Nat.reduceBEq, reduceCtorEq]; done) | (refine Or.inr ⟨rfl, ?_⟩; simp only [h1, h2, hS, hsi, SA, Nat.reduceAdd, reduceIte, Nat.reduceEqDiff, Nat.reduceBEq, reduceCtorEq]; done))); all_goals (simp only [h1, h2, hS, hsi, SA, Nat.reduceAdd, reduceIte, Nat.reduceEqDiff, Nat.reduceBEq, reduceCtorEq]; (try go_unwrap; try simp only [h1, h2, hS, hsi, RR, reduceCtorEq]))) | (apply goCall_V e76; (case hV => (simp only [h1, h2, hS, hsi, SA, Nat.reduceAdd, reduceIte, Nat.reduceEqDiff, Nat.reduceBEq, reduceCtorEq]; (try go_unwrap; try simp only [h1, h2, hS, hsi, RR, reduceCtorEq]); exact v76 _ _)); (try (case hs => rfl)); (try (case hf => first | exact Or.inl rfl | exact Or.inr ⟨rfl, rfl⟩ | (refine Or.inl ?_; simp only [h1, h2, hS, hsi, SA, Nat.reduceAdd, reduceIte, Nat.reduceEqDiff, Nat.reduceBEq, reduceCtorEq]; done) | (refine Or.inr ⟨rfl, ?_⟩; simp only [h1, h2, hS, hsi, SA, Nat.reduceAdd, reduceIte, Nat.reduceEqDiff, Nat.reduceBEq, reduceCtorEq]; done))); all_goals (simp only [h1, h2, hS, hsi, SA, Nat.reduceAdd, reduceIte, Nat.reduceEqDiff, Nat.reduceBEq, reduceCtorEq]; (try go_unwrap; try simp only [h1, h2, hS, hsi, RR, reduceCtorEq]))) | refine And.intro ?_ ?_ | exact Or.inr ⟨rfl, Nat.le_refl _⟩ | exact (fun h => Bool.noConfusion h) | omega | (simp only [DD, LL] <;> omega) | (go_unwrap; omega))
      | false =>
        rw [h3] at hsi
        rw [if_neg (by simp)]
        repeat' (first | refine PW.seq ?_ | refine PW.block ?_ | refine PW.regionA ?_ | exact schedW_stop_i | ((first | refine PW.region ?_ | refine PW.regionQ ?_ | refine PW.exit ?_ | refine PW.ret ?_ | refine PW.skip ?_ | refine schedW_alt_i ?_ ?_ | refine schedW_done_i ?_); focus (simp only [h1, h2, hS, hsi, SA, Nat.reduceAdd, reduceIte, Nat.reduceEqDiff, Nat.reduceBEq, reduceCtorEq]; (try go_unwrap; try simp only [h1, h2, hS, hsi, RR, reduceCtorEq]))) | (refine PW.cond rfl ?_ ?_ <;> intro hcond <;> (try contradiction) <;> try simp only [DD] at hcond) | (apply goCall_V e74; (case hV => (simp only [h1, h2, hS, hsi, SA, Nat.reduceAdd, reduceIte, Nat.reduceEqDiff, Nat.reduceBEq, reduceCtorEq]; (try go_unwrap; try simp only [h1, h2, hS, hsi, RR, reduceCtorEq]); exact v74 _)); (try (case hs => rfl)); (try (case hf => first | exact Or.inl rfl | exact Or.inr ⟨rfl, rfl⟩ | (refine Or.inl ?_; simp only [h1, h2, hS, hsi, SA, Nat.reduceAdd, reduceIte, Nat.reduceEqDiff, Nat.reduceBEq, reduceCtorEq]; done) | (refine Or.inr ⟨rfl, ?_⟩; simp only [h1, h2, hS, hsi, SA, Nat.reduceAdd, reduceIte, Nat.reduceEqDiff, Nat.reduceBEq, reduceCtorEq]; done))); all_goals (simp only [h1, h2, hS, hsi, SA, Nat.reduceAdd, reduceIte, Nat.reduceEqDiff, Nat.reduceBEq, reduceCtorEq]; (try go_unwrap; try simp only [h1, h2, hS, hsi, RR, reduceCtorEq]))) | (apply goCall_V e44; (case hV => (simp only [h1, h2, hS, hsi, SA, Nat.reduceAdd, reduceIte, Nat.reduceEqDiff, Nat.reduceBEq, reduceCtorEq]; (try go_unwrap; try simp only [h1, h2, hS, hsi, RR, reduceCtorEq]); exact v44 _)); (try (case hs => rfl)); (try (case hf => first | exact Or.inl rfl | exact Or.inr ⟨rfl, rfl⟩ | (refine Or.inl ?_; simp only [h1, h2, hS, hsi, SA, Nat.reduceAdd, reduceIte, Nat.reduceEqDiff, Nat.reduceBEq, reduceCtorEq]; done) | (refine Or.inr ⟨rfl, ?_⟩; simp only [h1, h2, hS, hsi, SA, Nat.reduceAdd, reduceIte, Nat.reduceEqDiff, Nat.reduceBEq, reduceCtorEq]; done))); all_goals (simp only [h1, h2, hS, hsi, SA, Nat.reduceAdd, reduceIte, Nat.reduceEqDiff, Nat.reduceBEq, reduceCtorEq]; (try go_unwrap; try simp only [h1, h2, hS, hsi, RR, reduceCtorEq]))) | (apply goCall_V e76; (case hV => (simp only [h1, h2, hS, hsi, SA, Nat.reduceAdd, reduceIte, Nat.reduceEqDiff, Nat.reduceBEq, reduceCtorEq]; (try go_unwrap; try simp only [h1, h2, hS, hsi, RR, reduceCtorEq]); exact v76 _ _)); (try (case hs => rfl)); (try (case hf => first | exact Or.inl rfl | exact Or.inr ⟨rfl, rfl⟩ | (refine Or.inl ?_; simp only [h1, h2, hS, hsi, SA, Nat.reduceAdd, reduceIte, Nat.reduceEqDiff, Nat.reduceBEq, reduceCtorEq]; done) | (refine Or.inr ⟨rfl, ?_⟩; simp only [h1, h2, hS, hsi, SA, Nat.reduceAdd, reduceIte, Nat.reduceEqDiff, Nat.reduceBEq, reduceCtorEq]; done))); all_goals (simp only [h1, h2, hS, hsi, SA, Nat.reduceAdd, reduceIte, Nat.reduceEqDiff, Nat.reduceBEq, reduceCtorEq]; (try go_unwrap; try simp only [h1, h2, hS, hsi, RR, reduceCtorEq]))) | refine And.intro ?_ ?_ | exact Or.inr ⟨rfl, Nat.le_refl _⟩ | exact (fun h => Bool.noConfusion h) | omega | (simp only [DD, LL] <;> omega) | (go_unwrap; omega))
end Go.Proofs.YthekpjhffciakaaDoor

namespace Go.Proofs.YthekpjhffciakaaDoor
open Go PG Go.Proofs
set_option linter.unusedSimpArgs false
set_option linter.unusedVariables false
set_option maxHeartbeats 4000000
set_option maxRecDepth 100000
variable {G : Globs}
def tokP (t : Tok) : PV := .agg [.int .i64 t.1, .str t.2.1, .int .i64 t.2.2]
/-- The token with which a text begins: its kind and length, or where it can't be, and why. -/
def tokE (a : Nat) (l : List UInt8) : Except (Nat × Nat) (Nat × Nat) :=
  if letterB (l.getD 0 0) = true then
    if runL innerB l ≤ 32 then .ok (1, runL innerB l) else .error (a, 4)
  else if digitB (l.getD 0 0) = true then
    match numL l with
    | .ok (n, _) => .ok (2, n)
    | .error (o, e) => .error (a + o, e)
  else if signB (l.getD 0 0) = true then .ok (3, 1)
  else .error (a, 3)
theorem numL_err {l : List UInt8} {o e : Nat} (h : numL l = .error (o, e)) : (e = 2 ∨ e = 3) ∧ o ≤ l.length := by
  have h0 := runL_le digitB l
  unfold numL at h
  split at h
  · rename_i hp
    have h1 := runL_le digitB (l.drop (runL digitB l + 1))
    rw [List.length_drop] at h1
    split at h
    · cases h; omega
    · split at h
      · cases h; omega
      · split at h <;> cases h
        omega
  · split at h <;> cases h
    omega
theorem numL_ok {l : List UInt8} {n v : Nat} (h : numL l = .ok (n, v)) : n ≤ l.length ∧ runL digitB l ≤ n := by
  have h0 := runL_le digitB l
  unfold numL at h
  split at h
  · rename_i hp
    have h1 := runL_le digitB (l.drop (runL digitB l + 1))
    rw [List.length_drop] at h1
    split at h
    · cases h
    · split at h
      · cases h
      · split at h <;> cases h
        omega
  · split at h <;> cases h
    omega
theorem tokE_ok {a : Nat} {l : List UInt8} {k n : Nat} (hl : 0 < l.length) (h : tokE a l = .ok (k, n)) : 1 ≤ n ∧ n ≤ l.length ∧ lexTok a l = .tup [.int .i64 k, .int .i64 n, .int .i64 0, .int .i64 0] := by
  obtain ⟨b, r, rfl⟩ : ∃ b r, l = b :: r := by
    cases l with
    | nil => simp at hl
    | cons b r => exact ⟨b, r, rfl⟩
  unfold tokE at h
  unfold lexTok
  split at h
  · rename_i h1
    rw [if_pos h1]
    split at h
    · rename_i h2
      cases h
      rw [if_pos h2]
      refine ⟨?_, runL_le _ _, rfl⟩
      have h3 : innerB b = true := by
        have h4 : letterB b = true := h1
        simp [innerB, h4]
      simp only [runL, h3, if_true]; omega
    · cases h
  · rename_i h1
    rw [if_neg h1]
    split at h
    · rename_i h2
      rw [if_pos h2]
      cases hn : numL (b :: r) with
      | error e => rw [hn] at h; cases h
      | ok p =>
        obtain ⟨m, v⟩ := p
        rw [hn] at h; cases h
        obtain ⟨h3, h4⟩ := numL_ok hn
        refine ⟨?_, h3, rfl⟩
        have h5 : digitB b = true := h2
        simp only [runL, h5, if_true] at h4; omega
    · rename_i h2
      rw [if_neg h2]
      split at h
      · rename_i h3
        rw [if_pos h3]
        cases h
        exact ⟨by omega, by simp, rfl⟩
      · cases h
theorem tokE_err {a : Nat} {l : List UInt8} {o e : Nat} (h : tokE a l = .error (o, e)) : (e = 2 ∨ e = 3 ∨ e = 4) ∧ a ≤ o ∧ o ≤ a + l.length ∧ ∃ k : Int, lexTok a l = .tup [.int .i64 k, .int .i64 0, .int .i64 o, .int .i64 e] := by
  unfold tokE at h
  unfold lexTok
  split at h
  · rename_i h1
    rw [if_pos h1]
    split at h
    · cases h
    · rename_i h2
      cases h
      rw [if_neg h2]
      exact ⟨by omega, by omega, by omega, 1, rfl⟩
  · rename_i h1
    rw [if_neg h1]
    split at h
    · rename_i h2
      rw [if_pos h2]
      cases hn : numL l with
      | error p =>
        obtain ⟨m, v⟩ := p
        rw [hn] at h; cases h
        obtain ⟨h3, h4⟩ := numL_err hn
        exact ⟨by omega, by omega, by omega, 2, rfl⟩
      | ok p => rw [hn] at h; cases h
    · rename_i h2
      rw [if_neg h2]
      split at h
      · cases h
      · rename_i h3
        rw [if_neg h3]
        cases h
        exact ⟨by omega, by omega, by omega, 0, rfl⟩

/-- The tokens of a text's rest, behind those that are found. -/
def scanA (acc : List Tok) (a : Nat) : List UInt8 → Except (Nat × Nat) (List Tok)
  | [] => .ok (acc ++ [(0, [], a)])
  | b :: r => if b = 32 then scanA acc (a + 1) r else
    match tokE a (b :: r) with
    | .error e => .error e
    | .ok (k, n) => scanA (acc ++ [(k, (b :: r).take n, a)]) (a + n) (r.drop (n - 1))
termination_by l => l.length
decreasing_by all_goals (simp; try omega)
def allE (s : List UInt8) : Except (Nat × Nat) (List Tok) := if 4096 < s.length then .error (0, 4) else scanA [] 0 s
def allP : Except (Nat × Nat) (List Tok) → PV
  | .error (o, e) => .tup [.nilSl, .int .i64 o, .int .i64 e]
  | .ok l => .tup [.list (some 3) (l.map tokP), .int .i64 0, .int .i64 0]
def outV : List Tok → PV
  | [] => .nilSl
  | x :: l => .sl (some 3) 0 (x :: l).length
def outM : List Tok → Mem
  | [] => []
  | x :: l => [some (.row (some 3) ((x :: l).map tokP))]
theorem outV_ne {l : List Tok} (h : l ≠ []) : outV l = .sl (some 3) 0 l.length := by cases l <;> simp_all [outV]
theorem outM_ne {l : List Tok} (h : l ≠ []) : outM l = [some (.row (some 3) (l.map tokP))] := by cases l <;> simp_all [outM]
theorem scan_nil {s : List UInt8} {a : Nat} {acc : List Tok} (h : s.length ≤ a) : scanA acc a (s.drop a) = .ok (acc ++ [(0, [], a)]) := by
  rw [List.drop_eq_nil_of_le h, scanA]
theorem scan_blank {s : List UInt8} {a : Nat} {acc : List Tok} (h : a < s.length) (hb : s.getD a 0 = 32) : scanA acc a (s.drop a) = scanA acc (a + 1) (s.drop (a + 1)) := by
  rw [drop_cons h, scanA, if_pos hb]
theorem scan_tok {s : List UInt8} {a : Nat} {acc : List Tok} {k n : Nat} (h : a < s.length) (hb : s.getD a 0 ≠ 32) (ht : tokE a (s.drop a) = .ok (k, n)) (hn : 1 ≤ n) :
    scanA acc a (s.drop a) = scanA (acc ++ [(k, (s.drop a).take n, a)]) (a + n) (s.drop (a + n)) := by
  rw [drop_cons h] at ht ⊢
  rw [scanA, if_neg hb, ht]
  simp only
  rw [List.drop_drop, show a + 1 + (n - 1) = a + n by omega]
theorem scan_err {s : List UInt8} {a : Nat} {acc : List Tok} {e : Nat × Nat} (h : a < s.length) (hb : s.getD a 0 ≠ 32) (ht : tokE a (s.drop a) = .error e) : scanA acc a (s.drop a) = .error e := by
  rw [drop_cons h] at ht ⊢
  rw [scanA, if_neg hb, ht]

theorem v19 (s : List UInt8) (hs : s.length ≤ 9223372036854775800) : VCalls Tryd.prog G 19 [.str s] (allP (allE s)) := by
  refine VCalls.of_PW Tryd.func19 k19 mix (by simp [c19]) ?_
  unfold allE
  simp only [c19, L19, CC, argE]
  repeat' (first | refine PW.seq ?_ | refine PW.block ?_ | refine PW.regionA ?_ | exact schedW_stop_i | ((first | refine PW.region ?_ | refine PW.regionQ ?_ | refine PW.exit ?_ | refine PW.ret ?_ | refine PW.skip ?_ | refine schedW_alt_i ?_ ?_ | refine schedW_done_i ?_); focus (simp only [SA, Nat.reduceAdd, reduceIte, Nat.reduceEqDiff, Nat.reduceBEq, reduceCtorEq]; (try go_unwrap; try simp only [RR, reduceCtorEq]))) | (refine PW.cond rfl ?_ ?_ <;> intro hcond <;> (try contradiction) <;> try simp only [DD] at hcond) | refine And.intro ?_ ?_ | exact Or.inr ⟨rfl, Nat.le_refl _⟩ | exact (fun h => Bool.noConfusion h) | omega | (simp only [DD, LL] <;> omega) | (go_unwrap; omega))
  · rw [if_pos (by omega)]; rfl
  rw [if_neg (by omega)]
  have hs' : s.length ≤ 4096 := by omega
  refine PW.loop (σ := Nat × List Tok) [0, 5, 6] (fun j => [.str s, outV j.2, .int .i64 j.1]) (fun j => outM j.2) (fun j => j.1 ≤ s.length ∧ j.2.length ≤ j.1 ∧ scanA [] 0 s = scanA j.2 j.1 (s.drop j.1)) (fun j => s.length - j.1) (0, []) ?_ rfl ⟨by simp, by simp, by simp⟩ ?_
  · simp only [SA, Nat.reduceAdd, reduceIte, Nat.reduceEqDiff, Nat.reduceBEq, reduceCtorEq]; rfl
  rintro ⟨a, acc⟩ ⟨ha, hal, hc⟩
  simp only at ha hal hc
  simp only [List.zip_cons_cons, List.zip_nil_left]
  rw [hc]
  rcases Nat.lt_or_ge a s.length with hlt | hlt
  · have hd : decide ((a : Int) < s.length) = true := by simp only [decide_eq_true_eq]; omega
    by_cases hb : s.getD a 0 = 32
    · have hb' : decide (((s.getD a 0).toNat : Int) = 32) = true := by rw [hb]; rfl
      rw [scan_blank hlt hb]
      repeat' (first | refine PW.seq ?_ | refine PW.block ?_ | refine PW.regionA ?_ | exact schedW_stop_i | ((first | refine PW.region ?_ | refine PW.regionQ ?_ | refine PW.exit ?_ | refine PW.ret ?_ | refine PW.skip ?_ | refine schedW_alt_i ?_ ?_ | refine schedW_done_i ?_); focus (simp only [hd, hb', SA, Nat.reduceAdd, reduceIte, Nat.reduceEqDiff, Nat.reduceBEq, reduceCtorEq]; (try go_unwrap; try simp only [hd, hb', RR, reduceCtorEq]))) | (refine PW.cond rfl ?_ ?_ <;> intro hcond <;> (try contradiction) <;> try simp only [DD] at hcond) | refine And.intro ?_ ?_ | exact Or.inr ⟨rfl, Nat.le_refl _⟩ | exact (fun h => Bool.noConfusion h) | omega | (simp only [DD, LL] <;> omega) | (go_unwrap; omega))
      exact ⟨(a + 1, acc), rfl, rfl, ⟨by simp only; omega, by simp only; omega, rfl⟩, by simp only; omega⟩
    · have hb' : decide (((s.getD a 0).toNat : Int) = 32) = false := by
        rw [decide_eq_false_iff_not]; exact fun h => hb (UInt8.toNat_inj.1 (Int.ofNat.inj h))
      have h13 := v43 (G := G) s a hs hlt
      cases ht : tokE a (s.drop a) with
      | error p =>
        obtain ⟨o, e⟩ := p
        obtain ⟨h1, h2, h3, k, h4⟩ := tokE_err ht
        rw [h4] at h13
        rw [scan_err hlt hb ht]
        have he : decide ((e : Int) = 0) = false := by rw [decide_eq_false_iff_not]; omega
        repeat' (first | refine PW.seq ?_ | refine PW.block ?_ | refine PW.regionA ?_ | exact schedW_stop_i | ((first | refine PW.region ?_ | refine PW.regionQ ?_ | refine PW.exit ?_ | refine PW.ret ?_ | refine PW.skip ?_ | refine schedW_alt_i ?_ ?_ | refine schedW_done_i ?_); focus (simp only [hd, hb', he, Bool.not_false, Bool.not_true, SA, Nat.reduceAdd, reduceIte, Nat.reduceEqDiff, Nat.reduceBEq, reduceCtorEq]; (try go_unwrap; try simp only [hd, hb', he, Bool.not_false, Bool.not_true, RR, reduceCtorEq]))) | (refine PW.cond rfl ?_ ?_ <;> intro hcond <;> (try contradiction) <;> try simp only [DD] at hcond) | (apply goCall_V e43; (case hV => (simp only [hd, hb', he, Bool.not_false, Bool.not_true, SA, Nat.reduceAdd, reduceIte, Nat.reduceEqDiff, Nat.reduceBEq, reduceCtorEq]; (try go_unwrap; try simp only [hd, hb', he, Bool.not_false, Bool.not_true, RR, reduceCtorEq]); exact h13)); (try (case hs => rfl)); (try (case hf => first | exact Or.inl rfl | exact Or.inr ⟨rfl, rfl⟩ | (refine Or.inl ?_; simp only [hd, hb', he, Bool.not_false, Bool.not_true, SA, Nat.reduceAdd, reduceIte, Nat.reduceEqDiff, Nat.reduceBEq, reduceCtorEq]; done) | (refine Or.inr ⟨rfl, ?_⟩; simp only [hd, hb', he, Bool.not_false, Bool.not_true, SA, Nat.reduceAdd, reduceIte, Nat.reduceEqDiff, Nat.reduceBEq, reduceCtorEq]; done))); all_goals (simp only [hd, hb', he, Bool.not_false, Bool.not_true, SA, Nat.reduceAdd, reduceIte, Nat.reduceEqDiff, Nat.reduceBEq, reduceCtorEq]; (try go_unwrap; try simp only [hd, hb', he, Bool.not_false, Bool.not_true, RR, reduceCtorEq]))) | refine And.intro ?_ ?_ | exact Or.inr ⟨rfl, Nat.le_refl _⟩ | exact (fun h => Bool.noConfusion h) | omega | (simp only [DD, LL] <;> omega) | (go_unwrap; omega))
        rfl
      | ok p =>
        obtain ⟨k, n⟩ := p
        obtain ⟨h1, h2, h4⟩ := tokE_ok (by simp; omega) ht
        rw [List.length_drop] at h2
        rw [h4] at h13
        rw [scan_tok hlt hb ht h1]
        have he : decide ((0 : Int) = 0) = true := rfl
        have hdt : List.drop a (List.take (a + n) s) = List.take n (List.drop a s) := by rw [List.drop_take, Nat.add_sub_cancel_left]
        by_cases hacc : acc = []
        · subst hacc
          simp only [outV, outM]
          repeat' (first | refine PW.seq ?_ | refine PW.block ?_ | refine PW.regionA ?_ | exact schedW_stop_i | ((first | refine PW.region ?_ | refine PW.regionQ ?_ | refine PW.exit ?_ | refine PW.ret ?_ | refine PW.skip ?_ | refine schedW_alt_i ?_ ?_ | refine schedW_done_i ?_); focus (simp only [hd, hb', he, hdt, Bool.not_false, Bool.not_true, SA, Nat.reduceAdd, reduceIte, Nat.reduceEqDiff, Nat.reduceBEq, reduceCtorEq]; (try go_unwrap; try simp only [hd, hb', he, hdt, Bool.not_false, Bool.not_true, RR, reduceCtorEq]))) | (refine PW.cond rfl ?_ ?_ <;> intro hcond <;> (try contradiction) <;> try simp only [DD] at hcond) | (apply goCall_V e43; (case hV => (simp only [hd, hb', he, hdt, Bool.not_false, Bool.not_true, SA, Nat.reduceAdd, reduceIte, Nat.reduceEqDiff, Nat.reduceBEq, reduceCtorEq]; (try go_unwrap; try simp only [hd, hb', he, hdt, Bool.not_false, Bool.not_true, RR, reduceCtorEq]); exact h13)); (try (case hs => rfl)); (try (case hf => first | exact Or.inl rfl | exact Or.inr ⟨rfl, rfl⟩ | (refine Or.inl ?_; simp only [hd, hb', he, hdt, Bool.not_false, Bool.not_true, SA, Nat.reduceAdd, reduceIte, Nat.reduceEqDiff, Nat.reduceBEq, reduceCtorEq]; done) | (refine Or.inr ⟨rfl, ?_⟩; simp only [hd, hb', he, hdt, Bool.not_false, Bool.not_true, SA, Nat.reduceAdd, reduceIte, Nat.reduceEqDiff, Nat.reduceBEq, reduceCtorEq]; done))); all_goals (simp only [hd, hb', he, hdt, Bool.not_false, Bool.not_true, SA, Nat.reduceAdd, reduceIte, Nat.reduceEqDiff, Nat.reduceBEq, reduceCtorEq]; (try go_unwrap; try simp only [hd, hb', he, hdt, Bool.not_false, Bool.not_true, RR, reduceCtorEq]))) | refine And.intro ?_ ?_ | exact Or.inr ⟨rfl, Nat.le_refl _⟩ | exact (fun h => Bool.noConfusion h) | omega | (simp only [DD, LL] <;> omega) | (go_unwrap; omega))
          exact ⟨(a + n, [(k, List.take n (List.drop a s), a)]), rfl, rfl, ⟨by simp only; omega, by simp; omega, rfl⟩, by simp only; omega⟩
        · have hne : acc ++ [(k, List.take n (List.drop a s), a)] ≠ [] := by simp
          have hov := outV_ne hne
          have hom := outM_ne hne
          rw [List.length_append] at hov
          rw [List.map_append] at hom
          rw [outV_ne hacc, outM_ne hacc]
          have htk : (acc.map tokP).take acc.length = acc.map tokP := by rw [List.take_of_length_le (by simp)]
          repeat' (first | refine PW.seq ?_ | refine PW.block ?_ | refine PW.regionA ?_ | exact schedW_stop_i | ((first | refine PW.region ?_ | refine PW.regionQ ?_ | refine PW.exit ?_ | refine PW.ret ?_ | refine PW.skip ?_ | refine schedW_alt_i ?_ ?_ | refine schedW_done_i ?_); focus (simp only [hd, hb', he, hdt, Bool.not_false, Bool.not_true, htk, List.length_map, SA, Nat.reduceAdd, reduceIte, Nat.reduceEqDiff, Nat.reduceBEq, reduceCtorEq]; (try go_unwrap; try simp only [hd, hb', he, hdt, Bool.not_false, Bool.not_true, htk, List.length_map, RR, reduceCtorEq]))) | (refine PW.cond rfl ?_ ?_ <;> intro hcond <;> (try contradiction) <;> try simp only [DD] at hcond) | (apply goCall_V e43; (case hV => (simp only [hd, hb', he, hdt, Bool.not_false, Bool.not_true, htk, List.length_map, SA, Nat.reduceAdd, reduceIte, Nat.reduceEqDiff, Nat.reduceBEq, reduceCtorEq]; (try go_unwrap; try simp only [hd, hb', he, hdt, Bool.not_false, Bool.not_true, htk, List.length_map, RR, reduceCtorEq]); exact h13)); (try (case hs => rfl)); (try (case hf => first | exact Or.inl rfl | exact Or.inr ⟨rfl, rfl⟩ | (refine Or.inl ?_; simp only [hd, hb', he, hdt, Bool.not_false, Bool.not_true, htk, List.length_map, SA, Nat.reduceAdd, reduceIte, Nat.reduceEqDiff, Nat.reduceBEq, reduceCtorEq]; done) | (refine Or.inr ⟨rfl, ?_⟩; simp only [hd, hb', he, hdt, Bool.not_false, Bool.not_true, htk, List.length_map, SA, Nat.reduceAdd, reduceIte, Nat.reduceEqDiff, Nat.reduceBEq, reduceCtorEq]; done))); all_goals (simp only [hd, hb', he, hdt, Bool.not_false, Bool.not_true, htk, List.length_map, SA, Nat.reduceAdd, reduceIte, Nat.reduceEqDiff, Nat.reduceBEq, reduceCtorEq]; (try go_unwrap; try simp only [hd, hb', he, hdt, Bool.not_false, Bool.not_true, htk, List.length_map, RR, reduceCtorEq]))) | refine And.intro ?_ ?_ | exact Or.inr ⟨rfl, Nat.le_refl _⟩ | exact (fun h => Bool.noConfusion h) | omega | (simp only [DD, LL] <;> omega) | (go_unwrap; omega))
          exact ⟨(a + n, acc ++ [(k, List.take n (List.drop a s), a)]), by simp only [hov]; rfl, by simp only [hom]; rfl, ⟨by simp only; omega, by simp; omega, rfl⟩, by simp only; omega⟩
  · have hd : decide ((a : Int) < s.length) = false := by simp only [decide_eq_false_iff_not]; omega
    rw [scan_nil hlt]
    have hla : a = s.length := by omega
    subst hla
    by_cases hacc : acc = []
    · subst hacc
      simp only [outV, outM]
      repeat' (first | refine PW.seq ?_ | refine PW.block ?_ | refine PW.regionA ?_ | exact schedW_stop_i | ((first | refine PW.region ?_ | refine PW.regionQ ?_ | refine PW.exit ?_ | refine PW.ret ?_ | refine PW.skip ?_ | refine schedW_alt_i ?_ ?_ | refine schedW_done_i ?_); focus (simp only [hd, SA, Nat.reduceAdd, reduceIte, Nat.reduceEqDiff, Nat.reduceBEq, reduceCtorEq]; (try go_unwrap; try simp only [hd, RR, reduceCtorEq]))) | (refine PW.cond rfl ?_ ?_ <;> intro hcond <;> (try contradiction) <;> try simp only [DD] at hcond) | refine And.intro ?_ ?_ | exact Or.inr ⟨rfl, Nat.le_refl _⟩ | exact (fun h => Bool.noConfusion h) | omega | (simp only [DD, LL] <;> omega) | (go_unwrap; omega))
      all_goals rfl
    · rw [outV_ne hacc, outM_ne hacc]
      have htk : (acc.map tokP).take acc.length = acc.map tokP := by rw [List.take_of_length_le (by simp)]
      repeat' (first | refine PW.seq ?_ | refine PW.block ?_ | refine PW.regionA ?_ | exact schedW_stop_i | ((first | refine PW.region ?_ | refine PW.regionQ ?_ | refine PW.exit ?_ | refine PW.ret ?_ | refine PW.skip ?_ | refine schedW_alt_i ?_ ?_ | refine schedW_done_i ?_); focus (simp only [hd, htk, List.length_map, SA, Nat.reduceAdd, reduceIte, Nat.reduceEqDiff, Nat.reduceBEq, reduceCtorEq]; (try go_unwrap; try simp only [hd, htk, List.length_map, RR, reduceCtorEq]))) | (refine PW.cond rfl ?_ ?_ <;> intro hcond <;> (try contradiction) <;> try simp only [DD] at hcond) | refine And.intro ?_ ?_ | exact Or.inr ⟨rfl, Nat.le_refl _⟩ | exact (fun h => Bool.noConfusion h) | omega | (simp only [DD, LL] <;> omega) | (go_unwrap; omega))
      rw [if_pos (by simp), List.take_of_length_le (by simp)]
      simp [allP, tokP]
end Go.Proofs.YthekpjhffciakaaDoor

