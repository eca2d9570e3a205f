import Derived.Test.YtbbfjkjgboljkaaY5
namespace Go.Proofs.Ytbbfjkjgboljkaa
open Go PG Go.Proofs
set_option linter.unusedSimpArgs false
set_option linter.unusedVariables false
set_option maxHeartbeats 1000000
abbrev Tok := Nat × List UInt8 × Nat
def tokP (t : Tok) : PV := .agg [.int .i64 t.1, .str t.2.1, .int .i64 t.2.2]
/-- The token with which a text begins: its kind and length, or where it can't be, and why. -/
def tokE (a : Nat) (l : List UInt8) : Except (Nat × Nat) (Nat × Nat) :=
  if letterB (l.getD 0 0) = true then
    if runL innerB l ≤ 32 then .ok (1, runL innerB l) else .error (a, 4)
  else if digitB (l.getD 0 0) = true then
    match numL l with
    | .ok (n, _) => .ok (2, n)
    | .error (o, e) => .error (a + o, e)
  else if signB (l.getD 0 0) = true then .ok (3, 1)
  else .error (a, 3)
theorem numL_err {l : List UInt8} {o e : Nat} (h : numL l = .error (o, e)) : (e = 2 ∨ e = 3) ∧ o ≤ l.length := by
  have h0 := runL_le digitB l
  unfold numL at h
  split at h
  · rename_i hp
    have h1 := runL_le digitB (l.drop (runL digitB l + 1))
    rw [List.length_drop] at h1
    split at h
    · cases h; omega
    · split at h
      · cases h; omega
      · split at h <;> cases h
        omega
  · split at h <;> cases h
    omega
theorem numL_ok {l : List UInt8} {n v : Nat} (h : numL l = .ok (n, v)) : n ≤ l.length ∧ runL digitB l ≤ n := by
  have h0 := runL_le digitB l
  unfold numL at h
  split at h
  · rename_i hp
    have h1 := runL_le digitB (l.drop (runL digitB l + 1))
    rw [List.length_drop] at h1
    split at h
    · cases h
    · split at h
      · cases h
      · split at h <;> cases h
        omega
  · split at h <;> cases h
    omega
theorem tokE_ok {a : Nat} {l : List UInt8} {k n : Nat} (hl : 0 < l.length) (h : tokE a l = .ok (k, n)) : 1 ≤ n ∧ n ≤ l.length ∧ lexTok a l = .tup [.int .i64 k, .int .i64 n, .int .i64 0, .int .i64 0] := by
  obtain ⟨b, r, rfl⟩ : ∃ b r, l = b :: r := by
    cases l with
    | nil => simp at hl
    | cons b r => exact ⟨b, r, rfl⟩
  unfold tokE at h
  unfold lexTok
  split at h
  · rename_i h1
    rw [if_pos h1]
    split at h
    · rename_i h2
      cases h
      rw [if_pos h2]
      refine ⟨?_, runL_le _ _, rfl⟩
      have h3 : innerB b = true := by
        have h4 : letterB b = true := h1
        simp [innerB, h4]
      simp only [runL, h3, if_true]; omega
    · cases h
  · rename_i h1
    rw [if_neg h1]
    split at h
    · rename_i h2
      rw [if_pos h2]
      cases hn : numL (b :: r) with
      | error e => rw [hn] at h; cases h
      | ok p =>
        obtain ⟨m, v⟩ := p
        rw [hn] at h; cases h
        obtain ⟨h3, h4⟩ := numL_ok hn
        refine ⟨?_, h3, rfl⟩
        have h5 : digitB b = true := h2
        simp only [runL, h5, if_true] at h4; omega
    · rename_i h2
      rw [if_neg h2]
      split at h
      · rename_i h3
        rw [if_pos h3]
        cases h
        exact ⟨by omega, by simp, rfl⟩
      · cases h
theorem tokE_err {a : Nat} {l : List UInt8} {o e : Nat} (h : tokE a l = .error (o, e)) : (e = 2 ∨ e = 3 ∨ e = 4) ∧ a ≤ o ∧ o ≤ a + l.length ∧ ∃ k : Int, lexTok a l = .tup [.int .i64 k, .int .i64 0, .int .i64 o, .int .i64 e] := by
  unfold tokE at h
  unfold lexTok
  split at h
  · rename_i h1
    rw [if_pos h1]
    split at h
    · cases h
    · rename_i h2
      cases h
      rw [if_neg h2]
      exact ⟨by omega, by omega, by omega, 1, rfl⟩
  · rename_i h1
    rw [if_neg h1]
    split at h
    · rename_i h2
      rw [if_pos h2]
      cases hn : numL l with
      | error p =>
        obtain ⟨m, v⟩ := p
        rw [hn] at h; cases h
        obtain ⟨h3, h4⟩ := numL_err hn
        exact ⟨by omega, by omega, by omega, 2, rfl⟩
      | ok p => rw [hn] at h; cases h
    · rename_i h2
      rw [if_neg h2]
      split at h
      · cases h
      · rename_i h3
        rw [if_neg h3]
        cases h
        exact ⟨by omega, by omega, by omega, 0, rfl⟩

/-- The tokens of a text's rest, behind those that are found. -/
def scanA (acc : List Tok) (a : Nat) : List UInt8 → Except (Nat × Nat) (List Tok)
  | [] => .ok (acc ++ [(0, [], a)])
  | b :: r => if b = 32 then scanA acc (a + 1) r else
    match tokE a (b :: r) with
    | .error e => .error e
    | .ok (k, n) => scanA (acc ++ [(k, (b :: r).take n, a)]) (a + n) (r.drop (n - 1))
termination_by l => l.length
decreasing_by all_goals (simp; try omega)
def allE (s : List UInt8) : Except (Nat × Nat) (List Tok) := if 4096 < s.length then .error (0, 4) else scanA [] 0 s
def allP : Except (Nat × Nat) (List Tok) → PV
  | .error (o, e) => .tup [.nilSl, .int .i64 o, .int .i64 e]
  | .ok l => .tup [.list (some 3) (l.map tokP), .int .i64 0, .int .i64 0]
def outV : List Tok → PV
  | [] => .nilSl
  | x :: l => .sl (some 3) 0 (x :: l).length
def outM : List Tok → Mem
  | [] => []
  | x :: l => [some (.row (some 3) ((x :: l).map tokP))]
theorem outV_ne {l : List Tok} (h : l ≠ []) : outV l = .sl (some 3) 0 l.length := by cases l <;> simp_all [outV]
theorem outM_ne {l : List Tok} (h : l ≠ []) : outM l = [some (.row (some 3) (l.map tokP))] := by cases l <;> simp_all [outM]
theorem scan_nil {s : List UInt8} {a : Nat} {acc : List Tok} (h : s.length ≤ a) : scanA acc a (s.drop a) = .ok (acc ++ [(0, [], a)]) := by
  rw [List.drop_eq_nil_of_le h, scanA]
theorem scan_blank {s : List UInt8} {a : Nat} {acc : List Tok} (h : a < s.length) (hb : s.getD a 0 = 32) : scanA acc a (s.drop a) = scanA acc (a + 1) (s.drop (a + 1)) := by
  rw [drop_cons h, scanA, if_pos hb]
theorem scan_tok {s : List UInt8} {a : Nat} {acc : List Tok} {k n : Nat} (h : a < s.length) (hb : s.getD a 0 ≠ 32) (ht : tokE a (s.drop a) = .ok (k, n)) (hn : 1 ≤ n) :
    scanA acc a (s.drop a) = scanA (acc ++ [(k, (s.drop a).take n, a)]) (a + n) (s.drop (a + n)) := by
  rw [drop_cons h] at ht ⊢
  rw [scanA, if_neg hb, ht]
  simp only
  rw [List.drop_drop, show a + 1 + (n - 1) = a + n by omega]
theorem scan_err {s : List UInt8} {a : Nat} {acc : List Tok} {e : Nat × Nat} (h : a < s.length) (hb : s.getD a 0 ≠ 32) (ht : tokE a (s.drop a) = .error e) : scanA acc a (s.drop a) = .error e := by
  rw [drop_cons h] at ht ⊢
  rw [scanA, if_neg hb, ht]

theorem v9 (s : List UInt8) (hs : s.length ≤ 9223372036854775800) : VCalls Try.prog G0 9 [.str s] (allP (allE s)) := by
  refine VCalls.of_PW Try.func9 k9 mix (by simp [c9]) ?_
  unfold allE
  simp only [c9, L9, argE]
  repeat' (first | refine PW.seq ?_ | refine PW.block ?_ | ((first | refine PW.region ?_ | refine PW.regionQ ?_ | refine PW.exit ?_ | refine PW.ret ?_ | refine PW.skip ?_); simp only [SS, SS2, gArgs, gOk, Nat.reduceAdd, PV.shift, MObj.shift, rdV, rdD, reduceIte, Nat.reduceEqDiff, Nat.reduceBEq, PV.bin, PV.binOk, binI, binS, PV.withInt, PV.withIntP, okAll, PV.under, PV.okUnder, eq_self, implies_true, deadOk, ne_eq, allOk, RVar.val, RVar.ok, retV, PV.seen, PV.view, beq_self_eq_true, PV.flat, PV.noOwn, id_eq, behind, PV.kill, MObj.kill, killTag, reduceCtorEq, nilB]; (try go_unwrap; try simp only [toNat_add2, toNat_add1, Int.toNat_natCast, Bool.false_and, Bool.true_and, true_implies, true_and, Bool.false_eq_true, reduceCtorEq, false_implies, Bool.not_false, Bool.not_true, Bool.true_or, Bool.false_or])) | refine PW.regionA ?_ | exact schedW_stop_i | ((first | refine schedW_alt_i ?_ ?_ | refine schedW_done_i ?_); focus (simp only [SS, SS2, gArgs, gOk, Nat.reduceAdd, PV.shift, MObj.shift, rdV, rdD, reduceIte, Nat.reduceEqDiff, Nat.reduceBEq, PV.bin, PV.binOk, binI, binS, PV.withInt, PV.withIntP, okAll, PV.under, PV.okUnder, eq_self, implies_true, deadOk, ne_eq, allOk, RVar.val, RVar.ok, retV, PV.seen, PV.view, beq_self_eq_true, PV.flat, PV.noOwn, id_eq, behind, PV.kill, MObj.kill, killTag, reduceCtorEq, nilB]; (try go_unwrap; try simp only [toNat_add2, toNat_add1, Int.toNat_natCast, Bool.false_and, Bool.true_and, true_implies, true_and, Bool.false_eq_true, reduceCtorEq, false_implies, Bool.not_false, Bool.not_true, Bool.true_or, Bool.false_or]))) | (refine PW.cond rfl ?_ ?_ <;> intro hcond <;> (try contradiction) <;> try simp only [decide_eq_true_eq, decide_eq_false_iff_not] at hcond) | refine And.intro ?_ ?_ | exact (fun h => Bool.noConfusion h) | omega | (simp only [decide_eq_true_eq, decide_eq_false_iff_not, List.length_cons, List.length_nil, List.length_append, List.length_map, Sh.size] <;> omega) | (go_unwrap; omega))
  · rw [if_pos (by omega)]; rfl
  rw [if_neg (by omega)]
  have hs' : s.length ≤ 4096 := by omega
  refine PW.loop (σ := Nat × List Tok) [0, 5, 6] (fun j => [.str s, outV j.2, .int .i64 j.1]) (fun j => outM j.2) (fun j => j.1 ≤ s.length ∧ j.2.length ≤ j.1 ∧ scanA [] 0 s = scanA j.2 j.1 (s.drop j.1)) (fun j => s.length - j.1) (0, []) ?_ rfl ⟨by simp, by simp, by simp⟩ ?_
  · simp only [SS, SS2, gArgs, gOk, Nat.reduceAdd, PV.shift, MObj.shift, rdV, rdD, reduceIte, Nat.reduceEqDiff, Nat.reduceBEq, PV.bin, PV.binOk, binI, binS, PV.withInt, PV.withIntP, okAll, PV.under, PV.okUnder, eq_self, implies_true, deadOk, ne_eq, allOk, RVar.val, RVar.ok, retV, PV.seen, PV.view, beq_self_eq_true, PV.flat, PV.noOwn, id_eq, behind, PV.kill, MObj.kill, killTag, reduceCtorEq, nilB]; rfl
  rintro ⟨a, acc⟩ ⟨ha, hal, hc⟩
  simp only at ha hal hc
  simp only [List.zip_cons_cons, List.zip_nil_left]
  rw [hc]
  rcases Nat.lt_or_ge a s.length with hlt | hlt
  · have hd : decide ((a : Int) < s.length) = true := by simp only [decide_eq_true_eq]; omega
    by_cases hb : s.getD a 0 = 32
    · have hb' : decide (((s.getD a 0).toNat : Int) = 32) = true := by rw [hb]; rfl
      rw [scan_blank hlt hb]
      repeat' (first | refine PW.seq ?_ | refine PW.block ?_ | ((first | refine PW.region ?_ | refine PW.regionQ ?_ | refine PW.exit ?_ | refine PW.ret ?_ | refine PW.skip ?_); simp only [hd, hb', SS, SS2, gArgs, gOk, Nat.reduceAdd, PV.shift, MObj.shift, rdV, rdD, reduceIte, Nat.reduceEqDiff, Nat.reduceBEq, PV.bin, PV.binOk, binI, binS, PV.withInt, PV.withIntP, okAll, PV.under, PV.okUnder, eq_self, implies_true, deadOk, ne_eq, allOk, RVar.val, RVar.ok, retV, PV.seen, PV.view, beq_self_eq_true, PV.flat, PV.noOwn, id_eq, behind, PV.kill, MObj.kill, killTag, reduceCtorEq, nilB]; (try go_unwrap; try simp only [hd, hb', toNat_add2, toNat_add1, Int.toNat_natCast, Bool.false_and, Bool.true_and, true_implies, true_and, Bool.false_eq_true, reduceCtorEq, false_implies, Bool.not_false, Bool.not_true, Bool.true_or, Bool.false_or])) | refine PW.regionA ?_ | exact schedW_stop_i | ((first | refine schedW_alt_i ?_ ?_ | refine schedW_done_i ?_); focus (simp only [hd, hb', SS, SS2, gArgs, gOk, Nat.reduceAdd, PV.shift, MObj.shift, rdV, rdD, reduceIte, Nat.reduceEqDiff, Nat.reduceBEq, PV.bin, PV.binOk, binI, binS, PV.withInt, PV.withIntP, okAll, PV.under, PV.okUnder, eq_self, implies_true, deadOk, ne_eq, allOk, RVar.val, RVar.ok, retV, PV.seen, PV.view, beq_self_eq_true, PV.flat, PV.noOwn, id_eq, behind, PV.kill, MObj.kill, killTag, reduceCtorEq, nilB]; (try go_unwrap; try simp only [hd, hb', toNat_add2, toNat_add1, Int.toNat_natCast, Bool.false_and, Bool.true_and, true_implies, true_and, Bool.false_eq_true, reduceCtorEq, false_implies, Bool.not_false, Bool.not_true, Bool.true_or, Bool.false_or]))) | (refine PW.cond rfl ?_ ?_ <;> intro hcond <;> (try contradiction) <;> try simp only [decide_eq_true_eq, decide_eq_false_iff_not] at hcond) | refine And.intro ?_ ?_ | exact (fun h => Bool.noConfusion h) | omega | (simp only [decide_eq_true_eq, decide_eq_false_iff_not, List.length_cons, List.length_nil, List.length_append, List.length_map, Sh.size] <;> omega) | (go_unwrap; omega))
      exact ⟨(a + 1, acc), rfl, rfl, ⟨by simp only; omega, by simp only; omega, rfl⟩, by simp only; omega⟩
    · have hb' : decide (((s.getD a 0).toNat : Int) = 32) = false := by
        rw [decide_eq_false_iff_not]; exact fun h => hb (UInt8.toNat_inj.1 (Int.ofNat.inj h))
      have h13 := v13 s a hs hlt
      cases ht : tokE a (s.drop a) with
      | error p =>
        obtain ⟨o, e⟩ := p
        obtain ⟨h1, h2, h3, k, h4⟩ := tokE_err ht
        rw [h4] at h13
        rw [scan_err hlt hb ht]
        have he : decide ((e : Int) = 0) = false := by rw [decide_eq_false_iff_not]; omega
        repeat' (first | refine PW.seq ?_ | refine PW.block ?_ | ((first | refine PW.region ?_ | refine PW.regionQ ?_ | refine PW.exit ?_ | refine PW.ret ?_ | refine PW.skip ?_); simp only [hd, hb', he, Bool.not_false, Bool.not_true, SS, SS2, gArgs, gOk, Nat.reduceAdd, PV.shift, MObj.shift, rdV, rdD, reduceIte, Nat.reduceEqDiff, Nat.reduceBEq, PV.bin, PV.binOk, binI, binS, PV.withInt, PV.withIntP, okAll, PV.under, PV.okUnder, eq_self, implies_true, deadOk, ne_eq, allOk, RVar.val, RVar.ok, retV, PV.seen, PV.view, beq_self_eq_true, PV.flat, PV.noOwn, id_eq, behind, PV.kill, MObj.kill, killTag, reduceCtorEq, nilB]; (try go_unwrap; try simp only [hd, hb', he, Bool.not_false, Bool.not_true, toNat_add2, toNat_add1, Int.toNat_natCast, Bool.false_and, Bool.true_and, true_implies, true_and, Bool.false_eq_true, reduceCtorEq, false_implies, Bool.not_false, Bool.not_true, Bool.true_or, Bool.false_or])) | refine PW.regionA ?_ | exact schedW_stop_i | ((first | refine schedW_alt_i ?_ ?_ | refine schedW_done_i ?_); focus (simp only [hd, hb', he, Bool.not_false, Bool.not_true, SS, SS2, gArgs, gOk, Nat.reduceAdd, PV.shift, MObj.shift, rdV, rdD, reduceIte, Nat.reduceEqDiff, Nat.reduceBEq, PV.bin, PV.binOk, binI, binS, PV.withInt, PV.withIntP, okAll, PV.under, PV.okUnder, eq_self, implies_true, deadOk, ne_eq, allOk, RVar.val, RVar.ok, retV, PV.seen, PV.view, beq_self_eq_true, PV.flat, PV.noOwn, id_eq, behind, PV.kill, MObj.kill, killTag, reduceCtorEq, nilB]; (try go_unwrap; try simp only [hd, hb', he, Bool.not_false, Bool.not_true, toNat_add2, toNat_add1, Int.toNat_natCast, Bool.false_and, Bool.true_and, true_implies, true_and, Bool.false_eq_true, reduceCtorEq, false_implies, Bool.not_false, Bool.not_true, Bool.true_or, Bool.false_or]))) | (refine PW.cond rfl ?_ ?_ <;> intro hcond <;> (try contradiction) <;> try simp only [decide_eq_true_eq, decide_eq_false_iff_not] at hcond) | (apply goCall_V e13; (case hV => (simp only [hd, hb', he, Bool.not_false, Bool.not_true, SS, SS2, gArgs, gOk, Nat.reduceAdd, PV.shift, MObj.shift, rdV, rdD, reduceIte, Nat.reduceEqDiff, Nat.reduceBEq, PV.bin, PV.binOk, binI, binS, PV.withInt, PV.withIntP, okAll, PV.under, PV.okUnder, eq_self, implies_true, deadOk, ne_eq, allOk, RVar.val, RVar.ok, retV, PV.seen, PV.view, beq_self_eq_true, PV.flat, PV.noOwn, id_eq, behind, PV.kill, MObj.kill, killTag, reduceCtorEq, nilB]; (try go_unwrap; try simp only [hd, hb', he, Bool.not_false, Bool.not_true, toNat_add2, toNat_add1, Int.toNat_natCast, Bool.false_and, Bool.true_and, true_implies, true_and, Bool.false_eq_true, reduceCtorEq, false_implies, Bool.not_false, Bool.not_true, Bool.true_or, Bool.false_or]); exact h13)); (try (case hs => rfl)); (try (case hf => first | exact Or.inl rfl | exact Or.inr ⟨rfl, rfl⟩ | exact Or.inr ⟨rfl, by simp only [hd, hb', he, Bool.not_false, Bool.not_true, SS, SS2, gArgs, gOk, Nat.reduceAdd, PV.shift, MObj.shift, rdV, rdD, reduceIte, Nat.reduceEqDiff, Nat.reduceBEq, PV.bin, PV.binOk, binI, binS, PV.withInt, PV.withIntP, okAll, PV.under, PV.okUnder, eq_self, implies_true, deadOk, ne_eq, allOk, RVar.val, RVar.ok, retV, PV.seen, PV.view, beq_self_eq_true, PV.flat, PV.noOwn, id_eq, behind, PV.kill, MObj.kill, killTag, reduceCtorEq, nilB]⟩)); all_goals (simp only [hd, hb', he, Bool.not_false, Bool.not_true, SS, SS2, gArgs, gOk, Nat.reduceAdd, PV.shift, MObj.shift, rdV, rdD, reduceIte, Nat.reduceEqDiff, Nat.reduceBEq, PV.bin, PV.binOk, binI, binS, PV.withInt, PV.withIntP, okAll, PV.under, PV.okUnder, eq_self, implies_true, deadOk, ne_eq, allOk, RVar.val, RVar.ok, retV, PV.seen, PV.view, beq_self_eq_true, PV.flat, PV.noOwn, id_eq, behind, PV.kill, MObj.kill, killTag, reduceCtorEq, nilB]; (try go_unwrap; try simp only [hd, hb', he, Bool.not_false, Bool.not_true, toNat_add2, toNat_add1, Int.toNat_natCast, Bool.false_and, Bool.true_and, true_implies, true_and, Bool.false_eq_true, reduceCtorEq, false_implies, Bool.not_false, Bool.not_true, Bool.true_or, Bool.false_or]))) | refine And.intro ?_ ?_ | exact (fun h => Bool.noConfusion h) | omega | (simp only [decide_eq_true_eq, decide_eq_false_iff_not, List.length_cons, List.length_nil, List.length_append, List.length_map, Sh.size] <;> omega) | (go_unwrap; omega))
        rfl
      | ok p =>
        obtain ⟨k, n⟩ := p
        obtain ⟨h1, h2, h4⟩ := tokE_ok (by simp; omega) ht
        rw [List.length_drop] at h2
        rw [h4] at h13
        rw [scan_tok hlt hb ht h1]
        have he : decide ((0 : Int) = 0) = true := rfl
        have hdt : List.drop a (List.take (a + n) s) = List.take n (List.drop a s) := by rw [List.drop_take, Nat.add_sub_cancel_left]
        by_cases hacc : acc = []
        · subst hacc
          simp only [outV, outM]
          repeat' (first | refine PW.seq ?_ | refine PW.block ?_ | ((first | refine PW.region ?_ | refine PW.regionQ ?_ | refine PW.exit ?_ | refine PW.ret ?_ | refine PW.skip ?_); simp only [hd, hb', he, hdt, Bool.not_false, Bool.not_true, SS, SS2, gArgs, gOk, Nat.reduceAdd, PV.shift, MObj.shift, rdV, rdD, reduceIte, Nat.reduceEqDiff, Nat.reduceBEq, PV.bin, PV.binOk, binI, binS, PV.withInt, PV.withIntP, okAll, PV.under, PV.okUnder, eq_self, implies_true, deadOk, ne_eq, allOk, RVar.val, RVar.ok, retV, PV.seen, PV.view, beq_self_eq_true, PV.flat, PV.noOwn, id_eq, behind, PV.kill, MObj.kill, killTag, reduceCtorEq, nilB]; (try go_unwrap; try simp only [hd, hb', he, hdt, Bool.not_false, Bool.not_true, toNat_add2, toNat_add1, Int.toNat_natCast, Bool.false_and, Bool.true_and, true_implies, true_and, Bool.false_eq_true, reduceCtorEq, false_implies, Bool.not_false, Bool.not_true, Bool.true_or, Bool.false_or])) | refine PW.regionA ?_ | exact schedW_stop_i | ((first | refine schedW_alt_i ?_ ?_ | refine schedW_done_i ?_); focus (simp only [hd, hb', he, hdt, Bool.not_false, Bool.not_true, SS, SS2, gArgs, gOk, Nat.reduceAdd, PV.shift, MObj.shift, rdV, rdD, reduceIte, Nat.reduceEqDiff, Nat.reduceBEq, PV.bin, PV.binOk, binI, binS, PV.withInt, PV.withIntP, okAll, PV.under, PV.okUnder, eq_self, implies_true, deadOk, ne_eq, allOk, RVar.val, RVar.ok, retV, PV.seen, PV.view, beq_self_eq_true, PV.flat, PV.noOwn, id_eq, behind, PV.kill, MObj.kill, killTag, reduceCtorEq, nilB]; (try go_unwrap; try simp only [hd, hb', he, hdt, Bool.not_false, Bool.not_true, toNat_add2, toNat_add1, Int.toNat_natCast, Bool.false_and, Bool.true_and, true_implies, true_and, Bool.false_eq_true, reduceCtorEq, false_implies, Bool.not_false, Bool.not_true, Bool.true_or, Bool.false_or]))) | (refine PW.cond rfl ?_ ?_ <;> intro hcond <;> (try contradiction) <;> try simp only [decide_eq_true_eq, decide_eq_false_iff_not] at hcond) | (apply goCall_V e13; (case hV => (simp only [hd, hb', he, hdt, Bool.not_false, Bool.not_true, SS, SS2, gArgs, gOk, Nat.reduceAdd, PV.shift, MObj.shift, rdV, rdD, reduceIte, Nat.reduceEqDiff, Nat.reduceBEq, PV.bin, PV.binOk, binI, binS, PV.withInt, PV.withIntP, okAll, PV.under, PV.okUnder, eq_self, implies_true, deadOk, ne_eq, allOk, RVar.val, RVar.ok, retV, PV.seen, PV.view, beq_self_eq_true, PV.flat, PV.noOwn, id_eq, behind, PV.kill, MObj.kill, killTag, reduceCtorEq, nilB]; (try go_unwrap; try simp only [hd, hb', he, hdt, Bool.not_false, Bool.not_true, toNat_add2, toNat_add1, Int.toNat_natCast, Bool.false_and, Bool.true_and, true_implies, true_and, Bool.false_eq_true, reduceCtorEq, false_implies, Bool.not_false, Bool.not_true, Bool.true_or, Bool.false_or]); exact h13)); (try (case hs => rfl)); (try (case hf => first | exact Or.inl rfl | exact Or.inr ⟨rfl, rfl⟩ | exact Or.inr ⟨rfl, by simp only [hd, hb', he, hdt, Bool.not_false, Bool.not_true, SS, SS2, gArgs, gOk, Nat.reduceAdd, PV.shift, MObj.shift, rdV, rdD, reduceIte, Nat.reduceEqDiff, Nat.reduceBEq, PV.bin, PV.binOk, binI, binS, PV.withInt, PV.withIntP, okAll, PV.under, PV.okUnder, eq_self, implies_true, deadOk, ne_eq, allOk, RVar.val, RVar.ok, retV, PV.seen, PV.view, beq_self_eq_true, PV.flat, PV.noOwn, id_eq, behind, PV.kill, MObj.kill, killTag, reduceCtorEq, nilB]⟩)); all_goals (simp only [hd, hb', he, hdt, Bool.not_false, Bool.not_true, SS, SS2, gArgs, gOk, Nat.reduceAdd, PV.shift, MObj.shift, rdV, rdD, reduceIte, Nat.reduceEqDiff, Nat.reduceBEq, PV.bin, PV.binOk, binI, binS, PV.withInt, PV.withIntP, okAll, PV.under, PV.okUnder, eq_self, implies_true, deadOk, ne_eq, allOk, RVar.val, RVar.ok, retV, PV.seen, PV.view, beq_self_eq_true, PV.flat, PV.noOwn, id_eq, behind, PV.kill, MObj.kill, killTag, reduceCtorEq, nilB]; (try go_unwrap; try simp only [hd, hb', he, hdt, Bool.not_false, Bool.not_true, toNat_add2, toNat_add1, Int.toNat_natCast, Bool.false_and, Bool.true_and, true_implies, true_and, Bool.false_eq_true, reduceCtorEq, false_implies, Bool.not_false, Bool.not_true, Bool.true_or, Bool.false_or]))) | refine And.intro ?_ ?_ | exact (fun h => Bool.noConfusion h) | omega | (simp only [decide_eq_true_eq, decide_eq_false_iff_not, List.length_cons, List.length_nil, List.length_append, List.length_map, Sh.size] <;> omega) | (go_unwrap; omega))
          exact ⟨(a + n, [(k, List.take n (List.drop a s), a)]), rfl, rfl, ⟨by simp only; omega, by simp; omega, rfl⟩, by simp only; omega⟩
        · have hne : acc ++ [(k, List.take n (List.drop a s), a)] ≠ [] := by simp
          have hov := outV_ne hne
          have hom := outM_ne hne
          rw [List.length_append] at hov
          rw [List.map_append] at hom
          rw [outV_ne hacc, outM_ne hacc]
          have htk : (acc.map tokP).take acc.length = acc.map tokP := by rw [List.take_of_length_le (by simp)]
          repeat' (first | refine PW.seq ?_ | refine PW.block ?_ | ((first | refine PW.region ?_ | refine PW.regionQ ?_ | refine PW.exit ?_ | refine PW.ret ?_ | refine PW.skip ?_); simp only [hd, hb', he, hdt, Bool.not_false, Bool.not_true, htk, List.length_map, SS, SS2, gArgs, gOk, Nat.reduceAdd, PV.shift, MObj.shift, rdV, rdD, reduceIte, Nat.reduceEqDiff, Nat.reduceBEq, PV.bin, PV.binOk, binI, binS, PV.withInt, PV.withIntP, okAll, PV.under, PV.okUnder, eq_self, implies_true, deadOk, ne_eq, allOk, RVar.val, RVar.ok, retV, PV.seen, PV.view, beq_self_eq_true, PV.flat, PV.noOwn, id_eq, behind, PV.kill, MObj.kill, killTag, reduceCtorEq, nilB]; (try go_unwrap; try simp only [hd, hb', he, hdt, Bool.not_false, Bool.not_true, htk, List.length_map, toNat_add2, toNat_add1, Int.toNat_natCast, Bool.false_and, Bool.true_and, true_implies, true_and, Bool.false_eq_true, reduceCtorEq, false_implies, Bool.not_false, Bool.not_true, Bool.true_or, Bool.false_or])) | refine PW.regionA ?_ | exact schedW_stop_i | ((first | refine schedW_alt_i ?_ ?_ | refine schedW_done_i ?_); focus (simp only [hd, hb', he, hdt, Bool.not_false, Bool.not_true, htk, List.length_map, SS, SS2, gArgs, gOk, Nat.reduceAdd, PV.shift, MObj.shift, rdV, rdD, reduceIte, Nat.reduceEqDiff, Nat.reduceBEq, PV.bin, PV.binOk, binI, binS, PV.withInt, PV.withIntP, okAll, PV.under, PV.okUnder, eq_self, implies_true, deadOk, ne_eq, allOk, RVar.val, RVar.ok, retV, PV.seen, PV.view, beq_self_eq_true, PV.flat, PV.noOwn, id_eq, behind, PV.kill, MObj.kill, killTag, reduceCtorEq, nilB]; (try go_unwrap; try simp only [hd, hb', he, hdt, Bool.not_false, Bool.not_true, htk, List.length_map, toNat_add2, toNat_add1, Int.toNat_natCast, Bool.false_and, Bool.true_and, true_implies, true_and, Bool.false_eq_true, reduceCtorEq, false_implies, Bool.not_false, Bool.not_true, Bool.true_or, Bool.false_or]))) | (refine PW.cond rfl ?_ ?_ <;> intro hcond <;> (try contradiction) <;> try simp only [decide_eq_true_eq, decide_eq_false_iff_not] at hcond) | (apply goCall_V e13; (case hV => (simp only [hd, hb', he, hdt, Bool.not_false, Bool.not_true, htk, List.length_map, SS, SS2, gArgs, gOk, Nat.reduceAdd, PV.shift, MObj.shift, rdV, rdD, reduceIte, Nat.reduceEqDiff, Nat.reduceBEq, PV.bin, PV.binOk, binI, binS, PV.withInt, PV.withIntP, okAll, PV.under, PV.okUnder, eq_self, implies_true, deadOk, ne_eq, allOk, RVar.val, RVar.ok, retV, PV.seen, PV.view, beq_self_eq_true, PV.flat, PV.noOwn, id_eq, behind, PV.kill, MObj.kill, killTag, reduceCtorEq, nilB]; (try go_unwrap; try simp only [hd, hb', he, hdt, Bool.not_false, Bool.not_true, htk, List.length_map, toNat_add2, toNat_add1, Int.toNat_natCast, Bool.false_and, Bool.true_and, true_implies, true_and, Bool.false_eq_true, reduceCtorEq, false_implies, Bool.not_false, Bool.not_true, Bool.true_or, Bool.false_or]); exact h13)); (try (case hs => rfl)); (try (case hf => first | exact Or.inl rfl | exact Or.inr ⟨rfl, rfl⟩ | exact Or.inr ⟨rfl, by simp only [hd, hb', he, hdt, Bool.not_false, Bool.not_true, htk, List.length_map, SS, SS2, gArgs, gOk, Nat.reduceAdd, PV.shift, MObj.shift, rdV, rdD, reduceIte, Nat.reduceEqDiff, Nat.reduceBEq, PV.bin, PV.binOk, binI, binS, PV.withInt, PV.withIntP, okAll, PV.under, PV.okUnder, eq_self, implies_true, deadOk, ne_eq, allOk, RVar.val, RVar.ok, retV, PV.seen, PV.view, beq_self_eq_true, PV.flat, PV.noOwn, id_eq, behind, PV.kill, MObj.kill, killTag, reduceCtorEq, nilB]⟩)); all_goals (simp only [hd, hb', he, hdt, Bool.not_false, Bool.not_true, htk, List.length_map, SS, SS2, gArgs, gOk, Nat.reduceAdd, PV.shift, MObj.shift, rdV, rdD, reduceIte, Nat.reduceEqDiff, Nat.reduceBEq, PV.bin, PV.binOk, binI, binS, PV.withInt, PV.withIntP, okAll, PV.under, PV.okUnder, eq_self, implies_true, deadOk, ne_eq, allOk, RVar.val, RVar.ok, retV, PV.seen, PV.view, beq_self_eq_true, PV.flat, PV.noOwn, id_eq, behind, PV.kill, MObj.kill, killTag, reduceCtorEq, nilB]; (try go_unwrap; try simp only [hd, hb', he, hdt, Bool.not_false, Bool.not_true, htk, List.length_map, toNat_add2, toNat_add1, Int.toNat_natCast, Bool.false_and, Bool.true_and, true_implies, true_and, Bool.false_eq_true, reduceCtorEq, false_implies, Bool.not_false, Bool.not_true, Bool.true_or, Bool.false_or]))) | refine And.intro ?_ ?_ | exact (fun h => Bool.noConfusion h) | omega | (simp only [decide_eq_true_eq, decide_eq_false_iff_not, List.length_cons, List.length_nil, List.length_append, List.length_map, Sh.size] <;> omega) | (go_unwrap; omega))
          exact ⟨(a + n, acc ++ [(k, List.take n (List.drop a s), a)]), by simp only [hov]; rfl, by simp only [hom]; rfl, ⟨by simp only; omega, by simp; omega, rfl⟩, by simp only; omega⟩
  · have hd : decide ((a : Int) < s.length) = false := by simp only [decide_eq_false_iff_not]; omega
    rw [scan_nil hlt]
    have hla : a = s.length := by omega
    subst hla
    by_cases hacc : acc = []
    · subst hacc
      simp only [outV, outM]
      repeat' (first | refine PW.seq ?_ | refine PW.block ?_ | ((first | refine PW.region ?_ | refine PW.regionQ ?_ | refine PW.exit ?_ | refine PW.ret ?_ | refine PW.skip ?_); simp only [hd, SS, SS2, gArgs, gOk, Nat.reduceAdd, PV.shift, MObj.shift, rdV, rdD, reduceIte, Nat.reduceEqDiff, Nat.reduceBEq, PV.bin, PV.binOk, binI, binS, PV.withInt, PV.withIntP, okAll, PV.under, PV.okUnder, eq_self, implies_true, deadOk, ne_eq, allOk, RVar.val, RVar.ok, retV, PV.seen, PV.view, beq_self_eq_true, PV.flat, PV.noOwn, id_eq, behind, PV.kill, MObj.kill, killTag, reduceCtorEq, nilB]; (try go_unwrap; try simp only [hd, toNat_add2, toNat_add1, Int.toNat_natCast, Bool.false_and, Bool.true_and, true_implies, true_and, Bool.false_eq_true, reduceCtorEq, false_implies, Bool.not_false, Bool.not_true, Bool.true_or, Bool.false_or])) | refine PW.regionA ?_ | exact schedW_stop_i | ((first | refine schedW_alt_i ?_ ?_ | refine schedW_done_i ?_); focus (simp only [hd, SS, SS2, gArgs, gOk, Nat.reduceAdd, PV.shift, MObj.shift, rdV, rdD, reduceIte, Nat.reduceEqDiff, Nat.reduceBEq, PV.bin, PV.binOk, binI, binS, PV.withInt, PV.withIntP, okAll, PV.under, PV.okUnder, eq_self, implies_true, deadOk, ne_eq, allOk, RVar.val, RVar.ok, retV, PV.seen, PV.view, beq_self_eq_true, PV.flat, PV.noOwn, id_eq, behind, PV.kill, MObj.kill, killTag, reduceCtorEq, nilB]; (try go_unwrap; try simp only [hd, toNat_add2, toNat_add1, Int.toNat_natCast, Bool.false_and, Bool.true_and, true_implies, true_and, Bool.false_eq_true, reduceCtorEq, false_implies, Bool.not_false, Bool.not_true, Bool.true_or, Bool.false_or]))) | (refine PW.cond rfl ?_ ?_ <;> intro hcond <;> (try contradiction) <;> try simp only [decide_eq_true_eq, decide_eq_false_iff_not] at hcond) | refine And.intro ?_ ?_ | exact (fun h => Bool.noConfusion h) | omega | (simp only [decide_eq_true_eq, decide_eq_false_iff_not, List.length_cons, List.length_nil, List.length_append, List.length_map, Sh.size] <;> omega) | (go_unwrap; omega))
      all_goals rfl
    · rw [outV_ne hacc, outM_ne hacc]
      have htk : (acc.map tokP).take acc.length = acc.map tokP := by rw [List.take_of_length_le (by simp)]
      repeat' (first | refine PW.seq ?_ | refine PW.block ?_ | ((first | refine PW.region ?_ | refine PW.regionQ ?_ | refine PW.exit ?_ | refine PW.ret ?_ | refine PW.skip ?_); simp only [hd, htk, List.length_map, SS, SS2, gArgs, gOk, Nat.reduceAdd, PV.shift, MObj.shift, rdV, rdD, reduceIte, Nat.reduceEqDiff, Nat.reduceBEq, PV.bin, PV.binOk, binI, binS, PV.withInt, PV.withIntP, okAll, PV.under, PV.okUnder, eq_self, implies_true, deadOk, ne_eq, allOk, RVar.val, RVar.ok, retV, PV.seen, PV.view, beq_self_eq_true, PV.flat, PV.noOwn, id_eq, behind, PV.kill, MObj.kill, killTag, reduceCtorEq, nilB]; (try go_unwrap; try simp only [hd, htk, List.length_map, toNat_add2, toNat_add1, Int.toNat_natCast, Bool.false_and, Bool.true_and, true_implies, true_and, Bool.false_eq_true, reduceCtorEq, false_implies, Bool.not_false, Bool.not_true, Bool.true_or, Bool.false_or])) | refine PW.regionA ?_ | exact schedW_stop_i | ((first | refine schedW_alt_i ?_ ?_ | refine schedW_done_i ?_); focus (simp only [hd, htk, List.length_map, SS, SS2, gArgs, gOk, Nat.reduceAdd, PV.shift, MObj.shift, rdV, rdD, reduceIte, Nat.reduceEqDiff, Nat.reduceBEq, PV.bin, PV.binOk, binI, binS, PV.withInt, PV.withIntP, okAll, PV.under, PV.okUnder, eq_self, implies_true, deadOk, ne_eq, allOk, RVar.val, RVar.ok, retV, PV.seen, PV.view, beq_self_eq_true, PV.flat, PV.noOwn, id_eq, behind, PV.kill, MObj.kill, killTag, reduceCtorEq, nilB]; (try go_unwrap; try simp only [hd, htk, List.length_map, toNat_add2, toNat_add1, Int.toNat_natCast, Bool.false_and, Bool.true_and, true_implies, true_and, Bool.false_eq_true, reduceCtorEq, false_implies, Bool.not_false, Bool.not_true, Bool.true_or, Bool.false_or]))) | (refine PW.cond rfl ?_ ?_ <;> intro hcond <;> (try contradiction) <;> try simp only [decide_eq_true_eq, decide_eq_false_iff_not] at hcond) | refine And.intro ?_ ?_ | exact (fun h => Bool.noConfusion h) | omega | (simp only [decide_eq_true_eq, decide_eq_false_iff_not, List.length_cons, List.length_nil, List.length_append, List.length_map, Sh.size] <;> omega) | (go_unwrap; omega))
      rw [if_pos (by simp), List.take_of_length_le (by simp)]
      simp [allP, tokP]
end Go.Proofs.Ytbbfjkjgboljkaa
