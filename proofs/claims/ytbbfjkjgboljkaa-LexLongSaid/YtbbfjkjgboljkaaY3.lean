import Derived.Test.YtbbfjkjgboljkaaY2
namespace Go.Proofs.Ytbbfjkjgboljkaa
open Go PG Go.Proofs
set_option linter.unusedSimpArgs false
set_option linter.unusedVariables false
set_option maxHeartbeats 1000000
theorem e24 : Ent Try.prog 24 := ⟨Try.f24, Try.func24, by kernel_rfl, by kernel_rfl⟩
theorem e30 : Ent Try.prog 30 := ⟨Try.f30, Try.func30, by kernel_rfl, by kernel_rfl⟩
def mostN : Nat := 1000000000000
/-- The whole part, held at one more than the most. -/
def capV : Nat → List UInt8 → Nat
  | n, [] => n
  | n, b :: l => if 10 * n + (b - 48).toNat > 1000000000000 then capV 1000000000001 l else capV (10 * n + (b - 48).toNat) l
/-- The whole part, given up where it is more. -/
def lexV : Nat → List UInt8 → Option Nat
  | n, [] => some n
  | n, b :: l => if 10 * n + (b - 48).toNat > 1000000000000 then none else lexV (10 * n + (b - 48).toNat) l
/-- Behind the point. -/
def partV : Nat → List UInt8 → Nat
  | _, [] => 0
  | u, b :: l => u * (b - 48).toNat + partV (u / 10) l
theorem partV_le (u : Nat) (l : List UInt8) : partV u l ≤ 284 * u := by
  induction l generalizing u with
  | nil => simp [partV]
  | cons b l ih =>
    have h := ih (u / 10)
    have h1 : (b - 48).toNat ≤ 255 := by have := (b - 48).toNat_lt; omega
    have h2 : u * (b - 48).toNat ≤ u * 255 := Nat.mul_le_mul_left u h1
    simp only [partV]
    omega
theorem capV_over (l : List UInt8) : capV 1000000000001 l = 1000000000001 := by
  induction l with
  | nil => rfl
  | cons b l ih => simp only [capV]; rw [if_pos (by omega)]; exact ih
theorem lexV_capV {n : Nat} {l : List UInt8} (h : n ≤ 1000000000000) : (lexV n l = none ∧ capV n l = 1000000000001) ∨ (∃ m, lexV n l = some m ∧ capV n l = m ∧ m ≤ 1000000000000) := by
  induction l generalizing n with
  | nil => exact .inr ⟨n, rfl, rfl, h⟩
  | cons b l ih =>
    simp only [lexV, capV]
    split
    · exact .inl ⟨rfl, capV_over l⟩
    · exact ih (by omega)
theorem capV_le {n : Nat} {l : List UInt8} (h : n ≤ 1000000000001) : capV n l ≤ 1000000000001 := by
  induction l generalizing n with
  | nil => exact h
  | cons b l ih => simp only [capV]; split; exact ih (by omega); exact ih (by omega)
def milV (w r : List UInt8) : Nat := capV 0 w * 1000000 + partV 100000 r
def valV (s : List UInt8) : PV :=
  match lexV 0 (cutS s 46).1 with
  | none => .tup [.int .i64 0, .bool false]
  | some n => if n = 1000000000000 ∧ 0 < partV 100000 (cutS s 46).2.1 then .tup [.int .i64 0, .bool false] else .tup [.int .i64 (n * 1000000 + partV 100000 (cutS s 46).2.1 : Nat), .bool true]
theorem drop_cons {s : List UInt8} {i : Nat} (h : i < s.length) : s.drop i = s.getD i 0 :: s.drop (i + 1) := by
  rw [List.drop_eq_getElem_cons h]
  simp [List.getD, h]

theorem v30 (w r : List UInt8) (hw : w.length ≤ 9223372036854775806) (hr : r.length ≤ 9223372036854775806) : VCalls Try.prog G0 30 [.str w, .str r] (.int .i64 (milV w r)) := by
  refine VCalls.of_PW Try.func30 k30 mix (by simp [c30]) ?_
  simp only [c30, L30, argE]
  repeat' (first | refine PW.seq ?_ | refine PW.block ?_ | ((first | refine PW.region ?_ | refine PW.regionQ ?_ | refine PW.exit ?_ | refine PW.ret ?_ | refine PW.skip ?_); simp only [SS, SS2, gArgs, gOk, Nat.reduceAdd, rdV, rdD, reduceIte, Nat.reduceEqDiff, Nat.reduceBEq, PV.bin, PV.binOk, binI, binS, PV.withInt, PV.withIntP, okAll, PV.under, PV.okUnder, eq_self, implies_true, deadOk, ne_eq, allOk, RVar.val, RVar.ok, retV, PV.seen, PV.view, beq_self_eq_true, PV.flat, PV.noOwn, id_eq, behind, PV.kill, MObj.kill, killTag, reduceCtorEq, nilB]; (try go_unwrap; try simp only [toNat_add2, toNat_add1, Int.toNat_natCast, Bool.false_and, Bool.true_and, true_implies, true_and, Bool.false_eq_true, reduceCtorEq, false_implies, Bool.not_false, Bool.not_true, Bool.true_or, Bool.false_or])) | (refine PW.cond rfl ?_ ?_ <;> intro hcond <;> (try contradiction) <;> try simp only [decide_eq_true_eq, decide_eq_false_iff_not] at hcond) | refine And.intro ?_ ?_ | exact (fun h => Bool.noConfusion h) | omega | (simp only [decide_eq_true_eq, decide_eq_false_iff_not, List.length_cons, List.length_nil, List.length_append, List.length_map, Sh.size] <;> omega) | (go_unwrap; omega))
  · refine PW.loop (σ := Nat × Nat) [0, 1, 5, 6] (fun j => [.str w, .str r, .int .i64 j.2, .int .i64 j.1]) (fun _ => []) (fun j => j.1 ≤ w.length ∧ j.2 ≤ 1000000000001 ∧ capV 0 w = capV j.2 (w.drop j.1)) (fun j => w.length - j.1) (0, 0) ?_ rfl ⟨by simp, by simp, by simp⟩ ?_
    · simp only [SS, SS2, gArgs, gOk, Nat.reduceAdd, rdV, rdD, reduceIte, Nat.reduceEqDiff, Nat.reduceBEq, PV.bin, PV.binOk, binI, binS, PV.withInt, PV.withIntP, okAll, PV.under, PV.okUnder, eq_self, implies_true, deadOk, ne_eq, allOk, RVar.val, RVar.ok, retV, PV.seen, PV.view, beq_self_eq_true, PV.flat, PV.noOwn, id_eq, behind, PV.kill, MObj.kill, killTag, reduceCtorEq, nilB]; rfl
    rintro ⟨j, n⟩ ⟨hj, hn, hc⟩
    simp only [List.zip_cons_cons, List.zip_nil_left]
    rcases Nat.lt_or_ge j w.length with hlt | hlt
    · have hd : decide ((j : Int) < w.length) = true := by simp only [decide_eq_true_eq]; omega
      have hb : (w.getD j 0 - 48).toNat < 256 := UInt8.toNat_lt _
      rw [drop_cons hlt, capV] at hc
      repeat' (first | refine PW.seq ?_ | refine PW.block ?_ | ((first | refine PW.region ?_ | refine PW.regionQ ?_ | refine PW.exit ?_ | refine PW.ret ?_ | refine PW.skip ?_); simp only [hd, SS, SS2, gArgs, gOk, Nat.reduceAdd, rdV, rdD, reduceIte, Nat.reduceEqDiff, Nat.reduceBEq, PV.bin, PV.binOk, binI, binS, PV.withInt, PV.withIntP, okAll, PV.under, PV.okUnder, eq_self, implies_true, deadOk, ne_eq, allOk, RVar.val, RVar.ok, retV, PV.seen, PV.view, beq_self_eq_true, PV.flat, PV.noOwn, id_eq, behind, PV.kill, MObj.kill, killTag, reduceCtorEq, nilB]; (try go_unwrap; try simp only [hd, toNat_add2, toNat_add1, Int.toNat_natCast, Bool.false_and, Bool.true_and, true_implies, true_and, Bool.false_eq_true, reduceCtorEq, false_implies, Bool.not_false, Bool.not_true, Bool.true_or, Bool.false_or])) | (refine PW.cond rfl ?_ ?_ <;> intro hcond <;> (try contradiction) <;> try simp only [decide_eq_true_eq, decide_eq_false_iff_not] at hcond) | refine And.intro ?_ ?_ | exact (fun h => Bool.noConfusion h) | omega | (simp only [decide_eq_true_eq, decide_eq_false_iff_not, List.length_cons, List.length_nil, List.length_append, List.length_map, Sh.size] <;> omega) | (go_unwrap; omega))
      all_goals (try simp only [decide_eq_true_eq, decide_eq_false_iff_not] at hcond)
      · rw [if_pos (by omega)] at hc
        exact ⟨(j + 1, 1000000000001), rfl, ⟨hlt, by simp, hc⟩, by simp only; omega⟩
      · rw [if_neg (by omega)] at hc
        exact ⟨(j + 1, 10 * n + (w.getD j 0 - 48).toNat), rfl, ⟨hlt, by simp only; omega, hc⟩, by simp only; omega⟩
    · have hd : decide ((j : Int) < w.length) = false := by simp only [decide_eq_false_iff_not]; omega
      rw [List.drop_eq_nil_of_le hlt, capV] at hc
      repeat' (first | refine PW.seq ?_ | refine PW.block ?_ | ((first | refine PW.region ?_ | refine PW.regionQ ?_ | refine PW.exit ?_ | refine PW.ret ?_ | refine PW.skip ?_); simp only [hd, SS, SS2, gArgs, gOk, Nat.reduceAdd, rdV, rdD, reduceIte, Nat.reduceEqDiff, Nat.reduceBEq, PV.bin, PV.binOk, binI, binS, PV.withInt, PV.withIntP, okAll, PV.under, PV.okUnder, eq_self, implies_true, deadOk, ne_eq, allOk, RVar.val, RVar.ok, retV, PV.seen, PV.view, beq_self_eq_true, PV.flat, PV.noOwn, id_eq, behind, PV.kill, MObj.kill, killTag, reduceCtorEq, nilB]; (try go_unwrap; try simp only [hd, toNat_add2, toNat_add1, Int.toNat_natCast, Bool.false_and, Bool.true_and, true_implies, true_and, Bool.false_eq_true, reduceCtorEq, false_implies, Bool.not_false, Bool.not_true, Bool.true_or, Bool.false_or])) | (refine PW.cond rfl ?_ ?_ <;> intro hcond <;> (try contradiction) <;> try simp only [decide_eq_true_eq, decide_eq_false_iff_not] at hcond) | refine And.intro ?_ ?_ | exact (fun h => Bool.noConfusion h) | omega | (simp only [decide_eq_true_eq, decide_eq_false_iff_not, List.length_cons, List.length_nil, List.length_append, List.length_map, Sh.size] <;> omega) | (go_unwrap; omega))
      have hp := partV_le 100000 r
      refine PW.loop (σ := Nat × Nat × Nat) [1, 5, 7, 8] (fun j => [.str r, .int .i64 j.2.1, .int .i64 j.2.2, .int .i64 j.1]) (fun _ => []) (fun j => j.1 ≤ r.length ∧ j.2.2 ≤ 100000 ∧ j.2.1 + partV j.2.2 (r.drop j.1) = n * 1000000 + partV 100000 r) (fun j => r.length - j.1) (0, n * 1000000, 100000) ?_ rfl ⟨by simp, by simp, by simp⟩ ?_
      · simp only [SS, SS2, gArgs, gOk, Nat.reduceAdd, rdV, rdD, reduceIte, Nat.reduceEqDiff, Nat.reduceBEq, PV.bin, PV.binOk, binI, binS, PV.withInt, PV.withIntP, okAll, PV.under, PV.okUnder, eq_self, implies_true, deadOk, ne_eq, allOk, RVar.val, RVar.ok, retV, PV.seen, PV.view, beq_self_eq_true, PV.flat, PV.noOwn, id_eq, behind, PV.kill, MObj.kill, killTag, reduceCtorEq, nilB]; rfl
      rintro ⟨i, m, u⟩ ⟨hi, hu, hm⟩
      simp only at hi hu hm
      simp only [List.zip_cons_cons, List.zip_nil_left]
      rcases Nat.lt_or_ge i r.length with hlt' | hlt'
      · have hd' : decide ((i : Int) < r.length) = true := by simp only [decide_eq_true_eq]; omega
        rw [drop_cons hlt', partV] at hm
        have h0 : (((r.getD i 0 - 48).toNat : Int) * (u : Int)) = ((u * (r.getD i 0 - 48).toNat : Nat) : Int) := by rw [Int.natCast_mul]; exact Int.mul_comm _ _
        have h1 : u * (r.getD i 0 - 48).toNat ≤ 28400000 + n * 1000000 := by omega
        generalize hz : u * (r.getD i 0 - 48).toNat = z at *
        repeat' (first | refine PW.seq ?_ | refine PW.block ?_ | ((first | refine PW.region ?_ | refine PW.regionQ ?_ | refine PW.exit ?_ | refine PW.ret ?_ | refine PW.skip ?_); simp only [hd', h0, tdiv10, SS, SS2, gArgs, gOk, Nat.reduceAdd, rdV, rdD, reduceIte, Nat.reduceEqDiff, Nat.reduceBEq, PV.bin, PV.binOk, binI, binS, PV.withInt, PV.withIntP, okAll, PV.under, PV.okUnder, eq_self, implies_true, deadOk, ne_eq, allOk, RVar.val, RVar.ok, retV, PV.seen, PV.view, beq_self_eq_true, PV.flat, PV.noOwn, id_eq, behind, PV.kill, MObj.kill, killTag, reduceCtorEq, nilB]; (try go_unwrap; try simp only [hd', h0, tdiv10, toNat_add2, toNat_add1, Int.toNat_natCast, Bool.false_and, Bool.true_and, true_implies, true_and, Bool.false_eq_true, reduceCtorEq, false_implies, Bool.not_false, Bool.not_true, Bool.true_or, Bool.false_or])) | (refine PW.cond rfl ?_ ?_ <;> intro hcond <;> (try contradiction) <;> try simp only [decide_eq_true_eq, decide_eq_false_iff_not] at hcond) | refine And.intro ?_ ?_ | exact (fun h => Bool.noConfusion h) | omega | (simp only [decide_eq_true_eq, decide_eq_false_iff_not, List.length_cons, List.length_nil, List.length_append, List.length_map, Sh.size] <;> omega) | (go_unwrap; omega))
        · exact ⟨(i + 1, m + z, u / 10), rfl, ⟨hlt', by simp only; omega, by simp only; omega⟩, by simp only; omega⟩
      · have hd' : decide ((i : Int) < r.length) = false := by simp only [decide_eq_false_iff_not]; omega
        rw [List.drop_eq_nil_of_le hlt', partV] at hm
        repeat' (first | refine PW.seq ?_ | refine PW.block ?_ | ((first | refine PW.region ?_ | refine PW.regionQ ?_ | refine PW.exit ?_ | refine PW.ret ?_ | refine PW.skip ?_); simp only [hd', SS, SS2, gArgs, gOk, Nat.reduceAdd, rdV, rdD, reduceIte, Nat.reduceEqDiff, Nat.reduceBEq, PV.bin, PV.binOk, binI, binS, PV.withInt, PV.withIntP, okAll, PV.under, PV.okUnder, eq_self, implies_true, deadOk, ne_eq, allOk, RVar.val, RVar.ok, retV, PV.seen, PV.view, beq_self_eq_true, PV.flat, PV.noOwn, id_eq, behind, PV.kill, MObj.kill, killTag, reduceCtorEq, nilB]; (try go_unwrap; try simp only [hd', toNat_add2, toNat_add1, Int.toNat_natCast, Bool.false_and, Bool.true_and, true_implies, true_and, Bool.false_eq_true, reduceCtorEq, false_implies, Bool.not_false, Bool.not_true, Bool.true_or, Bool.false_or])) | (refine PW.cond rfl ?_ ?_ <;> intro hcond <;> (try contradiction) <;> try simp only [decide_eq_true_eq, decide_eq_false_iff_not] at hcond) | refine And.intro ?_ ?_ | exact (fun h => Bool.noConfusion h) | omega | (simp only [decide_eq_true_eq, decide_eq_false_iff_not, List.length_cons, List.length_nil, List.length_append, List.length_map, Sh.size] <;> omega) | (go_unwrap; omega))
        rw [milV, hc]
        exact congrArg (PV.int IntKind.i64) (by omega)
theorem v24 (s : List UInt8) (hs : s.length ≤ 9223372036854775806) : VCalls Try.prog G0 24 [.str s] (valV s) := by
  refine VCalls.of_PW Try.func24 k24 mix (by simp [c24]) ?_
  have hcut : (cutS s 46).1.length ≤ s.length ∧ (cutS s 46).2.1.length ≤ s.length := by
    unfold cutS
    split
    · simp; omega
    · simp
  have hv : ∀ x y, (cutS s 46).1 = x → (cutS s 46).2.1 = y → valV s = (match lexV 0 x with
      | none => .tup [.int .i64 0, .bool false]
      | some n => if n = 1000000000000 ∧ 0 < partV 100000 y then .tup [.int .i64 0, .bool false] else .tup [.int .i64 (n * 1000000 + partV 100000 y : Nat), .bool true]) := by
    rintro x y rfl rfl; rfl
  have hcall := v34 s 46 hs
  generalize (cutS s 46).1 = w at *
  generalize (cutS s 46).2.1 = r at *
  generalize (cutS s 46).2.2 = fd at *
  rw [hv w r rfl rfl]
  simp only [c24, L24, argE]
  repeat' (first | refine PW.seq ?_ | refine PW.block ?_ | ((first | refine PW.region ?_ | refine PW.regionQ ?_ | refine PW.exit ?_ | refine PW.ret ?_ | refine PW.skip ?_); simp only [SS, SS2, gArgs, gOk, Nat.reduceAdd, rdV, rdD, reduceIte, Nat.reduceEqDiff, Nat.reduceBEq, PV.bin, PV.binOk, binI, binS, PV.withInt, PV.withIntP, okAll, PV.under, PV.okUnder, eq_self, implies_true, deadOk, ne_eq, allOk, RVar.val, RVar.ok, retV, PV.seen, PV.view, beq_self_eq_true, PV.flat, PV.noOwn, id_eq, behind, PV.kill, MObj.kill, killTag, reduceCtorEq, nilB]; (try go_unwrap; try simp only [toNat_add2, toNat_add1, Int.toNat_natCast, Bool.false_and, Bool.true_and, true_implies, true_and, Bool.false_eq_true, reduceCtorEq, false_implies, Bool.not_false, Bool.not_true, Bool.true_or, Bool.false_or])) | (refine PW.cond rfl ?_ ?_ <;> intro hcond <;> (try contradiction) <;> try simp only [decide_eq_true_eq, decide_eq_false_iff_not] at hcond) | (apply goCall_V e34; (case hV => (simp only [SS, SS2, gArgs, gOk, Nat.reduceAdd, rdV, rdD, reduceIte, Nat.reduceEqDiff, Nat.reduceBEq, PV.bin, PV.binOk, binI, binS, PV.withInt, PV.withIntP, okAll, PV.under, PV.okUnder, eq_self, implies_true, deadOk, ne_eq, allOk, RVar.val, RVar.ok, retV, PV.seen, PV.view, beq_self_eq_true, PV.flat, PV.noOwn, id_eq, behind, PV.kill, MObj.kill, killTag, reduceCtorEq, nilB]; (try go_unwrap; try simp only [toNat_add2, toNat_add1, Int.toNat_natCast, Bool.false_and, Bool.true_and, true_implies, true_and, Bool.false_eq_true, reduceCtorEq, false_implies, Bool.not_false, Bool.not_true, Bool.true_or, Bool.false_or]); exact hcall)); (try (case hs => rfl)); (try (case hf => first | exact Or.inl rfl | exact Or.inr ⟨rfl, rfl⟩ | exact Or.inr ⟨rfl, by simp only [SS, SS2, gArgs, gOk, Nat.reduceAdd, rdV, rdD, reduceIte, Nat.reduceEqDiff, Nat.reduceBEq, PV.bin, PV.binOk, binI, binS, PV.withInt, PV.withIntP, okAll, PV.under, PV.okUnder, eq_self, implies_true, deadOk, ne_eq, allOk, RVar.val, RVar.ok, retV, PV.seen, PV.view, beq_self_eq_true, PV.flat, PV.noOwn, id_eq, behind, PV.kill, MObj.kill, killTag, reduceCtorEq, nilB]⟩)); all_goals (simp only [SS, SS2, gArgs, gOk, Nat.reduceAdd, rdV, rdD, reduceIte, Nat.reduceEqDiff, Nat.reduceBEq, PV.bin, PV.binOk, binI, binS, PV.withInt, PV.withIntP, okAll, PV.under, PV.okUnder, eq_self, implies_true, deadOk, ne_eq, allOk, RVar.val, RVar.ok, retV, PV.seen, PV.view, beq_self_eq_true, PV.flat, PV.noOwn, id_eq, behind, PV.kill, MObj.kill, killTag, reduceCtorEq, nilB]; (try go_unwrap; try simp only [toNat_add2, toNat_add1, Int.toNat_natCast, Bool.false_and, Bool.true_and, true_implies, true_and, Bool.false_eq_true, reduceCtorEq, false_implies, Bool.not_false, Bool.not_true, Bool.true_or, Bool.false_or]))) | refine And.intro ?_ ?_ | exact (fun h => Bool.noConfusion h) | omega | (simp only [decide_eq_true_eq, decide_eq_false_iff_not, List.length_cons, List.length_nil, List.length_append, List.length_map, Sh.size] <;> omega) | (go_unwrap; omega))
  refine PW.loop (σ := Nat × Nat) [5, 7, 20, 21, 22] (fun j => [.str r, .int .i64 j.2, .list none (u8s w), .int .i64 w.length, .int .i64 j.1]) (fun _ => []) (fun j => j.1 ≤ w.length ∧ j.2 ≤ 1000000000000 ∧ lexV 0 w = lexV j.2 (w.drop j.1)) (fun j => w.length - j.1) (0, 0) ?_ rfl ⟨by simp, by simp, by simp⟩ ?_
  · simp only [SS, SS2, gArgs, gOk, Nat.reduceAdd, rdV, rdD, reduceIte, Nat.reduceEqDiff, Nat.reduceBEq, PV.bin, PV.binOk, binI, binS, PV.withInt, PV.withIntP, okAll, PV.under, PV.okUnder, eq_self, implies_true, deadOk, ne_eq, allOk, RVar.val, RVar.ok, retV, PV.seen, PV.view, beq_self_eq_true, PV.flat, PV.noOwn, id_eq, behind, PV.kill, MObj.kill, killTag, reduceCtorEq, nilB]; rfl
  rintro ⟨j, n⟩ ⟨hj, hn, hc⟩
  simp only at hj hn hc
  simp only [List.zip_cons_cons, List.zip_nil_left]
  rcases Nat.lt_or_ge j w.length with hlt | hlt
  · have hd : decide ((j : Int) < w.length) = true := by simp only [decide_eq_true_eq]; omega
    have hb : (w.getD j 0 - 48).toNat < 256 := UInt8.toNat_lt _
    have hx := u8s_getD w j hlt
    rw [drop_cons hlt, lexV] at hc
    repeat' (first | refine PW.seq ?_ | refine PW.block ?_ | ((first | refine PW.region ?_ | refine PW.regionQ ?_ | refine PW.exit ?_ | refine PW.ret ?_ | refine PW.skip ?_); simp only [hd, hx, SS, SS2, gArgs, gOk, Nat.reduceAdd, rdV, rdD, reduceIte, Nat.reduceEqDiff, Nat.reduceBEq, PV.bin, PV.binOk, binI, binS, PV.withInt, PV.withIntP, okAll, PV.under, PV.okUnder, eq_self, implies_true, deadOk, ne_eq, allOk, RVar.val, RVar.ok, retV, PV.seen, PV.view, beq_self_eq_true, PV.flat, PV.noOwn, id_eq, behind, PV.kill, MObj.kill, killTag, reduceCtorEq, nilB]; (try go_unwrap; try simp only [hd, hx, toNat_add2, toNat_add1, Int.toNat_natCast, Bool.false_and, Bool.true_and, true_implies, true_and, Bool.false_eq_true, reduceCtorEq, false_implies, Bool.not_false, Bool.not_true, Bool.true_or, Bool.false_or])) | (refine PW.cond rfl ?_ ?_ <;> intro hcond <;> (try contradiction) <;> try simp only [decide_eq_true_eq, decide_eq_false_iff_not] at hcond) | refine And.intro ?_ ?_ | exact (fun h => Bool.noConfusion h) | omega | (simp only [decide_eq_true_eq, decide_eq_false_iff_not, List.length_cons, List.length_nil, List.length_append, List.length_map, Sh.size] <;> omega) | (go_unwrap; omega))
    · rw [if_pos (by omega)] at hc
      rw [hc]
    · rw [if_neg (by omega)] at hc
      exact ⟨(j + 1, 10 * n + (w.getD j 0 - 48).toNat), rfl, ⟨hlt, by simp only; omega, hc⟩, by simp only; omega⟩
  · have hd : decide ((j : Int) < w.length) = false := by simp only [decide_eq_false_iff_not]; omega
    rw [List.drop_eq_nil_of_le hlt, lexV] at hc
    rw [hc]
    repeat' (first | refine PW.seq ?_ | refine PW.block ?_ | ((first | refine PW.region ?_ | refine PW.regionQ ?_ | refine PW.exit ?_ | refine PW.ret ?_ | refine PW.skip ?_); simp only [hd, SS, SS2, gArgs, gOk, Nat.reduceAdd, rdV, rdD, reduceIte, Nat.reduceEqDiff, Nat.reduceBEq, PV.bin, PV.binOk, binI, binS, PV.withInt, PV.withIntP, okAll, PV.under, PV.okUnder, eq_self, implies_true, deadOk, ne_eq, allOk, RVar.val, RVar.ok, retV, PV.seen, PV.view, beq_self_eq_true, PV.flat, PV.noOwn, id_eq, behind, PV.kill, MObj.kill, killTag, reduceCtorEq, nilB]; (try go_unwrap; try simp only [hd, toNat_add2, toNat_add1, Int.toNat_natCast, Bool.false_and, Bool.true_and, true_implies, true_and, Bool.false_eq_true, reduceCtorEq, false_implies, Bool.not_false, Bool.not_true, Bool.true_or, Bool.false_or])) | (refine PW.cond rfl ?_ ?_ <;> intro hcond <;> (try contradiction) <;> try simp only [decide_eq_true_eq, decide_eq_false_iff_not] at hcond) | refine And.intro ?_ ?_ | exact (fun h => Bool.noConfusion h) | omega | (simp only [decide_eq_true_eq, decide_eq_false_iff_not, List.length_cons, List.length_nil, List.length_append, List.length_map, Sh.size] <;> omega) | (go_unwrap; omega))
    have hp := partV_le 100000 r
    refine PW.loop (σ := Nat × Nat × Nat) [5, 7, 10, 11, 12] (fun j => [.str r, .int .i64 n, .int .i64 j.2.1, .int .i64 j.1, .int .i64 j.2.2]) (fun _ => []) (fun j => j.1 ≤ r.length ∧ j.2.2 ≤ 100000 ∧ j.2.1 + partV j.2.2 (r.drop j.1) = partV 100000 r) (fun j => r.length - j.1) (0, 0, 100000) ?_ rfl ⟨by simp, by simp, by simp⟩ ?_
    · simp only [SS, SS2, gArgs, gOk, Nat.reduceAdd, rdV, rdD, reduceIte, Nat.reduceEqDiff, Nat.reduceBEq, PV.bin, PV.binOk, binI, binS, PV.withInt, PV.withIntP, okAll, PV.under, PV.okUnder, eq_self, implies_true, deadOk, ne_eq, allOk, RVar.val, RVar.ok, retV, PV.seen, PV.view, beq_self_eq_true, PV.flat, PV.noOwn, id_eq, behind, PV.kill, MObj.kill, killTag, reduceCtorEq, nilB]; rfl
    rintro ⟨i, m, u⟩ ⟨hi, hu, hm⟩
    simp only at hi hu hm
    simp only [List.zip_cons_cons, List.zip_nil_left]
    rcases Nat.lt_or_ge i r.length with hlt' | hlt'
    · have hd' : decide ((i : Int) < r.length) = true := by simp only [decide_eq_true_eq]; omega
      rw [drop_cons hlt', partV] at hm
      have h0 : ((u : Int) * ((r.getD i 0 - 48).toNat : Int)) = ((u * (r.getD i 0 - 48).toNat : Nat) : Int) := by rw [Int.natCast_mul]
      have h1 : u * (r.getD i 0 - 48).toNat ≤ 28400000 := by omega
      generalize hz : u * (r.getD i 0 - 48).toNat = z at *
      repeat' (first | refine PW.seq ?_ | refine PW.block ?_ | ((first | refine PW.region ?_ | refine PW.regionQ ?_ | refine PW.exit ?_ | refine PW.ret ?_ | refine PW.skip ?_); simp only [hd', h0, tdiv10, SS, SS2, gArgs, gOk, Nat.reduceAdd, rdV, rdD, reduceIte, Nat.reduceEqDiff, Nat.reduceBEq, PV.bin, PV.binOk, binI, binS, PV.withInt, PV.withIntP, okAll, PV.under, PV.okUnder, eq_self, implies_true, deadOk, ne_eq, allOk, RVar.val, RVar.ok, retV, PV.seen, PV.view, beq_self_eq_true, PV.flat, PV.noOwn, id_eq, behind, PV.kill, MObj.kill, killTag, reduceCtorEq, nilB]; (try go_unwrap; try simp only [hd', h0, tdiv10, toNat_add2, toNat_add1, Int.toNat_natCast, Bool.false_and, Bool.true_and, true_implies, true_and, Bool.false_eq_true, reduceCtorEq, false_implies, Bool.not_false, Bool.not_true, Bool.true_or, Bool.false_or])) | (refine PW.cond rfl ?_ ?_ <;> intro hcond <;> (try contradiction) <;> try simp only [decide_eq_true_eq, decide_eq_false_iff_not] at hcond) | refine And.intro ?_ ?_ | exact (fun h => Bool.noConfusion h) | omega | (simp only [decide_eq_true_eq, decide_eq_false_iff_not, List.length_cons, List.length_nil, List.length_append, List.length_map, Sh.size] <;> omega) | (go_unwrap; omega))
      exact ⟨(i + 1, m + z, u / 10), rfl, ⟨hlt', by simp only; omega, by simp only; omega⟩, by simp only; omega⟩
    · have hd' : decide ((i : Int) < r.length) = false := by simp only [decide_eq_false_iff_not]; omega
      rw [List.drop_eq_nil_of_le hlt', partV] at hm
      repeat' (first | refine PW.seq ?_ | refine PW.block ?_ | ((first | refine PW.region ?_ | refine PW.regionQ ?_ | refine PW.exit ?_ | refine PW.ret ?_ | refine PW.skip ?_); simp only [hd', SS, SS2, gArgs, gOk, Nat.reduceAdd, rdV, rdD, reduceIte, Nat.reduceEqDiff, Nat.reduceBEq, PV.bin, PV.binOk, binI, binS, PV.withInt, PV.withIntP, okAll, PV.under, PV.okUnder, eq_self, implies_true, deadOk, ne_eq, allOk, RVar.val, RVar.ok, retV, PV.seen, PV.view, beq_self_eq_true, PV.flat, PV.noOwn, id_eq, behind, PV.kill, MObj.kill, killTag, reduceCtorEq, nilB]; (try go_unwrap; try simp only [hd', toNat_add2, toNat_add1, Int.toNat_natCast, Bool.false_and, Bool.true_and, true_implies, true_and, Bool.false_eq_true, reduceCtorEq, false_implies, Bool.not_false, Bool.not_true, Bool.true_or, Bool.false_or])) | (refine PW.cond rfl ?_ ?_ <;> intro hcond <;> (try contradiction) <;> try simp only [decide_eq_true_eq, decide_eq_false_iff_not] at hcond) | refine And.intro ?_ ?_ | exact (fun h => Bool.noConfusion h) | omega | (simp only [decide_eq_true_eq, decide_eq_false_iff_not, List.length_cons, List.length_nil, List.length_append, List.length_map, Sh.size] <;> omega) | (go_unwrap; omega))
      · simp only [Bool.and_eq_true, decide_eq_true_eq] at hcond
        rw [if_pos ⟨by omega, by omega⟩]
      · simp only [Bool.and_eq_false_iff, decide_eq_false_iff_not] at hcond
        rw [if_neg (by omega)]
        rw [← hm]; rfl
end Go.Proofs.Ytbbfjkjgboljkaa
