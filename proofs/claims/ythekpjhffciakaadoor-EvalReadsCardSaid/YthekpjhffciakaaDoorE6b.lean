import Derived.Test.YthekpjhffciakaaDoorE6
namespace Go.Proofs.YthekpjhffciakaaDoor
open Go PG Go.Proofs
set_option linter.unusedSimpArgs false
set_option linter.unusedVariables false
set_option maxHeartbeats 4000000
variable {G : Globs}
theorem or_disj (h l : Nat) (hl : l < 17592186044416) (hh : h < 1000000) : IntKind.u64.wrap ((BitVec.ofInt IntKind.u64.bits ((h * 17592186044416 : Nat) : Int) ||| BitVec.ofInt IntKind.u64.bits ((l : Nat) : Int)).toNat : Int) = ((h * 17592186044416 + l : Nat) : Int) := by
  have h1 : (BitVec.ofInt IntKind.u64.bits ((h * 17592186044416 : Nat) : Int) ||| BitVec.ofInt IntKind.u64.bits ((l : Nat) : Int)).toNat = h * 17592186044416 + l := by
    show (BitVec.ofInt 64 ((h * 17592186044416 : Nat) : Int) ||| BitVec.ofInt 64 ((l : Nat) : Int)).toNat = _
    rw [BitVec.ofInt_natCast, BitVec.ofInt_natCast, BitVec.toNat_or, BitVec.toNat_ofNat, BitVec.toNat_ofNat, Nat.mod_eq_of_lt (show h * 17592186044416 < 2 ^ 64 by omega), Nat.mod_eq_of_lt (show l < 2 ^ 64 by omega)]
    have := Nat.two_pow_add_eq_or_of_lt (i := 44) (show l < 2 ^ 44 by omega) h
    rw [Nat.mul_comm] at this
    exact this.symm
  rw [h1, wrapN (by omega)]
theorem divS (U : Nat) (hU1 : U < 17592186044416000000) : ∃ q1 r1 : Nat, q1 * 4096000000 + r1 = U ∧ r1 < 4096000000 ∧ q1 < 4294967296 ∧ IntKind.u64.wrap ((U : Int).tdiv 4096000000) = (q1 : Int) ∧ IntKind.u64.wrap ((U : Int) - IntKind.u64.wrap ((q1 : Int) * 4096000000)) = (r1 : Int) := by
  have hqr : U / 4096000000 * 4096000000 + U % 4096000000 = U := Nat.div_add_mod' U 4096000000
  have hr : U % 4096000000 < 4096000000 := Nat.mod_lt _ (by omega)
  refine ⟨U / 4096000000, U % 4096000000, hqr, hr, by omega, ?_, ?_⟩
  · rw [Int.tdiv_eq_ediv_of_nonneg (Int.natCast_nonneg _)]
    have : (U : Int) / 4096000000 = ((U / 4096000000 : Nat) : Int) := by omega
    rw [this]
    exact wrapN (by omega)
  · generalize U / 4096000000 = q at *
    generalize U % 4096000000 = r at *
    have e1 : ((q : Int) * 4096000000) = ((q * 4096000000 : Nat) : Int) := by omega
    rw [e1, wrapN (a := q * 4096000000) (by omega)]
    have e2 : (U : Int) - ((q * 4096000000 : Nat) : Int) = (r : Int) := by omega
    rw [e2]
    exact wrapN (by omega)
theorem divT' (U v q1 r1 : Nat) (hq : q1 * 4096000000 + r1 = U) (hr : r1 < 4096000000) (hv : v < 4294967296) :
    IntKind.u64.wrap (IntKind.u64.wrap (IntKind.u64.wrap ((U : Int) * 4294967296) + (v : Int)) - IntKind.u64.wrap ((q1 : Int) * 17592186044416000000)) = ((r1 * 4294967296 + v : Nat) : Int) := by
  subst hq
  simp only [IntKind.wrap_u64]
  omega
theorem divE (hi lo q1 r1 q0 r0 : Nat) (hh : hi < 1000000) (hl : lo < 18446744073709551616)
    (h1 : q1 * 4096000000 + r1 = hi * 17592186044416 + lo / 1048576) (h1' : r1 < 4096000000)
    (h2 : q0 * 4096000000 + r0 = r1 * 4294967296 + (lo % 1048576 * 17592186044416) / 4294967296) (h2' : r0 < 4096000000) :
    (hi * 18446744073709551616 + lo) / 1000000 = q1 * 4294967296 + q0 ∧ (hi * 18446744073709551616 + lo) % 1000000 = (r0 * 4294967296 + (lo % 1048576 * 17592186044416) % 4294967296) / 17592186044416 := by
  have e1 : (lo % 1048576 * 17592186044416) / 4294967296 = lo % 1048576 * 4096 := by omega
  have e2 : (lo % 1048576 * 17592186044416) % 4294967296 = 0 := by omega
  rw [e1] at h2
  rw [e2]
  generalize hm : lo % 1048576 = m at *
  generalize hd : lo / 1048576 = d at *
  have hlo : lo = d * 1048576 + m := by rw [← hm, ← hd]; exact (Nat.div_add_mod' lo 1048576).symm
  clear e1 e2 hm hd
  have hz : ∃ z : Int, (r0 : Int) * 4294967296 = z * 17592186044416 ∧ (hi : Int) * 18446744073709551616 + lo = ((q1 : Int) * 4294967296 + q0) * 1000000 + z := by
    refine ⟨(hi : Int) * 18446744073709551616 + lo - ((q1 : Int) * 4294967296 + q0) * 1000000, ?_, by omega⟩
    have a1 : (q1 : Int) * 4096000000 + r1 = hi * 17592186044416 + d := by omega
    have a2 : (q0 : Int) * 4096000000 + r0 = r1 * 4294967296 + m * 4096 := by omega
    have a3 : (lo : Int) = d * 1048576 + m := by omega
    rw [a3]
    omega
  obtain ⟨z, hz1, hz2⟩ := hz
  have hr : (r0 : Int) = z * 4096 := by omega
  obtain ⟨w, rfl⟩ : ∃ w : Nat, z = w := ⟨z.toNat, by omega⟩
  have hr' : r0 = w * 4096 := by omega
  obtain ⟨N, hN⟩ : ∃ N : Nat, hi * 18446744073709551616 + lo = N := ⟨_, rfl⟩
  have hNz : (N : Int) = ((q1 : Int) * 4294967296 + q0) * 1000000 + w := by rw [← hz2, ← hN]; omega
  rw [hN, hr']
  clear hN hz1 hz2 h1 h2 hlo hr
  have hw : w < 1000000 := by omega
  have hq : N = (q1 * 4294967296 + q0) * 1000000 + w := by omega
  rw [hq]
  obtain ⟨Q, hQ⟩ : ∃ Q : Nat, q1 * 4294967296 + q0 = Q := ⟨_, rfl⟩
  rw [hQ]
  refine ⟨?_, ?_⟩
  · omega
  · have : (w * 4096 * 4294967296 + 0) / 17592186044416 = w := by
      rw [Nat.add_zero, Nat.mul_assoc]
      exact Nat.mul_div_cancel w (by omega)
    rw [this]; omega
theorem g0L (hi : Nat) (hh : hi < 1000000) : IntKind.u64.wrap ((hi : Int) * 2 ^ min (Int.toNat 44) IntKind.u64.bits) = ((hi * 17592186044416 : Nat) : Int) := by
  have hb : min (Int.toNat 44) IntKind.u64.bits = 44 := rfl
  rw [hb, IntKind.wrap_u64]; omega
theorem g0M (lo : Nat) : (lo : Int).fdiv (2 ^ min ((64 : Int) - 44).toNat IntKind.u64.bits) = ((lo / 1048576 : Nat) : Int) := by
  have hb2 : min ((64 : Int) - 44).toNat IntKind.u64.bits = 20 := rfl
  rw [hb2, show (2 : Int) ^ 20 = 1048576 from rfl, Int.fdiv_eq_ediv_of_nonneg _ (by omega)]; omega
theorem g2L (lo : Nat) (hl : lo < 18446744073709551616) : IntKind.u64.wrap ((lo : Int) * 2 ^ min (Int.toNat 44) IntKind.u64.bits) = ((lo % 1048576 * 17592186044416 : Nat) : Int) := by
  have hb : min (Int.toNat 44) IntKind.u64.bits = 44 := rfl
  rw [hb, IntKind.wrap_u64]; omega
theorem k8L (x : Nat) : ((x : Nat) : Int).fdiv (2 ^ min (Int.toNat 44) IntKind.u64.bits) = ((x / 17592186044416 : Nat) : Int) := by
  have s44 : min (Int.toNat 44) IntKind.u64.bits = 44 := rfl
  rw [s44, show (2 : Int) ^ 44 = 17592186044416 from rfl, Int.fdiv_eq_ediv_of_nonneg _ (by decide)]
  omega
theorem k9L (q1 q0 : Nat) (h1 : q1 < 4294967296) (h0 : q0 < 4294967296) : IntKind.u64.wrap (IntKind.u64.wrap ((q1 : Int) * 4294967296) + (q0 : Int)) = ((q1 * 4294967296 + q0 : Nat) : Int) := by
  simp only [IntKind.wrap_u64]; omega
/-- All that a division by a million reckons. -/
theorem divFacts (hi lo : Nat) (hh : hi < 1000000) (hl : lo < 18446744073709551616) : ∃ U V v1 v0 q1 r1 U2 q0 r0 : Nat,
    IntKind.u64.wrap ↑(BitVec.ofInt IntKind.u64.bits (IntKind.u64.wrap ((hi : Int) * 2 ^ min (Int.toNat 44) IntKind.u64.bits)) ||| BitVec.ofInt IntKind.u64.bits ((lo : Int).fdiv (2 ^ min ((64 : Int) - 44).toNat IntKind.u64.bits))).toNat = (U : Int) ∧
    IntKind.u64.wrap ((lo : Int) * 2 ^ min (Int.toNat 44) IntKind.u64.bits) = (V : Int) ∧
    (V : Int).fdiv (2 ^ min (Int.toNat 32) IntKind.u64.bits) = (v1 : Int) ∧
    IntKind.u64.wrap ((BitVec.ofInt IntKind.u64.bits (V : Int) &&& BitVec.ofInt IntKind.u64.bits 4294967295).toNat : Int) = (v0 : Int) ∧
    IntKind.u64.wrap ((U : Int).tdiv 4096000000) = (q1 : Int) ∧ IntKind.u64.wrap ((U : Int) - IntKind.u64.wrap ((q1 : Int) * 4096000000)) = (r1 : Int) ∧
    IntKind.u64.wrap (IntKind.u64.wrap (IntKind.u64.wrap ((U : Int) * 4294967296) + (v1 : Int)) - IntKind.u64.wrap ((q1 : Int) * 17592186044416000000)) = (U2 : Int) ∧
    IntKind.u64.wrap ((U2 : Int).tdiv 4096000000) = (q0 : Int) ∧ IntKind.u64.wrap ((U2 : Int) - IntKind.u64.wrap ((q0 : Int) * 4096000000)) = (r0 : Int) ∧
    (IntKind.u64.wrap (IntKind.u64.wrap (IntKind.u64.wrap ((U2 : Int) * 4294967296) + (v0 : Int)) - IntKind.u64.wrap ((q0 : Int) * 17592186044416000000))).fdiv (2 ^ min (Int.toNat 44) IntKind.u64.bits) = (((hi * 18446744073709551616 + lo) % 1000000 : Nat) : Int) ∧
    IntKind.u64.wrap (IntKind.u64.wrap ((q1 : Int) * 4294967296) + (q0 : Int)) = (((hi * 18446744073709551616 + lo) / 1000000 : Nat) : Int) ∧
    decide ((4294967296 : Int) ≤ (q1 : Int)) = false ∧ decide ((4294967296 : Int) ≤ (q0 : Int)) = false := by
  have hlo : lo / 1048576 < 17592186044416 := by omega
  have hU1 : hi * 17592186044416 + lo / 1048576 < 17592186044416000000 :=
    Nat.lt_of_lt_of_le (Nat.add_lt_add_of_le_of_lt (Nat.mul_le_mul_right 17592186044416 (show hi ≤ 999999 by omega)) hlo) (Nat.le_of_ble_eq_true rfl)
  have hV1 : lo % 1048576 * 17592186044416 < 18446744073709551616 :=
    Nat.lt_of_le_of_lt (Nat.mul_le_mul_right 17592186044416 (show lo % 1048576 ≤ 1048575 from Nat.le_of_lt_succ (Nat.mod_lt _ (by omega)))) (Nat.lt_of_succ_le (Nat.le_of_ble_eq_true rfl))
  have hv1 : (lo % 1048576 * 17592186044416) / 4294967296 < 4294967296 := by omega
  have hv0 : (lo % 1048576 * 17592186044416) % 4294967296 < 4294967296 := by omega
  obtain ⟨q1, r1, hqr, hr1', hq1', g5, g6⟩ := divS _ hU1
  have hU2 : r1 * 4294967296 + (lo % 1048576 * 17592186044416) / 4294967296 < 17592186044416000000 :=
    Nat.lt_of_lt_of_le (Nat.add_lt_add_of_le_of_lt (Nat.mul_le_mul_right 4294967296 (show r1 ≤ 4095999999 from Nat.le_of_lt_succ hr1')) hv1) (Nat.le_of_ble_eq_true rfl)
  obtain ⟨q0, r0, hqr0, hr0', hq0', k5, k6⟩ := divS _ hU2
  have hfin := divE hi lo q1 r1 q0 r0 hh hl hqr hr1' hqr0 hr0'
  have d3 : decide ((4294967296 : Int) ≤ (q1 : Int)) = false := by clear g5 g6 k5 k6 hfin; simp only [decide_eq_false_iff_not]; omega
  have d4 : decide ((4294967296 : Int) ≤ (q0 : Int)) = false := by clear g5 g6 k5 k6 hfin; simp only [decide_eq_false_iff_not]; omega
  refine ⟨_, _, _, _, q1, r1, _, q0, r0, ?_, g2L lo hl, shr32 _, mask32 hV1, g5, g6, divT' _ _ q1 r1 hqr hr1' hv1, k5, k6, ?_, ?_, d3, d4⟩
  · rw [g0L hi hh, g0M lo]; exact or_disj hi _ hlo hh
  · rw [divT' _ _ q0 r0 hqr0 hr0' hv0, hfin.2]; exact k8L _
  · rw [hfin.1]; exact k9L q1 q0 hq1' hq0'
set_option maxRecDepth 100000
theorem v97 (hi lo : Nat) (hh : hi < 1000000) (hl : lo < 18446744073709551616) : VCalls Tryd.prog G 97 [.int .u64 hi, .int .u64 lo, .int .u64 1000000]
    (.tup [.int .u64 (((hi * 18446744073709551616 + lo) / 1000000 : Nat) : Int), .int .u64 (((hi * 18446744073709551616 + lo) % 1000000 : Nat) : Int)]) := by
  refine VCalls.of_PW Tryd.func97 k97 mix (by simp [c97]) ?_
  simp only [c97, L97, argE]
  have d0 : decide ((1000000 : Int) = 0) = false := by decide
  have d1 : decide ((1000000 : Int) ≤ (hi : Int)) = false := by simp only [decide_eq_false_iff_not]; omega
  have f2 : IntKind.u64.wrap (1000000 * 2 ^ min (Int.toNat 44) IntKind.u64.bits) = 17592186044416000000 := by decide
  have f3 : Int.fdiv 17592186044416000000 (2 ^ min (Int.toNat 32) IntKind.u64.bits) = 4096000000 := by decide
  have f4 : IntKind.u64.wrap ↑(BitVec.ofInt IntKind.u64.bits 17592186044416000000 &&& BitVec.ofInt IntKind.u64.bits 4294967295).toNat = 0 := by decide
  by_cases h0 : hi = 0
  · have d2 : decide ((hi : Int) = 0) = true := by simp only [decide_eq_true_eq]; omega
    have t1 : IntKind.u64.wrap ((lo : Int).tdiv 1000000) = ((lo / 1000000 : Nat) : Int) := by
      rw [Int.tdiv_eq_ediv_of_nonneg (by omega), IntKind.wrap_u64]; omega
    have t2 : Int.tmod (lo : Int) 1000000 = ((lo % 1000000 : Nat) : Int) := by
      rw [Int.tmod_eq_emod_of_nonneg (by omega)]; omega
    repeat' (first | refine PW.seq ?_ | refine PW.block ?_ | ((first | refine PW.region ?_ | refine PW.regionQ ?_ | refine PW.exit ?_ | refine PW.ret ?_ | refine PW.skip ?_); simp only [d0, d1, d2, t1, t2, SS, SS2, SS3, Option.map_some, gArgs, gOk, Nat.reduceAdd, PV.shift, MObj.shift, rdV, rdD, reduceIte, Nat.reduceEqDiff, Nat.reduceBEq, PV.bin, PV.binOk, binI, binS, PV.withInt, PV.withIntP, okAll, PV.under, PV.okUnder, eq_self, implies_true, deadOk, ne_eq, allOk, RVar.val, RVar.ok, retV, PV.seen, PV.view, beq_self_eq_true, PV.flat, PV.noOwn, id_eq, behind, PV.kill, MObj.kill, killTag, reduceCtorEq, nilB]; (try go_unwrap; try simp only [d0, d1, d2, t1, t2, toNat_add2, toNat_add1, Int.toNat_natCast, Bool.false_and, Bool.true_and, true_implies, true_and, Bool.false_eq_true, reduceCtorEq, false_implies, Bool.not_false, Bool.not_true, Bool.true_or, Bool.false_or])) | refine PW.regionA ?_ | exact schedW_stop_i | ((first | refine schedW_alt_i ?_ ?_ | refine schedW_done_i ?_); focus (simp only [d0, d1, d2, t1, t2, SS, SS2, SS3, Option.map_some, gArgs, gOk, Nat.reduceAdd, PV.shift, MObj.shift, rdV, rdD, reduceIte, Nat.reduceEqDiff, Nat.reduceBEq, PV.bin, PV.binOk, binI, binS, PV.withInt, PV.withIntP, okAll, PV.under, PV.okUnder, eq_self, implies_true, deadOk, ne_eq, allOk, RVar.val, RVar.ok, retV, PV.seen, PV.view, beq_self_eq_true, PV.flat, PV.noOwn, id_eq, behind, PV.kill, MObj.kill, killTag, reduceCtorEq, nilB]; (try go_unwrap; try simp only [d0, d1, d2, t1, t2, toNat_add2, toNat_add1, Int.toNat_natCast, Bool.false_and, Bool.true_and, true_implies, true_and, Bool.false_eq_true, reduceCtorEq, false_implies, Bool.not_false, Bool.not_true, Bool.true_or, Bool.false_or]))) | (refine PW.cond rfl ?_ ?_ <;> intro hcond <;> (try contradiction) <;> try simp only [decide_eq_true_eq, decide_eq_false_iff_not] at hcond) | refine And.intro ?_ ?_ | exact Or.inr ⟨rfl, Nat.le_refl _⟩ | exact (fun h => Bool.noConfusion h) | omega | (simp only [decide_eq_true_eq, decide_eq_false_iff_not, List.length_cons, List.length_nil, List.length_append, List.length_map, Sh.size] <;> omega) | (go_unwrap; omega))
    all_goals (first | exact absurd hcond (by decide) | (subst h0; simp only [Nat.zero_mul, Nat.zero_add]; done) | trace_state)
  · have d2 : decide ((hi : Int) = 0) = false := by simp only [decide_eq_false_iff_not]; omega
    obtain ⟨U, V, v1, v0, q1, r1, U2, q0, r0, g1, g2, g3, g4, g5, g6, g7, k5, k6, k7, k9, d3, d4⟩ := divFacts hi lo hh hl
    clear hh hl
    have w1 : ∀ x : Int, decide (IntKind.u64.wrap x < 0) = false := fun x => by simp only [decide_eq_false_iff_not, IntKind.wrap_u64]; omega
    have w0 : IntKind.u64.wrap 0 = 0 := by decide
    repeat' (first | refine PW.seq ?_ | refine PW.block ?_ | ((first | refine PW.region ?_ | refine PW.regionQ ?_ | refine PW.exit ?_ | refine PW.ret ?_ | refine PW.skip ?_); simp only [d0, d1, d2, f2, f3, f4, g1, g2, g3, g4, g5, g6, SS, SS2, SS3, Option.map_some, gArgs, gOk, Nat.reduceAdd, PV.shift, MObj.shift, rdV, rdD, reduceIte, Nat.reduceEqDiff, Nat.reduceBEq, PV.bin, PV.binOk, binI, binS, PV.withInt, PV.withIntP, okAll, PV.under, PV.okUnder, eq_self, implies_true, deadOk, ne_eq, allOk, RVar.val, RVar.ok, retV, PV.seen, PV.view, beq_self_eq_true, PV.flat, PV.noOwn, id_eq, behind, PV.kill, MObj.kill, killTag, reduceCtorEq, nilB]; (try go_unwrap; try simp only [d0, d1, d2, f2, f3, f4, g1, g2, g3, g4, g5, g6, toNat_add2, toNat_add1, Int.toNat_natCast, Bool.false_and, Bool.true_and, true_implies, true_and, Bool.false_eq_true, reduceCtorEq, false_implies, Bool.not_false, Bool.not_true, Bool.true_or, Bool.false_or])) | refine PW.regionA ?_ | exact schedW_stop_i | ((first | refine schedW_alt_i ?_ ?_ | refine schedW_done_i ?_); focus (simp only [d0, d1, d2, f2, f3, f4, g1, g2, g3, g4, g5, g6, SS, SS2, SS3, Option.map_some, gArgs, gOk, Nat.reduceAdd, PV.shift, MObj.shift, rdV, rdD, reduceIte, Nat.reduceEqDiff, Nat.reduceBEq, PV.bin, PV.binOk, binI, binS, PV.withInt, PV.withIntP, okAll, PV.under, PV.okUnder, eq_self, implies_true, deadOk, ne_eq, allOk, RVar.val, RVar.ok, retV, PV.seen, PV.view, beq_self_eq_true, PV.flat, PV.noOwn, id_eq, behind, PV.kill, MObj.kill, killTag, reduceCtorEq, nilB]; (try go_unwrap; try simp only [d0, d1, d2, f2, f3, f4, g1, g2, g3, g4, g5, g6, toNat_add2, toNat_add1, Int.toNat_natCast, Bool.false_and, Bool.true_and, true_implies, true_and, Bool.false_eq_true, reduceCtorEq, false_implies, Bool.not_false, Bool.not_true, Bool.true_or, Bool.false_or]))) | (refine PW.cond rfl ?_ ?_ <;> intro hcond <;> (try contradiction) <;> try simp only [decide_eq_true_eq, decide_eq_false_iff_not] at hcond) | (apply goCall_V e125; (case hV => (simp only [d0, d1, d2, f2, f3, f4, g1, g2, g3, g4, g5, g6, SS, SS2, SS3, Option.map_some, gArgs, gOk, Nat.reduceAdd, PV.shift, MObj.shift, rdV, rdD, reduceIte, Nat.reduceEqDiff, Nat.reduceBEq, PV.bin, PV.binOk, binI, binS, PV.withInt, PV.withIntP, okAll, PV.under, PV.okUnder, eq_self, implies_true, deadOk, ne_eq, allOk, RVar.val, RVar.ok, retV, PV.seen, PV.view, beq_self_eq_true, PV.flat, PV.noOwn, id_eq, behind, PV.kill, MObj.kill, killTag, reduceCtorEq, nilB]; (try go_unwrap; try simp only [d0, d1, d2, f2, f3, f4, g1, g2, g3, g4, g5, g6, toNat_add2, toNat_add1, Int.toNat_natCast, Bool.false_and, Bool.true_and, true_implies, true_and, Bool.false_eq_true, reduceCtorEq, false_implies, Bool.not_false, Bool.not_true, Bool.true_or, Bool.false_or]); exact v125)); (try (case hs => rfl)); (try (case hf => first | exact Or.inl rfl | exact Or.inr ⟨rfl, rfl⟩ | (refine Or.inl ?_; simp only [d0, d1, d2, f2, f3, f4, g1, g2, g3, g4, g5, g6, SS, SS2, SS3, Option.map_some, gArgs, gOk, Nat.reduceAdd, PV.shift, MObj.shift, rdV, rdD, reduceIte, Nat.reduceEqDiff, Nat.reduceBEq, PV.bin, PV.binOk, binI, binS, PV.withInt, PV.withIntP, okAll, PV.under, PV.okUnder, eq_self, implies_true, deadOk, ne_eq, allOk, RVar.val, RVar.ok, retV, PV.seen, PV.view, beq_self_eq_true, PV.flat, PV.noOwn, id_eq, behind, PV.kill, MObj.kill, killTag, reduceCtorEq, nilB]; done) | (refine Or.inr ⟨rfl, ?_⟩; simp only [d0, d1, d2, f2, f3, f4, g1, g2, g3, g4, g5, g6, SS, SS2, SS3, Option.map_some, gArgs, gOk, Nat.reduceAdd, PV.shift, MObj.shift, rdV, rdD, reduceIte, Nat.reduceEqDiff, Nat.reduceBEq, PV.bin, PV.binOk, binI, binS, PV.withInt, PV.withIntP, okAll, PV.under, PV.okUnder, eq_self, implies_true, deadOk, ne_eq, allOk, RVar.val, RVar.ok, retV, PV.seen, PV.view, beq_self_eq_true, PV.flat, PV.noOwn, id_eq, behind, PV.kill, MObj.kill, killTag, reduceCtorEq, nilB]; done))); all_goals (simp only [d0, d1, d2, f2, f3, f4, g1, g2, g3, g4, g5, g6, SS, SS2, SS3, Option.map_some, gArgs, gOk, Nat.reduceAdd, PV.shift, MObj.shift, rdV, rdD, reduceIte, Nat.reduceEqDiff, Nat.reduceBEq, PV.bin, PV.binOk, binI, binS, PV.withInt, PV.withIntP, okAll, PV.under, PV.okUnder, eq_self, implies_true, deadOk, ne_eq, allOk, RVar.val, RVar.ok, retV, PV.seen, PV.view, beq_self_eq_true, PV.flat, PV.noOwn, id_eq, behind, PV.kill, MObj.kill, killTag, reduceCtorEq, nilB]; (try go_unwrap; try simp only [d0, d1, d2, f2, f3, f4, g1, g2, g3, g4, g5, g6, toNat_add2, toNat_add1, Int.toNat_natCast, Bool.false_and, Bool.true_and, true_implies, true_and, Bool.false_eq_true, reduceCtorEq, false_implies, Bool.not_false, Bool.not_true, Bool.true_or, Bool.false_or]))) | refine And.intro ?_ ?_ | exact Or.inr ⟨rfl, Nat.le_refl _⟩ | exact (fun h => Bool.noConfusion h) | omega | (simp only [decide_eq_true_eq, decide_eq_false_iff_not, List.length_cons, List.length_nil, List.length_append, List.length_map, Sh.size] <;> omega) | (go_unwrap; omega))
    refine PW.loop (σ := Unit) [2, 8, 9, 10, 11, 13, 14, 15, 16] (fun _ => [.int .u64 17592186044416000000, .int .u64 44, .int .u64 4096000000, .int .u64 0, .int .u64 U, .int .u64 v1, .int .u64 v0, .int .u64 q1, .int .u64 r1]) (fun _ => []) (fun _ => True) (fun _ => 0) () ?_ rfl trivial ?_
    · simp only [SS, SS2, SS3, Option.map_some, gArgs, gOk, Nat.reduceAdd, PV.shift, MObj.shift, rdV, rdD, reduceIte, Nat.reduceEqDiff, Nat.reduceBEq, PV.bin, PV.binOk, binI, binS, PV.withInt, PV.withIntP, okAll, PV.under, PV.okUnder, eq_self, implies_true, deadOk, ne_eq, allOk, RVar.val, RVar.ok, retV, PV.seen, PV.view, beq_self_eq_true, PV.flat, PV.noOwn, id_eq, behind, PV.kill, MObj.kill, killTag, reduceCtorEq, nilB]; rfl
    rintro - -
    simp only [List.zip_cons_cons, List.zip_nil_left]
    repeat' (first | refine PW.seq ?_ | refine PW.block ?_ | ((first | refine PW.region ?_ | refine PW.regionQ ?_ | refine PW.exit ?_ | refine PW.ret ?_ | refine PW.skip ?_); simp only [d3, w1, w0, Int.mul_zero, g7, k5, k6, SS, SS2, SS3, Option.map_some, gArgs, gOk, Nat.reduceAdd, PV.shift, MObj.shift, rdV, rdD, reduceIte, Nat.reduceEqDiff, Nat.reduceBEq, PV.bin, PV.binOk, binI, binS, PV.withInt, PV.withIntP, okAll, PV.under, PV.okUnder, eq_self, implies_true, deadOk, ne_eq, allOk, RVar.val, RVar.ok, retV, PV.seen, PV.view, beq_self_eq_true, PV.flat, PV.noOwn, id_eq, behind, PV.kill, MObj.kill, killTag, reduceCtorEq, nilB]; (try go_unwrap; try simp only [d3, w1, w0, Int.mul_zero, g7, k5, k6, toNat_add2, toNat_add1, Int.toNat_natCast, Bool.false_and, Bool.true_and, true_implies, true_and, Bool.false_eq_true, reduceCtorEq, false_implies, Bool.not_false, Bool.not_true, Bool.true_or, Bool.false_or])) | refine PW.regionA ?_ | exact schedW_stop_i | ((first | refine schedW_alt_i ?_ ?_ | refine schedW_done_i ?_); focus (simp only [d3, w1, w0, Int.mul_zero, g7, k5, k6, SS, SS2, SS3, Option.map_some, gArgs, gOk, Nat.reduceAdd, PV.shift, MObj.shift, rdV, rdD, reduceIte, Nat.reduceEqDiff, Nat.reduceBEq, PV.bin, PV.binOk, binI, binS, PV.withInt, PV.withIntP, okAll, PV.under, PV.okUnder, eq_self, implies_true, deadOk, ne_eq, allOk, RVar.val, RVar.ok, retV, PV.seen, PV.view, beq_self_eq_true, PV.flat, PV.noOwn, id_eq, behind, PV.kill, MObj.kill, killTag, reduceCtorEq, nilB]; (try go_unwrap; try simp only [d3, w1, w0, Int.mul_zero, g7, k5, k6, toNat_add2, toNat_add1, Int.toNat_natCast, Bool.false_and, Bool.true_and, true_implies, true_and, Bool.false_eq_true, reduceCtorEq, false_implies, Bool.not_false, Bool.not_true, Bool.true_or, Bool.false_or]))) | (refine PW.cond rfl ?_ ?_ <;> intro hcond <;> (try contradiction) <;> try simp only [decide_eq_true_eq, decide_eq_false_iff_not] at hcond) | refine And.intro ?_ ?_ | exact Or.inr ⟨rfl, Nat.le_refl _⟩ | exact (fun h => Bool.noConfusion h) | omega | (simp only [decide_eq_true_eq, decide_eq_false_iff_not, List.length_cons, List.length_nil, List.length_append, List.length_map, Sh.size] <;> omega) | (go_unwrap; omega))
    refine PW.loop (σ := Unit) [2, 8, 9, 10, 14, 15, 16, 17, 18] (fun _ => [.int .u64 17592186044416000000, .int .u64 44, .int .u64 4096000000, .int .u64 0, .int .u64 v0, .int .u64 q1, .int .u64 r0, .int .u64 U2, .int .u64 q0]) (fun _ => []) (fun _ => True) (fun _ => 0) () ?_ rfl trivial ?_
    · simp only [SS, SS2, SS3, Option.map_some, gArgs, gOk, Nat.reduceAdd, PV.shift, MObj.shift, rdV, rdD, reduceIte, Nat.reduceEqDiff, Nat.reduceBEq, PV.bin, PV.binOk, binI, binS, PV.withInt, PV.withIntP, okAll, PV.under, PV.okUnder, eq_self, implies_true, deadOk, ne_eq, allOk, RVar.val, RVar.ok, retV, PV.seen, PV.view, beq_self_eq_true, PV.flat, PV.noOwn, id_eq, behind, PV.kill, MObj.kill, killTag, reduceCtorEq, nilB]; rfl
    rintro - -
    simp only [List.zip_cons_cons, List.zip_nil_left]
    repeat' (first | refine PW.seq ?_ | refine PW.block ?_ | ((first | refine PW.region ?_ | refine PW.regionQ ?_ | refine PW.exit ?_ | refine PW.ret ?_ | refine PW.skip ?_); simp only [d4, w1, w0, Int.mul_zero, k7, k9, SS, SS2, SS3, Option.map_some, gArgs, gOk, Nat.reduceAdd, PV.shift, MObj.shift, rdV, rdD, reduceIte, Nat.reduceEqDiff, Nat.reduceBEq, PV.bin, PV.binOk, binI, binS, PV.withInt, PV.withIntP, okAll, PV.under, PV.okUnder, eq_self, implies_true, deadOk, ne_eq, allOk, RVar.val, RVar.ok, retV, PV.seen, PV.view, beq_self_eq_true, PV.flat, PV.noOwn, id_eq, behind, PV.kill, MObj.kill, killTag, reduceCtorEq, nilB]; (try go_unwrap; try simp only [d4, w1, w0, Int.mul_zero, k7, k9, toNat_add2, toNat_add1, Int.toNat_natCast, Bool.false_and, Bool.true_and, true_implies, true_and, Bool.false_eq_true, reduceCtorEq, false_implies, Bool.not_false, Bool.not_true, Bool.true_or, Bool.false_or])) | refine PW.regionA ?_ | exact schedW_stop_i | ((first | refine schedW_alt_i ?_ ?_ | refine schedW_done_i ?_); focus (simp only [d4, w1, w0, Int.mul_zero, k7, k9, SS, SS2, SS3, Option.map_some, gArgs, gOk, Nat.reduceAdd, PV.shift, MObj.shift, rdV, rdD, reduceIte, Nat.reduceEqDiff, Nat.reduceBEq, PV.bin, PV.binOk, binI, binS, PV.withInt, PV.withIntP, okAll, PV.under, PV.okUnder, eq_self, implies_true, deadOk, ne_eq, allOk, RVar.val, RVar.ok, retV, PV.seen, PV.view, beq_self_eq_true, PV.flat, PV.noOwn, id_eq, behind, PV.kill, MObj.kill, killTag, reduceCtorEq, nilB]; (try go_unwrap; try simp only [d4, w1, w0, Int.mul_zero, k7, k9, toNat_add2, toNat_add1, Int.toNat_natCast, Bool.false_and, Bool.true_and, true_implies, true_and, Bool.false_eq_true, reduceCtorEq, false_implies, Bool.not_false, Bool.not_true, Bool.true_or, Bool.false_or]))) | (refine PW.cond rfl ?_ ?_ <;> intro hcond <;> (try contradiction) <;> try simp only [decide_eq_true_eq, decide_eq_false_iff_not] at hcond) | refine And.intro ?_ ?_ | exact Or.inr ⟨rfl, Nat.le_refl _⟩ | exact (fun h => Bool.noConfusion h) | omega | (simp only [decide_eq_true_eq, decide_eq_false_iff_not, List.length_cons, List.length_nil, List.length_append, List.length_map, Sh.size] <;> omega) | (go_unwrap; omega))
end Go.Proofs.YthekpjhffciakaaDoor
