import Derived.Test.YthekpjhffciakaaDoorQ10
namespace Go.Proofs.YthekpjhffciakaaDoor
open Go PG Go.Proofs
set_option linter.unusedSimpArgs false
set_option linter.unusedVariables false
set_option maxHeartbeats 4000000
set_option maxRecDepth 100000
variable {G : Globs}
theorem e47 : Ent Tryd.prog 47 := ⟨Tryd.f47, Tryd.func47, by kernel_rfl, by kernel_rfl⟩
theorem e20 : Ent Tryd.prog 20 := ⟨Tryd.f20, Tryd.func20, by kernel_rfl, by kernel_rfl⟩
def dotB (b : UInt8) : Bool := digitB b || decide ((b.toNat : Int) = 46)
theorem v47 (b : UInt8) : VCalls Tryd.prog G 47 [.int .u8 b.toNat] (.bool (dotB b)) := by
  refine VCalls.of_PW Tryd.func47 k47 mix (by simp [c47]) ?_
  simp only [c47, L47, CC, argE]
  repeat' (first | refine PW.seq ?_ | refine PW.block ?_ | refine PW.regionA ?_ | exact schedW_stop_i | ((first | refine PW.region ?_ | refine PW.regionQ ?_ | refine PW.exit ?_ | refine PW.ret ?_ | refine PW.skip ?_ | refine schedW_alt_i ?_ ?_ | refine schedW_done_i ?_); focus (simp only [SA, Nat.reduceAdd, reduceIte, Nat.reduceEqDiff, Nat.reduceBEq, reduceCtorEq]; (try go_unwrap; try simp only [RR, reduceCtorEq]))) | (refine PW.cond rfl ?_ ?_ <;> intro hcond <;> (try contradiction) <;> try simp only [DD] at hcond) | (apply goCall_V e44; (case hV => (simp only [SA, Nat.reduceAdd, reduceIte, Nat.reduceEqDiff, Nat.reduceBEq, reduceCtorEq]; (try go_unwrap; try simp only [RR, reduceCtorEq]); exact v44 _)); (try (case hs => rfl)); (try (case hf => first | exact Or.inl rfl | exact Or.inr ⟨rfl, rfl⟩ | (refine Or.inl ?_; simp only [SA, Nat.reduceAdd, reduceIte, Nat.reduceEqDiff, Nat.reduceBEq, reduceCtorEq]; done) | (refine Or.inr ⟨rfl, ?_⟩; simp only [SA, Nat.reduceAdd, reduceIte, Nat.reduceEqDiff, Nat.reduceBEq, reduceCtorEq]; done))); all_goals (simp only [SA, Nat.reduceAdd, reduceIte, Nat.reduceEqDiff, Nat.reduceBEq, reduceCtorEq]; (try go_unwrap; try simp only [RR, reduceCtorEq]))) | refine And.intro ?_ ?_ | exact Or.inr ⟨rfl, Nat.le_refl _⟩ | exact (fun h => Bool.noConfusion h) | omega | (simp only [DD, LL] <;> omega) | (go_unwrap; omega))
  rfl
/-- What a number says: the number and the error. -/
def numOf (s : List UInt8) : Nat × Nat :=
  if s = [] then (0, 3) else if digitB (s.getD 0 0) = false then (0, 3) else
    match numL s with
    | .error (_, e) => if e = 2 ∧ runL dotB s = s.length ∧ Lib.countByte s 46 < 2 then (0, 2) else (0, 3)
    | .ok (n, v) => if n = s.length then (v, 0) else (0, 3)
theorem cut_full {s : List UInt8} {v : Nat} (h : numL s = .ok (s.length, v)) : ∃ w r b, cutS s 46 = (w, r, b) ∧ partV 100000 r ≤ 999999 ∧ milV w r = v ∧ v ≤ 1000000000000000000 := by
  have c0 := cut_run0 s
  have c1 := cut_run1 s
  have h0 : runL digitB s ≤ s.length := runL_le _ _
  unfold numL at h
  split at h
  · rename_i hp
    split at h
    · cases h
    · split at h
      · cases h
      · split at h
        · rename_i hk hv
          simp only [Except.ok.injEq, Prod.mk.injEq] at h
          obtain ⟨h1, h2⟩ := h
          have ht := take_split (k := runL digitB (s.drop (runL digitB s + 1))) hp.1 hp.2
          rw [List.take_of_length_le (by omega)] at ht
          refine ⟨_, _, _, (by have h5 := c1 ((s.drop (runL digitB s + 1)).take (runL digitB (s.drop (runL digitB s + 1)))); rw [← ht] at h5; exact h5), partV_digits _ _, h2, h2 ▸ hv⟩
        · cases h
  · split at h
    · rename_i hv
      simp only [Except.ok.injEq, Prod.mk.injEq] at h
      obtain ⟨h1, h2⟩ := h
      rw [h1, List.take_of_length_le (Nat.le_refl _)] at c0
      rw [h1, List.take_of_length_le (Nat.le_refl _)] at h2 hv
      exact ⟨_, _, _, c0, by simp [partV], h2, h2 ▸ hv⟩
    · cases h
theorem v20 (s : List UInt8) (hs : s.length ≤ 9223372036854775800) : VCalls Tryd.prog G 20 [.str s] (.tup [.int .i64 (numOf s).1, .int .i64 (numOf s).2]) := by
  refine VCalls.of_PW Tryd.func20 k20 mix (by simp [c20]) ?_
  have h20 := v45 (G := G) s 0 hs (by omega)
  have h21 := v46 (G := G) s 0 47 dotB (by omega) (by omega) e47 v47
  have h23 := v48 (G := G) s 46
  simp only [List.drop_zero] at h20 h21
  have h24 := v49 (G := G) s (by omega)
  unfold numOf
  simp only [c20, L20, CC, argE]
  by_cases h0 : s = []
  · rw [if_pos h0]
    have hd0 : decide (s = []) = true := decide_eq_true h0
    subst h0
    repeat' (first | refine PW.seq ?_ | refine PW.block ?_ | refine PW.regionA ?_ | exact schedW_stop_i | ((first | refine PW.region ?_ | refine PW.regionQ ?_ | refine PW.exit ?_ | refine PW.ret ?_ | refine PW.skip ?_ | refine schedW_alt_i ?_ ?_ | refine schedW_done_i ?_); focus (simp only [hd0, Bool.true_or, SA, Nat.reduceAdd, reduceIte, Nat.reduceEqDiff, Nat.reduceBEq, reduceCtorEq]; (try go_unwrap; try simp only [hd0, Bool.true_or, RR, reduceCtorEq]))) | (refine PW.cond rfl ?_ ?_ <;> intro hcond <;> (try contradiction) <;> try simp only [DD] at hcond) | (apply goCallG_V e44; (case hV => (intro hg; simp only [hg, hd0, Bool.true_or, SA, Nat.reduceAdd, reduceIte, Nat.reduceEqDiff, Nat.reduceBEq, reduceCtorEq]; (try go_unwrap; try simp only [hd0, Bool.true_or, RR, reduceCtorEq]); exact v44 _)); (case hok => (intro hg; first | (simp only [hg, hd0, Bool.true_or, SA, Nat.reduceAdd, reduceIte, Nat.reduceEqDiff, Nat.reduceBEq, reduceCtorEq]; done) | (simp_all [okAll, PV.okUnder]; done))); (case hs => (intro hg; simp only [hg, hd0, Bool.true_or, SA, Nat.reduceAdd, reduceIte, Nat.reduceEqDiff, Nat.reduceBEq, reduceCtorEq])); (case hf => first | rfl | simp only [hd0, Bool.true_or, SA, Nat.reduceAdd, reduceIte, Nat.reduceEqDiff, Nat.reduceBEq, reduceCtorEq]); (simp only [hd0, Bool.true_or, SA, Nat.reduceAdd, reduceIte, Nat.reduceEqDiff, Nat.reduceBEq, reduceCtorEq]; (try go_unwrap; try simp only [hd0, Bool.true_or, RR, reduceCtorEq]))) | refine And.intro ?_ ?_ | exact Or.inr ⟨rfl, Nat.le_refl _⟩ | exact (fun h => Bool.noConfusion h) | omega | (simp only [DD, LL] <;> omega) | (go_unwrap; omega))
    rfl
  · rw [if_neg h0]
    have hd0 : decide (s = []) = false := decide_eq_false h0
    have hlen : 0 < s.length := List.length_pos_iff.2 h0
    have zt : (0 : Int).toNat = 0 := rfl
    cases h1 : digitB (s.getD 0 0) with
    | false =>
      rw [if_pos rfl]
      repeat' (first | refine PW.seq ?_ | refine PW.block ?_ | refine PW.regionA ?_ | exact schedW_stop_i | ((first | refine PW.region ?_ | refine PW.regionQ ?_ | refine PW.exit ?_ | refine PW.ret ?_ | refine PW.skip ?_ | refine schedW_alt_i ?_ ?_ | refine schedW_done_i ?_); focus (simp only [hd0, h1, zt, Bool.false_or, Bool.not_false, SA, Nat.reduceAdd, reduceIte, Nat.reduceEqDiff, Nat.reduceBEq, reduceCtorEq]; (try go_unwrap; try simp only [hd0, h1, zt, Bool.false_or, Bool.not_false, RR, reduceCtorEq]))) | (refine PW.cond rfl ?_ ?_ <;> intro hcond <;> (try contradiction) <;> try simp only [DD] at hcond) | (apply goCallG_V e44; (case hV => (intro hg; simp only [hg, hd0, h1, zt, Bool.false_or, Bool.not_false, SA, Nat.reduceAdd, reduceIte, Nat.reduceEqDiff, Nat.reduceBEq, reduceCtorEq]; (try go_unwrap; try simp only [hd0, h1, zt, Bool.false_or, Bool.not_false, RR, reduceCtorEq]); exact v44 _)); (case hok => (intro hg; first | (simp only [hg, hd0, h1, zt, Bool.false_or, Bool.not_false, SA, Nat.reduceAdd, reduceIte, Nat.reduceEqDiff, Nat.reduceBEq, reduceCtorEq]; done) | (simp_all [okAll, PV.okUnder]; done))); (case hs => (intro hg; simp only [hg, hd0, h1, zt, Bool.false_or, Bool.not_false, SA, Nat.reduceAdd, reduceIte, Nat.reduceEqDiff, Nat.reduceBEq, reduceCtorEq])); (case hf => first | rfl | simp only [hd0, h1, zt, Bool.false_or, Bool.not_false, SA, Nat.reduceAdd, reduceIte, Nat.reduceEqDiff, Nat.reduceBEq, reduceCtorEq]); (simp only [hd0, h1, zt, Bool.false_or, Bool.not_false, SA, Nat.reduceAdd, reduceIte, Nat.reduceEqDiff, Nat.reduceBEq, reduceCtorEq]; (try go_unwrap; try simp only [hd0, h1, zt, Bool.false_or, Bool.not_false, RR, reduceCtorEq]))) | refine And.intro ?_ ?_ | exact Or.inr ⟨rfl, Nat.le_refl _⟩ | exact (fun h => Bool.noConfusion h) | omega | (simp only [DD, LL] <;> omega) | (go_unwrap; omega))
      rfl
    | true =>
      rw [if_neg (by simp)]
      cases hn : numL s with
      | error p =>
        obtain ⟨o, e⟩ := p
        obtain ⟨he, -⟩ := numL_err hn
        rw [hn] at h20
        simp only [lexNum] at h20
        have he0 : decide ((e : Int) = 0) = false := by rw [decide_eq_false_iff_not]; omega
        repeat' (first | refine PW.seq ?_ | refine PW.block ?_ | refine PW.regionA ?_ | exact schedW_stop_i | ((first | refine PW.region ?_ | refine PW.regionQ ?_ | refine PW.exit ?_ | refine PW.ret ?_ | refine PW.skip ?_ | refine schedW_alt_i ?_ ?_ | refine schedW_done_i ?_); focus (simp only [hd0, h1, zt, he0, SA, Nat.reduceAdd, reduceIte, Nat.reduceEqDiff, Nat.reduceBEq, reduceCtorEq]; (try go_unwrap; try simp only [hd0, h1, zt, he0, RR, reduceCtorEq]))) | (refine PW.cond rfl ?_ ?_ <;> intro hcond <;> (try contradiction) <;> try simp only [DD] at hcond) | (apply goCallG_V e44; (case hV => (intro hg; simp only [hg, hd0, h1, zt, he0, SA, Nat.reduceAdd, reduceIte, Nat.reduceEqDiff, Nat.reduceBEq, reduceCtorEq]; (try go_unwrap; try simp only [hd0, h1, zt, he0, RR, reduceCtorEq]); exact v44 _)); (case hok => (intro hg; first | (simp only [hg, hd0, h1, zt, he0, SA, Nat.reduceAdd, reduceIte, Nat.reduceEqDiff, Nat.reduceBEq, reduceCtorEq]; done) | (simp_all [okAll, PV.okUnder]; done))); (case hs => (intro hg; simp only [hg, hd0, h1, zt, he0, SA, Nat.reduceAdd, reduceIte, Nat.reduceEqDiff, Nat.reduceBEq, reduceCtorEq])); (case hf => first | rfl | simp only [hd0, h1, zt, he0, SA, Nat.reduceAdd, reduceIte, Nat.reduceEqDiff, Nat.reduceBEq, reduceCtorEq]); (simp only [hd0, h1, zt, he0, SA, Nat.reduceAdd, reduceIte, Nat.reduceEqDiff, Nat.reduceBEq, reduceCtorEq]; (try go_unwrap; try simp only [hd0, h1, zt, he0, RR, reduceCtorEq]))) | (apply goCall_V e45; (case hV => (simp only [hd0, h1, zt, he0, SA, Nat.reduceAdd, reduceIte, Nat.reduceEqDiff, Nat.reduceBEq, reduceCtorEq]; (try go_unwrap; try simp only [hd0, h1, zt, he0, RR, reduceCtorEq]); exact h20)); (try (case hs => rfl)); (try (case hf => first | exact Or.inl rfl | exact Or.inr ⟨rfl, rfl⟩ | (refine Or.inl ?_; simp only [hd0, h1, zt, he0, SA, Nat.reduceAdd, reduceIte, Nat.reduceEqDiff, Nat.reduceBEq, reduceCtorEq]; done) | (refine Or.inr ⟨rfl, ?_⟩; simp only [hd0, h1, zt, he0, SA, Nat.reduceAdd, reduceIte, Nat.reduceEqDiff, Nat.reduceBEq, reduceCtorEq]; done))); all_goals (simp only [hd0, h1, zt, he0, SA, Nat.reduceAdd, reduceIte, Nat.reduceEqDiff, Nat.reduceBEq, reduceCtorEq]; (try go_unwrap; try simp only [hd0, h1, zt, he0, RR, reduceCtorEq]))) | (apply goCallG_V e46; (case hV => (intro hg; simp only [hg, hd0, h1, zt, he0, SA, Nat.reduceAdd, reduceIte, Nat.reduceEqDiff, Nat.reduceBEq, reduceCtorEq]; (try go_unwrap; try simp only [hd0, h1, zt, he0, RR, reduceCtorEq]); exact h21)); (case hok => (intro hg; first | (simp only [hg, hd0, h1, zt, he0, SA, Nat.reduceAdd, reduceIte, Nat.reduceEqDiff, Nat.reduceBEq, reduceCtorEq]; done) | (simp_all [okAll, PV.okUnder]; done))); (case hs => (intro hg; simp only [hg, hd0, h1, zt, he0, SA, Nat.reduceAdd, reduceIte, Nat.reduceEqDiff, Nat.reduceBEq, reduceCtorEq])); (case hf => first | rfl | simp only [hd0, h1, zt, he0, SA, Nat.reduceAdd, reduceIte, Nat.reduceEqDiff, Nat.reduceBEq, reduceCtorEq]); (simp only [hd0, h1, zt, he0, SA, Nat.reduceAdd, reduceIte, Nat.reduceEqDiff, Nat.reduceBEq, reduceCtorEq]; (try go_unwrap; try simp only [hd0, h1, zt, he0, RR, reduceCtorEq]))) | (apply goCallG_V e48; (case hV => (intro hg; simp only [hg, hd0, h1, zt, he0, SA, Nat.reduceAdd, reduceIte, Nat.reduceEqDiff, Nat.reduceBEq, reduceCtorEq]; (try go_unwrap; try simp only [hd0, h1, zt, he0, RR, reduceCtorEq]); exact h23)); (case hok => (intro hg; first | (simp only [hg, hd0, h1, zt, he0, SA, Nat.reduceAdd, reduceIte, Nat.reduceEqDiff, Nat.reduceBEq, reduceCtorEq]; done) | (simp_all [okAll, PV.okUnder]; done))); (case hs => (intro hg; simp only [hg, hd0, h1, zt, he0, SA, Nat.reduceAdd, reduceIte, Nat.reduceEqDiff, Nat.reduceBEq, reduceCtorEq])); (case hf => first | rfl | simp only [hd0, h1, zt, he0, SA, Nat.reduceAdd, reduceIte, Nat.reduceEqDiff, Nat.reduceBEq, reduceCtorEq]); (simp only [hd0, h1, zt, he0, SA, Nat.reduceAdd, reduceIte, Nat.reduceEqDiff, Nat.reduceBEq, reduceCtorEq]; (try go_unwrap; try simp only [hd0, h1, zt, he0, RR, reduceCtorEq]))) | (apply goCall_V e49; (case hV => (simp only [hd0, h1, zt, he0, SA, Nat.reduceAdd, reduceIte, Nat.reduceEqDiff, Nat.reduceBEq, reduceCtorEq]; (try go_unwrap; try simp only [hd0, h1, zt, he0, RR, reduceCtorEq]); exact h24)); (try (case hs => rfl)); (try (case hf => first | exact Or.inl rfl | exact Or.inr ⟨rfl, rfl⟩ | (refine Or.inl ?_; simp only [hd0, h1, zt, he0, SA, Nat.reduceAdd, reduceIte, Nat.reduceEqDiff, Nat.reduceBEq, reduceCtorEq]; done) | (refine Or.inr ⟨rfl, ?_⟩; simp only [hd0, h1, zt, he0, SA, Nat.reduceAdd, reduceIte, Nat.reduceEqDiff, Nat.reduceBEq, reduceCtorEq]; done))); all_goals (simp only [hd0, h1, zt, he0, SA, Nat.reduceAdd, reduceIte, Nat.reduceEqDiff, Nat.reduceBEq, reduceCtorEq]; (try go_unwrap; try simp only [hd0, h1, zt, he0, RR, reduceCtorEq]))) | refine And.intro ?_ ?_ | exact Or.inr ⟨rfl, Nat.le_refl _⟩ | exact (fun h => Bool.noConfusion h) | omega | (simp only [DD, LL] <;> omega) | (go_unwrap; omega))
        · simp only [Bool.and_eq_true, decide_eq_true_eq] at hcond
          rw [if_pos ⟨by omega, by omega, by omega⟩]; rfl
        · have hq : ¬(e = 2 ∧ runL dotB s = s.length ∧ Lib.countByte s 46 < 2) := by
            rintro ⟨q1, q2, q3⟩
            have z1 : decide ((e : Int) = 2) = true := by rw [decide_eq_true_eq]; omega
            have z2 : decide (((runL dotB s : Nat) : Int) = s.length) = true := by rw [decide_eq_true_eq]; omega
            have z3 : decide (((Lib.countByte s 46 : Nat) : Int) < 2) = true := by rw [decide_eq_true_eq]; omega
            simp only [z1, z2, z3] at *
            simp at *
          rw [if_neg hq]; rfl
      | ok p =>
        obtain ⟨n, v⟩ := p
        rw [hn] at h20
        simp only [lexNum] at h20
        by_cases hl : n = s.length
        · subst hl
          obtain ⟨w, r, b, hc, hp, hm, hv⟩ := cut_full hn
          obtain ⟨a, h3, h4⟩ := valV_eq hc hp
          rw [h3] at h24
          have := h4 (by omega)
          subst this
          subst hm
          have z1 : decide ((0 : Int) = 2) = false := rfl
          have z2 : decide ((0 : Int) = 0) = true := rfl
          have z3 : decide ((s.length : Int) = s.length) = true := by simp
          repeat' (first | refine PW.seq ?_ | refine PW.block ?_ | refine PW.regionA ?_ | exact schedW_stop_i | ((first | refine PW.region ?_ | refine PW.regionQ ?_ | refine PW.exit ?_ | refine PW.ret ?_ | refine PW.skip ?_ | refine schedW_alt_i ?_ ?_ | refine schedW_done_i ?_); focus (simp only [hd0, h1, zt, z1, z2, z3, SA, Nat.reduceAdd, reduceIte, Nat.reduceEqDiff, Nat.reduceBEq, reduceCtorEq]; (try go_unwrap; try simp only [hd0, h1, zt, z1, z2, z3, RR, reduceCtorEq]))) | (refine PW.cond rfl ?_ ?_ <;> intro hcond <;> (try contradiction) <;> try simp only [DD] at hcond) | (apply goCallG_V e44; (case hV => (intro hg; simp only [hg, hd0, h1, zt, z1, z2, z3, SA, Nat.reduceAdd, reduceIte, Nat.reduceEqDiff, Nat.reduceBEq, reduceCtorEq]; (try go_unwrap; try simp only [hd0, h1, zt, z1, z2, z3, RR, reduceCtorEq]); exact v44 _)); (case hok => (intro hg; first | (simp only [hg, hd0, h1, zt, z1, z2, z3, SA, Nat.reduceAdd, reduceIte, Nat.reduceEqDiff, Nat.reduceBEq, reduceCtorEq]; done) | (simp_all [okAll, PV.okUnder]; done))); (case hs => (intro hg; simp only [hg, hd0, h1, zt, z1, z2, z3, SA, Nat.reduceAdd, reduceIte, Nat.reduceEqDiff, Nat.reduceBEq, reduceCtorEq])); (case hf => first | rfl | simp only [hd0, h1, zt, z1, z2, z3, SA, Nat.reduceAdd, reduceIte, Nat.reduceEqDiff, Nat.reduceBEq, reduceCtorEq]); (simp only [hd0, h1, zt, z1, z2, z3, SA, Nat.reduceAdd, reduceIte, Nat.reduceEqDiff, Nat.reduceBEq, reduceCtorEq]; (try go_unwrap; try simp only [hd0, h1, zt, z1, z2, z3, RR, reduceCtorEq]))) | (apply goCall_V e45; (case hV => (simp only [hd0, h1, zt, z1, z2, z3, SA, Nat.reduceAdd, reduceIte, Nat.reduceEqDiff, Nat.reduceBEq, reduceCtorEq]; (try go_unwrap; try simp only [hd0, h1, zt, z1, z2, z3, RR, reduceCtorEq]); exact h20)); (try (case hs => rfl)); (try (case hf => first | exact Or.inl rfl | exact Or.inr ⟨rfl, rfl⟩ | (refine Or.inl ?_; simp only [hd0, h1, zt, z1, z2, z3, SA, Nat.reduceAdd, reduceIte, Nat.reduceEqDiff, Nat.reduceBEq, reduceCtorEq]; done) | (refine Or.inr ⟨rfl, ?_⟩; simp only [hd0, h1, zt, z1, z2, z3, SA, Nat.reduceAdd, reduceIte, Nat.reduceEqDiff, Nat.reduceBEq, reduceCtorEq]; done))); all_goals (simp only [hd0, h1, zt, z1, z2, z3, SA, Nat.reduceAdd, reduceIte, Nat.reduceEqDiff, Nat.reduceBEq, reduceCtorEq]; (try go_unwrap; try simp only [hd0, h1, zt, z1, z2, z3, RR, reduceCtorEq]))) | (apply goCallG_V e46; (case hV => (intro hg; simp only [hg, hd0, h1, zt, z1, z2, z3, SA, Nat.reduceAdd, reduceIte, Nat.reduceEqDiff, Nat.reduceBEq, reduceCtorEq]; (try go_unwrap; try simp only [hd0, h1, zt, z1, z2, z3, RR, reduceCtorEq]); exact h21)); (case hok => (intro hg; first | (simp only [hg, hd0, h1, zt, z1, z2, z3, SA, Nat.reduceAdd, reduceIte, Nat.reduceEqDiff, Nat.reduceBEq, reduceCtorEq]; done) | (simp_all [okAll, PV.okUnder]; done))); (case hs => (intro hg; simp only [hg, hd0, h1, zt, z1, z2, z3, SA, Nat.reduceAdd, reduceIte, Nat.reduceEqDiff, Nat.reduceBEq, reduceCtorEq])); (case hf => first | rfl | simp only [hd0, h1, zt, z1, z2, z3, SA, Nat.reduceAdd, reduceIte, Nat.reduceEqDiff, Nat.reduceBEq, reduceCtorEq]); (simp only [hd0, h1, zt, z1, z2, z3, SA, Nat.reduceAdd, reduceIte, Nat.reduceEqDiff, Nat.reduceBEq, reduceCtorEq]; (try go_unwrap; try simp only [hd0, h1, zt, z1, z2, z3, RR, reduceCtorEq]))) | (apply goCallG_V e48; (case hV => (intro hg; simp only [hg, hd0, h1, zt, z1, z2, z3, SA, Nat.reduceAdd, reduceIte, Nat.reduceEqDiff, Nat.reduceBEq, reduceCtorEq]; (try go_unwrap; try simp only [hd0, h1, zt, z1, z2, z3, RR, reduceCtorEq]); exact h23)); (case hok => (intro hg; first | (simp only [hg, hd0, h1, zt, z1, z2, z3, SA, Nat.reduceAdd, reduceIte, Nat.reduceEqDiff, Nat.reduceBEq, reduceCtorEq]; done) | (simp_all [okAll, PV.okUnder]; done))); (case hs => (intro hg; simp only [hg, hd0, h1, zt, z1, z2, z3, SA, Nat.reduceAdd, reduceIte, Nat.reduceEqDiff, Nat.reduceBEq, reduceCtorEq])); (case hf => first | rfl | simp only [hd0, h1, zt, z1, z2, z3, SA, Nat.reduceAdd, reduceIte, Nat.reduceEqDiff, Nat.reduceBEq, reduceCtorEq]); (simp only [hd0, h1, zt, z1, z2, z3, SA, Nat.reduceAdd, reduceIte, Nat.reduceEqDiff, Nat.reduceBEq, reduceCtorEq]; (try go_unwrap; try simp only [hd0, h1, zt, z1, z2, z3, RR, reduceCtorEq]))) | (apply goCall_V e49; (case hV => (simp only [hd0, h1, zt, z1, z2, z3, SA, Nat.reduceAdd, reduceIte, Nat.reduceEqDiff, Nat.reduceBEq, reduceCtorEq]; (try go_unwrap; try simp only [hd0, h1, zt, z1, z2, z3, RR, reduceCtorEq]); exact h24)); (try (case hs => rfl)); (try (case hf => first | exact Or.inl rfl | exact Or.inr ⟨rfl, rfl⟩ | (refine Or.inl ?_; simp only [hd0, h1, zt, z1, z2, z3, SA, Nat.reduceAdd, reduceIte, Nat.reduceEqDiff, Nat.reduceBEq, reduceCtorEq]; done) | (refine Or.inr ⟨rfl, ?_⟩; simp only [hd0, h1, zt, z1, z2, z3, SA, Nat.reduceAdd, reduceIte, Nat.reduceEqDiff, Nat.reduceBEq, reduceCtorEq]; done))); all_goals (simp only [hd0, h1, zt, z1, z2, z3, SA, Nat.reduceAdd, reduceIte, Nat.reduceEqDiff, Nat.reduceBEq, reduceCtorEq]; (try go_unwrap; try simp only [hd0, h1, zt, z1, z2, z3, RR, reduceCtorEq]))) | refine And.intro ?_ ?_ | exact Or.inr ⟨rfl, Nat.le_refl _⟩ | exact (fun h => Bool.noConfusion h) | omega | (simp only [DD, LL] <;> omega) | (go_unwrap; omega))
          rfl
        · have z1 : decide ((0 : Int) = 2) = false := rfl
          have z2 : decide ((0 : Int) = 0) = true := rfl
          have z3 : decide ((n : Int) = s.length) = false := by rw [decide_eq_false_iff_not]; omega
          repeat' (first | refine PW.seq ?_ | refine PW.block ?_ | refine PW.regionA ?_ | exact schedW_stop_i | ((first | refine PW.region ?_ | refine PW.regionQ ?_ | refine PW.exit ?_ | refine PW.ret ?_ | refine PW.skip ?_ | refine schedW_alt_i ?_ ?_ | refine schedW_done_i ?_); focus (simp only [hd0, h1, zt, z1, z2, z3, SA, Nat.reduceAdd, reduceIte, Nat.reduceEqDiff, Nat.reduceBEq, reduceCtorEq]; (try go_unwrap; try simp only [hd0, h1, zt, z1, z2, z3, RR, reduceCtorEq]))) | (refine PW.cond rfl ?_ ?_ <;> intro hcond <;> (try contradiction) <;> try simp only [DD] at hcond) | (apply goCallG_V e44; (case hV => (intro hg; simp only [hg, hd0, h1, zt, z1, z2, z3, SA, Nat.reduceAdd, reduceIte, Nat.reduceEqDiff, Nat.reduceBEq, reduceCtorEq]; (try go_unwrap; try simp only [hd0, h1, zt, z1, z2, z3, RR, reduceCtorEq]); exact v44 _)); (case hok => (intro hg; first | (simp only [hg, hd0, h1, zt, z1, z2, z3, SA, Nat.reduceAdd, reduceIte, Nat.reduceEqDiff, Nat.reduceBEq, reduceCtorEq]; done) | (simp_all [okAll, PV.okUnder]; done))); (case hs => (intro hg; simp only [hg, hd0, h1, zt, z1, z2, z3, SA, Nat.reduceAdd, reduceIte, Nat.reduceEqDiff, Nat.reduceBEq, reduceCtorEq])); (case hf => first | rfl | simp only [hd0, h1, zt, z1, z2, z3, SA, Nat.reduceAdd, reduceIte, Nat.reduceEqDiff, Nat.reduceBEq, reduceCtorEq]); (simp only [hd0, h1, zt, z1, z2, z3, SA, Nat.reduceAdd, reduceIte, Nat.reduceEqDiff, Nat.reduceBEq, reduceCtorEq]; (try go_unwrap; try simp only [hd0, h1, zt, z1, z2, z3, RR, reduceCtorEq]))) | (apply goCall_V e45; (case hV => (simp only [hd0, h1, zt, z1, z2, z3, SA, Nat.reduceAdd, reduceIte, Nat.reduceEqDiff, Nat.reduceBEq, reduceCtorEq]; (try go_unwrap; try simp only [hd0, h1, zt, z1, z2, z3, RR, reduceCtorEq]); exact h20)); (try (case hs => rfl)); (try (case hf => first | exact Or.inl rfl | exact Or.inr ⟨rfl, rfl⟩ | (refine Or.inl ?_; simp only [hd0, h1, zt, z1, z2, z3, SA, Nat.reduceAdd, reduceIte, Nat.reduceEqDiff, Nat.reduceBEq, reduceCtorEq]; done) | (refine Or.inr ⟨rfl, ?_⟩; simp only [hd0, h1, zt, z1, z2, z3, SA, Nat.reduceAdd, reduceIte, Nat.reduceEqDiff, Nat.reduceBEq, reduceCtorEq]; done))); all_goals (simp only [hd0, h1, zt, z1, z2, z3, SA, Nat.reduceAdd, reduceIte, Nat.reduceEqDiff, Nat.reduceBEq, reduceCtorEq]; (try go_unwrap; try simp only [hd0, h1, zt, z1, z2, z3, RR, reduceCtorEq]))) | (apply goCallG_V e46; (case hV => (intro hg; simp only [hg, hd0, h1, zt, z1, z2, z3, SA, Nat.reduceAdd, reduceIte, Nat.reduceEqDiff, Nat.reduceBEq, reduceCtorEq]; (try go_unwrap; try simp only [hd0, h1, zt, z1, z2, z3, RR, reduceCtorEq]); exact h21)); (case hok => (intro hg; first | (simp only [hg, hd0, h1, zt, z1, z2, z3, SA, Nat.reduceAdd, reduceIte, Nat.reduceEqDiff, Nat.reduceBEq, reduceCtorEq]; done) | (simp_all [okAll, PV.okUnder]; done))); (case hs => (intro hg; simp only [hg, hd0, h1, zt, z1, z2, z3, SA, Nat.reduceAdd, reduceIte, Nat.reduceEqDiff, Nat.reduceBEq, reduceCtorEq])); (case hf => first | rfl | simp only [hd0, h1, zt, z1, z2, z3, SA, Nat.reduceAdd, reduceIte, Nat.reduceEqDiff, Nat.reduceBEq, reduceCtorEq]); (simp only [hd0, h1, zt, z1, z2, z3, SA, Nat.reduceAdd, reduceIte, Nat.reduceEqDiff, Nat.reduceBEq, reduceCtorEq]; (try go_unwrap; try simp only [hd0, h1, zt, z1, z2, z3, RR, reduceCtorEq]))) | (apply goCallG_V e48; (case hV => (intro hg; simp only [hg, hd0, h1, zt, z1, z2, z3, SA, Nat.reduceAdd, reduceIte, Nat.reduceEqDiff, Nat.reduceBEq, reduceCtorEq]; (try go_unwrap; try simp only [hd0, h1, zt, z1, z2, z3, RR, reduceCtorEq]); exact h23)); (case hok => (intro hg; first | (simp only [hg, hd0, h1, zt, z1, z2, z3, SA, Nat.reduceAdd, reduceIte, Nat.reduceEqDiff, Nat.reduceBEq, reduceCtorEq]; done) | (simp_all [okAll, PV.okUnder]; done))); (case hs => (intro hg; simp only [hg, hd0, h1, zt, z1, z2, z3, SA, Nat.reduceAdd, reduceIte, Nat.reduceEqDiff, Nat.reduceBEq, reduceCtorEq])); (case hf => first | rfl | simp only [hd0, h1, zt, z1, z2, z3, SA, Nat.reduceAdd, reduceIte, Nat.reduceEqDiff, Nat.reduceBEq, reduceCtorEq]); (simp only [hd0, h1, zt, z1, z2, z3, SA, Nat.reduceAdd, reduceIte, Nat.reduceEqDiff, Nat.reduceBEq, reduceCtorEq]; (try go_unwrap; try simp only [hd0, h1, zt, z1, z2, z3, RR, reduceCtorEq]))) | (apply goCall_V e49; (case hV => (simp only [hd0, h1, zt, z1, z2, z3, SA, Nat.reduceAdd, reduceIte, Nat.reduceEqDiff, Nat.reduceBEq, reduceCtorEq]; (try go_unwrap; try simp only [hd0, h1, zt, z1, z2, z3, RR, reduceCtorEq]); exact h24)); (try (case hs => rfl)); (try (case hf => first | exact Or.inl rfl | exact Or.inr ⟨rfl, rfl⟩ | (refine Or.inl ?_; simp only [hd0, h1, zt, z1, z2, z3, SA, Nat.reduceAdd, reduceIte, Nat.reduceEqDiff, Nat.reduceBEq, reduceCtorEq]; done) | (refine Or.inr ⟨rfl, ?_⟩; simp only [hd0, h1, zt, z1, z2, z3, SA, Nat.reduceAdd, reduceIte, Nat.reduceEqDiff, Nat.reduceBEq, reduceCtorEq]; done))); all_goals (simp only [hd0, h1, zt, z1, z2, z3, SA, Nat.reduceAdd, reduceIte, Nat.reduceEqDiff, Nat.reduceBEq, reduceCtorEq]; (try go_unwrap; try simp only [hd0, h1, zt, z1, z2, z3, RR, reduceCtorEq]))) | refine And.intro ?_ ?_ | exact Or.inr ⟨rfl, Nat.le_refl _⟩ | exact (fun h => Bool.noConfusion h) | omega | (simp only [DD, LL] <;> omega) | (go_unwrap; omega))
          rw [if_neg hl]; rfl
end Go.Proofs.YthekpjhffciakaaDoor

namespace Go.Proofs.YthekpjhffciakaaDoor
open Go PG Go.Proofs
set_option linter.unusedSimpArgs false
set_option linter.unusedVariables false
set_option maxHeartbeats 4000000
set_option maxRecDepth 100000
variable {G : Globs}
theorem scanA_len : ∀ (n : Nat) (l : List UInt8) (acc : List Tok) (a : Nat) (t : List Tok), l.length ≤ n → scanA acc a l = .ok t → t.length ≤ acc.length + l.length + 1 := by
  intro n
  induction n with
  | zero =>
    intro l acc a t hl h
    have : l = [] := List.length_eq_zero_iff.1 (by omega)
    subst this
    rw [scanA] at h
    cases h
    simp
  | succ n ih =>
    intro l acc a t hl h
    cases l with
    | nil => rw [scanA] at h; cases h; simp
    | cons b r =>
      rw [scanA] at h
      simp only [List.length_cons] at hl ⊢
      split at h
      · have := ih _ _ _ _ (by omega) h
        omega
      · split at h
        · cases h
        · rename_i k m ht
          have := ih _ _ _ _ (by rw [List.length_drop]; omega) h
          simp only [List.length_append, List.length_cons, List.length_nil, List.length_drop] at this
          omega
theorem allE_len {s : List UInt8} {t : List Tok} (h : allE s = .ok t) : t.length ≤ s.length + 1 ∧ s.length ≤ 4096 := by
  unfold allE at h
  split at h
  · cases h
  · have := scanA_len s.length s [] 0 t (Nat.le_refl _) h
    simp only [List.length_nil] at this
    omega
theorem runL_take (p : UInt8 → Bool) : ∀ (l : List UInt8) (j : Nat), runL p (l.take j) = Nat.min j (runL p l)
  | [], j => by simp [runL]
  | b :: l, 0 => by simp [runL]
  | b :: l, j + 1 => by
    simp only [List.take_succ_cons, runL, runL_take p l j]
    split
    · simp only [Nat.min_def]; split <;> split <;> omega
    · simp
theorem runL_stop_app {p : UInt8 → Bool} {b : UInt8} (hb : p b = false) (r : List UInt8) : ∀ l : List UInt8, runL p (l ++ b :: r) = runL p l
  | [] => by simp [runL, hb]
  | c :: l => by simp only [List.cons_append, runL, runL_stop_app hb r l]
theorem digit46 : digitB 46 = false := by decide
theorem getD_app {l r : List UInt8} {i : Nat} (h : i < l.length) : (l ++ r).getD i 0 = l.getD i 0 := by simp [List.getD, List.getElem?_append_left h]
theorem getD_take {l : List UInt8} {i j : Nat} (h : i < j) : (l.take j).getD i 0 = l.getD i 0 := by simp [List.getD, h]
theorem numL_self {l : List UInt8} {n v : Nat} (h : numL l = .ok (n, v)) : numL (l.take n) = .ok (n, v) := by
  have hle := (numL_ok h).1
  have h2 : runL digitB l ≤ l.length := runL_le _ _
  unfold numL at h
  split at h
  · rename_i hp
    have hq : runL digitB (l.drop (runL digitB l + 1)) ≤ (l.drop (runL digitB l + 1)).length := runL_le _ _
    split at h
    · cases h
    · rename_i h3
      split at h
      · cases h
      · rename_i h4
        split at h
        · rename_i h5
          simp only [Except.ok.injEq, Prod.mk.injEq] at h
          obtain ⟨hn, hv⟩ := h
          generalize hk : runL digitB (l.drop (runL digitB l + 1)) = k at *
          generalize hm : runL digitB l = m at *
          have e1 : runL digitB (l.take n) = m := by rw [runL_take, hm]; simp only [Nat.min_def]; split <;> omega
          have e2 : (l.take n).drop (m + 1) = (l.drop (m + 1)).take k := by rw [List.drop_take]; congr 1; omega
          have e3 : runL digitB ((l.drop (m + 1)).take k) = k := by rw [runL_take, hk]; simp [Nat.min_def]
          have e4 : (l.take n).take m = l.take m := by rw [List.take_take]; congr 1; simp only [Nat.min_def]; split <;> omega
          unfold numL
          rw [e1, e2, e3, e4, if_pos ⟨by rw [List.length_take]; simp only [Nat.min_def]; split <;> omega, by rw [getD_take (by omega)]; exact hp.2⟩, if_neg h3, if_neg h4, List.take_take]
          simp only [Nat.min_self]
          rw [if_pos h5, hn, hv]
        · cases h
  · split at h
    · rename_i hp h5
      simp only [Except.ok.injEq, Prod.mk.injEq] at h
      obtain ⟨hn, hv⟩ := h
      subst hn
      have e1 : runL digitB (l.take (runL digitB l)) = runL digitB l := by rw [runL_take]; simp [Nat.min_def]
      unfold numL
      rw [e1, if_neg (by rw [List.length_take]; simp only [Nat.min_def]; split <;> omega), List.take_take]
      simp only [Nat.min_self]
      rw [if_pos h5, hv]
    · cases h
/-- A token's text by itself is that token. -/
theorem tokE_self (a a' : Nat) {l : List UInt8} {k n : Nat} (hl : l ≠ []) (h : tokE a l = .ok (k, n)) : tokE a' (l.take n) = .ok (k, n) ∧ 1 ≤ n ∧ n ≤ l.length := by
  obtain ⟨h1, h2, -⟩ := tokE_ok (List.length_pos_iff.2 hl) h
  refine ⟨?_, h1, h2⟩
  have h0 : (l.take n).getD 0 0 = l.getD 0 0 := getD_take (by omega)
  unfold tokE at h ⊢
  rw [h0]
  split at h
  · rename_i hc
    rw [if_pos hc]
    split at h
    · rename_i h3
      simp only [Except.ok.injEq, Prod.mk.injEq] at h
      obtain ⟨rfl, rfl⟩ := h
      have e : runL innerB (l.take (runL innerB l)) = runL innerB l := by rw [runL_take]; simp [Nat.min_def]
      rw [e, if_pos h3]
    · cases h
  · rename_i hc
    rw [if_neg hc]
    split at h
    · rename_i hd
      rw [if_pos hd]
      cases hn : numL l with
      | error p => rw [hn] at h; cases h
      | ok p =>
        obtain ⟨m, v⟩ := p
        rw [hn] at h
        simp only [Except.ok.injEq, Prod.mk.injEq] at h
        obtain ⟨rfl, rfl⟩ := h
        rw [numL_self hn]
    · rename_i hd
      rw [if_neg hd]
      split at h
      · rename_i hs
        rw [if_pos hs]; exact h
      · cases h
/-- What a token by itself says of its text. -/
theorem self_name {a k : Nat} {x : List UInt8} (hx : x ≠ []) (h : tokE a x = .ok (k, x.length)) : isName x = decide (k = 1) ∧ ((numOf x).2 = 0 ↔ k = 2) ∧ k ≠ 0 := by
  unfold tokE at h
  unfold isName numOf
  rw [if_neg hx]
  split at h
  · rename_i hc
    split at h
    · rename_i h3
      simp only [Except.ok.injEq, Prod.mk.injEq] at h
      obtain ⟨rfl, hn⟩ := h
      have hd : digitB (x.getD 0 0) = false := by
        unfold letterB at hc; unfold digitB
        simp only [Bool.and_eq_true, decide_eq_true_eq] at hc
        simp only [Bool.and_eq_false_iff, decide_eq_false_iff_not]; omega
      rw [hd, hc, hn]
      simp [hx]
      omega
    · cases h
  · rename_i hc
    split at h
    · rename_i hd
      cases hn : numL x with
      | error p => rw [hn] at h; cases h
      | ok p =>
        obtain ⟨m, v⟩ := p
        rw [hn] at h
        simp only [Except.ok.injEq, Prod.mk.injEq] at h
        obtain ⟨rfl, rfl⟩ := h
        have hl0 : letterB (x.getD 0 0) = false := by simpa using hc
        rw [hl0, hd]
        simp
    · rename_i hd
      split at h
      · simp only [Except.ok.injEq, Prod.mk.injEq] at h
        obtain ⟨rfl, hn⟩ := h
        have hl0 : letterB (x.getD 0 0) = false := by simpa using hc
        have hd0 : digitB (x.getD 0 0) = false := by simpa using hd
        rw [hl0, hd0]
        simp
      · cases h

/-- The tokens from a place on stand where they say, blanks alone between them. -/
def Tiles (s : List UInt8) : Nat → List Tok → Prop
  | b, [] => b = s.length
  | b, (k, x, a) :: l => b ≤ a ∧ a + x.length ≤ s.length ∧ (s.drop a).take x.length = x ∧ (∀ j, b ≤ j → j < a → s.getD j 0 = 32) ∧ (l = [] ↔ k = 0) ∧ (l = [] → x = []) ∧ (l ≠ [] → x ≠ [] ∧ tokE 0 x = .ok (k, x.length)) ∧ Tiles s (a + x.length) l
theorem scan_tiles {s : List UInt8} : ∀ (n a b : Nat) (acc l : List Tok), s.length - a ≤ n → a ≤ s.length → b ≤ a → (∀ j, b ≤ j → j < a → s.getD j 0 = 32) → scanA acc a (s.drop a) = .ok l → ∃ l', l = acc ++ l' ∧ l' ≠ [] ∧ Tiles s b l' := by
  intro n
  induction n with
  | zero =>
    intro a b acc l hn ha hb hbl h
    have : a = s.length := by omega
    subst this
    rw [scan_nil (Nat.le_refl _)] at h
    cases h
    exact ⟨_, rfl, by simp, hb, by simp, by simp, hbl, by simp, by simp, by simp, by simp [Tiles]⟩
  | succ n ih =>
    intro a b acc l hn ha hb hbl h
    rcases Nat.lt_or_ge a s.length with hlt | hge
    · by_cases hc : s.getD a 0 = 32
      · rw [scan_blank hlt hc] at h
        refine ih (a + 1) b acc l (by omega) hlt (by omega) (fun j h1 h2 => ?_) h
        rcases Nat.lt_or_ge j a with h3 | h3
        · exact hbl j h1 h3
        · rw [show j = a by omega]; exact hc
      · cases ht : tokE a (s.drop a) with
        | error e => rw [scan_err hlt hc ht] at h; cases h
        | ok p =>
          obtain ⟨k, m⟩ := p
          have hne : s.drop a ≠ [] := by
            intro h0
            have := congrArg List.length h0
            simp at this; omega
          obtain ⟨h1, h2, h3⟩ := tokE_self a 0 hne ht
          rw [List.length_drop] at h3
          rw [scan_tok hlt hc ht h2] at h
          obtain ⟨l', e1, e2, e3⟩ := ih (a + m) (a + m) _ l (by omega) (by omega) (Nat.le_refl _) (fun j h4 h5 => absurd h4 (by omega)) h
          have hxl : ((s.drop a).take m).length = m := by simp; omega
          have hx : (s.drop a).take m ≠ [] := List.length_pos_iff.1 (by omega)
          rw [← hxl] at h1
          have hk := (self_name (k := k) hx (by rw [hxl] at h1 ⊢; exact h1)).2.2
          refine ⟨(k, (s.drop a).take m, a) :: l', by rw [e1]; simp, by simp, hb, by rw [hxl]; omega, by rw [hxl], hbl, ⟨fun h => absurd h e2, fun h => absurd h hk⟩, fun h => absurd h e2, fun _ => ⟨hx, by rw [hxl] at h1 ⊢; exact h1⟩, by rw [hxl]; exact e3⟩
    · have : a = s.length := by omega
      subst this
      rw [scan_nil (Nat.le_refl _)] at h
      cases h
      exact ⟨_, rfl, by simp, hb, by simp, by simp, hbl, by simp, by simp, by simp, by simp [Tiles]⟩
theorem all_tiles {s : List UInt8} {l : List Tok} (h : allE s = .ok l) : l ≠ [] ∧ Tiles s 0 l ∧ s.length ≤ 4096 := by
  unfold allE at h
  split at h
  · cases h
  · obtain ⟨l', e1, e2, e3⟩ := scan_tiles (s := s) s.length 0 0 [] l (by omega) (by omega) (Nat.le_refl _) (fun j _ h => absurd h (by omega)) (by simpa using h)
    simp at e1; subst e1
    exact ⟨e2, e3, by omega⟩
theorem scan_errs {s : List UInt8} : ∀ (n a : Nat) (acc : List Tok) (o e : Nat), s.length - a ≤ n → a ≤ s.length → scanA acc a (s.drop a) = .error (o, e) → o ≤ s.length ∧ e ≠ 0 := by
  intro n
  induction n with
  | zero =>
    intro a acc o e hn ha h
    rw [scan_nil (by omega)] at h; cases h
  | succ n ih =>
    intro a acc o e hn ha h
    rcases Nat.lt_or_ge a s.length with hlt | hge
    · by_cases hc : s.getD a 0 = 32
      · rw [scan_blank hlt hc] at h
        exact ih (a + 1) acc o e (by omega) hlt h
      · cases ht : tokE a (s.drop a) with
        | error p =>
          obtain ⟨o', e'⟩ := p
          rw [scan_err hlt hc ht] at h
          simp only [Except.error.injEq, Prod.mk.injEq] at h
          obtain ⟨rfl, rfl⟩ := h
          obtain ⟨h1, h2, h3, -⟩ := tokE_err ht
          rw [List.length_drop] at h3
          exact ⟨by omega, by omega⟩
        | ok p =>
          obtain ⟨k, m⟩ := p
          obtain ⟨h2, h3, -⟩ := tokE_ok (by simp; omega) ht
          rw [List.length_drop] at h3
          rw [scan_tok hlt hc ht h2] at h
          exact ih (a + m) _ o e (by omega) (by omega) h
    · rw [scan_nil hge] at h; cases h
theorem all_errs {s : List UInt8} {o e : Nat} (h : allE s = .error (o, e)) : o ≤ s.length ∧ e ≠ 0 := by
  unfold allE at h
  split at h
  · simp only [Except.error.injEq, Prod.mk.injEq] at h
    obtain ⟨rfl, rfl⟩ := h
    exact ⟨by omega, by omega⟩
  · exact scan_errs s.length 0 [] o e (by omega) (by omega) (by simpa using h)
end Go.Proofs.YthekpjhffciakaaDoor

namespace Go.Proofs.YthekpjhffciakaaDoor
open Go PG Go.Proofs
set_option linter.unusedSimpArgs false
set_option linter.unusedVariables false
set_option maxRecDepth 100000
theorem tiles_end {s : List UInt8} : ∀ (l : List Tok) (b : Nat), l ≠ [] → Tiles s b l → ∃ l', l = l' ++ [(0, [], s.length)] ∧ ∀ t ∈ l', t.1 ≠ 0 ∧ t.2.1 ≠ [] ∧ tokE 0 t.2.1 = .ok (t.1, t.2.1.length) ∧ t.2.1.length ≤ s.length
  | [], _, h, _ => absurd rfl h
  | [(k, x, a)], b, _, h => by
    unfold Tiles at h
    obtain ⟨h1, h2, h3, h4, h5, h6, h7, h8⟩ := h
    have hk := h5.1 rfl
    have hx := h6 rfl
    subst hk hx
    unfold Tiles at h8
    simp at h8
    exact ⟨[], by simp [h8], by simp⟩
  | (k, x, a) :: t :: l, b, _, h => by
    unfold Tiles at h
    obtain ⟨h1, h2, h3, h4, h5, h6, h7, h8⟩ := h
    obtain ⟨l', e, h9⟩ := tiles_end (t :: l) (a + x.length) (by simp) h8
    obtain ⟨h10, h11⟩ := h7 (by simp)
    refine ⟨(k, x, a) :: l', by rw [e]; rfl, fun u hu => ?_⟩
    rcases List.mem_cons.1 hu with rfl | hu
    · exact ⟨fun h => by have := h5.2 h; simp at this, h10, h11, by simp only; omega⟩
    · exact h9 u hu
/-- What a formula's tokens are. -/
theorem toks_of {s : List UInt8} {l : List Tok} (h : allE s = .ok l) : ∃ l', l = l' ++ [(0, [], s.length)] ∧ l.length ≤ 4097 ∧ s.length ≤ 4096 ∧ ∀ t ∈ l', t.1 ≠ 0 ∧ t.2.1 ≠ [] ∧ tokE 0 t.2.1 = .ok (t.1, t.2.1.length) ∧ t.2.1.length ≤ 4096 := by
  obtain ⟨h1, h2, h3⟩ := all_tiles h
  obtain ⟨l', e, h4⟩ := tiles_end l 0 h1 h2
  have := (allE_len h).1
  exact ⟨l', e, by omega, h3, fun t ht => ⟨(h4 t ht).1, (h4 t ht).2.1, (h4 t ht).2.2.1, by have := (h4 t ht).2.2.2; omega⟩⟩
theorem tk_end (l' : List Tok) (n : Nat) : (tkAt (l' ++ [(0, [], n)]) ((l' ++ [(0, [], n)]).length - 1)).1 = 0 := by
  simp [tkAt, List.getD]
theorem inv_start {s : List UInt8} {l : List Tok} (h : allE s = .ok l) : Inv l ⟨0, 0, []⟩ := by
  obtain ⟨l', rfl, -, -, -⟩ := toks_of h
  exact ⟨by simp, by simp, rfl, tk_end _ _⟩
theorem tx_le {s : List UInt8} {l : List Tok} (h : allE s = .ok l) (i : Nat) : (tkAt l i).2.1.length ≤ 100000 := by
  obtain ⟨l', rfl, -, -, h4⟩ := toks_of h
  unfold tkAt
  rw [List.getD_eq_getElem?_getD]
  cases hi : (l' ++ [((0 : Nat), ([] : List UInt8), s.length)])[i]? with
  | none => simp
  | some t =>
    rcases List.mem_append.1 (List.mem_of_getElem? hi) with hm | hm
    · have := (h4 t hm).2.2.2; simp only [Option.getD_some]; omega
    · rw [List.mem_singleton.1 hm]; simp
end Go.Proofs.YthekpjhffciakaaDoor

namespace Go.Proofs.YthekpjhffciakaaDoor
open Go PG Go.Proofs
set_option linter.unusedSimpArgs false
set_option linter.unusedVariables false
set_option maxRecDepth 100000
/-! The tokens of texts that are put together -/
abbrev KT := Nat × List UInt8
def kt (l : List Tok) : List KT := l.map (fun t => (t.1, t.2.1))
/-- The kinds and texts of a text's tokens. -/
def lx : List UInt8 → Option (List KT)
  | [] => some []
  | b :: r => if b = 32 then lx r else
    match tokE 0 (b :: r) with
    | .error _ => none
    | .ok (k, n) => (lx (r.drop (n - 1))).map ((k, (b :: r).take n) :: ·)
termination_by l => l.length
decreasing_by all_goals (simp; try omega)
theorem inner_digit {b : UInt8} (h : innerB b = false) : digitB b = false ∧ b ≠ 46 := by
  unfold innerB at h
  simp only [Bool.or_eq_false_iff, decide_eq_false_iff_not] at h
  refine ⟨h.1.1.1.2, fun e => h.1.1.2 ?_⟩
  subst e; rfl
theorem numL_stop {b : UInt8} (hb : innerB b = false) (l r : List UInt8) : numL (l ++ b :: r) = numL l := by
  obtain ⟨hd, h46⟩ := inner_digit hb
  have h1 := runL_stop_app hd r l
  have h2 : runL digitB l ≤ l.length := runL_le _ _
  unfold numL
  rw [h1]
  by_cases hp : runL digitB l < l.length ∧ l.getD (runL digitB l) 0 = 46
  · have hp' : runL digitB l < (l ++ b :: r).length ∧ (l ++ b :: r).getD (runL digitB l) 0 = 46 := ⟨by simp; omega, by rw [getD_app hp.1]; exact hp.2⟩
    have hd' : (l ++ b :: r).drop (runL digitB l + 1) = l.drop (runL digitB l + 1) ++ b :: r := by rw [List.drop_append_of_le_length (by omega)]
    have ht : (l ++ b :: r).take (runL digitB l) = l.take (runL digitB l) := by rw [List.take_append_of_le_length h2]
    have hq : runL digitB (l.drop (runL digitB l + 1)) ≤ (l.drop (runL digitB l + 1)).length := runL_le _ _
    rw [if_pos hp, if_pos hp', hd', ht, runL_stop_app hd r, List.take_append_of_le_length hq]
  · have hp' : ¬(runL digitB l < (l ++ b :: r).length ∧ (l ++ b :: r).getD (runL digitB l) 0 = 46) := by
      rintro ⟨h3, h4⟩
      rcases Nat.lt_or_ge (runL digitB l) l.length with h | h
      · rw [getD_app h] at h4; exact hp ⟨h, h4⟩
      · have : runL digitB l = l.length := by omega
        rw [this] at h4
        simp [List.getD] at h4
        exact h46 h4
    have ht : (l ++ b :: r).take (runL digitB l) = l.take (runL digitB l) := by rw [List.take_append_of_le_length h2]
    rw [if_neg hp, if_neg hp', ht]
theorem tokE_stop {b : UInt8} (hb : innerB b = false) (a : Nat) {l : List UInt8} (r : List UInt8) (hl : l ≠ []) : tokE a (l ++ b :: r) = tokE a l := by
  have h0 : (l ++ b :: r).getD 0 0 = l.getD 0 0 := getD_app (List.length_pos_iff.2 hl)
  unfold tokE
  rw [h0, runL_stop_app hb, numL_stop hb]
/-- Where a token is right does not hang on its place. -/
theorem tokE_at (a a' : Nat) {l : List UInt8} {p : Nat × Nat} (h : tokE a l = .ok p) : tokE a' l = .ok p := by
  unfold tokE at h ⊢
  split at h
  · rename_i hc; rw [if_pos hc]
    split at h
    · rename_i h3; rw [if_pos h3]; exact h
    · cases h
  · rename_i hc; rw [if_neg hc]
    split at h
    · rename_i hd; rw [if_pos hd]
      cases hn : numL l with
      | error p => rw [hn] at h; cases h
      | ok p => rw [hn] at h; exact h
    · rename_i hd; rw [if_neg hd]
      split at h
      · rename_i hs; rw [if_pos hs]; exact h
      · cases h
theorem lx_scan : ∀ (n : Nat) (s : List UInt8) (w : List KT) (acc : List Tok) (a : Nat), s.length ≤ n → lx s = some w → ∃ l, kt l = w ∧ scanA acc a s = .ok (acc ++ l ++ [(0, [], a + s.length)]) := by
  intro n
  induction n with
  | zero =>
    intro s w acc a hn h
    have : s = [] := List.length_eq_zero_iff.1 (by omega)
    subst this
    rw [lx] at h; cases h
    exact ⟨[], rfl, by rw [scanA]; simp⟩
  | succ n ih =>
    intro s w acc a hn h
    cases s with
    | nil => rw [lx] at h; cases h; exact ⟨[], rfl, by rw [scanA]; simp⟩
    | cons b r =>
      simp only [List.length_cons] at hn
      rw [lx] at h
      rw [scanA]
      by_cases hb : b = 32
      · rw [if_pos hb] at h ⊢
        obtain ⟨l, h1, h2⟩ := ih r w acc (a + 1) (by omega) h
        exact ⟨l, h1, by rw [h2]; simp; omega⟩
      · rw [if_neg hb] at h ⊢
        cases ht : tokE 0 (b :: r) with
        | error e => rw [ht] at h; cases h
        | ok p =>
          obtain ⟨k, m⟩ := p
          rw [ht] at h
          rw [tokE_at 0 a ht]
          simp only at h ⊢
          cases hr : lx (r.drop (m - 1)) with
          | none => rw [hr] at h; cases h
          | some v =>
            rw [hr] at h
            simp only [Option.map_some, Option.some.injEq] at h
            obtain ⟨h3, h4, -⟩ := tokE_ok (by simp) ht
            simp only [List.length_cons] at h4
            obtain ⟨l, h1, h2⟩ := ih (r.drop (m - 1)) v (acc ++ [(k, (b :: r).take m, a)]) (a + m) (by simp; omega) hr
            refine ⟨(k, (b :: r).take m, a) :: l, by rw [← h]; simp [kt] at h1 ⊢; exact h1, ?_⟩
            rw [h2]
            simp
            omega
theorem scan_lx : ∀ (n : Nat) (s : List UInt8) (l acc : List Tok) (a : Nat), s.length ≤ n → scanA acc a s = .ok l → ∃ w, lx s = some w := by
  intro n
  induction n with
  | zero =>
    intro s l acc a hn h
    have : s = [] := List.length_eq_zero_iff.1 (by omega)
    subst this
    exact ⟨[], by rw [lx]⟩
  | succ n ih =>
    intro s l acc a hn h
    cases s with
    | nil => exact ⟨[], by rw [lx]⟩
    | cons b r =>
      simp only [List.length_cons] at hn
      rw [scanA] at h
      rw [lx]
      by_cases hb : b = 32
      · rw [if_pos hb] at h ⊢
        exact ih r l acc (a + 1) (by omega) h
      · rw [if_neg hb] at h ⊢
        cases ht : tokE a (b :: r) with
        | error e => rw [ht] at h; cases h
        | ok p =>
          obtain ⟨k, m⟩ := p
          rw [ht] at h
          rw [tokE_at a 0 ht]
          simp only at h ⊢
          obtain ⟨w, hw⟩ := ih _ _ _ _ (by simp; omega) h
          exact ⟨_, by rw [hw]; rfl⟩
/-- All tokens of a text, kinds and texts. -/
theorem all_lx {s : List UInt8} {w : List KT} (hs : s.length ≤ 4096) (h : lx s = some w) : ∃ l, kt l = w ∧ allE s = .ok (l ++ [(0, [], s.length)]) := by
  obtain ⟨l, h1, h2⟩ := lx_scan s.length s w [] 0 (Nat.le_refl _) h
  exact ⟨l, h1, by unfold allE; rw [if_neg (by omega), h2]; simp⟩
theorem lx_all {s : List UInt8} {l : List Tok} (h : allE s = .ok l) : ∃ w l', lx s = some w ∧ kt l' = w ∧ l = l' ++ [(0, [], s.length)] := by
  have hs := (allE_len h).2
  have h' := h
  unfold allE at h
  rw [if_neg (by omega)] at h
  obtain ⟨w, hw⟩ := scan_lx s.length s l [] 0 (Nat.le_refl _) h
  obtain ⟨l', h1, h2⟩ := all_lx hs hw
  rw [h'] at h2
  cases h2
  exact ⟨w, l', hw, h1, rfl⟩
theorem lx_app {b : UInt8} (hb : innerB b = false) (r : List UInt8) : ∀ (n : Nat) (s : List UInt8) (w : List KT), s.length ≤ n → lx s = some w → lx (s ++ b :: r) = (lx (b :: r)).map (w ++ ·) := by
  intro n
  induction n with
  | zero =>
    intro s w hn h
    have : s = [] := List.length_eq_zero_iff.1 (by omega)
    subst this
    rw [lx] at h; cases h
    simp
  | succ n ih =>
    intro s w hn h
    cases s with
    | nil => rw [lx] at h; cases h; simp
    | cons c t =>
      simp only [List.length_cons] at hn
      rw [lx] at h
      rw [List.cons_append, lx]
      by_cases hc : c = 32
      · rw [if_pos hc] at h ⊢
        exact ih t w (by omega) h
      · rw [if_neg hc] at h ⊢
        have hst := tokE_stop hb 0 (l := c :: t) r (by simp)
        rw [List.cons_append] at hst
        rw [hst]
        cases ht : tokE 0 (c :: t) with
        | error e => rw [ht] at h; cases h
        | ok p =>
          obtain ⟨k, m⟩ := p
          rw [ht] at h
          simp only at h ⊢
          cases hr : lx (t.drop (m - 1)) with
          | none => rw [hr] at h; cases h
          | some v =>
            rw [hr] at h
            simp only [Option.map_some, Option.some.injEq] at h
            obtain ⟨h3, h4, -⟩ := tokE_ok (by simp) ht
            simp only [List.length_cons] at h4
            have e1 : (t ++ b :: r).drop (m - 1) = t.drop (m - 1) ++ b :: r := by rw [List.drop_append_of_le_length (by omega)]
            have e2 : (c :: (t ++ b :: r)).take m = (c :: t).take m := by rw [← List.cons_append, List.take_append_of_le_length (by simp; omega)]
            rw [e1, e2, ih _ v (by simp; omega) hr, ← h]
            cases lx (b :: r) <;> simp
/-- A sign by itself is a token. -/
theorem lx_sign {b : UInt8} (h32 : b ≠ 32) (hl : letterB b = false) (hd : digitB b = false) (hs : signB b = true) (r : List UInt8) : lx (b :: r) = (lx r).map ((3, [b]) :: ·) := by
  have ht : tokE 0 (b :: r) = .ok (3, 1) := by
    unfold tokE
    simp only [List.getD_cons_zero]
    rw [hl, hd, hs]; simp
  rw [lx, if_neg h32, ht]
  simp
theorem lx_tok {x : List UInt8} {k : Nat} (hx : x ≠ []) (h32 : x.getD 0 0 ≠ 32) (h : tokE 0 x = .ok (k, x.length)) : lx x = some [(k, x)] := by
  cases x with
  | nil => exact absurd rfl hx
  | cons b r =>
    rw [lx, if_neg (by simpa using h32), h]
    simp only [List.length_cons, Nat.add_sub_cancel, List.drop_length, List.take_of_length_le (Nat.le_refl _)]
    rw [show (b :: r).take (r.length + 1) = b :: r from List.take_of_length_le (by simp), lx]
    rfl
theorem letter32 {b : UInt8} (h : letterB b = true) : b ≠ 32 := by
  intro e; subst e; cases h
theorem digit32' {b : UInt8} (h : digitB b = true) : b ≠ 32 := by
  intro e; subst e; cases h
theorem digit_letter {b : UInt8} (h : digitB b = true) : letterB b = false := by
  unfold digitB at h; unfold letterB
  simp only [Bool.and_eq_true, decide_eq_true_eq] at h
  simp only [Bool.and_eq_false_iff, decide_eq_false_iff_not]; omega
theorem lx_name {x : List UInt8} (h : isName x = true) : lx x = some [(1, x)] := by
  unfold isName at h
  simp only [Bool.and_eq_true, decide_eq_true_eq] at h
  obtain ⟨⟨⟨h1, h2⟩, h3⟩, h4⟩ := h
  refine lx_tok h1 (letter32 h3) ?_
  unfold tokE
  rw [h3, h4]
  simp [h2]
theorem lx_numb {x : List UInt8} {v : Nat} (h0 : digitB (x.getD 0 0) = true) (h : numL x = .ok (x.length, v)) : lx x = some [(2, x)] := by
  have hx : x ≠ [] := by intro e; subst e; cases h0
  refine lx_tok hx (digit32' h0) ?_
  unfold tokE
  rw [digit_letter h0, h0, h]
  simp
end Go.Proofs.YthekpjhffciakaaDoor

