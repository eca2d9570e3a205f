import Derived.Test.YtdemgegpnlngeaaDoorR6
namespace Go.Proofs.YtdemgegpnlngeaaDoor
open Go PG Go.Proofs
set_option linter.unusedSimpArgs false
set_option linter.unusedVariables false
set_option maxHeartbeats 4000000
set_option maxRecDepth 100000
theorem e43 : Ent Tryd.prog 43 := ⟨Tryd.f43, Tryd.func43, by kernel_rfl, by kernel_rfl⟩
theorem e15 : Ent Tryd.prog 15 := ⟨Tryd.f15, Tryd.func15, by kernel_rfl, by kernel_rfl⟩
def accG (p n : Nat) : List UInt8 → Bool
  | [] => decide (0 < n) && decide (p ≤ 3)
  | b :: l => if b = 47 then decide (n ≠ 0) && accG (p + 1) 0 l else okB b && decide (n + 1 ≤ 32) && accG p (n + 1) l
theorem accG_split : ∀ (s : List UInt8) (p n : Nat), n ≤ 32 → ∀ q qs, splitB 47 s = q :: qs →
    accG p n s = (decide (0 < n + q.length) && decide (n + q.length ≤ 32) && q.all okB && qs.all partOk && decide (p + qs.length ≤ 3))
  | [], p, n, hn, q, qs, h => by
    simp only [splitB, List.cons.injEq] at h
    obtain ⟨rfl, rfl⟩ := h
    simp [accG, hn]
  | b :: l, p, n, hn, q, qs, h => by
    by_cases hb : b = 47
    · subst hb
      simp only [splitB, if_true, List.cons.injEq] at h
      obtain ⟨rfl, rfl⟩ := h
      obtain ⟨q', qs', hs⟩ : ∃ q' qs', splitB 47 l = q' :: qs' := by
        cases h : splitB 47 l with
        | nil => exact absurd h (splitB_ne _ _)
        | cons a c => exact ⟨a, c, rfl⟩
      have ih := accG_split l (p + 1) 0 (by omega) q' qs' hs
      simp only [accG, if_true, ih, hs, partOk, List.all_cons, List.length_cons, List.length_nil, Nat.add_zero, Nat.zero_add, List.all_nil, Bool.and_true]
      have e1 : decide (n ≠ 0) = decide (0 < n) := by simp [Nat.pos_iff_ne_zero]
      have e2 : decide (n ≤ 32) = true := by simpa using hn
      have e3 : decide (0 < q'.length) = decide (q' ≠ []) := by simp [List.length_pos_iff]
      have e4 : decide (p + 1 + qs'.length ≤ 3) = decide (p + (qs'.length + 1) ≤ 3) := by congr 1; rw [eq_iff_iff]; omega
      rw [e1, e2, e3, e4]
      simp [Bool.and_assoc]
    · simp only [splitB, hb, if_false] at h
      split at h
      · rename_i h'; exact absurd h' (splitB_ne _ _)
      · rename_i q' qs' hs
        simp only [List.cons.injEq] at h
        obtain ⟨rfl, rfl⟩ := h
        simp only [accG, hb, if_false]
        rcases Nat.lt_or_ge 32 (n + 1) with h32 | h32
        · have e1 : decide (n + 1 ≤ 32) = false := by simp only [decide_eq_false_iff_not]; omega
          have e2 : decide (n + (b :: q').length ≤ 32) = false := by simp only [decide_eq_false_iff_not, List.length_cons]; omega
          rw [e1, e2]; simp
        · have ih := accG_split l p (n + 1) h32 q' qs' hs
          have e1 : decide (n + 1 ≤ 32) = true := by simp only [decide_eq_true_eq]; omega
          have e2 : n + 1 + q'.length = n + (b :: q').length := by simp only [List.length_cons]; omega
          rw [ih, e1, e2, List.all_cons]
          cases okB b <;> simp
theorem accG_ok (s : List UInt8) : accG 1 0 s = accOk s := by
  obtain ⟨q, qs, hs⟩ : ∃ q' qs', splitB 47 s = q' :: qs' := by
    cases h : splitB 47 s with
    | nil => exact absurd h (splitB_ne _ _)
    | cons a c => exact ⟨a, c, rfl⟩
  rw [accG_split s 1 0 (by omega) q qs hs, accOk, hs]
  have e3 : decide (0 < 0 + q.length) = decide (q ≠ []) := by simp [List.length_pos_iff]
  have e4 : decide (1 + qs.length ≤ 3) = decide ((q :: qs).length ≤ 3) := by simp only [List.length_cons]; congr 1; rw [eq_iff_iff]; omega
  rw [e3, e4, Nat.zero_add, List.all_cons, partOk]
  cases decide (q ≠ []) <;> cases decide (q.length ≤ 32) <;> cases q.all okB <;> cases qs.all partOk <;> simp
theorem v43 (s : List UInt8) (hs : s.length ≤ 1048576) : VCalls Tryd.prog G0 43 [.str s] (.bool (accOk s)) := by
  rw [← accG_ok]
  refine VCalls.of_PW Tryd.func43 k43 mix (by simp [c43]) ?_
  simp only [c43, L43, argE]
  repeat' (first | refine PW.seq ?_ | refine PW.block ?_ | ((first | refine PW.region ?_ | refine PW.regionQ ?_ | refine PW.exit ?_ | refine PW.ret ?_ | refine PW.skip ?_); simp only [SS, SS2, SS3, SS4, Option.map_some, Bool.not_false, Bool.not_true, gArgs, gOk, Nat.reduceAdd, PV.shift, MObj.shift, rdV, rdD, reduceIte, Nat.reduceEqDiff, Nat.reduceBEq, PV.bin, PV.binOk, binI, binS, PV.withInt, PV.withIntP, okAll, PV.under, PV.okUnder, eq_self, implies_true, deadOk, ne_eq, allOk, RVar.val, RVar.ok, retV, PV.seen, PV.view, beq_self_eq_true, PV.flat, PV.noOwn, id_eq, behind, PV.kill, MObj.kill, killTag, reduceCtorEq, nilB]; (try go_unwrap; try simp only [toNat_add2, toNat_add1, Int.toNat_natCast, Bool.false_and, Bool.true_and, true_implies, true_and, Bool.false_eq_true, reduceCtorEq, false_implies, Bool.not_false, Bool.not_true, Bool.true_or, Bool.false_or])) | refine PW.regionA ?_ | exact schedW_stop_i | ((first | refine schedW_alt_i ?_ ?_ | refine schedW_done_i ?_); focus (simp only [SS, SS2, SS3, SS4, Option.map_some, Bool.not_false, Bool.not_true, gArgs, gOk, Nat.reduceAdd, PV.shift, MObj.shift, rdV, rdD, reduceIte, Nat.reduceEqDiff, Nat.reduceBEq, PV.bin, PV.binOk, binI, binS, PV.withInt, PV.withIntP, okAll, PV.under, PV.okUnder, eq_self, implies_true, deadOk, ne_eq, allOk, RVar.val, RVar.ok, retV, PV.seen, PV.view, beq_self_eq_true, PV.flat, PV.noOwn, id_eq, behind, PV.kill, MObj.kill, killTag, reduceCtorEq, nilB]; (try go_unwrap; try simp only [toNat_add2, toNat_add1, Int.toNat_natCast, Bool.false_and, Bool.true_and, true_implies, true_and, Bool.false_eq_true, reduceCtorEq, false_implies, Bool.not_false, Bool.not_true, Bool.true_or, Bool.false_or]))) | (refine PW.cond rfl ?_ ?_ <;> intro hcond <;> (try contradiction) <;> try simp only [decide_eq_true_eq, decide_eq_false_iff_not] at hcond) | refine And.intro ?_ ?_ | exact Or.inr ⟨rfl, Nat.le_refl _⟩ | exact (fun h => Bool.noConfusion h) | omega | (simp only [decide_eq_true_eq, decide_eq_false_iff_not, List.length_cons, List.length_nil, List.length_append, List.length_map, Sh.size] <;> omega) | (go_unwrap; omega))
  refine PW.loop (σ := Nat × Nat × Nat) [0, 2, 3, 4, 5] (fun j => [.str s, .bool false, .int .i64 j.1, .int .i64 j.2.1, .int .i64 j.2.2]) (fun _ => []) (fun j => j.2.2 ≤ s.length ∧ j.1 ≤ j.2.2 + 1 ∧ j.2.1 ≤ 32 ∧ accG 1 0 s = accG j.1 j.2.1 (s.drop j.2.2)) (fun j => s.length - j.2.2) (1, 0, 0) ?_ rfl ⟨by simp, by simp, by simp, by simp⟩ ?_
  · simp only [SS, SS2, SS3, SS4, Option.map_some, Bool.not_false, Bool.not_true, gArgs, gOk, Nat.reduceAdd, PV.shift, MObj.shift, rdV, rdD, reduceIte, Nat.reduceEqDiff, Nat.reduceBEq, PV.bin, PV.binOk, binI, binS, PV.withInt, PV.withIntP, okAll, PV.under, PV.okUnder, eq_self, implies_true, deadOk, ne_eq, allOk, RVar.val, RVar.ok, retV, PV.seen, PV.view, beq_self_eq_true, PV.flat, PV.noOwn, id_eq, behind, PV.kill, MObj.kill, killTag, reduceCtorEq, nilB]; rfl
  rintro ⟨p, n, j⟩ ⟨hj, hp, hn, hr⟩
  simp only at hj hp hn hr
  simp only [List.zip_cons_cons, List.zip_nil_left]
  rcases Nat.lt_or_ge j s.length with h | h
  · have hd : decide ((j : Int) < s.length) = true := by simp only [decide_eq_true_eq]; omega
    have hg : s[j] = s.getD j 0 := by simp [List.getD, h]
    rw [List.drop_eq_getElem_cons h, hg, accG] at hr
    obtain ⟨b, hgb⟩ : ∃ b, s.getD j 0 = b := ⟨_, rfl⟩
    rw [hgb] at hr
    have hb : (b = 47) ↔ ((b.toNat : Int) = 47) := by
      constructor
      · rintro rfl; rfl
      · intro h; exact UInt8.toNat_inj.1 (by have : (47 : UInt8).toNat = 47 := rfl; omega)
    repeat' (first | refine PW.seq ?_ | refine PW.block ?_ | ((first | refine PW.region ?_ | refine PW.regionQ ?_ | refine PW.exit ?_ | refine PW.ret ?_ | refine PW.skip ?_); simp only [hd, hgb, SS, SS2, SS3, SS4, Option.map_some, Bool.not_false, Bool.not_true, gArgs, gOk, Nat.reduceAdd, PV.shift, MObj.shift, rdV, rdD, reduceIte, Nat.reduceEqDiff, Nat.reduceBEq, PV.bin, PV.binOk, binI, binS, PV.withInt, PV.withIntP, okAll, PV.under, PV.okUnder, eq_self, implies_true, deadOk, ne_eq, allOk, RVar.val, RVar.ok, retV, PV.seen, PV.view, beq_self_eq_true, PV.flat, PV.noOwn, id_eq, behind, PV.kill, MObj.kill, killTag, reduceCtorEq, nilB]; (try go_unwrap; try simp only [hd, hgb, toNat_add2, toNat_add1, Int.toNat_natCast, Bool.false_and, Bool.true_and, true_implies, true_and, Bool.false_eq_true, reduceCtorEq, false_implies, Bool.not_false, Bool.not_true, Bool.true_or, Bool.false_or])) | refine PW.regionA ?_ | exact schedW_stop_i | ((first | refine schedW_alt_i ?_ ?_ | refine schedW_done_i ?_); focus (simp only [hd, hgb, SS, SS2, SS3, SS4, Option.map_some, Bool.not_false, Bool.not_true, gArgs, gOk, Nat.reduceAdd, PV.shift, MObj.shift, rdV, rdD, reduceIte, Nat.reduceEqDiff, Nat.reduceBEq, PV.bin, PV.binOk, binI, binS, PV.withInt, PV.withIntP, okAll, PV.under, PV.okUnder, eq_self, implies_true, deadOk, ne_eq, allOk, RVar.val, RVar.ok, retV, PV.seen, PV.view, beq_self_eq_true, PV.flat, PV.noOwn, id_eq, behind, PV.kill, MObj.kill, killTag, reduceCtorEq, nilB]; (try go_unwrap; try simp only [hd, hgb, toNat_add2, toNat_add1, Int.toNat_natCast, Bool.false_and, Bool.true_and, true_implies, true_and, Bool.false_eq_true, reduceCtorEq, false_implies, Bool.not_false, Bool.not_true, Bool.true_or, Bool.false_or]))) | (refine PW.cond rfl ?_ ?_ <;> intro hcond <;> (try contradiction) <;> try simp only [decide_eq_true_eq, decide_eq_false_iff_not] at hcond) | refine And.intro ?_ ?_ | exact Or.inr ⟨rfl, Nat.le_refl _⟩ | exact (fun h => Bool.noConfusion h) | omega | (simp only [decide_eq_true_eq, decide_eq_false_iff_not, List.length_cons, List.length_nil, List.length_append, List.length_map, Sh.size] <;> omega) | (go_unwrap; omega))
    · have h47 : b = 47 := hb.2 (by assumption)
      have hn0 : n = 0 := by omega
      rw [hr, if_pos h47, hn0]; rfl
    · have h47 : b = 47 := hb.2 (by assumption)
      have hn0 : decide (n ≠ 0) = true := by simp only [decide_eq_true_eq]; omega
      refine ⟨(p + 1, 0, j + 1), rfl, ⟨by simp only; omega, by simp only; omega, by simp, by rw [hr, if_pos h47, hn0]; rfl⟩, by simp only; omega⟩
    · intro h; refine ⟨h, ?_⟩; intro _; rw [if_pos h]; assumption
    · have h47 : ¬ b = 47 := fun h => by have := hb.1 h; contradiction
      have hk : okB b = false := by
        simp only [Bool.and_eq_true, Bool.or_eq_true, decide_eq_true_eq, Bool.not_eq_true', decide_eq_false_iff_not] at hcond
        simp only [okB, Bool.or_eq_false_iff, Bool.and_eq_false_iff, decide_eq_false_iff_not]
        omega
      rw [hr, if_neg h47, hk]; rfl
    · have h47 : ¬ b = 47 := fun h => by have := hb.1 h; contradiction
      have hk : decide (n + 1 ≤ 32) = false := by simp only [decide_eq_false_iff_not]; omega
      rw [hr, if_neg h47, hk]; simp
    · have h47 : ¬ b = 47 := fun h => by have := hb.1 h; contradiction
      rename_i hq
      have hk : okB b = true := by
        simp only [Bool.and_eq_false_iff, Bool.or_eq_false_iff, decide_eq_false_iff_not, Bool.not_eq_false', decide_eq_true_eq] at hq
        simp only [okB, Bool.or_eq_true, Bool.and_eq_true, decide_eq_true_eq]
        omega
      have hk2 : decide (n + 1 ≤ 32) = true := by simp only [decide_eq_true_eq]; omega
      refine ⟨(p, n + 1, j + 1), rfl, ⟨by simp only; omega, by simp only; omega, by simp only; omega, by rw [hr, if_neg h47, hk, hk2]; rfl⟩, by simp only; omega⟩
  · have hd : decide ((j : Int) < s.length) = false := by simp only [decide_eq_false_iff_not]; omega
    repeat' (first | refine PW.seq ?_ | refine PW.block ?_ | ((first | refine PW.region ?_ | refine PW.regionQ ?_ | refine PW.exit ?_ | refine PW.ret ?_ | refine PW.skip ?_); simp only [hd, SS, SS2, SS3, SS4, Option.map_some, Bool.not_false, Bool.not_true, gArgs, gOk, Nat.reduceAdd, PV.shift, MObj.shift, rdV, rdD, reduceIte, Nat.reduceEqDiff, Nat.reduceBEq, PV.bin, PV.binOk, binI, binS, PV.withInt, PV.withIntP, okAll, PV.under, PV.okUnder, eq_self, implies_true, deadOk, ne_eq, allOk, RVar.val, RVar.ok, retV, PV.seen, PV.view, beq_self_eq_true, PV.flat, PV.noOwn, id_eq, behind, PV.kill, MObj.kill, killTag, reduceCtorEq, nilB]; (try go_unwrap; try simp only [hd, toNat_add2, toNat_add1, Int.toNat_natCast, Bool.false_and, Bool.true_and, true_implies, true_and, Bool.false_eq_true, reduceCtorEq, false_implies, Bool.not_false, Bool.not_true, Bool.true_or, Bool.false_or])) | refine PW.regionA ?_ | exact schedW_stop_i | ((first | refine schedW_alt_i ?_ ?_ | refine schedW_done_i ?_); focus (simp only [hd, SS, SS2, SS3, SS4, Option.map_some, Bool.not_false, Bool.not_true, gArgs, gOk, Nat.reduceAdd, PV.shift, MObj.shift, rdV, rdD, reduceIte, Nat.reduceEqDiff, Nat.reduceBEq, PV.bin, PV.binOk, binI, binS, PV.withInt, PV.withIntP, okAll, PV.under, PV.okUnder, eq_self, implies_true, deadOk, ne_eq, allOk, RVar.val, RVar.ok, retV, PV.seen, PV.view, beq_self_eq_true, PV.flat, PV.noOwn, id_eq, behind, PV.kill, MObj.kill, killTag, reduceCtorEq, nilB]; (try go_unwrap; try simp only [hd, toNat_add2, toNat_add1, Int.toNat_natCast, Bool.false_and, Bool.true_and, true_implies, true_and, Bool.false_eq_true, reduceCtorEq, false_implies, Bool.not_false, Bool.not_true, Bool.true_or, Bool.false_or]))) | (refine PW.cond rfl ?_ ?_ <;> intro hcond <;> (try contradiction) <;> try simp only [decide_eq_true_eq, decide_eq_false_iff_not] at hcond) | refine And.intro ?_ ?_ | exact Or.inr ⟨rfl, Nat.le_refl _⟩ | exact (fun h => Bool.noConfusion h) | omega | (simp only [decide_eq_true_eq, decide_eq_false_iff_not, List.length_cons, List.length_nil, List.length_append, List.length_map, Sh.size] <;> omega) | (go_unwrap; omega))
    rw [hr, List.drop_eq_nil_of_le h, accG]
    have e1 : decide (0 < (n : Int)) = decide (0 < n) := by congr 1; rw [eq_iff_iff]; omega
    have e2 : decide ((p : Int) ≤ 3) = decide (p ≤ 3) := by congr 1; rw [eq_iff_iff]; omega
    rw [e1, e2]
end Go.Proofs.YtdemgegpnlngeaaDoor
