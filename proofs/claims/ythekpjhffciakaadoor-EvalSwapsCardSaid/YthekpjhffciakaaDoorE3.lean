import Derived.Test.YthekpjhffciakaaDoorE2
namespace Go.Proofs.YthekpjhffciakaaDoor
open Go PG Go.Proofs
set_option linter.unusedSimpArgs false
set_option linter.unusedVariables false
set_option maxHeartbeats 4000000
set_option maxRecDepth 100000
/-- A node of a tree. -/
structure Nd where
  op : Int
  num : Int
  name : List UInt8
  kids : List Int
  deriving DecidableEq
def kidsP (l : List Int) : PV := .list none (l.map (PV.int .i64))
def ndC (n : Nd) : List PV := [.int .i64 n.op, .int .i64 n.num, .str n.name, kidsP n.kids]
def ndP (n : Nd) : PV := .agg (ndC n)
def treeP (l : List Nd) : PV := .agg [.list (some 4) (l.map ndP)]
def kidsTab : List Int := [0, 0, 2, 2, 2, 2, 2, 3, 2, 2]
def kidsTabP : PV := .agg (kidsTab.map (PV.int .i64))
def HasKids (G : Globs) : Prop := G 1 = some (some 10, kidsTabP)
theorem e60 : Ent Tryd.prog 60 := ⟨Tryd.f60, Tryd.func60, by kernel_rfl, by kernel_rfl⟩
theorem e61 : Ent Tryd.prog 61 := ⟨Tryd.f61, Tryd.func61, by kernel_rfl, by kernel_rfl⟩
theorem e89 : Ent Tryd.prog 89 := ⟨Tryd.f89, Tryd.func89, by kernel_rfl, by kernel_rfl⟩
theorem e42 : Ent Tryd.prog 42 := ⟨Tryd.f42, Tryd.func42, by kernel_rfl, by kernel_rfl⟩
theorem e29 : Ent Tryd.prog 29 := ⟨Tryd.f29, Tryd.func29, by kernel_rfl, by kernel_rfl⟩
def formE (n : Nd) : Int := if n.op < 0 ∨ 9 < n.op then 11 else if (n.kids.length : Int) ≠ kidsTab.getD n.op.toNat 0 then 3 else 0
def restE (n : Nd) : Int :=
  if n.op < 0 ∨ 9 < n.op then 0
  else if (n.op = 0 ∧ (n.num < 0 ∨ 1000000000000000000 < n.num ∨ n.num.tmod 100 ≠ 0)) ∨ (n.op ≠ 0 ∧ n.num ≠ 0) then 2
  else if (n.op = 1 ∧ isName n.name = false) ∨ (n.op ≠ 1 ∧ n.name ≠ []) then 12 else 0
variable {G : Globs}
theorem kidsTab_get {op : Int} (h0 : 0 ≤ op) (h9 : op ≤ 9) : (List.map (PV.int IntKind.i64) kidsTab).getD (0 + op.toNat * 1) PV.junk = .int .i64 (kidsTab.getD op.toNat 0) ∧ op.toNat < 10 := by
  obtain ⟨k, rfl⟩ : ∃ k : Nat, op = k := ⟨op.toNat, by omega⟩
  have hk : k < 10 := by omega
  have e : ((k : Int)).toNat = k := by omega
  rw [e]
  refine ⟨?_, hk⟩
  have : 0 + k * 1 = k := by omega
  rw [this]
  have hl : kidsTab.length = 10 := rfl
  simp [List.getD, hl, hk]
theorem v60 (hG : HasKids G) (n : Nd) (hs : n.name.length ≤ 9223372036854775807) : VCalls Tryd.prog G 60 [ndP n] (.tup [.int .i64 (formE n), .int .i64 (restE n)]) := by
  refine VCalls.of_PW Tryd.func60 k60 mix (by simp [c60]) ?_
  unfold HasKids at hG
  simp only [c60, L60, argE, ndP, ndC, kidsP]
  by_cases ho : n.op < 0 ∨ 9 < n.op
  · have h1 : (decide (n.op < 0) || decide (9 < n.op)) = true := by simpa using ho
    have h2 : formE n = 11 := by rw [formE, if_pos ho]
    have h3 : restE n = 0 := by rw [restE, if_pos ho]
    rw [h2, h3]
    repeat' (first | refine PW.seq ?_ | refine PW.block ?_ | ((first | refine PW.region ?_ | refine PW.regionQ ?_ | refine PW.exit ?_ | refine PW.ret ?_ | refine PW.skip ?_); simp only [h1, SS, SS2, SS3, Option.map_some, gArgs, gOk, Nat.reduceAdd, PV.shift, MObj.shift, rdV, rdD, reduceIte, Nat.reduceEqDiff, Nat.reduceBEq, PV.bin, PV.binOk, binI, binS, PV.withInt, PV.withIntP, okAll, PV.under, PV.okUnder, eq_self, implies_true, deadOk, ne_eq, allOk, RVar.val, RVar.ok, retV, PV.seen, PV.view, beq_self_eq_true, PV.flat, PV.noOwn, id_eq, behind, PV.kill, MObj.kill, killTag, reduceCtorEq, nilB]; (try go_unwrap; try simp only [h1, toNat_add2, toNat_add1, Int.toNat_natCast, Bool.false_and, Bool.true_and, true_implies, true_and, Bool.false_eq_true, reduceCtorEq, false_implies, Bool.not_false, Bool.not_true, Bool.true_or, Bool.false_or])) | refine PW.regionA ?_ | exact schedW_stop_i | ((first | refine schedW_alt_i ?_ ?_ | refine schedW_done_i ?_); focus (simp only [h1, SS, SS2, SS3, Option.map_some, gArgs, gOk, Nat.reduceAdd, PV.shift, MObj.shift, rdV, rdD, reduceIte, Nat.reduceEqDiff, Nat.reduceBEq, PV.bin, PV.binOk, binI, binS, PV.withInt, PV.withIntP, okAll, PV.under, PV.okUnder, eq_self, implies_true, deadOk, ne_eq, allOk, RVar.val, RVar.ok, retV, PV.seen, PV.view, beq_self_eq_true, PV.flat, PV.noOwn, id_eq, behind, PV.kill, MObj.kill, killTag, reduceCtorEq, nilB]; (try go_unwrap; try simp only [h1, toNat_add2, toNat_add1, Int.toNat_natCast, Bool.false_and, Bool.true_and, true_implies, true_and, Bool.false_eq_true, reduceCtorEq, false_implies, Bool.not_false, Bool.not_true, Bool.true_or, Bool.false_or]))) | (refine PW.cond rfl ?_ ?_ <;> intro hcond <;> (try contradiction) <;> try simp only [decide_eq_true_eq, decide_eq_false_iff_not] at hcond) | refine And.intro ?_ ?_ | exact Or.inr ⟨rfl, Nat.le_refl _⟩ | exact (fun h => Bool.noConfusion h) | omega | (simp only [decide_eq_true_eq, decide_eq_false_iff_not, List.length_cons, List.length_nil, List.length_append, List.length_map, Sh.size] <;> omega) | (go_unwrap; omega))
    all_goals (first | rfl | simp)
  · have h1 : (decide (n.op < 0) || decide (9 < n.op)) = false := by
      simp only [not_or] at ho
      simp only [Bool.or_eq_false_iff, decide_eq_false_iff_not]; exact ho
    obtain ⟨hget, hlt⟩ := kidsTab_get (op := n.op) (by omega) (by omega)
    have hi1 : (0 ≤ n.op ∧ n.op < ((10 : Nat) : Int)) := by omega
    have hi2 : (0 + n.op.toNat * 1 ≤ 10) := by omega
    have hi3 : (0 + n.op.toNat * 1 + 1 ≤ (List.map (PV.int IntKind.i64) kidsTab).length) := by
      have : (List.map (PV.int IntKind.i64) kidsTab).length = 10 := rfl
      omega
    have h2 : formE n = if (n.kids.length : Int) ≠ kidsTab.getD n.op.toNat 0 then 3 else 0 := by rw [formE, if_neg ho]
    have h3 : restE n = if (n.op = 0 ∧ (n.num < 0 ∨ 1000000000000000000 < n.num ∨ n.num.tmod 100 ≠ 0)) ∨ (n.op ≠ 0 ∧ n.num ≠ 0) then 2
      else if (n.op = 1 ∧ isName n.name = false) ∨ (n.op ≠ 1 ∧ n.name ≠ []) then 12 else 0 := by rw [restE, if_neg ho]
    repeat' (first | refine PW.seq ?_ | refine PW.block ?_ | ((first | refine PW.region ?_ | refine PW.regionQ ?_ | refine PW.exit ?_ | refine PW.ret ?_ | refine PW.skip ?_); simp only [h1, hG, evalO, kidsTabP, hget, hi2, hi3, hi1.1, hi1.2, SS, SS2, SS3, Option.map_some, gArgs, gOk, Nat.reduceAdd, PV.shift, MObj.shift, rdV, rdD, reduceIte, Nat.reduceEqDiff, Nat.reduceBEq, PV.bin, PV.binOk, binI, binS, PV.withInt, PV.withIntP, okAll, PV.under, PV.okUnder, eq_self, implies_true, deadOk, ne_eq, allOk, RVar.val, RVar.ok, retV, PV.seen, PV.view, beq_self_eq_true, PV.flat, PV.noOwn, id_eq, behind, PV.kill, MObj.kill, killTag, reduceCtorEq, nilB]; (try go_unwrap; try simp only [h1, hG, evalO, kidsTabP, hget, hi2, hi3, hi1.1, hi1.2, toNat_add2, toNat_add1, Int.toNat_natCast, Bool.false_and, Bool.true_and, true_implies, true_and, Bool.false_eq_true, reduceCtorEq, false_implies, Bool.not_false, Bool.not_true, Bool.true_or, Bool.false_or])) | refine PW.regionA ?_ | exact schedW_stop_i | ((first | refine schedW_alt_i ?_ ?_ | refine schedW_done_i ?_); focus (simp only [h1, hG, evalO, kidsTabP, hget, hi2, hi3, hi1.1, hi1.2, SS, SS2, SS3, Option.map_some, gArgs, gOk, Nat.reduceAdd, PV.shift, MObj.shift, rdV, rdD, reduceIte, Nat.reduceEqDiff, Nat.reduceBEq, PV.bin, PV.binOk, binI, binS, PV.withInt, PV.withIntP, okAll, PV.under, PV.okUnder, eq_self, implies_true, deadOk, ne_eq, allOk, RVar.val, RVar.ok, retV, PV.seen, PV.view, beq_self_eq_true, PV.flat, PV.noOwn, id_eq, behind, PV.kill, MObj.kill, killTag, reduceCtorEq, nilB]; (try go_unwrap; try simp only [h1, hG, evalO, kidsTabP, hget, hi2, hi3, hi1.1, hi1.2, toNat_add2, toNat_add1, Int.toNat_natCast, Bool.false_and, Bool.true_and, true_implies, true_and, Bool.false_eq_true, reduceCtorEq, false_implies, Bool.not_false, Bool.not_true, Bool.true_or, Bool.false_or]))) | (refine PW.cond rfl ?_ ?_ <;> intro hcond <;> (try contradiction) <;> try simp only [decide_eq_true_eq, decide_eq_false_iff_not] at hcond) | (apply goCallG_V e53; (case hV => (intro hg; simp only [hg, h1, hG, evalO, kidsTabP, hget, hi2, hi3, hi1.1, hi1.2, SS, SS2, SS3, Option.map_some, gArgs, gOk, Nat.reduceAdd, PV.shift, MObj.shift, rdV, rdD, reduceIte, Nat.reduceEqDiff, Nat.reduceBEq, PV.bin, PV.binOk, binI, binS, PV.withInt, PV.withIntP, okAll, PV.under, PV.okUnder, eq_self, implies_true, deadOk, ne_eq, allOk, RVar.val, RVar.ok, retV, PV.seen, PV.view, beq_self_eq_true, PV.flat, PV.noOwn, id_eq, behind, PV.kill, MObj.kill, killTag, reduceCtorEq, nilB]; (try go_unwrap; try simp only [h1, hG, evalO, kidsTabP, hget, hi2, hi3, hi1.1, hi1.2, toNat_add2, toNat_add1, Int.toNat_natCast, Bool.false_and, Bool.true_and, true_implies, true_and, Bool.false_eq_true, reduceCtorEq, false_implies, Bool.not_false, Bool.not_true, Bool.true_or, Bool.false_or]); exact v53 _ hs)); (case hok => (intro hg; first | (simp only [hg, h1, hG, evalO, kidsTabP, hget, hi2, hi3, hi1.1, hi1.2, SS, SS2, SS3, Option.map_some, gArgs, gOk, Nat.reduceAdd, PV.shift, MObj.shift, rdV, rdD, reduceIte, Nat.reduceEqDiff, Nat.reduceBEq, PV.bin, PV.binOk, binI, binS, PV.withInt, PV.withIntP, okAll, PV.under, PV.okUnder, eq_self, implies_true, deadOk, ne_eq, allOk, RVar.val, RVar.ok, retV, PV.seen, PV.view, beq_self_eq_true, PV.flat, PV.noOwn, id_eq, behind, PV.kill, MObj.kill, killTag, reduceCtorEq, nilB]; done) | (simp_all [okAll, PV.okUnder]; done))); (case hs => (intro hg; simp only [hg, h1, hG, evalO, kidsTabP, hget, hi2, hi3, hi1.1, hi1.2, SS, SS2, SS3, Option.map_some, gArgs, gOk, Nat.reduceAdd, PV.shift, MObj.shift, rdV, rdD, reduceIte, Nat.reduceEqDiff, Nat.reduceBEq, PV.bin, PV.binOk, binI, binS, PV.withInt, PV.withIntP, okAll, PV.under, PV.okUnder, eq_self, implies_true, deadOk, ne_eq, allOk, RVar.val, RVar.ok, retV, PV.seen, PV.view, beq_self_eq_true, PV.flat, PV.noOwn, id_eq, behind, PV.kill, MObj.kill, killTag, reduceCtorEq, nilB])); (case hf => first | rfl | simp only [h1, hG, evalO, kidsTabP, hget, hi2, hi3, hi1.1, hi1.2, SS, SS2, SS3, Option.map_some, gArgs, gOk, Nat.reduceAdd, PV.shift, MObj.shift, rdV, rdD, reduceIte, Nat.reduceEqDiff, Nat.reduceBEq, PV.bin, PV.binOk, binI, binS, PV.withInt, PV.withIntP, okAll, PV.under, PV.okUnder, eq_self, implies_true, deadOk, ne_eq, allOk, RVar.val, RVar.ok, retV, PV.seen, PV.view, beq_self_eq_true, PV.flat, PV.noOwn, id_eq, behind, PV.kill, MObj.kill, killTag, reduceCtorEq, nilB]); (simp only [h1, hG, evalO, kidsTabP, hget, hi2, hi3, hi1.1, hi1.2, SS, SS2, SS3, Option.map_some, gArgs, gOk, Nat.reduceAdd, PV.shift, MObj.shift, rdV, rdD, reduceIte, Nat.reduceEqDiff, Nat.reduceBEq, PV.bin, PV.binOk, binI, binS, PV.withInt, PV.withIntP, okAll, PV.under, PV.okUnder, eq_self, implies_true, deadOk, ne_eq, allOk, RVar.val, RVar.ok, retV, PV.seen, PV.view, beq_self_eq_true, PV.flat, PV.noOwn, id_eq, behind, PV.kill, MObj.kill, killTag, reduceCtorEq, nilB]; (try go_unwrap; try simp only [h1, hG, evalO, kidsTabP, hget, hi2, hi3, hi1.1, hi1.2, toNat_add2, toNat_add1, Int.toNat_natCast, Bool.false_and, Bool.true_and, true_implies, true_and, Bool.false_eq_true, reduceCtorEq, false_implies, Bool.not_false, Bool.not_true, Bool.true_or, Bool.false_or]))) | refine And.intro ?_ ?_ | exact Or.inr ⟨rfl, Nat.le_refl _⟩ | exact (fun h => Bool.noConfusion h) | omega | (simp only [decide_eq_true_eq, decide_eq_false_iff_not, List.length_cons, List.length_nil, List.length_append, List.length_map, Sh.size] <;> omega) | (go_unwrap; omega))
    all_goals (clear hG hget)
    all_goals (first | (simp_all; done) | grind)
end Go.Proofs.YthekpjhffciakaaDoor
