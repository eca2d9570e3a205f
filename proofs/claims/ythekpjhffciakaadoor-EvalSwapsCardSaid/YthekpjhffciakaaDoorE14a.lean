import Derived.Test.YthekpjhffciakaaDoorE13
namespace Go.Proofs.YthekpjhffciakaaDoor
open Go PG Go.Proofs
set_option linter.unusedSimpArgs false
set_option linter.unusedVariables false
set_option maxHeartbeats 4000000
set_option maxRecDepth 100000
variable {G : Globs}
def swQ (es : List (PV × PV)) (v : Int) (N : Nat) (rows : List PV) : Post := fun e env μ => e = .normal ∧ env.get 5 = .mref 1 ∧ env.get 7 = .int .i64 v ∧ μ.get 1 = some (.mp .str es) ∧
  ∃ i j, env.get 11 = .ref i 0 ∧ μ.get i = some (.var (some 1) (.agg [.sl (some 4) j N])) ∧ μ.get j = some (.row (some 4) rows)
def swQ1 (v n : Int) (μ0 : Mem) : Post := fun e env μ => e = .normal ∧ env.get 2 = .ref 0 0 ∧ env.get 5 = .mref 1 ∧ env.get 7 = .int .i64 v ∧ env.get 9 = .int .i64 n ∧ env.get 10 = .ref 2 0 ∧ μ = μ0
abbrev mem2 (t : List Nd) (es : List (PV × PV)) (r : Nd) (x y : Int) : Mem := [some (.var (some 1) (.agg [.list (some 4) (t.map ndP)])), some (.mp .str es), some (.var (some 4) (.agg [.int .i64 r.op, .int .i64 r.num, .str r.name, .list none [.int .i64 x, .int .i64 y]]))]
theorem A2_ok {env : Env} {t : List Nd} {es : List (PV × PV)} {r : Nd} {x y v n : Int} (g2 : env.get 2 = .ref 0 0) (g5 : env.get 5 = .mref 1) (g7 : env.get 7 = .int .i64 v) (g9 : env.get 9 = .int .i64 n) (g10 : env.get 10 = .ref 2 0) :
    PW Tryd.prog G 124 (fun _ => true) rA2 env (mem2 t es r x y) (swQ1 v n (mem2 t es r y x)) := by
  have z0 : (0 : Int).toNat = 0 := rfl
  have z1 : (1 : Int).toNat = 1 := rfl
  have j0 : (0 : Int) < ((0 + 1 + 1 : Nat) : Int) := by decide
  have j1 : (1 : Int) < ((0 + 1 + 1 : Nat) : Int) := by decide
  have j2 : (0 + 1 + 1) * 1 ≤ 16777216 := by decide
  unfold rA2 mem2
  repeat' (first | refine PW.seq ?_ | refine PW.block ?_ | ((first | refine PW.region ?_ | refine PW.regionQ ?_ | refine PW.exit ?_ | refine PW.ret ?_ | refine PW.skip ?_); simp only [L3, g2, g5, g7, g9, g10, z0, z1, j0, j1, j2, List.length_cons, List.length_nil, SS, SS2, SS3, SS4, Option.map_some, Bool.not_false, Bool.not_true, gArgs, gOk, Nat.reduceAdd, PV.shift, MObj.shift, rdV, rdD, reduceIte, Nat.reduceEqDiff, Nat.reduceBEq, PV.bin, PV.binOk, binI, binS, PV.withInt, PV.withIntP, okAll, PV.under, PV.okUnder, eq_self, implies_true, deadOk, ne_eq, allOk, RVar.val, RVar.ok, retV, PV.seen, PV.view, beq_self_eq_true, PV.flat, PV.noOwn, id_eq, behind, PV.kill, MObj.kill, killTag, reduceCtorEq, nilB]; (try go_unwrap; try simp only [L3, g2, g5, g7, g9, g10, z0, z1, j0, j1, j2, List.length_cons, List.length_nil, toNat_add2, toNat_add1, Int.toNat_natCast, Bool.false_and, Bool.true_and, true_implies, true_and, Bool.false_eq_true, reduceCtorEq, false_implies, Bool.not_false, Bool.not_true, Bool.true_or, Bool.false_or])) | refine PW.regionA ?_ | exact schedW_stop_i | ((first | refine schedW_alt_i ?_ ?_ | refine schedW_done_i ?_); focus (simp only [L3, g2, g5, g7, g9, g10, z0, z1, j0, j1, j2, List.length_cons, List.length_nil, SS, SS2, SS3, SS4, Option.map_some, Bool.not_false, Bool.not_true, gArgs, gOk, Nat.reduceAdd, PV.shift, MObj.shift, rdV, rdD, reduceIte, Nat.reduceEqDiff, Nat.reduceBEq, PV.bin, PV.binOk, binI, binS, PV.withInt, PV.withIntP, okAll, PV.under, PV.okUnder, eq_self, implies_true, deadOk, ne_eq, allOk, RVar.val, RVar.ok, retV, PV.seen, PV.view, beq_self_eq_true, PV.flat, PV.noOwn, id_eq, behind, PV.kill, MObj.kill, killTag, reduceCtorEq, nilB]; (try go_unwrap; try simp only [L3, g2, g5, g7, g9, g10, z0, z1, j0, j1, j2, List.length_cons, List.length_nil, toNat_add2, toNat_add1, Int.toNat_natCast, Bool.false_and, Bool.true_and, true_implies, true_and, Bool.false_eq_true, reduceCtorEq, false_implies, Bool.not_false, Bool.not_true, Bool.true_or, Bool.false_or]))) | (refine PW.cond rfl ?_ ?_ <;> intro hcond <;> (try contradiction) <;> try simp only [decide_eq_true_eq, decide_eq_false_iff_not] at hcond) | refine And.intro ?_ ?_ | exact Or.inr ⟨rfl, Nat.le_refl _⟩ | exact (fun h => Bool.noConfusion h) | omega | (simp only [decide_eq_true_eq, decide_eq_false_iff_not, List.length_cons, List.length_nil, List.length_append, List.length_map, Sh.size] <;> omega) | (go_unwrap; omega))
  all_goals rfl
theorem A3_ok {env : Env} {t a : List Nd} {es : List (PV × PV)} {r : Nd} {x y v : Int} (htk : (t.map ndP).take a.length = a.map ndP) (hlt : (a.length : Int) ≤ (t.length : Int)) (ha : a.length ≤ 256) (g2 : env.get 2 = .ref 0 0) (g5 : env.get 5 = .mref 1) (g7 : env.get 7 = .int .i64 v) (g9 : env.get 9 = .int .i64 a.length) (g10 : env.get 10 = .ref 2 0) :
    PW Tryd.prog G 124 (fun _ => true) rA3 env (mem2 t es r y x) (swQ es v (a.length + 1) ((a ++ [swapN r x y]).map ndP)) := by
  have z0 : (0 : Int).toNat = 0 := rfl
  have n0 : (0 : Int) ≤ (a.length : Int) := by omega
  have n1 : a.length ≤ 9223372036854775807 := by omega
  have n2 : a.length * 56 ≤ 140737488355328 := by omega
  have n3 : a.length + 1 ≤ 9223372036854775807 := by omega
  have n4 : (a.length + 1) * 56 ≤ 140737488355328 := by omega
  have n5 : (0 + 1) * 4 ≤ 16777216 := by decide
  have n6 : 0 * 4 ≤ 16777216 := by decide
  have htka : (a.map ndP).take a.length = a.map ndP := List.take_of_length_le (by simp)
  have hrow : a.map ndP ++ [PV.agg [.int .i64 r.op, .int .i64 r.num, .str r.name, .list none [.int .i64 y, .int .i64 x]]] = (a ++ [swapN r x y]).map ndP := by
    rw [List.map_append]; rfl
  refine PW.weak (env' := [(2, .ref 0 0), (5, .mref 1), (7, .int .i64 v), (9, .int .i64 a.length), (10, .ref 2 0)]) ?_ (fun i => ?_)
  rotate_left
  · simp only [get_cons, get_nil]
    split
    · rename_i h; subst h; exact .inl g2.symm
    split
    · rename_i h; subst h; exact .inl g5.symm
    split
    · rename_i h; subst h; exact .inl g7.symm
    split
    · rename_i h; subst h; exact .inl g9.symm
    split
    · rename_i h; subst h; exact .inl g10.symm
    · exact .inr rfl
  clear g2 g5 g7 g9 g10
  unfold rA3 mem2
  repeat' (first | refine PW.seq ?_ | refine PW.block ?_ | ((first | refine PW.region ?_ | refine PW.regionQ ?_ | refine PW.exit ?_ | refine PW.ret ?_ | refine PW.skip ?_); simp only [L3, htk, z0, n0, n1, n2, n3, n4, n5, n6, hlt, htka, hrow, List.take_nil, List.drop_zero, Nat.zero_add, List.length_map, List.length_cons, List.length_nil, List.length_append, SS, SS2, SS3, SS4, Option.map_some, Bool.not_false, Bool.not_true, gArgs, gOk, Nat.reduceAdd, PV.shift, MObj.shift, rdV, rdD, reduceIte, Nat.reduceEqDiff, Nat.reduceBEq, PV.bin, PV.binOk, binI, binS, PV.withInt, PV.withIntP, okAll, PV.under, PV.okUnder, eq_self, implies_true, deadOk, ne_eq, allOk, RVar.val, RVar.ok, retV, PV.seen, PV.view, beq_self_eq_true, PV.flat, PV.noOwn, id_eq, behind, PV.kill, MObj.kill, killTag, reduceCtorEq, nilB]; (try go_unwrap; try simp only [L3, htk, z0, n0, n1, n2, n3, n4, n5, n6, hlt, htka, hrow, List.take_nil, List.drop_zero, Nat.zero_add, List.length_map, List.length_cons, List.length_nil, List.length_append, toNat_add2, toNat_add1, Int.toNat_natCast, Bool.false_and, Bool.true_and, true_implies, true_and, Bool.false_eq_true, reduceCtorEq, false_implies, Bool.not_false, Bool.not_true, Bool.true_or, Bool.false_or])) | refine PW.regionA ?_ | exact schedW_stop_i | ((first | refine schedW_alt_i ?_ ?_ | refine schedW_done_i ?_); focus (simp only [L3, htk, z0, n0, n1, n2, n3, n4, n5, n6, hlt, htka, hrow, List.take_nil, List.drop_zero, Nat.zero_add, List.length_map, List.length_cons, List.length_nil, List.length_append, SS, SS2, SS3, SS4, Option.map_some, Bool.not_false, Bool.not_true, gArgs, gOk, Nat.reduceAdd, PV.shift, MObj.shift, rdV, rdD, reduceIte, Nat.reduceEqDiff, Nat.reduceBEq, PV.bin, PV.binOk, binI, binS, PV.withInt, PV.withIntP, okAll, PV.under, PV.okUnder, eq_self, implies_true, deadOk, ne_eq, allOk, RVar.val, RVar.ok, retV, PV.seen, PV.view, beq_self_eq_true, PV.flat, PV.noOwn, id_eq, behind, PV.kill, MObj.kill, killTag, reduceCtorEq, nilB]; (try go_unwrap; try simp only [L3, htk, z0, n0, n1, n2, n3, n4, n5, n6, hlt, htka, hrow, List.take_nil, List.drop_zero, Nat.zero_add, List.length_map, List.length_cons, List.length_nil, List.length_append, toNat_add2, toNat_add1, Int.toNat_natCast, Bool.false_and, Bool.true_and, true_implies, true_and, Bool.false_eq_true, reduceCtorEq, false_implies, Bool.not_false, Bool.not_true, Bool.true_or, Bool.false_or]))) | (refine PW.cond rfl ?_ ?_ <;> intro hcond <;> (try contradiction) <;> try simp only [decide_eq_true_eq, decide_eq_false_iff_not] at hcond) | refine And.intro ?_ ?_ | exact Or.inr ⟨rfl, Nat.le_refl _⟩ | exact (fun h => Bool.noConfusion h) | omega | (simp only [decide_eq_true_eq, decide_eq_false_iff_not, List.length_cons, List.length_nil, List.length_append, List.length_map, Sh.size] <;> omega) | (go_unwrap; omega))
  all_goals (first | rfl | exact ⟨_, _, rfl, rfl, rfl⟩ | skip)
end Go.Proofs.YthekpjhffciakaaDoor
