import Derived.Test.YthekpjhffciakaaDoorQ9
namespace Go.Proofs.YthekpjhffciakaaDoor
open Go PG Go.Proofs
set_option linter.unusedSimpArgs false
set_option linter.unusedVariables false
set_option maxHeartbeats 4000000
set_option maxRecDepth 100000
variable {G : Globs}
/-- A node's value, by its kids' values. -/
def nodeM (n : Nd) (vs : List Int) : Int × Bool :=
  if n.op = 0 then (n.num, true)
  else if n.op = 2 then (vs.getD 0 0 + vs.getD 1 0, true)
  else if n.op = 3 then (vs.getD 0 0 - vs.getD 1 0, true)
  else if n.op = 4 then timesM (vs.getD 0 0) (vs.getD 1 0)
  else if n.op = 5 then (min (vs.getD 0 0) (vs.getD 1 0), true)
  else if n.op = 6 then (max (vs.getD 0 0) (vs.getD 1 0), true)
  else if n.op = 8 then (if vs.getD 0 0 < vs.getD 1 0 then 1000000 else 0, true)
  else if n.op = 9 then (if vs.getD 0 0 = vs.getD 1 0 then 1000000 else 0, true)
  else if vs.getD 0 0 ≠ 0 then (vs.getD 1 0, true) else (vs.getD 2 0, true)
theorem v38 (n : Nd) (vs : List Int) (ho : 0 ≤ n.op ∧ n.op ≤ 9 ∧ n.op ≠ 1) (hl : (vs.length : Int) = kidsTab.getD n.op.toNat 0) (hv : ∀ v ∈ vs, -1000000000000000000 ≤ v ∧ v ≤ 1000000000000000000) :
    VCalls Tryd.prog G 38 [ndP n, .list none (vs.map (PV.int .i64))] (.tup [.int .i64 (nodeM n vs).1, .bool (nodeM n vs).2]) := by
  refine VCalls.of_PW Tryd.func38 k38 mix (by simp [c38]) ?_
  obtain ⟨op, num, name, kids⟩ := n
  simp only at ho hl
  have h10 : op = 0 ∨ op = 2 ∨ op = 3 ∨ op = 4 ∨ op = 5 ∨ op = 6 ∨ op = 7 ∨ op = 8 ∨ op = 9 := by omega
  have two : vs.length = 2 → ∃ a b, vs = [a, b] := fun h => by
    match vs, h with
    | [a, b], _ => exact ⟨a, b, rfl⟩
  have three : vs.length = 3 → ∃ a b c, vs = [a, b, c] := fun h => by
    match vs, h with
    | [a, b, c], _ => exact ⟨a, b, c, rfl⟩
  have z0 : (0 : Int).toNat = 0 := rfl
  have z1 : (1 : Int).toNat = 1 := rfl
  have z2 : (2 : Int).toNat = 2 := rfl
  have l2 : (((0 + 1 + 1 : Nat)) : Int) = 2 := rfl
  have l3 : (((0 + 1 + 1 + 1 : Nat)) : Int) = 3 := rfl
  have j0 : (0 : Int) < 2 := by decide
  have j1 : (1 : Int) < 2 := by decide
  have j2 : (0 : Int) < 3 := by decide
  have j3 : (1 : Int) < 3 := by decide
  have j4 : (2 : Int) < 3 := by decide
  have j5 : ∀ p : PV, partOf p 1 = partOf p 1 := fun _ => rfl
  simp only [c38, L38, CC, argE, ndP1]
  rcases h10 with h | h | h | h | h | h | h | h | h <;> subst h
  · repeat' (first | exact True.intro | (refine PW.seqK ?_; intro K hK) | refine stp ?_ | refine seqK_n ‹_› ?_ | refine seqK_r ‹_› ?_ | refine seqK_e ‹_› ?_ | exact schedW_stop_i | refine schK_n ‹_› ?_ | (refine PW.cond rfl ?_ ?_ <;> intro hcond <;> (try contradiction) <;> try simp only [DD] at hcond) | (refine gd_i ?_; intro hg; try simp only [hg]) | (refine ari ?_; first | omega | (simp only [DD, LL] <;> omega) | (go_unwrap; omega)) | ((first | refine stq ?_ | show (_ : Post) _ _ _ | (refine schedW_alt_k ?_ ?_; intro K hK)); focus (simp only [decide_true, decide_false, Int.reduceEq, SA, Nat.reduceAdd, reduceIte, Nat.reduceEqDiff, Nat.reduceBEq, reduceCtorEq]; (try go_unwrap; try simp only [decide_true, decide_false, Int.reduceEq, RR, reduceCtorEq]))) | refine And.intro ?_ ?_ | exact Or.inr ⟨rfl, Nat.le_refl _⟩ | exact (fun h => Bool.noConfusion h))
    all_goals rfl
  · obtain ⟨a, b, rfl⟩ := two (by have : kidsTab.getD (2 : Int).toNat 0 = 2 := rfl
                                  rw [this] at hl; omega)
    have ha := hv a (by simp)
    have hb := hv b (by simp)
    have hm : nodeM ⟨2, num, name, kids⟩ [a, b] = (a + b, true) := rfl
    rw [hm]
    clear hm two three hv
    repeat' (first | exact True.intro | (refine PW.seqK ?_; intro K hK) | refine stp ?_ | refine seqK_n ‹_› ?_ | refine seqK_r ‹_› ?_ | refine seqK_e ‹_› ?_ | exact schedW_stop_i | refine schK_n ‹_› ?_ | (refine PW.cond rfl ?_ ?_ <;> intro hcond <;> (try contradiction) <;> try simp only [DD] at hcond) | (refine gd_i ?_; intro hg; try simp only [hg]) | (refine ari ?_; first | omega | (simp only [DD, LL] <;> omega) | (go_unwrap; omega)) | ((first | refine stq ?_ | show (_ : Post) _ _ _ | (refine schedW_alt_k ?_ ?_; intro K hK)); focus (simp only [decide_true, decide_false, Int.reduceEq, List.map_cons, List.map_nil, List.length_cons, List.length_nil, z0, z1, z2, l2, l3, j0, j1, j2, j3, j4, SA, Nat.reduceAdd, reduceIte, Nat.reduceEqDiff, Nat.reduceBEq, reduceCtorEq]; (try go_unwrap; try simp only [decide_true, decide_false, Int.reduceEq, List.map_cons, List.map_nil, List.length_cons, List.length_nil, z0, z1, z2, l2, l3, j0, j1, j2, j3, j4, RR, reduceCtorEq]))) | refine And.intro ?_ ?_ | exact Or.inr ⟨rfl, Nat.le_refl _⟩ | exact (fun h => Bool.noConfusion h))
  · obtain ⟨a, b, rfl⟩ := two (by have : kidsTab.getD (3 : Int).toNat 0 = 2 := rfl
                                  rw [this] at hl; omega)
    have ha := hv a (by simp)
    have hb := hv b (by simp)
    have hm : nodeM ⟨3, num, name, kids⟩ [a, b] = (a - b, true) := rfl
    rw [hm]
    clear hm two three hv
    repeat' (first | exact True.intro | (refine PW.seqK ?_; intro K hK) | refine stp ?_ | refine seqK_n ‹_› ?_ | refine seqK_r ‹_› ?_ | refine seqK_e ‹_› ?_ | exact schedW_stop_i | refine schK_n ‹_› ?_ | (refine PW.cond rfl ?_ ?_ <;> intro hcond <;> (try contradiction) <;> try simp only [DD] at hcond) | (refine gd_i ?_; intro hg; try simp only [hg]) | (refine ari ?_; first | omega | (simp only [DD, LL] <;> omega) | (go_unwrap; omega)) | ((first | refine stq ?_ | show (_ : Post) _ _ _ | (refine schedW_alt_k ?_ ?_; intro K hK)); focus (simp only [decide_true, decide_false, Int.reduceEq, List.map_cons, List.map_nil, List.length_cons, List.length_nil, z0, z1, z2, l2, l3, j0, j1, j2, j3, j4, SA, Nat.reduceAdd, reduceIte, Nat.reduceEqDiff, Nat.reduceBEq, reduceCtorEq]; (try go_unwrap; try simp only [decide_true, decide_false, Int.reduceEq, List.map_cons, List.map_nil, List.length_cons, List.length_nil, z0, z1, z2, l2, l3, j0, j1, j2, j3, j4, RR, reduceCtorEq]))) | refine And.intro ?_ ?_ | exact Or.inr ⟨rfl, Nat.le_refl _⟩ | exact (fun h => Bool.noConfusion h))
  · obtain ⟨a, b, rfl⟩ := two (by have : kidsTab.getD (4 : Int).toNat 0 = 2 := rfl
                                  rw [this] at hl; omega)
    have ha := hv a (by simp)
    have hb := hv b (by simp)
    have hm : nodeM ⟨4, num, name, kids⟩ [a, b] = timesM a b := rfl
    rw [hm]
    clear hm two three hv
    have h69 := v69 (G := G) a b (by omega) (by omega)
    repeat' (first | exact True.intro | (refine PW.seqK ?_; intro K hK) | refine stp ?_ | refine seqK_n ‹_› ?_ | refine seqK_r ‹_› ?_ | refine seqK_e ‹_› ?_ | exact schedW_stop_i | refine schK_n ‹_› ?_ | (refine PW.cond rfl ?_ ?_ <;> intro hcond <;> (try contradiction) <;> try simp only [DD] at hcond) | (refine gd_i ?_; intro hg; try simp only [hg]) | refine goCall_W e69 (h69) ?_ ?_ ?_ ?_ | (refine ari ?_; first | omega | (simp only [DD, LL] <;> omega) | (go_unwrap; omega)) | ((first | refine stq ?_ | show (_ : Post) _ _ _ | (refine schedW_alt_k ?_ ?_; intro K hK)); focus (simp only [decide_true, decide_false, Int.reduceEq, List.map_cons, List.map_nil, List.length_cons, List.length_nil, z0, z1, z2, l2, l3, j0, j1, j2, j3, j4, SA, Nat.reduceAdd, reduceIte, Nat.reduceEqDiff, Nat.reduceBEq, reduceCtorEq]; (try go_unwrap; try simp only [decide_true, decide_false, Int.reduceEq, List.map_cons, List.map_nil, List.length_cons, List.length_nil, z0, z1, z2, l2, l3, j0, j1, j2, j3, j4, RR, reduceCtorEq]))) | refine And.intro ?_ ?_ | exact Or.inr ⟨rfl, Nat.le_refl _⟩ | exact (fun h => Bool.noConfusion h))
  · obtain ⟨a, b, rfl⟩ := two (by have : kidsTab.getD (5 : Int).toNat 0 = 2 := rfl
                                  rw [this] at hl; omega)
    have ha := hv a (by simp)
    have hb := hv b (by simp)
    have hm : nodeM ⟨5, num, name, kids⟩ [a, b] = (min a b, true) := rfl
    rw [hm]
    clear hm two three hv
    repeat' (first | exact True.intro | (refine PW.seqK ?_; intro K hK) | refine stp ?_ | refine seqK_n ‹_› ?_ | refine seqK_r ‹_› ?_ | refine seqK_e ‹_› ?_ | exact schedW_stop_i | refine schK_n ‹_› ?_ | (refine PW.cond rfl ?_ ?_ <;> intro hcond <;> (try contradiction) <;> try simp only [DD] at hcond) | (refine gd_i ?_; intro hg; try simp only [hg]) | (refine ari ?_; first | omega | (simp only [DD, LL] <;> omega) | (go_unwrap; omega)) | ((first | refine stq ?_ | show (_ : Post) _ _ _ | (refine schedW_alt_k ?_ ?_; intro K hK)); focus (simp only [decide_true, decide_false, Int.reduceEq, List.map_cons, List.map_nil, List.length_cons, List.length_nil, z0, z1, z2, l2, l3, j0, j1, j2, j3, j4, SA, Nat.reduceAdd, reduceIte, Nat.reduceEqDiff, Nat.reduceBEq, reduceCtorEq]; (try go_unwrap; try simp only [decide_true, decide_false, Int.reduceEq, List.map_cons, List.map_nil, List.length_cons, List.length_nil, z0, z1, z2, l2, l3, j0, j1, j2, j3, j4, RR, reduceCtorEq]))) | refine And.intro ?_ ?_ | exact Or.inr ⟨rfl, Nat.le_refl _⟩ | exact (fun h => Bool.noConfusion h))
  · obtain ⟨a, b, rfl⟩ := two (by have : kidsTab.getD (6 : Int).toNat 0 = 2 := rfl
                                  rw [this] at hl; omega)
    have ha := hv a (by simp)
    have hb := hv b (by simp)
    have hm : nodeM ⟨6, num, name, kids⟩ [a, b] = (max a b, true) := rfl
    rw [hm]
    clear hm two three hv
    repeat' (first | exact True.intro | (refine PW.seqK ?_; intro K hK) | refine stp ?_ | refine seqK_n ‹_› ?_ | refine seqK_r ‹_› ?_ | refine seqK_e ‹_› ?_ | exact schedW_stop_i | refine schK_n ‹_› ?_ | (refine PW.cond rfl ?_ ?_ <;> intro hcond <;> (try contradiction) <;> try simp only [DD] at hcond) | (refine gd_i ?_; intro hg; try simp only [hg]) | (refine ari ?_; first | omega | (simp only [DD, LL] <;> omega) | (go_unwrap; omega)) | ((first | refine stq ?_ | show (_ : Post) _ _ _ | (refine schedW_alt_k ?_ ?_; intro K hK)); focus (simp only [decide_true, decide_false, Int.reduceEq, List.map_cons, List.map_nil, List.length_cons, List.length_nil, z0, z1, z2, l2, l3, j0, j1, j2, j3, j4, SA, Nat.reduceAdd, reduceIte, Nat.reduceEqDiff, Nat.reduceBEq, reduceCtorEq]; (try go_unwrap; try simp only [decide_true, decide_false, Int.reduceEq, List.map_cons, List.map_nil, List.length_cons, List.length_nil, z0, z1, z2, l2, l3, j0, j1, j2, j3, j4, RR, reduceCtorEq]))) | refine And.intro ?_ ?_ | exact Or.inr ⟨rfl, Nat.le_refl _⟩ | exact (fun h => Bool.noConfusion h))
  · obtain ⟨a, b, c, rfl⟩ := three (by have : kidsTab.getD (7 : Int).toNat 0 = 3 := rfl
                                       rw [this] at hl; omega)
    have hm : nodeM ⟨7, num, name, kids⟩ [a, b, c] = if a ≠ 0 then (b, true) else (c, true) := rfl
    rw [hm]
    clear hm two three hv
    repeat' (first | exact True.intro | (refine PW.seqK ?_; intro K hK) | refine stp ?_ | refine seqK_n ‹_› ?_ | refine seqK_r ‹_› ?_ | refine seqK_e ‹_› ?_ | exact schedW_stop_i | refine schK_n ‹_› ?_ | (refine PW.cond rfl ?_ ?_ <;> intro hcond <;> (try contradiction) <;> try simp only [DD] at hcond) | (refine gd_i ?_; intro hg; try simp only [hg]) | (refine ari ?_; first | omega | (simp only [DD, LL] <;> omega) | (go_unwrap; omega)) | ((first | refine stq ?_ | show (_ : Post) _ _ _ | (refine schedW_alt_k ?_ ?_; intro K hK)); focus (simp only [decide_true, decide_false, Int.reduceEq, List.map_cons, List.map_nil, List.length_cons, List.length_nil, z0, z1, z2, l2, l3, j0, j1, j2, j3, j4, SA, Nat.reduceAdd, reduceIte, Nat.reduceEqDiff, Nat.reduceBEq, reduceCtorEq]; (try go_unwrap; try simp only [decide_true, decide_false, Int.reduceEq, List.map_cons, List.map_nil, List.length_cons, List.length_nil, z0, z1, z2, l2, l3, j0, j1, j2, j3, j4, RR, reduceCtorEq]))) | refine And.intro ?_ ?_ | exact Or.inr ⟨rfl, Nat.le_refl _⟩ | exact (fun h => Bool.noConfusion h))
    all_goals (first | (rw [if_pos (by simpa using hcond)]; done) | (rw [if_neg (by simpa using hcond)]; done))
  · obtain ⟨a, b, rfl⟩ := two (by have : kidsTab.getD (8 : Int).toNat 0 = 2 := rfl
                                  rw [this] at hl; omega)
    have ha := hv a (by simp)
    have hb := hv b (by simp)
    have hm : nodeM ⟨8, num, name, kids⟩ [a, b] = (if a < b then 1000000 else 0, true) := rfl
    rw [hm]
    clear hm two three hv
    have h70 := v70 (G := G) (decide (a < b))
    repeat' (first | exact True.intro | (refine PW.seqK ?_; intro K hK) | refine stp ?_ | refine seqK_n ‹_› ?_ | refine seqK_r ‹_› ?_ | refine seqK_e ‹_› ?_ | exact schedW_stop_i | refine schK_n ‹_› ?_ | (refine PW.cond rfl ?_ ?_ <;> intro hcond <;> (try contradiction) <;> try simp only [DD] at hcond) | (refine gd_i ?_; intro hg; try simp only [hg]) | refine goCall_W e70 (h70) ?_ ?_ ?_ ?_ | (refine ari ?_; first | omega | (simp only [DD, LL] <;> omega) | (go_unwrap; omega)) | ((first | refine stq ?_ | show (_ : Post) _ _ _ | (refine schedW_alt_k ?_ ?_; intro K hK)); focus (simp only [decide_true, decide_false, Int.reduceEq, List.map_cons, List.map_nil, List.length_cons, List.length_nil, z0, z1, z2, l2, l3, j0, j1, j2, j3, j4, SA, Nat.reduceAdd, reduceIte, Nat.reduceEqDiff, Nat.reduceBEq, reduceCtorEq]; (try go_unwrap; try simp only [decide_true, decide_false, Int.reduceEq, List.map_cons, List.map_nil, List.length_cons, List.length_nil, z0, z1, z2, l2, l3, j0, j1, j2, j3, j4, RR, reduceCtorEq]))) | refine And.intro ?_ ?_ | exact Or.inr ⟨rfl, Nat.le_refl _⟩ | exact (fun h => Bool.noConfusion h))
    all_goals (simp only [decide_eq_true_eq]; done)
  · obtain ⟨a, b, rfl⟩ := two (by have : kidsTab.getD (9 : Int).toNat 0 = 2 := rfl
                                  rw [this] at hl; omega)
    have ha := hv a (by simp)
    have hb := hv b (by simp)
    have hm : nodeM ⟨9, num, name, kids⟩ [a, b] = (if a = b then 1000000 else 0, true) := rfl
    rw [hm]
    clear hm two three hv
    have h70 := v70 (G := G) (decide (a = b))
    repeat' (first | exact True.intro | (refine PW.seqK ?_; intro K hK) | refine stp ?_ | refine seqK_n ‹_› ?_ | refine seqK_r ‹_› ?_ | refine seqK_e ‹_› ?_ | exact schedW_stop_i | refine schK_n ‹_› ?_ | (refine PW.cond rfl ?_ ?_ <;> intro hcond <;> (try contradiction) <;> try simp only [DD] at hcond) | (refine gd_i ?_; intro hg; try simp only [hg]) | refine goCall_W e70 (h70) ?_ ?_ ?_ ?_ | (refine ari ?_; first | omega | (simp only [DD, LL] <;> omega) | (go_unwrap; omega)) | ((first | refine stq ?_ | show (_ : Post) _ _ _ | (refine schedW_alt_k ?_ ?_; intro K hK)); focus (simp only [decide_true, decide_false, Int.reduceEq, List.map_cons, List.map_nil, List.length_cons, List.length_nil, z0, z1, z2, l2, l3, j0, j1, j2, j3, j4, SA, Nat.reduceAdd, reduceIte, Nat.reduceEqDiff, Nat.reduceBEq, reduceCtorEq]; (try go_unwrap; try simp only [decide_true, decide_false, Int.reduceEq, List.map_cons, List.map_nil, List.length_cons, List.length_nil, z0, z1, z2, l2, l3, j0, j1, j2, j3, j4, RR, reduceCtorEq]))) | refine And.intro ?_ ?_ | exact Or.inr ⟨rfl, Nat.le_refl _⟩ | exact (fun h => Bool.noConfusion h))
    all_goals (simp only [decide_eq_true_eq]; done)
end Go.Proofs.YthekpjhffciakaaDoor

namespace Go.Proofs.YthekpjhffciakaaDoor
open Go PG Go.Proofs
set_option linter.unusedSimpArgs false
set_option linter.unusedVariables false
set_option maxHeartbeats 4000000
set_option maxRecDepth 100000
variable {G : Globs}
theorem e16 : Ent Tryd.prog 16 := ⟨Tryd.f16, Tryd.func16, by kernel_rfl, by kernel_rfl⟩
abbrev EnvM := List UInt8 → Option Int
def evalStep (env : EnvM) (n : Nd) (acc : List Int) : Except Int Int :=
  if n.op = 1 then
    match env n.name with
    | none => .error 21
    | some v => if fitsB v = true then .ok v else .error 9
  else if (nodeM n (n.kids.map fun k => acc.getD k.toNat 0)).2 = true ∧ fitsB (nodeM n (n.kids.map fun k => acc.getD k.toNat 0)).1 = true then .ok (nodeM n (n.kids.map fun k => acc.getD k.toNat 0)).1 else .error 9
def evalGo (env : EnvM) : List Nd → List Int → Except Int (List Int)
  | [], acc => .ok acc
  | n :: ns, acc =>
    match evalStep env n acc with
    | .error e => .error e
    | .ok v => evalGo env ns (acc ++ [v])
def evalM (env : EnvM) (l : List Nd) : Int × Int :=
  if checkM l ≠ 0 then (0, checkM l) else
  match evalGo env l [] with
  | .error e => (0, e)
  | .ok acc => (acc.getD (l.length - 1) 0, 0)
theorem evalStep_fits {env : EnvM} {n : Nd} {acc : List Int} {v : Int} (h : evalStep env n acc = .ok v) : -1000000000000000000 ≤ v ∧ v ≤ 1000000000000000000 := by
  have key : ∀ v, fitsB v = true → -1000000000000000000 ≤ v ∧ v ≤ 1000000000000000000 := fun v h => by
    simpa [fitsB] using h
  unfold evalStep at h
  split at h
  · split at h
    · cases h
    · split at h
      · cases h; exact key _ ‹_›
      · cases h
  · split at h
    · cases h; exact key _ (And.right ‹_›)
    · cases h
theorem v16 (hG : HasKids G) (env : EnvM) (es : List (PV × PV)) (hes : ∀ s, mget es (.str s) = (env s).map (PV.int .i64)) (l : List Nd) (hl : l.length ≤ 9223372036854775807) (hs : ∀ n ∈ l, n.name.length ≤ 9223372036854775807 ∧ n.kids.length ≤ 9223372036854775807) :
    VCalls Tryd.prog G 16 [treeP l, .cmap .str es] (.tup [.int .i64 (evalM env l).1, .int .i64 (evalM env l).2]) := by
  refine VCalls.of_PW Tryd.func16 k16 mix (by simp [c16]) ?_
  have h29 := v29 hG l hl hs
  simp only [treeP] at h29
  simp only [c16, L16, CC, argE, treeP]
  by_cases hc : checkM l = 0
  · obtain ⟨hl256, hne, hwf, hall, -⟩ := checkM_ok hc
    have hl0 : 0 < l.length := List.length_pos_iff.2 hne
    have hM : evalM env l = (match evalGo env l [] with
      | .error e => (0, e)
      | .ok acc => (acc.getD (l.length - 1) 0, 0)) := by rw [evalM, if_neg (by omega)]
    rw [hc] at h29
    have hd0 : decide ((0 : Int) = 0) = true := rfl
    have hm1 : ((8 : Nat) : Int) * (l.length : Int) ≤ 281474976710656 := by omega
    have hm2 : (l.length : Int) ≤ 9223372036854775807 := by omega
    have hm3 : 0 ≤ (l.length : Int) := by omega
    repeat' (first | exact True.intro | (refine PW.seqK ?_; intro K hK) | refine stp ?_ | refine seqK_n ‹_› ?_ | refine seqK_r ‹_› ?_ | refine seqK_e ‹_› ?_ | exact schedW_stop_i | refine schK_n ‹_› ?_ | (refine PW.cond rfl ?_ ?_ <;> intro hcond <;> (try contradiction) <;> try simp only [DD] at hcond) | (refine gd_i ?_; intro hg; try simp only [hg]) | refine goCall_W e29 (h29) ?_ ?_ ?_ ?_ | (refine ari ?_; first | omega | (simp only [DD, LL] <;> omega) | (go_unwrap; omega)) | ((first | refine stq ?_ | show (_ : Post) _ _ _ | (refine schedW_alt_k ?_ ?_; intro K hK)); focus (simp only [hd0, List.length_map, hm1, hm2, hm3, Int.le_refl, SA, Nat.reduceAdd, reduceIte, Nat.reduceEqDiff, Nat.reduceBEq, reduceCtorEq]; (try go_unwrap; try simp only [hd0, List.length_map, hm1, hm2, hm3, Int.le_refl, RR, reduceCtorEq]))) | refine And.intro ?_ ?_ | exact Or.inr ⟨rfl, Nat.le_refl _⟩ | exact (fun h => Bool.noConfusion h))
    refine PW.loopG (σ := Nat × List Int) 2 (fun _ _ => rfl) [1, 7, 25, 26, 27] (fun s => [.cmap .str es, .sl none 1 l.length, .list (some 4) (l.map ndP), .int .i64 l.length, .int .i64 s.1])
      (fun s => [some (.var (some 1) (.agg [.list (some 4) (l.map ndP)])), some (.row none (rowV s.2 l.length))])
      (fun s => s.1 ≤ l.length ∧ s.2.length = s.1 ∧ (∀ x ∈ s.2, -1000000000000000000 ≤ x ∧ x ≤ 1000000000000000000) ∧ wfK (l.drop s.1) s.1 ∧ evalGo env l [] = evalGo env (l.drop s.1) s.2) (fun s => l.length - s.1) (0, []) ?_ ?_ ⟨by simp, by simp, by simp, by simpa using hwf, by simp⟩ ?_
    · simp only [SA, Nat.reduceAdd, reduceIte, Nat.reduceEqDiff, Nat.reduceBEq, reduceCtorEq, List.length_map, Int.toNat_natCast]; rfl
    · simp [rowV]
    rintro ⟨i, acc⟩ ⟨hi, hal, hb, hwf, hr⟩
    simp only at hi hal hb hwf hr
    simp only [List.zip_cons_cons, List.zip_nil_left]
    rcases Nat.lt_or_ge i l.length with h | h
    · obtain ⟨n, hd, hn, hg⟩ := drop_at h
      rw [hd] at hr hwf
      rw [evalGo] at hr
      obtain ⟨hwk, hwf⟩ := hwf
      have hd' : decide ((i : Int) < l.length) = true := by simp only [decide_eq_true_eq]; omega
      have hgn := ((hg ndP).1).trans (ndP1 n)
      obtain ⟨hf, -⟩ := hall n (List.mem_of_getElem? hn)
      obtain ⟨hop1, hop2, hkl, hk3⟩ := formE_ok hf
      repeat' (first | exact True.intro | (refine PW.seqK ?_; intro K hK) | refine stp ?_ | refine seqK_n ‹_› ?_ | refine seqK_r ‹_› ?_ | refine seqK_e ‹_› ?_ | exact schedW_stop_i | refine schK_n ‹_› ?_ | (refine PW.cond rfl ?_ ?_ <;> intro hcond <;> (try contradiction) <;> try simp only [DD] at hcond) | (refine gd_i ?_; intro hg; try simp only [hg]) | (refine ari ?_; first | omega | (simp only [DD, LL] <;> omega) | (go_unwrap; omega)) | ((first | refine stq ?_ | show (_ : Post) _ _ _ | (refine schedW_alt_k ?_ ?_; intro K hK)); focus (simp only [hd', hgn, List.length_map, SA, Nat.reduceAdd, reduceIte, Nat.reduceEqDiff, Nat.reduceBEq, reduceCtorEq]; (try go_unwrap; try simp only [hd', hgn, List.length_map, RR, reduceCtorEq]))) | refine And.intro ?_ ?_ | exact Or.inr ⟨rfl, Nat.le_refl _⟩ | exact (fun h => Bool.noConfusion h))
      refine PW.own none 10 rfl ?_
      refine PW.loop (σ := Nat) [1, 7, 8, 9, 10, 25, 26, 27, 33, 34, 35] (fun j => [.cmap .str es, .sl none 1 l.length, .int .i64 i, .ref 2 0, .sl none 3 j, .list (some 4) (l.map ndP), .int .i64 l.length, .int .i64 i, .list none (n.kids.map (PV.int .i64)), .int .i64 n.kids.length, .int .i64 j])
        (fun j => [some (.var (some 1) (.agg [.list (some 4) (l.map ndP)])), some (.row none (rowV acc l.length)), some (.var (some 4) (.agg [.int .i64 n.op, .int .i64 n.num, .str n.name, .list none (n.kids.map (PV.int .i64))])), some (.row none (((n.kids.take j).map fun k => acc.getD k.toNat 0).map (PV.int .i64)))])
        (fun j => j ≤ n.kids.length) (fun j => n.kids.length - j) 0 ?_ ?_ (by simp) ?_
      · simp only [SA, Nat.reduceAdd, reduceIte, Nat.reduceEqDiff, Nat.reduceBEq, reduceCtorEq, List.length_map]; rfl
      · simp
      rintro j hj
      simp only [List.zip_cons_cons, List.zip_nil_left]
      have hll : ((List.take j n.kids).map (fun k => acc.getD k.toNat 0)).length = j := by simp; omega
      have htl : (((List.take j n.kids).map (fun k => acc.getD k.toNat 0)).map (PV.int .i64)).length = j := by simp; omega
      have htk : List.take j (((List.take j n.kids).map (fun k => acc.getD k.toNat 0)).map (PV.int .i64)) = ((List.take j n.kids).map (fun k => acc.getD k.toNat 0)).map (PV.int .i64) := List.take_of_length_le (by omega)
      rcases Nat.lt_or_ge j n.kids.length with h' | h'
      · obtain ⟨k, hkd, hkn', hkg⟩ := drop_at h'
        have hd2 : decide ((j : Int) < n.kids.length) = true := by simp only [decide_eq_true_eq]; omega
        obtain ⟨hk0, hki⟩ := hwk k (List.mem_of_getElem? hkn')
        have ha := rowV_lt (acc := acc) l.length (show k.toNat < acc.length by omega)
        have hlen := rowV_len (acc := acc) (N := l.length) (by omega)
        repeat' (first | exact True.intro | (refine PW.seqK ?_; intro K hK) | refine stp ?_ | refine seqK_n ‹_› ?_ | refine seqK_r ‹_› ?_ | refine seqK_e ‹_› ?_ | exact schedW_stop_i | refine schK_n ‹_› ?_ | (refine PW.cond rfl ?_ ?_ <;> intro hcond <;> (try contradiction) <;> try simp only [DD] at hcond) | (refine gd_i ?_; intro hg; try simp only [hg]) | (refine ari ?_; first | omega | (simp only [DD, LL] <;> omega) | (go_unwrap; omega)) | ((first | refine stq ?_ | show (_ : Post) _ _ _ | (refine schedW_alt_k ?_ ?_; intro K hK)); focus (simp only [hd2, (hkg (PV.int .i64)).1, ha, hlen, htl, htk, SA, Nat.reduceAdd, reduceIte, Nat.reduceEqDiff, Nat.reduceBEq, reduceCtorEq]; (try go_unwrap; try simp only [hd2, (hkg (PV.int .i64)).1, ha, hlen, htl, htk, RR, reduceCtorEq]))) | refine And.intro ?_ ?_ | exact Or.inr ⟨rfl, Nat.le_refl _⟩ | exact (fun h => Bool.noConfusion h))
        have hts : List.take (j + 1) n.kids = List.take j n.kids ++ [k] := by rw [List.take_add_one, hkn']; rfl
        exact ⟨j + 1, rfl, by rw [hts, List.map_append, List.map_append]; rfl, h', by omega⟩
      · have hjk : j = n.kids.length := by omega
        subst hjk
        have hd2 : decide (((n.kids.length : Nat) : Int) < n.kids.length) = false := by simp
        rw [List.take_length] at hll htl htk
        rw [List.take_length]
        have h38 := v38 (G := G) n (n.kids.map fun k => acc.getD k.toNat 0)
        have hfix : ∀ v ∈ n.kids.map (fun k => acc.getD k.toNat 0), -1000000000000000000 ≤ v ∧ v ≤ 1000000000000000000 := by
          intro v hv
          obtain ⟨k, hk, rfl⟩ := List.mem_map.1 hv
          rw [List.getD_eq_getElem?_getD]
          cases hx : acc[k.toNat]? with
          | none => simp
          | some x => simpa using hb x (List.mem_of_getElem? hx)
        rw [ndP1] at h38
        have hset : ∀ v : Int, (rowV acc l.length).set i (.int .i64 v) = rowV (acc ++ [v]) l.length := by
          intro v
          rw [rowV_M (by omega), ← hal, rowM_set, rowM_V]
        have hlen := rowV_len (acc := acc) (N := l.length) (by omega)
        have hgo : ∀ v : Int, evalGo env l [] = evalGo env (l.drop (i + 1)) (acc ++ [v]) → (∀ x ∈ acc ++ [v], -1000000000000000000 ≤ x ∧ x ≤ 1000000000000000000) → True := fun _ _ _ => trivial
        by_cases hop : n.op = 1
        · have d1 : decide (n.op = 1) = true := by simpa using hop
          cases henv : env n.name with
          | none =>
            have hm := hes n.name
            rw [henv, Option.map_none] at hm
            have hst : evalStep env n acc = .error 21 := by rw [evalStep, if_pos hop, henv]
            rw [hst] at hr
            repeat' (first | exact True.intro | (refine PW.seqK ?_; intro K hK) | refine stp ?_ | refine seqK_n ‹_› ?_ | refine seqK_r ‹_› ?_ | refine seqK_e ‹_› ?_ | exact schedW_stop_i | refine schK_n ‹_› ?_ | (refine PW.cond rfl ?_ ?_ <;> intro hcond <;> (try contradiction) <;> try simp only [DD] at hcond) | (refine gd_i ?_; intro hg; try simp only [hg]) | (refine ari ?_; first | omega | (simp only [DD, LL] <;> omega) | (go_unwrap; omega)) | ((first | refine stq ?_ | show (_ : Post) _ _ _ | (refine schedW_alt_k ?_ ?_; intro K hK)); focus (simp only [hd2, hm, d1, Option.getD_none, Option.isSome_none, List.length_map, SA, Nat.reduceAdd, reduceIte, Nat.reduceEqDiff, Nat.reduceBEq, reduceCtorEq]; (try go_unwrap; try simp only [hd2, hm, d1, Option.getD_none, Option.isSome_none, List.length_map, RR, reduceCtorEq]))) | refine And.intro ?_ ?_ | exact Or.inr ⟨rfl, Nat.le_refl _⟩ | exact (fun h => Bool.noConfusion h))
            all_goals first | rfl | (rw [hM, hr]; done) | (rw [hM, hr]; rfl)
          | some v =>
            have hm := hes n.name
            rw [henv, Option.map_some] at hm
            cases hfv : fitsB v with
            | true =>
              have hst : evalStep env n acc = .ok v := by rw [evalStep, if_pos hop, henv]; simp [hfv]
              have hft := evalStep_fits hst
              rw [hst] at hr
              repeat' (first | exact True.intro | (refine PW.seqK ?_; intro K hK) | refine stp ?_ | refine seqK_n ‹_› ?_ | refine seqK_r ‹_› ?_ | refine seqK_e ‹_› ?_ | exact schedW_stop_i | refine schK_n ‹_› ?_ | (refine PW.cond rfl ?_ ?_ <;> intro hcond <;> (try contradiction) <;> try simp only [DD] at hcond) | (refine gd_i ?_; intro hg; try simp only [hg]) | refine goCallG_W e39 (v39 v) ?_ ?_ ?_ ?_ ?_ | (refine ari ?_; first | omega | (simp only [DD, LL] <;> omega) | (go_unwrap; omega)) | ((first | refine stq ?_ | show (_ : Post) _ _ _ | (refine schedW_alt_k ?_ ?_; intro K hK)); focus (simp only [hd2, hm, d1, Option.getD_some, Option.isSome_some, List.length_map, hfv, hset, hlen, SA, Nat.reduceAdd, reduceIte, Nat.reduceEqDiff, Nat.reduceBEq, reduceCtorEq]; (try go_unwrap; try simp only [hd2, hm, d1, Option.getD_some, Option.isSome_some, List.length_map, hfv, hset, hlen, RR, reduceCtorEq]))) | refine And.intro ?_ ?_ | exact Or.inr ⟨rfl, Nat.le_refl _⟩ | exact (fun h => Bool.noConfusion h))
              refine ⟨(i + 1, acc ++ [v]), (by first | rfl | (simp only [TT, MObj.kill, PV.kill, Nat.reduceLeDiff, reduceIte, Nat.le_refl, Nat.zero_le, Nat.not_le, Nat.lt_irrefl]; done) | (simp [trimE, trimM, MObj.kill, PV.kill]; done)), (by first | rfl | (simp only [TT, MObj.kill, PV.kill, Nat.reduceLeDiff, reduceIte, Nat.le_refl, Nat.zero_le, Nat.not_le, Nat.lt_irrefl]; done) | (simp [trimE, trimM, MObj.kill, PV.kill]; done)), ⟨h, by simp [hal], ?_, hwf, hr⟩, by simp only; omega⟩
              intro x hx
              rcases List.mem_append.1 hx with hx | hx
              · exact hb x hx
              · simp at hx; subst hx; exact hft
            | false =>
              have hst : evalStep env n acc = .error 9 := by rw [evalStep, if_pos hop, henv]; simp [hfv]
              rw [hst] at hr
              repeat' (first | exact True.intro | (refine PW.seqK ?_; intro K hK) | refine stp ?_ | refine seqK_n ‹_› ?_ | refine seqK_r ‹_› ?_ | refine seqK_e ‹_› ?_ | exact schedW_stop_i | refine schK_n ‹_› ?_ | (refine PW.cond rfl ?_ ?_ <;> intro hcond <;> (try contradiction) <;> try simp only [DD] at hcond) | (refine gd_i ?_; intro hg; try simp only [hg]) | refine goCallG_W e39 (v39 v) ?_ ?_ ?_ ?_ ?_ | (refine ari ?_; first | omega | (simp only [DD, LL] <;> omega) | (go_unwrap; omega)) | ((first | refine stq ?_ | show (_ : Post) _ _ _ | (refine schedW_alt_k ?_ ?_; intro K hK)); focus (simp only [hd2, hm, d1, Option.getD_some, Option.isSome_some, List.length_map, hfv, SA, Nat.reduceAdd, reduceIte, Nat.reduceEqDiff, Nat.reduceBEq, reduceCtorEq]; (try go_unwrap; try simp only [hd2, hm, d1, Option.getD_some, Option.isSome_some, List.length_map, hfv, RR, reduceCtorEq]))) | refine And.intro ?_ ?_ | exact Or.inr ⟨rfl, Nat.le_refl _⟩ | exact (fun h => Bool.noConfusion h))
              all_goals first | rfl | (rw [hM, hr]; done) | (rw [hM, hr]; rfl)
        · have d1 : decide (n.op = 1) = false := by simpa using hop
          have h38 := h38 ⟨hop1, hop2, hop⟩ (by rw [List.length_map]; exact hkl) hfix
          have hst : evalStep env n acc = if (nodeM n (n.kids.map fun k => acc.getD k.toNat 0)).2 = true ∧ fitsB (nodeM n (n.kids.map fun k => acc.getD k.toNat 0)).1 = true then .ok (nodeM n (n.kids.map fun k => acc.getD k.toNat 0)).1 else .error 9 := by rw [evalStep, if_neg hop]
          generalize nodeM n (n.kids.map fun k => acc.getD k.toNat 0) = r at *
          obtain ⟨v, b⟩ := r
          simp only at h38 hst
          have hm := hes n.name
          generalize mget es (.str n.name) = o at *
          by_cases hfv : b = true ∧ fitsB v = true
          · rw [if_pos hfv] at hst
            have hft := evalStep_fits hst
            rw [hst] at hr
            obtain ⟨rfl, hfv⟩ := hfv
            repeat' (first | exact True.intro | (refine PW.seqK ?_; intro K hK) | refine stp ?_ | refine seqK_n ‹_› ?_ | refine seqK_r ‹_› ?_ | refine seqK_e ‹_› ?_ | exact schedW_stop_i | refine schK_n ‹_› ?_ | (refine PW.cond rfl ?_ ?_ <;> intro hcond <;> (try contradiction) <;> try simp only [DD] at hcond) | (refine gd_i ?_; intro hg; try simp only [hg]) | refine goCall_W e38 (h38) ?_ ?_ ?_ ?_ | refine goCallG_W e39 (v39 v) ?_ ?_ ?_ ?_ ?_ | (refine ari ?_; first | omega | (simp only [DD, LL] <;> omega) | (go_unwrap; omega)) | ((first | refine stq ?_ | show (_ : Post) _ _ _ | (refine schedW_alt_k ?_ ?_; intro K hK)); focus (simp only [hd2, d1, List.length_map, hfv, hset, hlen, htl, htk, Nat.le_refl, SA, Nat.reduceAdd, reduceIte, Nat.reduceEqDiff, Nat.reduceBEq, reduceCtorEq]; (try go_unwrap; try simp only [hd2, d1, List.length_map, hfv, hset, hlen, htl, htk, Nat.le_refl, RR, reduceCtorEq]))) | refine And.intro ?_ ?_ | exact Or.inr ⟨rfl, Nat.le_refl _⟩ | exact (fun h => Bool.noConfusion h))
            refine ⟨(i + 1, acc ++ [v]), (by first | rfl | (simp only [TT, MObj.kill, PV.kill, Nat.reduceLeDiff, reduceIte, Nat.le_refl, Nat.zero_le, Nat.not_le, Nat.lt_irrefl]; done) | (simp [trimE, trimM, MObj.kill, PV.kill]; done)), (by first | rfl | (simp only [TT, MObj.kill, PV.kill, Nat.reduceLeDiff, reduceIte, Nat.le_refl, Nat.zero_le, Nat.not_le, Nat.lt_irrefl]; done) | (simp [trimE, trimM, MObj.kill, PV.kill]; done)), ⟨h, by simp [hal], ?_, hwf, hr⟩, by simp only; omega⟩
            intro x hx
            rcases List.mem_append.1 hx with hx | hx
            · exact hb x hx
            · simp at hx; subst hx; exact hft
          · rw [if_neg hfv] at hst
            rw [hst] at hr
            cases b with
            | false =>
              repeat' (first | exact True.intro | (refine PW.seqK ?_; intro K hK) | refine stp ?_ | refine seqK_n ‹_› ?_ | refine seqK_r ‹_› ?_ | refine seqK_e ‹_› ?_ | exact schedW_stop_i | refine schK_n ‹_› ?_ | (refine PW.cond rfl ?_ ?_ <;> intro hcond <;> (try contradiction) <;> try simp only [DD] at hcond) | (refine goCallG_skip rfl ?_; simp only [hd2, d1, List.length_map, htl, htk, Nat.le_refl, SA, Nat.reduceAdd, reduceIte, Nat.reduceEqDiff, Nat.reduceBEq, reduceCtorEq]; (try go_unwrap; try simp only [hd2, d1, List.length_map, htl, htk, Nat.le_refl, RR, reduceCtorEq])) | (refine gd_i ?_; intro hg; try simp only [hg]) | refine goCall_W e38 (h38) ?_ ?_ ?_ ?_ | (refine ari ?_; first | omega | (simp only [DD, LL] <;> omega) | (go_unwrap; omega)) | ((first | refine stq ?_ | show (_ : Post) _ _ _ | (refine schedW_alt_k ?_ ?_; intro K hK)); focus (simp only [hd2, d1, List.length_map, htl, htk, Nat.le_refl, SA, Nat.reduceAdd, reduceIte, Nat.reduceEqDiff, Nat.reduceBEq, reduceCtorEq]; (try go_unwrap; try simp only [hd2, d1, List.length_map, htl, htk, Nat.le_refl, RR, reduceCtorEq]))) | refine And.intro ?_ ?_ | exact Or.inr ⟨rfl, Nat.le_refl _⟩ | exact (fun h => Bool.noConfusion h))
              all_goals first | rfl | (rw [hM, hr]; done) | (rw [hM, hr]; rfl)
            | true =>
              have hfw : fitsB v = false := by simpa using hfv
              repeat' (first | exact True.intro | (refine PW.seqK ?_; intro K hK) | refine stp ?_ | refine seqK_n ‹_› ?_ | refine seqK_r ‹_› ?_ | refine seqK_e ‹_› ?_ | exact schedW_stop_i | refine schK_n ‹_› ?_ | (refine PW.cond rfl ?_ ?_ <;> intro hcond <;> (try contradiction) <;> try simp only [DD] at hcond) | (refine gd_i ?_; intro hg; try simp only [hg]) | refine goCall_W e38 (h38) ?_ ?_ ?_ ?_ | refine goCallG_W e39 (v39 v) ?_ ?_ ?_ ?_ ?_ | (refine ari ?_; first | omega | (simp only [DD, LL] <;> omega) | (go_unwrap; omega)) | ((first | refine stq ?_ | show (_ : Post) _ _ _ | (refine schedW_alt_k ?_ ?_; intro K hK)); focus (simp only [hd2, d1, List.length_map, hfw, htl, htk, Nat.le_refl, SA, Nat.reduceAdd, reduceIte, Nat.reduceEqDiff, Nat.reduceBEq, reduceCtorEq]; (try go_unwrap; try simp only [hd2, d1, List.length_map, hfw, htl, htk, Nat.le_refl, RR, reduceCtorEq]))) | refine And.intro ?_ ?_ | exact Or.inr ⟨rfl, Nat.le_refl _⟩ | exact (fun h => Bool.noConfusion h))
              all_goals first | rfl | (rw [hM, hr]; done) | (rw [hM, hr]; rfl)
    · have hd' : decide ((i : Int) < l.length) = false := by simp only [decide_eq_false_iff_not]; omega
      rw [List.drop_eq_nil_of_le h, evalGo] at hr
      have hlast : (rowV acc l.length)[l.length - 1]? = some (.int .i64 (acc.getD (l.length - 1) 0)) := rowV_lt _ (by omega)
      have hti : ((l.length : Int) - 1).toNat = l.length - 1 := by omega
      repeat' (first | exact True.intro | (refine PW.seqK ?_; intro K hK) | refine stp ?_ | refine seqK_n ‹_› ?_ | refine seqK_r ‹_› ?_ | refine seqK_e ‹_› ?_ | exact schedW_stop_i | refine schK_n ‹_› ?_ | (refine PW.cond rfl ?_ ?_ <;> intro hcond <;> (try contradiction) <;> try simp only [DD] at hcond) | (refine gd_i ?_; intro hg; try simp only [hg]) | (refine ari ?_; first | omega | (simp only [DD, LL] <;> omega) | (go_unwrap; omega)) | ((first | refine stq ?_ | show (_ : Post) _ _ _ | (refine schedW_alt_k ?_ ?_; intro K hK)); focus (simp only [hd', hti, hlast, List.length_map, SA, Nat.reduceAdd, reduceIte, Nat.reduceEqDiff, Nat.reduceBEq, reduceCtorEq]; (try go_unwrap; try simp only [hd', hti, hlast, List.length_map, RR, reduceCtorEq]))) | refine And.intro ?_ ?_ | exact Or.inr ⟨rfl, Nat.le_refl _⟩ | exact (fun h => Bool.noConfusion h))
      all_goals first | (exact .inl ⟨rfl, rfl⟩) | rfl | (rw [hM, hr]; done) | (rw [hM, hr]; rfl)
  · have hd0 : decide (checkM l = 0) = false := by simpa using hc
    repeat' (first | exact True.intro | (refine PW.seqK ?_; intro K hK) | refine stp ?_ | refine seqK_n ‹_› ?_ | refine seqK_r ‹_› ?_ | refine seqK_e ‹_› ?_ | exact schedW_stop_i | refine schK_n ‹_› ?_ | (refine PW.cond rfl ?_ ?_ <;> intro hcond <;> (try contradiction) <;> try simp only [DD] at hcond) | (refine gd_i ?_; intro hg; try simp only [hg]) | refine goCall_W e29 (h29) ?_ ?_ ?_ ?_ | (refine ari ?_; first | omega | (simp only [DD, LL] <;> omega) | (go_unwrap; omega)) | ((first | refine stq ?_ | show (_ : Post) _ _ _ | (refine schedW_alt_k ?_ ?_; intro K hK)); focus (simp only [hd0, SA, Nat.reduceAdd, reduceIte, Nat.reduceEqDiff, Nat.reduceBEq, reduceCtorEq]; (try go_unwrap; try simp only [hd0, RR, reduceCtorEq]))) | refine And.intro ?_ ?_ | exact Or.inr ⟨rfl, Nat.le_refl _⟩ | exact (fun h => Bool.noConfusion h))
    rw [evalM, if_pos hc]
end Go.Proofs.YthekpjhffciakaaDoor

namespace Go.Proofs.YthekpjhffciakaaDoor
open Go PG Go.Proofs
set_option linter.unusedSimpArgs false
set_option linter.unusedVariables false
set_option maxHeartbeats 4000000
set_option maxRecDepth 100000
variable {G : Globs}
theorem e13 : Ent Tryd.prog 13 := ⟨Tryd.f13, Tryd.func13, by kernel_rfl, by kernel_rfl⟩
theorem e14 : Ent Tryd.prog 14 := ⟨Tryd.f14, Tryd.func14, by kernel_rfl, by kernel_rfl⟩
theorem e15 : Ent Tryd.prog 15 := ⟨Tryd.f15, Tryd.func15, by kernel_rfl, by kernel_rfl⟩
abbrev Pr := List UInt8 × Int
def prP (p : Pr) : PV := .agg [.str p.1, .int .i64 p.2]
abbrev intV : Int → PV := PV.int .i64
def envE (l : List Pr) (es : List Pr) : List Pr := l.foldl (fun es p => aset es p.1 p.2) es
theorem envE_nodup : ∀ (l es : List Pr), (es.map (·.1)).Nodup → ((envE l es).map (·.1)).Nodup
  | [], es, h => h
  | p :: l, es, h => envE_nodup l _ (aset_nodup h p.1 p.2)
theorem f13 (l : List Pr) (hl : l.length ≤ 9223372036854775807) : FCalls Tryd.prog G 13 [.list (some 2) (l.map prP)] (fun p ν => p = .tup [.mref 0, .bool (decide (((envE l []).length : Int) = l.length))] ∧ ν = [some (.mp .str (strM intV (envE l [])))]) := by
  refine FCalls.of_PW Tryd.func13 k13 mix (by simp [c13]) ?_
  simp only [c13, L13, CC, argE]
  repeat' (first | exact True.intro | (refine PW.seqK ?_; intro K hK) | refine stp ?_ | refine seqK_n ‹_› ?_ | refine seqK_r ‹_› ?_ | refine seqK_e ‹_› ?_ | exact schedW_stop_i | refine schK_n ‹_› ?_ | (refine PW.cond rfl ?_ ?_ <;> intro hcond <;> (try contradiction) <;> try simp only [DD] at hcond) | (refine gd_i ?_; intro hg; try simp only [hg]) | (refine ari ?_; first | omega | (simp only [DD, LL] <;> omega) | (go_unwrap; omega)) | ((first | refine stq ?_ | show (_ : Post) _ _ _ | (refine schedW_alt_k ?_ ?_; intro K hK)); focus (simp only [SA, Nat.reduceAdd, reduceIte, Nat.reduceEqDiff, Nat.reduceBEq, reduceCtorEq]; (try go_unwrap; try simp only [RR, reduceCtorEq]))) | refine And.intro ?_ ?_ | exact Or.inr ⟨rfl, Nat.le_refl _⟩ | exact (fun h => Bool.noConfusion h))
  refine PW.loopG (σ := Nat × List Pr) 1 (fun _ _ => rfl) [0, 4, 8, 9, 10] (fun s => [.list (some 2) (l.map prP), .mref 0, .list (some 2) (l.map prP), .int .i64 l.length, .int .i64 s.1]) (fun s => [some (.mp .str (strM intV s.2))])
    (fun s => s.1 ≤ l.length ∧ envE l [] = envE (l.drop s.1) s.2) (fun s => l.length - s.1) (0, []) ?_ rfl ⟨by simp, by simp⟩ ?_
  · simp only [SA, Nat.reduceAdd, reduceIte, Nat.reduceEqDiff, Nat.reduceBEq, reduceCtorEq, List.length_map]; rfl
  rintro ⟨i, es⟩ ⟨hi, hr⟩
  simp only at hi hr
  simp only [List.zip_cons_cons, List.zip_nil_left]
  rcases Nat.lt_or_ge i l.length with h | h
  · obtain ⟨p, hd, -, hg⟩ := drop_at h
    have hd' : decide ((i : Int) < l.length) = true := by simp only [decide_eq_true_eq]; omega
    have hgp : (l.map prP).getD i .junk = .agg [.str p.1, .int .i64 p.2] := (hg prP).1
    have hms := mset_str intV es p.1 p.2
    rw [hd] at hr
    have hr : envE l [] = envE (l.drop (i + 1)) (aset es p.1 p.2) := hr
    repeat' (first | exact True.intro | exact (rfl : KK.str = KK.str) | (refine PW.seqK ?_; intro K hK) | refine stp ?_ | refine seqK_n ‹_› ?_ | refine seqK_r ‹_› ?_ | refine seqK_e ‹_› ?_ | exact schedW_stop_i | refine schK_n ‹_› ?_ | (refine PW.cond rfl ?_ ?_ <;> intro hcond <;> (try contradiction) <;> try simp only [DD] at hcond) | (refine gd_i ?_; intro hg; try simp only [hg]) | (refine ari ?_; first | omega | (simp only [DD, LL] <;> omega) | (go_unwrap; omega)) | ((first | refine stq ?_ | show (_ : Post) _ _ _ | (refine schedW_alt_k ?_ ?_; intro K hK)); focus (simp only [hd', hgp, hms, SA, Nat.reduceAdd, reduceIte, Nat.reduceEqDiff, Nat.reduceBEq, reduceCtorEq]; (try go_unwrap; try simp only [hd', hgp, hms, RR, reduceCtorEq]))) | refine And.intro ?_ ?_ | exact Or.inr ⟨rfl, Nat.le_refl _⟩ | exact (fun h => Bool.noConfusion h))
    all_goals exact ⟨(i + 1, aset es p.1 p.2), (by first | rfl | (simp only [TT, MObj.kill, PV.kill, Nat.reduceLeDiff, reduceIte, Nat.le_refl, Nat.zero_le, Nat.not_le, Nat.lt_irrefl]; done) | (simp [trimE, trimM, MObj.kill, PV.kill]; done)), (by first | rfl | (simp only [TT, MObj.kill, PV.kill, Nat.reduceLeDiff, reduceIte, Nat.le_refl, Nat.zero_le, Nat.not_le, Nat.lt_irrefl]; done) | (simp [trimE, trimM, MObj.kill, PV.kill]; done)), ⟨h, hr⟩, by simp only; omega⟩
  · have hd' : decide ((i : Int) < l.length) = false := by simp only [decide_eq_false_iff_not]; omega
    rw [List.drop_eq_nil_of_le h] at hr
    have hr : envE l [] = es := hr
    repeat' (first | exact True.intro | (refine PW.seqK ?_; intro K hK) | refine stp ?_ | refine seqK_n ‹_› ?_ | refine seqK_r ‹_› ?_ | refine seqK_e ‹_› ?_ | exact schedW_stop_i | refine schK_n ‹_› ?_ | (refine PW.cond rfl ?_ ?_ <;> intro hcond <;> (try contradiction) <;> try simp only [DD] at hcond) | (refine gd_i ?_; intro hg; try simp only [hg]) | (refine ari ?_; first | omega | (simp only [DD, LL] <;> omega) | (go_unwrap; omega)) | ((first | refine stq ?_ | show (_ : Post) _ _ _ | (refine schedW_alt_k ?_ ?_; intro K hK)); focus (simp only [hd', mapP_len, List.length_map, SA, Nat.reduceAdd, reduceIte, Nat.reduceEqDiff, Nat.reduceBEq, reduceCtorEq]; (try go_unwrap; try simp only [hd', mapP_len, List.length_map, RR, reduceCtorEq]))) | refine And.intro ?_ ?_ | exact Or.inr ⟨rfl, Nat.le_refl _⟩ | exact (fun h => Bool.noConfusion h))
    all_goals rw [hr]
/-- The sum that 'small' reckons, with whatever wraps. -/
def smallS : List Nd → Int → Int
  | [], a => a
  | n :: ns, a => smallS ns (IntKind.i64.wrap (a + IntKind.i64.wrap (IntKind.i64.wrap (1 + n.kids.length) + n.name.length)))
def smallM (l : List Nd) : Bool := decide (smallS l 0 ≤ 1500)
theorem v14 (l : List Nd) (hl : l.length ≤ 9223372036854775807) : VCalls Tryd.prog G 14 [treeP l] (.bool (smallM l)) := by
  refine VCalls.of_PW Tryd.func14 k14 mix (by simp [c14]) ?_
  simp only [c14, L14, CC, argE, treeP]
  repeat' (first | exact True.intro | (refine PW.seqK ?_; intro K hK) | refine stp ?_ | refine seqK_n ‹_› ?_ | refine seqK_r ‹_› ?_ | refine seqK_e ‹_› ?_ | exact schedW_stop_i | refine schK_n ‹_› ?_ | (refine PW.cond rfl ?_ ?_ <;> intro hcond <;> (try contradiction) <;> try simp only [DD] at hcond) | (refine gd_i ?_; intro hg; try simp only [hg]) | (refine ari ?_; first | omega | (simp only [DD, LL] <;> omega) | (go_unwrap; omega)) | ((first | refine stq ?_ | show (_ : Post) _ _ _ | (refine schedW_alt_k ?_ ?_; intro K hK)); focus (simp only [SA, Nat.reduceAdd, reduceIte, Nat.reduceEqDiff, Nat.reduceBEq, reduceCtorEq]; (try go_unwrap; try simp only [RR, reduceCtorEq]))) | refine And.intro ?_ ?_ | exact Or.inr ⟨rfl, Nat.le_refl _⟩ | exact (fun h => Bool.noConfusion h))
  refine PW.loopG (σ := Nat × Int) 1 (fun _ _ => rfl) [3, 7, 8, 9] (fun s => [.int .i64 s.2, .list (some 4) (l.map ndP), .int .i64 l.length, .int .i64 s.1]) (fun s => [some (.var (some 1) (.agg [.list (some 4) (l.map ndP)]))])
    (fun s => s.1 ≤ l.length ∧ smallS l 0 = smallS (l.drop s.1) s.2) (fun s => l.length - s.1) (0, 0) ?_ rfl ⟨by simp, by simp⟩ ?_
  · simp only [SA, Nat.reduceAdd, reduceIte, Nat.reduceEqDiff, Nat.reduceBEq, reduceCtorEq, List.length_map]; rfl
  rintro ⟨i, a⟩ ⟨hi, hr⟩
  simp only at hi hr
  simp only [List.zip_cons_cons, List.zip_nil_left]
  rcases Nat.lt_or_ge i l.length with h | h
  · obtain ⟨n, hd, -, hg⟩ := drop_at h
    have hd' : decide ((i : Int) < l.length) = true := by simp only [decide_eq_true_eq]; omega
    have hgn := ((hg ndP).1).trans (ndP1 n)
    rw [hd] at hr
    have hr : smallS l 0 = smallS (l.drop (i + 1)) (IntKind.i64.wrap (a + IntKind.i64.wrap (IntKind.i64.wrap (1 + n.kids.length) + n.name.length))) := hr
    repeat' (first | exact True.intro | (refine PW.seqK ?_; intro K hK) | refine stp ?_ | refine seqK_n ‹_› ?_ | refine seqK_r ‹_› ?_ | refine seqK_e ‹_› ?_ | exact schedW_stop_i | refine schK_n ‹_› ?_ | (refine PW.cond rfl ?_ ?_ <;> intro hcond <;> (try contradiction) <;> try simp only [DD] at hcond) | (refine gd_i ?_; intro hg; try simp only [hg]) | (refine ari ?_; first | omega | (simp only [DD, LL] <;> omega) | (go_unwrap; omega)) | ((first | refine stq ?_ | show (_ : Post) _ _ _ | (refine schedW_alt_k ?_ ?_; intro K hK)); focus (simp only [hd', hgn, List.length_map, SA, Nat.reduceAdd, reduceIte, Nat.reduceEqDiff, Nat.reduceBEq, reduceCtorEq]; (try go_unwrap; try simp only [hd', hgn, List.length_map, RR, reduceCtorEq]))) | refine And.intro ?_ ?_ | exact Or.inr ⟨rfl, Nat.le_refl _⟩ | exact (fun h => Bool.noConfusion h))
    exact ⟨(i + 1, IntKind.i64.wrap (a + IntKind.i64.wrap (IntKind.i64.wrap (1 + n.kids.length) + n.name.length))), (by first | rfl | (simp only [TT, MObj.kill, PV.kill, Nat.reduceLeDiff, reduceIte, Nat.le_refl, Nat.zero_le, Nat.not_le, Nat.lt_irrefl]; done) | (simp [trimE, trimM, MObj.kill, PV.kill]; done)), (by first | rfl | (simp only [TT, MObj.kill, PV.kill, Nat.reduceLeDiff, reduceIte, Nat.le_refl, Nat.zero_le, Nat.not_le, Nat.lt_irrefl]; done) | (simp [trimE, trimM, MObj.kill, PV.kill]; done)), ⟨h, hr⟩, by simp only; omega⟩
  · have hd' : decide ((i : Int) < l.length) = false := by simp only [decide_eq_false_iff_not]; omega
    rw [List.drop_eq_nil_of_le h] at hr
    have hr : smallS l 0 = a := hr
    repeat' (first | exact True.intro | (refine PW.seqK ?_; intro K hK) | refine stp ?_ | refine seqK_n ‹_› ?_ | refine seqK_r ‹_› ?_ | refine seqK_e ‹_› ?_ | exact schedW_stop_i | refine schK_n ‹_› ?_ | (refine PW.cond rfl ?_ ?_ <;> intro hcond <;> (try contradiction) <;> try simp only [DD] at hcond) | (refine gd_i ?_; intro hg; try simp only [hg]) | (refine ari ?_; first | omega | (simp only [DD, LL] <;> omega) | (go_unwrap; omega)) | ((first | refine stq ?_ | show (_ : Post) _ _ _ | (refine schedW_alt_k ?_ ?_; intro K hK)); focus (simp only [hd', SA, Nat.reduceAdd, reduceIte, Nat.reduceEqDiff, Nat.reduceBEq, reduceCtorEq]; (try go_unwrap; try simp only [hd', RR, reduceCtorEq]))) | refine And.intro ?_ ?_ | exact Or.inr ⟨rfl, Nat.le_refl _⟩ | exact (fun h => Bool.noConfusion h))
    rw [smallM, hr]
def awakeT : List Nd := [⟨1, 0, [97], []⟩, ⟨0, 2000000, [], []⟩, ⟨1, 0, [98], []⟩, ⟨1, 0, [99], []⟩, ⟨3, 0, [], [2, 3]⟩, ⟨4, 0, [], [1, 4]⟩, ⟨2, 0, [], [0, 5]⟩]
def awakeE : List Pr := [([97], 1000000), ([98], 2500000), ([99], 500000)]
theorem awake_eval : evalM (aget awakeE) awakeT = (5000000, 0) := by decide +kernel
theorem v15 (hG : HasKids G) : VCalls Tryd.prog G 15 [] (.bool true) := by
  refine VCalls.of_PW Tryd.func15 k15 mix (by simp [c15]) ?_
  have h16 := v16 hG (aget awakeE) (strM intV awakeE) (mget_str intV awakeE) awakeT (by decide) (by decide)
  rw [awake_eval] at h16
  simp only [treeP, awakeT, List.map_cons, List.map_nil, ndP1, awakeE, strM, mapP, intV] at h16
  have hms : mset (mset (mset [] (PV.str [97]) (PV.int IntKind.i64 1000000)) (PV.str [98]) (PV.int IntKind.i64 2500000)) (PV.str [99]) (PV.int IntKind.i64 500000) = [(PV.str [97], PV.int IntKind.i64 1000000), (PV.str [98], PV.int IntKind.i64 2500000), (PV.str [99], PV.int IntKind.i64 500000)] := by
    simp [mset, keyEq]
  simp only [c15, L15, CC, argE]
  have h16' : VCalls Tryd.prog G 16 [.agg [.list (some 4) [.agg [.int .i64 1, .int .i64 0, .str [97], .nilSl], .agg [.int .i64 0, .int .i64 2000000, .str [], .nilSl], .agg [.int .i64 1, .int .i64 0, .str [98], .nilSl], .agg [.int .i64 1, .int .i64 0, .str [99], .nilSl], .agg [.int .i64 3, .int .i64 0, .str [], .list none [.int .i64 2, .int .i64 3]], .agg [.int .i64 4, .int .i64 0, .str [], .list none [.int .i64 1, .int .i64 4]], .agg [.int .i64 2, .int .i64 0, .str [], .list none [.int .i64 0, .int .i64 5]]]], .cmap .str [(.str [97], .int .i64 1000000), (.str [98], .int .i64 2500000), (.str [99], .int .i64 500000)]] _ := h16.sub (by repeat (first | exact Sub.refl _ | exact Sub.nil _ | exact SubL.nil | apply SubL.cons | apply Sub.agg | apply Sub.list))
  repeat' (first | exact True.intro | exact (rfl : KK.str = KK.str) | (refine PW.seqK ?_; intro K hK) | refine stp ?_ | refine seqK_n ‹_› ?_ | refine seqK_r ‹_› ?_ | refine seqK_e ‹_› ?_ | exact schedW_stop_i | refine schK_n ‹_› ?_ | (refine PW.cond rfl ?_ ?_ <;> intro hcond <;> (try contradiction) <;> try simp only [DD] at hcond) | (refine gd_i ?_; intro hg; try simp only [hg]) | refine goCall_W e16 (h16') ?_ ?_ ?_ ?_ | (refine ari ?_; first | omega | (simp only [DD, LL] <;> omega) | (go_unwrap; omega)) | ((first | refine stq ?_ | show (_ : Post) _ _ _ | (refine schedW_alt_k ?_ ?_; intro K hK)); focus (simp only [hms, SA, Nat.reduceAdd, reduceIte, Nat.reduceEqDiff, Nat.reduceBEq, reduceCtorEq]; (try go_unwrap; try simp only [hms, RR, reduceCtorEq]))) | refine And.intro ?_ ?_ | exact Or.inr ⟨rfl, Nat.le_refl _⟩ | exact (fun h => Bool.noConfusion h))
  all_goals skip
end Go.Proofs.YthekpjhffciakaaDoor

