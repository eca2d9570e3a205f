import Derived.Test.YthekpjhffciakaaDoorE10
namespace Go.Proofs.YthekpjhffciakaaDoor
open Go PG Go.Proofs
set_option linter.unusedSimpArgs false
set_option linter.unusedVariables false
theorem checkNodes_app : ∀ (a : List Nd) (r : Nd) (i : Nat) (t : List Bool), checkNodes (a ++ [r]) i t = match checkNodes a i t with
    | .error e => .error e
    | .ok t' => checkNodes [r] (i + a.length) t'
  | [], r, i, t => by simp [checkNodes]
  | n :: a, r, i, t => by
    simp only [List.cons_append, checkNodes, List.length_cons]
    split
    · rfl
    · split
      · rfl
      · split
        · rfl
        · rw [checkNodes_app a r]
          rw [show i + (a.length + 1) = i + 1 + a.length by omega]
          rfl
theorem depthsM_app : ∀ (a : List Nd) (r : Nd) (acc : List Int), depthsM (a ++ [r]) acc = depthsM a acc ++ [kidsMax (depthsM a acc) r.kids 0 + 1]
  | [], r, acc => by simp [depthsM]
  | n :: a, r, acc => by rw [List.cons_append, depthsM, depthsM_app a r, depthsM]
theorem evalGo_app (env : EnvM) : ∀ (a : List Nd) (r : Nd) (acc : List Int), evalGo env (a ++ [r]) acc = match evalGo env a acc with
    | .error e => .error e
    | .ok acc' => match evalStep env r acc' with
      | .error e => .error e
      | .ok v => .ok (acc' ++ [v])
  | [], r, acc => by simp [evalGo]; rfl
  | n :: a, r, acc => by
    simp only [List.cons_append, evalGo]
    cases evalStep env n acc with
    | error e => rfl
    | ok v => exact evalGo_app env a r _
theorem setB (t : List Bool) (a b : Nat) : (t.set a true).getD b false = true ↔ (a = b ∧ a < t.length) ∨ t.getD b false = true := by
  simp only [List.getD_eq_getElem?_getD, List.getElem?_set]
  by_cases h : a = b
  · subst h
    by_cases h2 : a < t.length
    · simp [h2]
    · simp [h2]
  · simp [h]
theorem setB_comm (t : List Bool) (a b : Nat) : (t.set a true).set b true = (t.set b true).set a true := by
  by_cases h : a = b
  · subst h; rfl
  · exact List.set_comm _ _ h
theorem kidsStep_swap (i : Nat) (x y : Int) (t : List Bool) : kidsStep i [x, y] t = kidsStep i [y, x] t := by
  simp only [kidsStep]
  by_cases hx : x < 0 ∨ (i : Int) ≤ x
  · by_cases hy : y < 0 ∨ (i : Int) ≤ y
    · rw [if_pos (by rcases hx with h | h <;> simp [h]), if_pos (by rcases hy with h | h <;> simp [h])]
    · rw [if_pos (by rcases hx with h | h <;> simp [h])]
      have hx' : x < 0 ∨ (i : Int) ≤ x ∨ (t.set y.toNat true).getD x.toNat false = true := by rcases hx with h | h <;> simp [h]
      rw [if_pos hx']; split <;> rfl
  · by_cases hy : y < 0 ∨ (i : Int) ≤ y
    · have hy' : y < 0 ∨ (i : Int) ≤ y ∨ (t.set x.toNat true).getD y.toNat false = true := by rcases hy with h | h <;> simp [h]
      have hy0 : y < 0 ∨ (i : Int) ≤ y ∨ t.getD y.toNat false = true := by rcases hy with h | h <;> simp [h]
      rw [if_pos hy0, if_pos hy']; split <;> rfl
    · simp only [not_or] at hx hy
      simp only [hx.1, hx.2, hy.1, hy.2, false_or]
      rw [setB_comm]
      by_cases h1 : t.getD x.toNat false = true <;> by_cases h2 : t.getD y.toNat false = true
      · rw [if_pos h1, if_pos h2]
      · rw [if_pos h1, if_neg h2, if_pos ((setB _ _ _).2 (.inr h1))]
      · rw [if_neg h1, if_pos h2, if_pos ((setB _ _ _).2 (.inr h2))]
      · rw [if_neg h1, if_neg h2]
        by_cases h3 : x.toNat = y.toNat
        · rw [h3]
        · have e1 : ¬ (t.set x.toNat true).getD y.toNat false = true := fun h => by
            rcases (setB _ _ _).1 h with h | h
            · exact h3 h.1
            · exact h2 h
          have e2 : ¬ (t.set y.toNat true).getD x.toNat false = true := fun h => by
            rcases (setB _ _ _).1 h with h | h
            · exact h3 h.1.symm
            · exact h1 h
          rw [if_neg e1, if_neg e2]
def swapN (r : Nd) (x y : Int) : Nd := ⟨r.op, r.num, r.name, [y, x]⟩
theorem check_swap {a : List Nd} {r : Nd} {x y : Int} (hk : r.kids = [x, y]) : checkM (a ++ [swapN r x y]) = checkM (a ++ [r]) := by
  have hf : formE (swapN r x y) = formE r := by simp [formE, swapN, hk]
  have hr : restE (swapN r x y) = restE r := rfl
  have hc : ∀ i t, checkNodes [swapN r x y] i t = checkNodes [r] i t := by
    intro i t
    simp only [checkNodes, hf, hr]
    rw [hk]
    have : (swapN r x y).kids = [y, x] := rfl
    rw [this, kidsStep_swap i y x]
  have hd : depthM (a ++ [swapN r x y]) = depthM (a ++ [r]) := by
    unfold depthM
    rw [depthsM_app, depthsM_app, hk]
    have : (swapN r x y).kids = [y, x] := rfl
    rw [this]
    simp only [kidsMax, List.length_append, List.length_cons, List.length_nil]
    have : ∀ p q : Int, max (max 0 p) q = max (max 0 q) p := by intro p q; omega
    rw [this]
  unfold checkM
  rw [checkNodes_app, checkNodes_app]
  simp only [List.length_append, List.length_cons, List.length_nil, hd, hc]
theorem eval_swap {env : EnvM} {a : List Nd} {r : Nd} {x y : Int} (hk : r.kids = [x, y]) (hop : r.op = 2 ∨ r.op = 4 ∨ r.op = 5 ∨ r.op = 6 ∨ r.op = 9) : evalM env (a ++ [swapN r x y]) = evalM env (a ++ [r]) := by
  have hs : ∀ acc, evalStep env (swapN r x y) acc = evalStep env r acc := by
    intro acc
    have h1 : (swapN r x y).op = r.op := rfl
    have h2 : (swapN r x y).name = r.name := rfl
    have h3 : (swapN r x y).kids = [y, x] := rfl
    have hn : nodeM (swapN r x y) [acc.getD y.toNat 0, acc.getD x.toNat 0] = nodeM r [acc.getD x.toNat 0, acc.getD y.toNat 0] := by
      generalize acc.getD y.toNat 0 = p
      generalize acc.getD x.toNat 0 = q
      unfold nodeM
      simp only [h1, List.getD_cons_zero, List.getD_cons_succ]
      rcases hop with h | h | h | h | h <;> simp [h, timesM_comm p q, Int.add_comm p q, Int.min_comm p q, Int.max_comm p q, eq_comm (a := p)]
    unfold evalStep
    rw [h1, h2, h3, hk]
    simp only [List.map_cons, List.map_nil, hn]
  unfold evalM
  rw [check_swap hk, evalGo_app, evalGo_app]
  simp only [List.length_append, List.length_cons, List.length_nil, hs]
theorem evalM_fits (env : EnvM) (l : List Nd) : (-1000000000000000000 ≤ (evalM env l).1 ∧ (evalM env l).1 ≤ 1000000000000000000) ∧ ((evalM env l).2 ≠ 0 → (evalM env l).1 = 0) := by
  have key : ∀ (l : List Nd) (acc acc' : List Int), evalGo env l acc = .ok acc' → (∀ v ∈ acc, -1000000000000000000 ≤ v ∧ v ≤ 1000000000000000000) → ∀ v ∈ acc', -1000000000000000000 ≤ v ∧ v ≤ 1000000000000000000 := by
    intro l
    induction l with
    | nil => intro acc acc' h hb; cases h; exact hb
    | cons n l ih =>
      intro acc acc' h hb
      rw [evalGo] at h
      cases hs : evalStep env n acc with
      | error e => rw [hs] at h; cases h
      | ok v =>
        rw [hs] at h
        refine ih _ _ h (fun w hw => ?_)
        rcases List.mem_append.1 hw with hw | hw
        · exact hb w hw
        · simp at hw; subst hw; exact evalStep_fits hs
  unfold evalM
  split
  · exact ⟨by simp only; omega, fun _ => rfl⟩
  · cases hg : evalGo env l [] with
    | error e => exact ⟨by simp only; omega, fun _ => rfl⟩
    | ok acc =>
      refine ⟨?_, fun h => absurd rfl h⟩
      simp only
      rw [List.getD_eq_getElem?_getD]
      cases hx : acc[l.length - 1]? with
      | none => simp
      | some v => simpa using key _ _ _ hg (by simp) v (List.mem_of_getElem? hx)
end Go.Proofs.YthekpjhffciakaaDoor
