import Derived.Test.YthekpjhffciakaaDoorE11
import Derived.Test.YthekpjhffciakaaDoorPure23
import Derived.Test.YthekpjhffciakaaDoorRows
import Derived.LaidMore
import Derived.Stop.Joined
namespace Go.Proofs.YthekpjhffciakaaDoor
open Go PG Go.Proofs
set_option linter.unusedSimpArgs false
set_option linter.unusedVariables false
set_option maxRecDepth 100000
theorem own : ownKnob Tryd.prog.godebug = none := by kernel_rfl
theorem laidOut : laidOutB Tryd.prog = true := by kernel_rfl
theorem gKids : Tryd.prog.globalNamed "wagebook/expr.kidsOf" = some 1 := by kernel_rfl
def GK : Globs := fun g => if g = 1 then some (some 10, kidsTabP) else none
theorem hasGK : HasKids GK := rfl
abbrev laid1 : List (String × DataW Unit) := [("wagebook/expr.kidsOf", Rows.laid_wagebook_expr_kidsOf)]
theorem globsK {W : World} (h : laidMetH Tryd.prog laid1 W) : GlobsIn W (fun _ => False) GK := by
  rw [MakeChecks.laidMetH_plain _ _ _ (by kernel_rfl)] at h
  obtain ⟨ps, h, _, _⟩ := h
  intro g sh x hg
  unfold GK at hg
  split at hg
  · rename_i e
    subst e
    simp only [Option.some.injEq, Prod.mk.injEq] at hg
    obtain ⟨rfl, rfl⟩ := hg
    have h0 : (Rows.laid_wagebook_expr_kidsOf : DataW Unit) = .agg ((kidsTab.map (PV.int .i64)).map datOf) := rfl
    unfold laid1 at h
    rw [h0] at h
    exact tab_rep gKids (t := 136) (e := 3) (n := 10) (by kernel_rfl) (by kernel_rfl) (.inl ⟨.i64, Tryd.underlying3⟩) (by kernel_rfl) (by kernel_rfl) (by decide) (by decide) h
  · cases hg
theorem door_met1 (os : Os) (args : Array Value) : laidMetH Tryd.prog laid1 ((World.doorLaid Tryd.prog 400 os).forCall (fun _ _ => 0) ⟨#[], args, []⟩).memory :=
  laidMetH_of_parts3 (fuel := 8) (laidMet_of_run' 8 (by kernel_rfl) (by kernel_rfl)) (by kernel_rfl) (by kernel_rfl)
theorem read_node {n : Nat} {x : PV} (hx : fits (some 4) x) (h : ShC Tryd.prog (n + 3) 37 x.cells) : ∃ a : Nd, x = ndP a ∧ (a.name.length ≤ 9223372036854775807 ∧ a.kids.length ≤ 9223372036854775807) ∧ (-9223372036854775808 ≤ a.num ∧ a.num ≤ 9223372036854775807) := by
  obtain ⟨cs, rfl, -, hl⟩ := fits_cells hx
  obtain ⟨-, hf⟩ := shC_struct Tryd.underlying37 h
  have c3 : Tryd.prog.cellsOf 3 = 1 := by kernel_rfl
  have c2 : Tryd.prog.cellsOf 2 = 1 := by kernel_rfl
  have c9 : Tryd.prog.cellsOf 9 = 1 := by kernel_rfl
  have c35 : Tryd.prog.cellsOf 35 = 1 := by kernel_rfl
  simp only [List.mem_cons, List.not_mem_nil, or_false, forall_eq_or_imp, forall_eq, c3, c2, c9, c35, PV.cells] at hf
  match cs, hl with
  | [a, b, c, d], _ =>
    obtain ⟨h1, h2, h3, h4⟩ := hf
    obtain ⟨op, e1, -, -⟩ := shC_int Tryd.underlying3 h1
    obtain ⟨num, e2, b1, b2⟩ := shC_int Tryd.underlying2 h2
    obtain ⟨nm, e3, b3⟩ := shC_str Tryd.underlying9 h3
    obtain ⟨sh, xs, hs, e4, b4, h5⟩ := shC_slice Tryd.underlying35 h4
    have hsh : shOf Tryd.prog 3 = some none := by kernel_rfl
    obtain rfl := Option.some.inj (hsh.symm.trans hs)
    obtain ⟨ks, hks, -⟩ := list_of (PV.int .i64) (fun _ => True) (xs := xs) (fun x hx => by
      obtain ⟨f1, f2⟩ := h5 x hx
      obtain ⟨m, e, -, -⟩ := shC_int Tryd.underlying3 f2
      rw [fits_cells f1] at e
      cases e; exact ⟨m, rfl, trivial⟩)
    subst hks
    simp at e1 e2 e3 e4
    subst e1; subst e2; subst e3; subst e4
    exact ⟨⟨op, num, nm, ks⟩, rfl, ⟨b3, by simpa using b4⟩, b1, b2⟩
theorem read_tree {n : Nat} {p : PV} (h : ShA Tryd.prog (n + 5) 24 p) : ∃ t : List Nd, p = treeP t ∧ t.length ≤ 9223372036854775807 ∧ (∀ a ∈ t, a.name.length ≤ 9223372036854775807 ∧ a.kids.length ≤ 9223372036854775807) ∧ (∀ a ∈ t, -9223372036854775808 ≤ a.num ∧ a.num ≤ 9223372036854775807) := by
  obtain ⟨ps, rfl, h'⟩ := shA_struct Tryd.underlying24 h
  obtain ⟨hl, hf⟩ := shC_struct Tryd.underlying24 h'
  have c24 : Tryd.prog.cellsOf 24 = 1 := by kernel_rfl
  have c22 : Tryd.prog.cellsOf 22 = 1 := by kernel_rfl
  rw [c24] at hl
  simp only [List.mem_cons, List.not_mem_nil, or_false, forall_eq, c22] at hf
  match ps, hl with
  | [a], _ =>
    obtain ⟨sh, xs, hs, e, b, hx⟩ := shC_slice Tryd.underlying22 hf
    have hsh : shOf Tryd.prog 37 = some (some 4) := by kernel_rfl
    obtain rfl := Option.some.inj (hsh.symm.trans hs)
    simp at e
    subst e
    obtain ⟨t, rfl, ht⟩ := list_of ndP (fun a => (a.name.length ≤ 9223372036854775807 ∧ a.kids.length ≤ 9223372036854775807) ∧ (-9223372036854775808 ≤ a.num ∧ a.num ≤ 9223372036854775807)) (xs := xs) (fun x hx' => by
      obtain ⟨f1, f2⟩ := hx x hx'
      exact read_node f1 f2)
    exact ⟨t, rfl, by simpa using b, fun a ha => (ht a ha).1, fun a ha => (ht a ha).2⟩
theorem read_pairs {n : Nat} {p : PV} (h : ShA Tryd.prog (n + 4) 25 p) : ∃ l : List Pr, p = .list (some 2) (l.map prP) ∧ l.length ≤ 9223372036854775807 ∧ ∀ a ∈ l, a.1.length ≤ 9223372036854775807 ∧ -9223372036854775808 ≤ a.2 ∧ a.2 ≤ 9223372036854775807 := by
  obtain ⟨sh, xs, hs, rfl, b, hx⟩ := shA_slice Tryd.underlying25 h
  have hsh : shOf Tryd.prog 41 = some (some 2) := by kernel_rfl
  obtain rfl := Option.some.inj (hsh.symm.trans hs)
  obtain ⟨l, rfl, hl⟩ := list_of prP (fun a => a.1.length ≤ 9223372036854775807 ∧ -9223372036854775808 ≤ a.2 ∧ a.2 ≤ 9223372036854775807) (xs := xs) (fun x hx' => by
    obtain ⟨f1, f2⟩ := hx x hx'
    obtain ⟨cs, rfl, -, hl⟩ := fits_cells f1
    obtain ⟨-, hf⟩ := shC_struct Tryd.underlying41 f2
    have c2 : Tryd.prog.cellsOf 2 = 1 := by kernel_rfl
    have c9 : Tryd.prog.cellsOf 9 = 1 := by kernel_rfl
    simp only [List.mem_cons, List.not_mem_nil, or_false, forall_eq_or_imp, forall_eq, c2, c9, PV.cells] at hf
    match cs, hl with
    | [a, b], _ =>
      obtain ⟨h1, h2⟩ := hf
      obtain ⟨nm, e1, b1⟩ := shC_str Tryd.underlying9 h1
      obtain ⟨v, e2, b2, b3⟩ := shC_int Tryd.underlying2 h2
      simp at e1 e2
      subst e1; subst e2
      exact ⟨(nm, v), rfl, b1, b2, b3⟩)
  exact ⟨l, rfl, by simpa using b, hl⟩
end Go.Proofs.YthekpjhffciakaaDoor
