import Derived.Test.YthekpjhffciakaaDoorQ14
import Derived.Test.YthekpjhffciakaaDoorQ7
import Derived.Test.YthekpjhffciakaaDoorQ9
import Derived.Test.YthekpjhffciakaaDoorP4
import Derived.Test.YthekpjhffciakaaDoorQ13
namespace Go.Proofs.YthekpjhffciakaaDoor
open Go PG Go.Proofs
set_option linter.unusedSimpArgs false
set_option linter.unusedVariables false
set_option maxRecDepth 100000
theorem read_node {n : Nat} {x : PV} (hx : fits (some 4) x) (h : ShC Tryd.prog (n + 3) 37 x.cells) : ∃ a : Nd, x = ndP a ∧ (a.name.length ≤ 9223372036854775807 ∧ a.kids.length ≤ 9223372036854775807) ∧ (-9223372036854775808 ≤ a.num ∧ a.num ≤ 9223372036854775807) := by
  obtain ⟨cs, rfl, -, hl⟩ := fits_cells hx
  obtain ⟨-, hf⟩ := shC_struct Tryd.underlying37 h
  have c3 : Tryd.prog.cellsOf 3 = 1 := by kernel_rfl
  have c2 : Tryd.prog.cellsOf 2 = 1 := by kernel_rfl
  have c9 : Tryd.prog.cellsOf 9 = 1 := by kernel_rfl
  have c35 : Tryd.prog.cellsOf 35 = 1 := by kernel_rfl
  simp only [List.mem_cons, List.not_mem_nil, or_false, forall_eq_or_imp, forall_eq, c3, c2, c9, c35, PV.cells] at hf
  match cs, hl with
  | [a, b, c, d], _ =>
    obtain ⟨h1, h2, h3, h4⟩ := hf
    obtain ⟨op, e1, -, -⟩ := shC_int Tryd.underlying3 h1
    obtain ⟨num, e2, b1, b2⟩ := shC_int Tryd.underlying2 h2
    obtain ⟨nm, e3, b3⟩ := shC_str Tryd.underlying9 h3
    obtain ⟨sh, xs, hs, e4, b4, h5⟩ := shC_slice Tryd.underlying35 h4
    have hsh : shOf Tryd.prog 3 = some none := by kernel_rfl
    obtain rfl := Option.some.inj (hsh.symm.trans hs)
    obtain ⟨ks, hks, -⟩ := list_of (PV.int .i64) (fun _ => True) (xs := xs) (fun x hx => by
      obtain ⟨f1, f2⟩ := h5 x hx
      obtain ⟨m, e, -, -⟩ := shC_int Tryd.underlying3 f2
      rw [fits_cells f1] at e
      cases e; exact ⟨m, rfl, trivial⟩)
    subst hks
    simp at e1 e2 e3 e4
    subst e1; subst e2; subst e3; subst e4
    exact ⟨⟨op, num, nm, ks⟩, rfl, ⟨b3, by simpa using b4⟩, b1, b2⟩
end Go.Proofs.YthekpjhffciakaaDoor

namespace Go.Proofs.YthekpjhffciakaaDoor
open Go PG Go.Proofs
set_option linter.unusedSimpArgs false
set_option linter.unusedVariables false
set_option maxRecDepth 100000
abbrev laidK : List (String × DataW Unit) := [("wagebook/expr.kidsOf", Rows.laid_wagebook_expr_kidsOf)]
theorem globsK {W : World} (h : laidMetH Tryd.prog laidK W) : GlobsIn W (fun _ => False) GK := by
  rw [MakeChecks.laidMetH_plain _ _ _ (by kernel_rfl)] at h
  obtain ⟨ps, h, _, _⟩ := h
  have h0 : (Rows.laid_wagebook_expr_kidsOf : DataW Unit) = .agg ((kidsTab.map (PV.int .i64)).map datOf) := rfl
  unfold laidK at h
  rw [h0] at h
  have hK := tab_rep gKids (t := 136) (e := 3) (n := 10) (by kernel_rfl) (by kernel_rfl) (.inl ⟨.i64, Tryd.underlying3⟩) (by kernel_rfl) (by kernel_rfl) (by decide) (by decide) h
  intro g sh x hg
  unfold GK at hg
  split at hg
  · rename_i e
    subst e
    simp only [Option.some.injEq, Prod.mk.injEq] at hg
    obtain ⟨rfl, rfl⟩ := hg
    exact hK
  · cases hg
theorem door_metK (os : Os) (args : Array Value) : laidMetH Tryd.prog laidK ((World.doorLaid Tryd.prog 400 os).forCall (fun _ _ => 0) ⟨#[], args, []⟩).memory :=
  laidMetH_of_parts3 (fuel := 8) (laidMet_of_run' 8 (by kernel_rfl) (by kernel_rfl)) (by kernel_rfl) (by kernel_rfl)
end Go.Proofs.YthekpjhffciakaaDoor

namespace Go.Proofs.YthekpjhffciakaaDoor
open Go PG Go.Proofs
set_option linter.unusedSimpArgs false
set_option linter.unusedVariables false
set_option maxRecDepth 100000
theorem read_u8 {n : Nat} {p : PV} (h : ShA Tryd.prog (n + 1) 5 p) : ∃ x : Nat, p = .int .u8 x ∧ x ≤ 255 := by
  obtain ⟨m, e1, h1, h2⟩ := shC_int (P := Tryd.prog) (n := n) (k := .u8) Tryd.underlying5 (by unfold ShA at h; rw [Tryd.underlying5] at h; exact h)
  cases e1
  have h1 : 0 ≤ m := h1
  have h2 : m ≤ 255 := h2
  exact ⟨m.toNat, by rw [Int.toNat_of_nonneg h1], by omega⟩
theorem read_pairs {n : Nat} {p : PV} (h : ShA Tryd.prog (n + 4) 25 p) : ∃ l : List Pr, p = .list (some 2) (l.map prP) ∧ l.length ≤ 9223372036854775807 := by
  obtain ⟨sh, xs, hs, rfl, b, hx⟩ := shA_slice Tryd.underlying25 h
  have hsh : shOf Tryd.prog 41 = some (some 2) := by kernel_rfl
  obtain rfl := Option.some.inj (hsh.symm.trans hs)
  obtain ⟨l, rfl, hl⟩ := list_of prP (fun _ => True) (xs := xs) (fun x hx' => by
    obtain ⟨f1, f2⟩ := hx x hx'
    obtain ⟨cs, rfl, -, hl⟩ := fits_cells f1
    obtain ⟨-, hf⟩ := shC_struct Tryd.underlying41 f2
    have c2 : Tryd.prog.cellsOf 2 = 1 := by kernel_rfl
    have c9 : Tryd.prog.cellsOf 9 = 1 := by kernel_rfl
    simp only [List.mem_cons, List.not_mem_nil, or_false, forall_eq_or_imp, forall_eq, c2, c9, PV.cells] at hf
    match cs, hl with
    | [a, b], _ =>
      obtain ⟨h1, h2⟩ := hf
      obtain ⟨nm, e1, b1⟩ := shC_str Tryd.underlying9 h1
      obtain ⟨v, e2, b2, b3⟩ := shC_int Tryd.underlying2 h2
      simp at e1 e2
      subst e1; subst e2
      exact ⟨(nm, v), rfl, trivial⟩)
  exact ⟨l, rfl, by simpa using b⟩
theorem rl_cellsF {n : Nat} {x : PV} (hx : fits (some 2) x) (h : ShC Tryd.prog (n + 6) 71 x.cells) : ∃ r : Rl, x = rlP r ∧ RlF r := by
  obtain ⟨cs, rfl, -, hl⟩ := fits_cells hx
  obtain ⟨-, hf⟩ := shC_struct Tryd.underlying71 h
  have c9 : Tryd.prog.cellsOf 9 = 1 := by kernel_rfl
  have c24 : Tryd.prog.cellsOf 24 = 1 := by kernel_rfl
  have c22 : Tryd.prog.cellsOf 22 = 1 := by kernel_rfl
  simp only [List.mem_cons, List.not_mem_nil, or_false, forall_eq_or_imp, forall_eq, c9, c24, PV.cells] at hf
  match cs, hl with
  | [a, b], _ =>
    obtain ⟨h1, h2⟩ := hf
    obtain ⟨s, e1, b1⟩ := shC_str Tryd.underlying9 h1
    simp at e1 h2
    obtain ⟨-, hf2⟩ := shC_struct Tryd.underlying24 h2
    simp only [List.mem_cons, List.not_mem_nil, or_false, forall_eq, c22] at hf2
    obtain ⟨sh, xs, hs, e2, b2, hx2⟩ := shC_slice Tryd.underlying22 hf2
    have hsh : shOf Tryd.prog 37 = some (some 4) := by kernel_rfl
    obtain rfl := Option.some.inj (hsh.symm.trans hs)
    simp at e2
    subst e1; subst e2
    obtain ⟨t, rfl, ht⟩ := list_of ndP (fun a => (a.name.length ≤ 9223372036854775807 ∧ a.kids.length ≤ 9223372036854775807) ∧ (-9223372036854775808 ≤ a.num ∧ a.num ≤ 9223372036854775807)) (xs := xs) (fun x hx' => by
      obtain ⟨f1, f2⟩ := hx2 x hx'
      exact read_node f1 f2)
    exact ⟨⟨s, t⟩, rfl, by simpa using b2, fun m hm => (ht m hm).1, b1⟩
theorem read_rlsF {n : Nat} {p : PV} (h : ShA Tryd.prog (n + 7) 69 p) : ∃ l : List Rl, p = rlsP l ∧ (∀ r ∈ l, RlF r) ∧ l.length ≤ 9223372036854775807 := by
  obtain ⟨sh, xs, hs, rfl, b, hx⟩ := shA_slice Tryd.underlying69 h
  have hsh : shOf Tryd.prog 71 = some (some 2) := by kernel_rfl
  obtain rfl := Option.some.inj (hsh.symm.trans hs)
  obtain ⟨l, rfl, hl⟩ := list_of rlP RlF (xs := xs) (fun x hx' => by
    obtain ⟨f1, f2⟩ := hx x hx'
    exact rl_cellsF f1 f2)
  exact ⟨l, rfl, hl, by simpa using b⟩
end Go.Proofs.YthekpjhffciakaaDoor

