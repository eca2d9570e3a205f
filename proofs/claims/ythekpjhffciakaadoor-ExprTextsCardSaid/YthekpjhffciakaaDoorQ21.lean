import Derived.Test.YthekpjhffciakaaDoorRows
import Derived.LaidMore
import Derived.Stop.Joined
import Derived.Test.YthekpjhffciakaaDoorQ11
namespace Go.Proofs.YthekpjhffciakaaDoor
open Go PG Go.Proofs
set_option linter.unusedSimpArgs false
set_option linter.unusedVariables false
set_option maxRecDepth 100000
theorem own : ownKnob Tryd.prog.godebug = none := by kernel_rfl
theorem laidOut : laidOutB Tryd.prog = true := by kernel_rfl
theorem gKids : Tryd.prog.globalNamed "wagebook/expr.kidsOf" = some 1 := by kernel_rfl
theorem gWords : Tryd.prog.globalNamed "wagebook/expr.words" = some 0 := by kernel_rfl
abbrev laid1 : List (String × DataW Unit) := [("wagebook/expr.kidsOf", Rows.laid_wagebook_expr_kidsOf), ("wagebook/expr.words", Rows.laid_wagebook_expr_words)]
theorem globs0 {W : World} (h : laidMetH Tryd.prog laid1 W) : GlobsIn W (fun _ => False) G0 := by
  rw [MakeChecks.laidMetH_plain _ _ _ (by kernel_rfl)] at h
  obtain ⟨ps, h, _, _⟩ := h
  have h0 : (Rows.laid_wagebook_expr_kidsOf : DataW Unit) = .agg ((kidsTab.map (PV.int .i64)).map datOf) := rfl
  have h1 : (Rows.laid_wagebook_expr_words : DataW Unit) = .agg (wordsP.cells.map datOf) := rfl
  unfold laid1 at h
  have hk := h
  rw [h0] at hk
  have hK := tab_rep gKids (t := 136) (e := 3) (n := 10) (by kernel_rfl) (by kernel_rfl) (.inl ⟨.i64, Tryd.underlying3⟩) (by kernel_rfl) (by kernel_rfl) (by decide) (by decide) hk
  obtain ⟨g', t', cs, fuel, p, q, hg', ht', hvar, hd, hrest, hrest2⟩ := h
  have hw : ∃ qs, DataW.LaidVars Tryd.prog W [("wagebook/expr.words", Rows.laid_wagebook_expr_words)] qs := ⟨_, by first | exact hrest | exact hrest2 | exact hrest.1 | exact hrest2.1⟩
  obtain ⟨qs, hw⟩ := hw
  rw [h1] at hw
  have hW := tab_rep gWords (t := 111) (e := 9) (n := 10) (by kernel_rfl) (by kernel_rfl) (.inr Tryd.underlying9) (by kernel_rfl) (by kernel_rfl) (by decide) (by decide) hw
  intro g sh x hg
  unfold G0 at hg
  split at hg
  · rename_i e
    subst e
    simp only [Option.some.injEq, Prod.mk.injEq] at hg
    obtain ⟨rfl, rfl⟩ := hg
    exact hW
  · split at hg
    · rename_i e
      subst e
      simp only [Option.some.injEq, Prod.mk.injEq] at hg
      obtain ⟨rfl, rfl⟩ := hg
      exact hK
    · cases hg
theorem door_met1 (os : Os) (args : Array Value) : laidMetH Tryd.prog laid1 ((World.doorLaid Tryd.prog 400 os).forCall (fun _ _ => 0) ⟨#[], args, []⟩).memory :=
  laidMetH_of_parts3 (fuel := 8) (laidMet_of_run' 8 (by kernel_rfl) (by kernel_rfl)) (by kernel_rfl) (by kernel_rfl)
end Go.Proofs.YthekpjhffciakaaDoor

namespace Go.Proofs.YthekpjhffciakaaDoor
open Go PG Go.Proofs
set_option linter.unusedSimpArgs false
set_option linter.unusedVariables false
set_option maxRecDepth 100000
theorem read_node {n : Nat} {x : PV} (hx : fits (some 4) x) (h : ShC Tryd.prog (n + 3) 37 x.cells) : ∃ a : Nd, x = ndP a ∧ (a.name.length ≤ 9223372036854775807 ∧ a.kids.length ≤ 9223372036854775807) ∧ (-9223372036854775808 ≤ a.num ∧ a.num ≤ 9223372036854775807) := by
  obtain ⟨cs, rfl, -, hl⟩ := fits_cells hx
  obtain ⟨-, hf⟩ := shC_struct Tryd.underlying37 h
  have c3 : Tryd.prog.cellsOf 3 = 1 := by kernel_rfl
  have c2 : Tryd.prog.cellsOf 2 = 1 := by kernel_rfl
  have c9 : Tryd.prog.cellsOf 9 = 1 := by kernel_rfl
  have c35 : Tryd.prog.cellsOf 35 = 1 := by kernel_rfl
  simp only [List.mem_cons, List.not_mem_nil, or_false, forall_eq_or_imp, forall_eq, c3, c2, c9, c35, PV.cells] at hf
  match cs, hl with
  | [a, b, c, d], _ =>
    obtain ⟨h1, h2, h3, h4⟩ := hf
    obtain ⟨op, e1, -, -⟩ := shC_int Tryd.underlying3 h1
    obtain ⟨num, e2, b1, b2⟩ := shC_int Tryd.underlying2 h2
    obtain ⟨nm, e3, b3⟩ := shC_str Tryd.underlying9 h3
    obtain ⟨sh, xs, hs, e4, b4, h5⟩ := shC_slice Tryd.underlying35 h4
    have hsh : shOf Tryd.prog 3 = some none := by kernel_rfl
    obtain rfl := Option.some.inj (hsh.symm.trans hs)
    obtain ⟨ks, hks, -⟩ := list_of (PV.int .i64) (fun _ => True) (xs := xs) (fun x hx => by
      obtain ⟨f1, f2⟩ := h5 x hx
      obtain ⟨m, e, -, -⟩ := shC_int Tryd.underlying3 f2
      rw [fits_cells f1] at e
      cases e; exact ⟨m, rfl, trivial⟩)
    subst hks
    simp at e1 e2 e3 e4
    subst e1; subst e2; subst e3; subst e4
    exact ⟨⟨op, num, nm, ks⟩, rfl, ⟨b3, by simpa using b4⟩, b1, b2⟩
theorem read_tree {n : Nat} {p : PV} (h : ShA Tryd.prog (n + 5) 24 p) : ∃ t : List Nd, p = treeP t ∧ t.length ≤ 9223372036854775807 ∧ (∀ a ∈ t, a.name.length ≤ 9223372036854775807 ∧ a.kids.length ≤ 9223372036854775807) ∧ (∀ a ∈ t, -9223372036854775808 ≤ a.num ∧ a.num ≤ 9223372036854775807) := by
  obtain ⟨ps, rfl, h'⟩ := shA_struct Tryd.underlying24 h
  obtain ⟨hl, hf⟩ := shC_struct Tryd.underlying24 h'
  have c24 : Tryd.prog.cellsOf 24 = 1 := by kernel_rfl
  have c22 : Tryd.prog.cellsOf 22 = 1 := by kernel_rfl
  rw [c24] at hl
  simp only [List.mem_cons, List.not_mem_nil, or_false, forall_eq, c22] at hf
  match ps, hl with
  | [a], _ =>
    obtain ⟨sh, xs, hs, e, b, hx⟩ := shC_slice Tryd.underlying22 hf
    have hsh : shOf Tryd.prog 37 = some (some 4) := by kernel_rfl
    obtain rfl := Option.some.inj (hsh.symm.trans hs)
    simp at e
    subst e
    obtain ⟨t, rfl, ht⟩ := list_of ndP (fun a => (a.name.length ≤ 9223372036854775807 ∧ a.kids.length ≤ 9223372036854775807) ∧ (-9223372036854775808 ≤ a.num ∧ a.num ≤ 9223372036854775807)) (xs := xs) (fun x hx' => by
      obtain ⟨f1, f2⟩ := hx x hx'
      exact read_node f1 f2)
    exact ⟨t, rfl, by simpa using b, fun a ha => (ht a ha).1, fun a ha => (ht a ha).2⟩
end Go.Proofs.YthekpjhffciakaaDoor

