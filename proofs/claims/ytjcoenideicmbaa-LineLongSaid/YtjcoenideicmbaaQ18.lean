import Derived.Test.YtjcoenideicmbaaRows
import Derived.Test.YtjcoenideicmbaaQ13
namespace Go.Proofs.Ytjcoenideicmbaa
open Go PG Go.Proofs
set_option linter.unusedSimpArgs false
set_option linter.unusedVariables false
set_option maxRecDepth 100000
theorem own1 : ownKnob Try.prog.godebug = none := by kernel_rfl
theorem laidOut : laidOutB Try.prog = true := by kernel_rfl
theorem shAs2 {P : Program} {n : Nat} {a b : TypeId} {ps : List PV} (h : ShAs P n [a, b] ps) : ∃ p q, ps = [p, q] ∧ ShA P n a p ∧ ShA P n b q := by
  match ps, h with
  | [p, q], h => exact ⟨p, q, rfl, h.1, h.2.1⟩
theorem en_of {n : Nat} {cs : List PV} (hl : cs.length = 5) (h : ShC Try.prog (n + 2) 50 cs) : ∃ e : En, .agg cs = enP e := by
  obtain ⟨-, hf⟩ := shC_struct Try.underlying50 h
  have c3 : Try.prog.cellsOf 3 = 1 := by kernel_rfl
  have c25 : Try.prog.cellsOf 25 = 1 := by kernel_rfl
  have c2 : Try.prog.cellsOf 2 = 1 := by kernel_rfl
  have c9 : Try.prog.cellsOf 9 = 1 := by kernel_rfl
  simp only [List.mem_cons, List.not_mem_nil, or_false, forall_eq_or_imp, forall_eq, c3, c25, c2, c9] at hf
  match cs, hl with
  | [a, b, c, d, e], _ =>
    obtain ⟨h1, h2, h3, h4, h5⟩ := hf
    obtain ⟨m1, e1, -, -⟩ := shC_int Try.underlying3 h1
    obtain ⟨m2, e2, -, -⟩ := shC_int Try.underlying25 h2
    obtain ⟨m3, e3, -, -⟩ := shC_int Try.underlying25 h3
    obtain ⟨m4, e4, -, -⟩ := shC_int Try.underlying2 h4
    obtain ⟨s5, e5, -⟩ := shC_str Try.underlying9 h5
    simp at e1 e2 e3 e4 e5
    subst e1; subst e2; subst e3; subst e4; subst e5
    exact ⟨⟨m1, m2, m3, m4, s5⟩, rfl⟩
theorem read_en {n : Nat} {x : PV} (hx : fits (some 5) x) (h : ShC Try.prog (n + 2) 50 x.cells) : ∃ e : En, x = enP e ∧ True := by
  obtain ⟨cs, rfl, -, hl⟩ := fits_cells hx
  obtain ⟨e, he⟩ := en_of hl h
  exact ⟨e, he, trivial⟩
theorem read_ens {n : Nat} {p : PV} (h : ShA Try.prog (n + 3) 22 p) : ∃ l : List En, p = enL l ∧ l.length ≤ 9223372036854775807 := by
  obtain ⟨sh, xs, hs, rfl, b, hx⟩ := shA_slice Try.underlying22 h
  have hsh : shOf Try.prog 50 = some (some 5) := by kernel_rfl
  obtain rfl := Option.some.inj (hsh.symm.trans hs)
  obtain ⟨l, rfl, -⟩ := list_of enP (fun _ => True) (xs := xs) (fun x hx' => read_en (hx x hx').1 (hx x hx').2)
  exact ⟨l, rfl, by simpa using b⟩
theorem read_span {n : Nat} {p : PV} (h : ShA Try.prog (n + 2) 27 p) : ∃ x y : Int, p = .agg [.int .i64 x, .int .i64 y] ∧ -9223372036854775808 ≤ x ∧ y ≤ 9223372036854775807 := by
  obtain ⟨ps, rfl, h'⟩ := shA_struct Try.underlying27 h
  obtain ⟨hl, hf⟩ := shC_struct Try.underlying27 h'
  have c25 : Try.prog.cellsOf 25 = 1 := by kernel_rfl
  have c27 : Try.prog.cellsOf 27 = 2 := by kernel_rfl
  rw [c27] at hl
  simp only [List.mem_cons, List.not_mem_nil, or_false, forall_eq_or_imp, forall_eq, c25] at hf
  match ps, hl with
  | [a, b], _ =>
    obtain ⟨h1, h2⟩ := hf
    obtain ⟨m1, e1, l1, -⟩ := shC_int (k := .i64) Try.underlying25 h1
    obtain ⟨m2, e2, -, l2⟩ := shC_int (k := .i64) Try.underlying25 h2
    simp at e1 e2
    subst e1; subst e2
    exact ⟨m1, m2, rfl, l1, l2⟩
end Go.Proofs.Ytjcoenideicmbaa

