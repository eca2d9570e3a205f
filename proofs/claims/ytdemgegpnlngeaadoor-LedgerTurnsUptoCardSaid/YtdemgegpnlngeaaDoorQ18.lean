import Derived.Test.YtdemgegpnlngeaaDoorQ13
import Derived.Test.YtdemgegpnlngeaaDoorQ15
namespace Go.Proofs.YtdemgegpnlngeaaDoor
open Go PG Go.Proofs
set_option linter.unusedSimpArgs false
set_option linter.unusedVariables false
set_option maxRecDepth 100000
theorem read_act {n : Nat} {x : PV} (hx : fits (some 3) x) (h : ShZ Tryd.prog Qb (n + 4) 79 x.cells) : ∃ a : Act3, x = actP a ∧ actSz a := by
  obtain ⟨cs, rfl, -, hl⟩ := fits_cells hx
  obtain ⟨-, hf⟩ := shZ_struct Tryd.underlying79 h
  have c4 : Tryd.prog.cellsOf 4 = 1 := by kernel_rfl
  have c3 : Tryd.prog.cellsOf 3 = 1 := by kernel_rfl
  have c22 : Tryd.prog.cellsOf 22 = 1 := by kernel_rfl
  simp only [List.mem_cons, List.not_mem_nil, or_false, forall_eq_or_imp, forall_eq, c4, c3, c22, PV.cells] at hf
  match cs, hl with
  | [a, b, c], _ =>
    obtain ⟨h1, h2, h3⟩ := hf
    obtain ⟨s1, e1⟩ := shZ_bool Tryd.underlying4 h1
    obtain ⟨m, e2, i1, i2⟩ := shZ_int Tryd.underlying3 h2
    obtain ⟨es, e3, b1, b2⟩ := read_entsZ (n := n) h3

    simp at e1 e2 e3
    subst e1; subst e2; subst e3
    exact ⟨⟨s1, m, es⟩, rfl, ⟨i1, i2⟩, b1, b2⟩
theorem read_acts {n : Nat} {p : PV} (h : ShB Tryd.prog Qb (n + 5) 76 p) : ∃ xs : List Act3, p = actL xs ∧ xs.length ≤ 1048576 ∧ ∀ a ∈ xs, actSz a := by
  obtain ⟨sh, xs, hs, e, b, hx⟩ := shB_slice Tryd.underlying76 h
  have hsh : shOf Tryd.prog 79 = some (some 3) := by kernel_rfl
  obtain rfl := Option.some.inj (hsh.symm.trans hs)
  subst e
  obtain ⟨l, rfl, hl⟩ := list_of actP actSz (xs := xs) (fun x hx' => read_act (hx x hx').1 (hx x hx').2)
  exact ⟨l, rfl, by simpa using b, hl⟩
end Go.Proofs.YtdemgegpnlngeaaDoor

