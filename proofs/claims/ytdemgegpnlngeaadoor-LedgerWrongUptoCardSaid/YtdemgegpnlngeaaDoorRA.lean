import Derived.Test.YtdemgegpnlngeaaDoorRB
import Derived.Test.YtdemgegpnlngeaaDoorR6
import Derived.Test.YtdemgegpnlngeaaDoorPure23
namespace Go.Proofs.YtdemgegpnlngeaaDoor
open Go PG Go.Proofs
set_option linter.unusedSimpArgs false
set_option linter.unusedVariables false
set_option maxRecDepth 100000
abbrev Qb : Nat → Prop := fun n => n ≤ 1048576
theorem read_ent {n : Nat} {x : PV} (hx : fits (some 4) x) (h : ShZ Tryd.prog Qb (n + 2) 26 x.cells) : ∃ e : Ent4, x = entP e ∧ entSz e := by
  obtain ⟨cs, rfl, -, hl⟩ := fits_cells hx
  obtain ⟨-, hf⟩ := shZ_struct Tryd.underlying26 h
  have c23 : Tryd.prog.cellsOf 23 = 1 := by kernel_rfl
  have c24 : Tryd.prog.cellsOf 24 = 1 := by kernel_rfl
  have c9 : Tryd.prog.cellsOf 9 = 1 := by kernel_rfl
  simp only [List.mem_cons, List.not_mem_nil, or_false, forall_eq_or_imp, forall_eq, c23, c24, c9, PV.cells] at hf
  match cs, hl with
  | [a, b, c, d], _ =>
    obtain ⟨h1, h2, h3, h4⟩ := hf
    obtain ⟨s1, e1, b1⟩ := shZ_str Tryd.underlying23 h1
    obtain ⟨s2, e2, b2⟩ := shZ_str Tryd.underlying23 h2
    obtain ⟨m, e3, -, -⟩ := shZ_int Tryd.underlying24 h3
    obtain ⟨s4, e4, b4⟩ := shZ_str Tryd.underlying9 h4
    simp at e1 e2 e3 e4
    subst e1; subst e2; subst e3; subst e4
    exact ⟨⟨s1, s2, m, s4⟩, rfl, b1, b2, b4⟩
theorem read_entsZ {n : Nat} {p : PV} (h : ShZ Tryd.prog Qb (n + 3) 22 [p]) : ∃ es : List Ent4, p = entL es ∧ es.length ≤ 1048576 ∧ ∀ e ∈ es, entSz e := by
  obtain ⟨sh, xs, hs, e, b, hx⟩ := shZ_slice Tryd.underlying22 h
  have hsh : shOf Tryd.prog 26 = some (some 4) := by kernel_rfl
  obtain rfl := Option.some.inj (hsh.symm.trans hs)
  simp at e
  subst e
  obtain ⟨l, rfl, hl⟩ := list_of entP entSz (xs := xs) (fun x hx' => read_ent (hx x hx').1 (hx x hx').2)
  exact ⟨l, rfl, by simpa using b, hl⟩
theorem shB_cell {n : Nat} {t e : TypeId} {p : PV} (hu : Tryd.prog.underlying t = some (.slice e)) (h : ShB Tryd.prog Qb n t p) : ShZ Tryd.prog Qb n t [p] := by
  unfold ShB at h; rw [hu] at h; exact h
theorem read_ents {n : Nat} {p : PV} (h : ShB Tryd.prog Qb (n + 3) 22 p) : ∃ es : List Ent4, p = entL es ∧ es.length ≤ 1048576 ∧ ∀ e ∈ es, entSz e := read_entsZ (shB_cell Tryd.underlying22 h)
def batP (l : List (List Ent4)) : PV := .list none (l.map entL)
def batSz (l : List (List Ent4)) : Prop := ∀ es ∈ l, es.length ≤ 1048576 ∧ ∀ e ∈ es, entSz e
theorem read_batches {n : Nat} {p : PV} (h : ShB Tryd.prog Qb (n + 4) 28 p) : ∃ l : List (List Ent4), p = batP l ∧ l.length ≤ 1048576 ∧ batSz l := by
  obtain ⟨sh, xs, hs, rfl, b, hx⟩ := shB_slice Tryd.underlying28 h
  have hsh : shOf Tryd.prog 22 = some none := by kernel_rfl
  obtain rfl := Option.some.inj (hsh.symm.trans hs)
  obtain ⟨l, rfl, hl⟩ := list_of entL (fun es => es.length ≤ 1048576 ∧ ∀ e ∈ es, entSz e) (xs := xs) (fun x hx' => by
    obtain ⟨f1, f2⟩ := hx x hx'
    rw [fits_cells f1] at f2
    exact read_entsZ f2)
  exact ⟨l, rfl, by simpa using b, hl⟩
structure Off where
  code : List UInt8
  accs : List (List UInt8)
def offP (o : Off) : PV := .agg [.str o.code, .list none (o.accs.map .str)]
def offSz (o : Off) : Prop := o.code.length ≤ 1048576 ∧ o.accs.length ≤ 1048576 ∧ ∀ a ∈ o.accs, a.length ≤ 1048576
theorem read_offZ {n : Nat} {cs : List PV} (h : ShZ Tryd.prog Qb (n + 3) 45 cs) : ∃ o : Off, .agg cs = offP o ∧ offSz o := by
  obtain ⟨hl, hf⟩ := shZ_struct Tryd.underlying45 h
  have c45 : Tryd.prog.cellsOf 45 = 2 := by kernel_rfl
  have c9 : Tryd.prog.cellsOf 9 = 1 := by kernel_rfl
  have c43 : Tryd.prog.cellsOf 43 = 1 := by kernel_rfl
  rw [c45] at hl
  simp only [List.mem_cons, List.not_mem_nil, or_false, forall_eq_or_imp, forall_eq, c9, c43, PV.cells] at hf
  match cs, hl with
  | [a, b], _ =>
    obtain ⟨h1, h2⟩ := hf
    obtain ⟨s, e1, b1⟩ := shZ_str Tryd.underlying9 h1
    obtain ⟨sh, xs, hs, e2, b2, hx⟩ := shZ_slice Tryd.underlying43 h2
    have hsh : shOf Tryd.prog 23 = some none := by kernel_rfl
    obtain rfl := Option.some.inj (hsh.symm.trans hs)
    simp at e1 e2
    subst e1; subst e2
    obtain ⟨l, rfl, hl⟩ := list_of PV.str (fun s => s.length ≤ 1048576) (xs := xs) (fun x hx' => by
      obtain ⟨f1, f2⟩ := hx x hx'
      rw [fits_cells f1] at f2
      obtain ⟨s, e, b⟩ := shZ_str Tryd.underlying23 f2
      cases e; exact ⟨s, rfl, b⟩)
    exact ⟨⟨s, l⟩, rfl, b1, by simpa using b2, hl⟩
theorem read_off {n : Nat} {p : PV} (h : ShB Tryd.prog Qb (n + 3) 45 p) : ∃ o : Off, p = offP o ∧ offSz o := by
  obtain ⟨cs, rfl, h'⟩ := shB_struct Tryd.underlying45 h
  exact read_offZ h'
theorem read_offs {n : Nat} {p : PV} (h : ShB Tryd.prog Qb (n + 4) 51 p) : ∃ l : List Off, p = .list (some 2) (l.map offP) ∧ l.length ≤ 1048576 ∧ ∀ o ∈ l, offSz o := by
  obtain ⟨sh, xs, hs, rfl, b, hx⟩ := shB_slice Tryd.underlying51 h
  have hsh : shOf Tryd.prog 45 = some (some 2) := by kernel_rfl
  obtain rfl := Option.some.inj (hsh.symm.trans hs)
  obtain ⟨l, rfl, hl⟩ := list_of offP offSz (xs := xs) (fun x hx' => by
    obtain ⟨f1, f2⟩ := hx x hx'
    obtain ⟨cs, rfl, e, -⟩ := fits_cells f1
    exact read_offZ f2)
  exact ⟨l, rfl, by simpa using b, hl⟩
end Go.Proofs.YtdemgegpnlngeaaDoor
