/-
  The pure layer: what is read of arguments, type by type.
-/
import Derived.Test.YtdemgegpnlngeaaDoorPure22
namespace PG
open Go
set_option linter.unusedSimpArgs false
set_option linter.unusedVariables false
variable {P : Program} {n : Nat} {t : TypeId} {ps : List PV}
theorem shC_int {k : IntKind} (hu : P.underlying t = some (.int k)) (h : ShC P (n + 1) t ps) : ∃ m, ps = [.int k m] ∧ k.min ≤ m ∧ m ≤ k.max := by
  unfold ShC at h; rw [hu] at h
  obtain ⟨m, h1, h2⟩ := h
  simp only [Lit.wf, Bool.and_eq_true, decide_eq_true_eq] at h2
  exact ⟨m, h1, h2⟩
theorem shC_str (hu : P.underlying t = some .string) (h : ShC P (n + 1) t ps) : ∃ l, ps = [.str l] ∧ l.length ≤ 9223372036854775807 := by
  unfold ShC at h; rw [hu] at h
  exact h
theorem shC_bool (hu : P.underlying t = some .bool) (h : ShC P (n + 1) t ps) : ∃ b, ps = [.bool b] := by
  unfold ShC at h; rw [hu] at h
  exact h
theorem shC_slice {e : TypeId} (hu : P.underlying t = some (.slice e)) (h : ShC P (n + 1) t ps) : ∃ sh xs, shOf P e = some sh ∧ ps = [.list sh xs] ∧ xs.length ≤ 9223372036854775807 ∧ ∀ x ∈ xs, fits sh x ∧ ShC P n e x.cells := by
  unfold ShC at h; rw [hu] at h
  exact h
theorem shC_struct {fs : Array Field} (hu : P.underlying t = some (.struct fs)) (h : ShC P (n + 1) t ps) : ps.length = P.cellsOf t ∧ ∀ f ∈ fs.toList, ShC P n f.type ((ps.drop f.offset).take (P.cellsOf f.type)) := by
  unfold ShC at h; rw [hu] at h
  exact h
theorem shA_struct {fs : Array Field} {p : PV} (hu : P.underlying t = some (.struct fs)) (h : ShA P n t p) : ∃ ps, p = .agg ps ∧ ShC P n t ps := by
  unfold ShA at h; rw [hu] at h; exact h
theorem shA_slice {e : TypeId} {p : PV} (hu : P.underlying t = some (.slice e)) (h : ShA P (n + 1) t p) : ∃ sh xs, shOf P e = some sh ∧ p = .list sh xs ∧ xs.length ≤ 9223372036854775807 ∧ ∀ x ∈ xs, fits sh x ∧ ShC P n e x.cells := by
  unfold ShA at h; rw [hu] at h
  obtain ⟨sh, xs, h1, h2, h3⟩ := shC_slice hu h
  cases h2
  exact ⟨sh, xs, h1, rfl, h3⟩
theorem list_of {α : Type} (f : α → PV) (Q : α → Prop) : ∀ {xs : List PV}, (∀ x ∈ xs, ∃ a, x = f a ∧ Q a) → ∃ l : List α, xs = l.map f ∧ ∀ a ∈ l, Q a
  | [], _ => ⟨[], rfl, by simp⟩
  | x :: xs, h => by
    obtain ⟨a, rfl, ha⟩ := h x (by simp)
    obtain ⟨l, rfl, hl⟩ := list_of f Q (xs := xs) (fun y hy => h y (by simp [hy]))
    exact ⟨a :: l, rfl, by simpa using ⟨ha, hl⟩⟩
theorem fits_cells {sh : Sh} {x : PV} (h : fits sh x) : match sh with
    | none => x.cells = [x]
    | some n => ∃ cs, x = .agg cs ∧ x.cells = cs ∧ cs.length = n := by
  cases sh with
  | none =>
    have h' : x.scalar = true := h
    cases x <;> first | rfl | (simp [PV.scalar] at h')
  | some n => obtain ⟨cs, rfl, h, _⟩ := h; exact ⟨cs, rfl, rfl, h⟩
end PG
