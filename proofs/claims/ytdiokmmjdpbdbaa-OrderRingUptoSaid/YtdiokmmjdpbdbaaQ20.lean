import Derived.Test.YtdiokmmjdpbdbaaRows
import Derived.Test.YtdiokmmjdpbdbaaQ7
import Derived.Test.YtdiokmmjdpbdbaaP4
namespace Go.Proofs.Ytdiokmmjdpbdbaa
open Go PG Go.Proofs
set_option linter.unusedSimpArgs false
set_option linter.unusedVariables false
set_option maxRecDepth 100000
theorem ownB : ownKnob Try.prog.godebug = none := by kernel_rfl
theorem laidB : laidOutB Try.prog = true := by kernel_rfl
theorem globsB (w : World) (ex : Nat → Prop) : GlobsIn w ex G0 := by intro g sh x h; cases h
theorem bulk_part {H : Type} {d : DataW H} : ∀ {l : List (DataW H)}, d ∈ l → Rows.uptoBulk d ≤ Rows.uptoBulkAll l
  | [], h => by cases h
  | x :: r, h => by
    simp only [Rows.uptoBulkAll]
    cases List.mem_cons.1 h with
    | inl e => subst e; omega
    | inr e => have := bulk_part e; omega
theorem bulk_one {H : Type} (d : DataW H) : 1 ≤ Rows.uptoBulk d := by
  cases d with
  | lit l => cases l <;> simp [Rows.uptoBulk]
  | nil => simp [Rows.uptoBulk]
  | ptr d => simp [Rows.uptoBulk]
  | slice elems spare => simp [Rows.uptoBulk]
  | agg parts => simp [Rows.uptoBulk]
  | iface t d => simp [Rows.uptoBulk]
  | map entries => simp [Rows.uptoBulk]
  | held h => simp [Rows.uptoBulk]
theorem bulk_len {H : Type} : ∀ l : List (DataW H), l.length ≤ Rows.uptoBulkAll l
  | [] => by simp [Rows.uptoBulkAll]
  | x :: r => by have := bulk_one x; have := bulk_len r; simp only [Rows.uptoBulkAll, List.length_cons]; omega
theorem szOk {H : Type} : SzOk (H := H) (fun n => n ≤ 1048576) (fun d => Rows.uptoBulk d ≤ 1048576) where
  zero := by omega
  str l h := by simp only [Rows.uptoBulk] at h; omega
  slice es sp h := by
    simp only [Rows.uptoBulk] at h
    have := bulk_len es
    exact ⟨by omega, fun e he => by have := bulk_part he; omega⟩
  agg ps h p hp := by
    simp only [Rows.uptoBulk] at h
    have := bulk_part hp; omega
theorem bulk_app {H : Type} : ∀ (l r : List (DataW H)), Rows.uptoBulkAll (l ++ r) = Rows.uptoBulkAll l + Rows.uptoBulkAll r
  | [], r => by simp [Rows.uptoBulkAll]
  | x :: l, r => by simp only [List.cons_append, Rows.uptoBulkAll, bulk_app l r]; omega
theorem small_of {H : Type} {ds gs : List (DataW H)} (h : Rows.uptoSmall H (ds ++ gs) = true) : ∀ d ∈ ds, Rows.uptoBulk d ≤ 1048576 := by
  have h := of_decide_eq_true h
  rw [bulk_app] at h
  intro d hd
  have := bulk_part hd; omega
abbrev Qb : Nat → Prop := fun n => n ≤ 1048576
theorem shBs2 {P : Program} {Q : Nat → Prop} {n : Nat} {a b : TypeId} {ps : List PV} (h : ShBs P Q n [a, b] ps) : ∃ p q, ps = [p, q] ∧ ShB P Q n a p ∧ ShB P Q n b q := by
  match ps, h with
  | [p, q], h => exact ⟨p, q, rfl, h.1, h.2.1⟩
def edSz (e : Ed) : Prop := e.name.length ≤ 1048576 ∧ e.needs.length ≤ 1048576 ∧ ∀ s ∈ e.needs, s.length ≤ 1048576
theorem ed_cells {n : Nat} {cs : List PV} (h : ShZ Try.prog Qb (n + 3) 41 cs) : ∃ e : Ed, .agg cs = edP e ∧ edSz e := by
  obtain ⟨hl, hf⟩ := shZ_struct Try.underlying41 h
  have c41 : Try.prog.cellsOf 41 = 2 := by kernel_rfl
  have c9 : Try.prog.cellsOf 9 = 1 := by kernel_rfl
  have c26 : Try.prog.cellsOf 26 = 1 := by kernel_rfl
  rw [c41] at hl
  simp only [List.mem_cons, List.not_mem_nil, or_false, forall_eq_or_imp, forall_eq, c9, c26, PV.cells] at hf
  match cs, hl with
  | [a, b], _ =>
    obtain ⟨h1, h2⟩ := hf
    obtain ⟨s, e1, b1⟩ := shZ_str Try.underlying9 h1
    obtain ⟨sh, xs, hs, e2, b2, hx⟩ := shZ_slice Try.underlying26 h2
    have hsh : shOf Try.prog 9 = some none := by kernel_rfl
    obtain rfl := Option.some.inj (hsh.symm.trans hs)
    simp at e1 e2
    subst e1; subst e2
    obtain ⟨l, rfl, hl⟩ := list_of PV.str (fun s => s.length ≤ 1048576) (xs := xs) (fun x hx' => by
      obtain ⟨f1, f2⟩ := hx x hx'
      rw [fits_cells f1] at f2
      obtain ⟨s, e, b⟩ := shZ_str Try.underlying9 f2
      cases e; exact ⟨s, rfl, b⟩)
    exact ⟨⟨s, l⟩, rfl, b1, by simpa using b2, hl⟩
theorem read_eds {n : Nat} {p : PV} (h : ShB Try.prog Qb (n + 4) 22 p) : ∃ l : List Ed, p = edL l ∧ l.length ≤ 1048576 ∧ ∀ e ∈ l, edSz e := by
  obtain ⟨sh, xs, hs, rfl, b, hx⟩ := shB_slice Try.underlying22 h
  have hsh : shOf Try.prog 41 = some (some 2) := by kernel_rfl
  obtain rfl := Option.some.inj (hsh.symm.trans hs)
  obtain ⟨l, rfl, hl⟩ := list_of edP edSz (xs := xs) (fun x hx' => by
    obtain ⟨f1, f2⟩ := hx x hx'
    obtain ⟨cs, rfl, e, -⟩ := fits_cells f1
    exact ed_cells f2)
  exact ⟨l, rfl, by simpa using b, hl⟩
theorem read_strB {n : Nat} {p : PV} (h : ShB Try.prog Qb (n + 1) 9 p) : ∃ s : St, p = .str s ∧ s.length ≤ 1048576 := shB_str Try.underlying9 h
theorem eds_ok {l : List Ed} (h : ∀ e ∈ l, edSz e) : ∀ e ∈ l, e.needs.length ≤ 9223372036854775807 := fun e he => by have := (h e he).2.1; omega
end Go.Proofs.Ytdiokmmjdpbdbaa

