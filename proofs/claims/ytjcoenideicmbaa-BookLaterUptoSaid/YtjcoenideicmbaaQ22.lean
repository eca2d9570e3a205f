import Derived.Test.YtjcoenideicmbaaRows
import Derived.Test.YtjcoenideicmbaaQ5
import Derived.Test.YtjcoenideicmbaaP4
namespace Go.Proofs.Ytjcoenideicmbaa
open Go PG Go.Proofs
set_option linter.unusedSimpArgs false
set_option linter.unusedVariables false
set_option maxRecDepth 100000
theorem ownB : ownKnob Try.prog.godebug = none := by kernel_rfl
theorem laidB : laidOutB Try.prog = true := by kernel_rfl
theorem globsB (w : World) (ex : Nat → Prop) : GlobsIn w ex G0 := by intro g sh x h; cases h
theorem bulk_part {H : Type} {d : DataW H} : ∀ {l : List (DataW H)}, d ∈ l → Rows.uptoBulk d ≤ Rows.uptoBulkAll l
  | [], h => by cases h
  | x :: r, h => by
    simp only [Rows.uptoBulkAll]
    cases List.mem_cons.1 h with
    | inl e => subst e; omega
    | inr e => have := bulk_part e; omega
theorem bulk_one {H : Type} (d : DataW H) : 1 ≤ Rows.uptoBulk d := by
  cases d with
  | lit l => cases l <;> simp [Rows.uptoBulk]
  | nil => simp [Rows.uptoBulk]
  | ptr d => simp [Rows.uptoBulk]
  | slice elems spare => simp [Rows.uptoBulk]
  | agg parts => simp [Rows.uptoBulk]
  | iface t d => simp [Rows.uptoBulk]
  | map entries => simp [Rows.uptoBulk]
  | held h => simp [Rows.uptoBulk]
theorem bulk_len {H : Type} : ∀ l : List (DataW H), l.length ≤ Rows.uptoBulkAll l
  | [] => by simp [Rows.uptoBulkAll]
  | x :: r => by have := bulk_one x; have := bulk_len r; simp only [Rows.uptoBulkAll, List.length_cons]; omega
theorem szOk {H : Type} : SzOk (H := H) (fun n => n ≤ 1048576) (fun d => Rows.uptoBulk d ≤ 1048576) where
  zero := by omega
  str l h := by simp only [Rows.uptoBulk] at h; omega
  slice es sp h := by
    simp only [Rows.uptoBulk] at h
    have := bulk_len es
    exact ⟨by omega, fun e he => by have := bulk_part he; omega⟩
  agg ps h p hp := by
    simp only [Rows.uptoBulk] at h
    have := bulk_part hp; omega
theorem bulk_app {H : Type} : ∀ (l r : List (DataW H)), Rows.uptoBulkAll (l ++ r) = Rows.uptoBulkAll l + Rows.uptoBulkAll r
  | [], r => by simp [Rows.uptoBulkAll]
  | x :: l, r => by simp only [List.cons_append, Rows.uptoBulkAll, bulk_app l r]; omega
theorem small_of {H : Type} {ds gs : List (DataW H)} (h : Rows.uptoSmall H (ds ++ gs) = true) : ∀ d ∈ ds, Rows.uptoBulk d ≤ 1048576 := by
  have h := of_decide_eq_true h
  rw [bulk_app] at h
  intro d hd
  have := bulk_part hd; omega
abbrev Qb : Nat → Prop := fun n => n ≤ 1048576
theorem shBs4 {P : Program} {Q : Nat → Prop} {n : Nat} {a b c d : TypeId} {ps : List PV} (h : ShBs P Q n [a, b, c, d] ps) : ∃ p q r s, ps = [p, q, r, s] ∧ ShB P Q n a p ∧ ShB P Q n b q ∧ ShB P Q n c r ∧ ShB P Q n d s := by
  match ps, h with
  | [p, q, r, s], h => exact ⟨p, q, r, s, rfl, h.1, h.2.1, h.2.2.1, h.2.2.2.1⟩
/-- What is known of a fact's numbers and texts. -/
def knSz (k : Kn) : Prop := (-9223372036854775808 ≤ k.n ∧ k.n ≤ 9223372036854775807) ∧ (-9223372036854775808 ≤ k.fr ∧ k.fr ≤ 9223372036854775807) ∧ (-9223372036854775808 ≤ k.to ∧ k.to ≤ 9223372036854775807) ∧ k.code.length ≤ 1048576 ∧ k.text.length ≤ 1048576
theorem kn_cells {n : Nat} {cs : List PV} (hl : cs.length = 9) (h : ShZ Try.prog Qb (n + 3) 84 cs) : ∃ k : Kn, .agg cs = knP k ∧ knSz k := by
  obtain ⟨-, hf⟩ := shZ_struct Try.underlying84 h
  have c3 : Try.prog.cellsOf 3 = 1 := by kernel_rfl
  have c82 : Try.prog.cellsOf 82 = 8 := by kernel_rfl
  have c80 : Try.prog.cellsOf 80 = 1 := by kernel_rfl
  have c25 : Try.prog.cellsOf 25 = 1 := by kernel_rfl
  have c2 : Try.prog.cellsOf 2 = 1 := by kernel_rfl
  have c9 : Try.prog.cellsOf 9 = 1 := by kernel_rfl
  simp only [List.mem_cons, List.not_mem_nil, or_false, forall_eq_or_imp, forall_eq, c3, c82] at hf
  match cs, hl with
  | [a, b, c, d, e, f, g, i, j], _ =>
    obtain ⟨h1, h2⟩ := hf
    obtain ⟨m1, e1, l1⟩ := shZ_int (k := .i64) Try.underlying3 h1
    simp only [List.drop_succ_cons, List.drop_zero, List.take_succ_cons, List.take_zero] at h2
    obtain ⟨-, hg⟩ := shZ_struct Try.underlying82 h2
    simp only [List.mem_cons, List.not_mem_nil, or_false, forall_eq_or_imp, forall_eq, c3, c80, c25, c2, c9] at hg
    obtain ⟨g1, g2, g3, g4, g5, g6, g7, g8⟩ := hg
    obtain ⟨q1, r1, -⟩ := shZ_int Try.underlying80 g1
    obtain ⟨q2, r2, -⟩ := shZ_int Try.underlying80 g2
    obtain ⟨q3, r3, -⟩ := shZ_int Try.underlying3 g3
    obtain ⟨q4, r4, l4⟩ := shZ_int (k := .i64) Try.underlying25 g4
    obtain ⟨q5, r5, l5⟩ := shZ_int (k := .i64) Try.underlying25 g5
    obtain ⟨s6, r6, b6⟩ := shZ_str Try.underlying9 g6
    obtain ⟨q7, r7, -⟩ := shZ_int Try.underlying2 g7
    obtain ⟨s8, r8, b8⟩ := shZ_str Try.underlying9 g8
    simp at e1 r1 r2 r3 r4 r5 r6 r7 r8
    subst e1; subst r1; subst r2; subst r3; subst r4; subst r5; subst r6; subst r7; subst r8
    exact ⟨⟨m1, q1, q2, q3, q4, q5, s6, q7, s8⟩, rfl, l1, l4, l5, b6, b8⟩
theorem read_kn {n : Nat} {x : PV} (hx : fits (some 9) x) (h : ShZ Try.prog Qb (n + 3) 84 x.cells) : ∃ k : Kn, x = knP k ∧ knSz k := by
  obtain ⟨cs, rfl, -, hl⟩ := fits_cells hx
  exact kn_cells hl h
theorem read_kns {n : Nat} {p : PV} (h : ShB Try.prog Qb (n + 4) 30 p) : ∃ l : List Kn, p = knL l ∧ l.length ≤ 1048576 ∧ ∀ k ∈ l, knSz k := by
  obtain ⟨sh, xs, hs, rfl, b, hx⟩ := shB_slice Try.underlying30 h
  have hsh : shOf Try.prog 84 = some (some 9) := by kernel_rfl
  obtain rfl := Option.some.inj (hsh.symm.trans hs)
  obtain ⟨l, rfl, hl⟩ := list_of knP knSz (xs := xs) (fun x hx' => read_kn (hx x hx').1 (hx x hx').2)
  exact ⟨l, rfl, by simpa using b, hl⟩
theorem read_kn1 {n : Nat} {p : PV} (h : ShB Try.prog Qb (n + 3) 84 p) : ∃ k : Kn, p = knP k ∧ knSz k := by
  obtain ⟨ps, rfl, h'⟩ := shB_struct Try.underlying84 h
  exact kn_cells ((shZ_struct Try.underlying84 h').1.trans (by kernel_rfl)) h'
theorem read_strB {n : Nat} {p : PV} (h : ShB Try.prog Qb (n + 1) 9 p) : ∃ s : List UInt8, p = .str s ∧ s.length ≤ 1048576 := shB_str Try.underlying9 h
theorem read_dayB {n : Nat} {p : PV} (h : ShB Try.prog Qb (n + 1) 25 p) : ∃ x : Int, p = .int .i64 x ∧ -9223372036854775808 ≤ x ∧ x ≤ 9223372036854775807 := shB_int (k := .i64) Try.underlying25 h
end Go.Proofs.Ytjcoenideicmbaa

