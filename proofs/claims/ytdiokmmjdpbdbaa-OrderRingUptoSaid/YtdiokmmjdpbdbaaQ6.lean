import Derived.Sort.Walk0
import Derived.Test.YtdiokmmjdpbdbaaP3
namespace Go.Proofs.Ytdiokmmjdpbdbaa
open Go PG
set_option linter.unusedSimpArgs false
set_option linter.unusedVariables false
/-! Texts, and what rises -/
abbrev St := List UInt8
abbrev Rise (L : List St) : Prop := L.Pairwise (· < ·)
theorem not_lt {a b : St} (h : ¬ a < b) : b ≤ a := h
theorem lt_of {a b : St} (h : a ≤ b) (hn : a ≠ b) : a < b := by
  by_cases h1 : a < b
  · exact h1
  · exact absurd (List.le_antisymm h h1) hn
theorem gt_of {a b : St} (h : ¬ a < b) (hn : a ≠ b) : b < a := lt_of (not_lt h) (Ne.symm hn)
theorem lt_tr {a b c : St} (h : a < b) (k : b < c) : a < c := List.lt_trans h k
theorem lt_irr (a : St) : ¬ a < a := List.lt_irrefl a
theorem lt_asym {a b : St} (h : a < b) : ¬ b < a := fun k => lt_irr a (lt_tr h k)
theorem Rise.nodup {L : List St} (h : Rise L) : L.Nodup := h.imp fun h e => by subst e; exact lt_irr _ h
theorem rise_uniq {A B : List St} (ha : Rise A) (hb : Rise B) (h : ∀ x, x ∈ A ↔ x ∈ B) : A = B := by
  refine List.Perm.eq_of_pairwise (le := (· < ·)) (fun x y _ _ h1 h2 => absurd (lt_tr h1 h2) (lt_irr _)) ha hb ?_
  exact (List.perm_ext_iff_of_nodup ha.nodup hb.nodup).2 h
theorem bl_iff (a b : St) : Op.bytesLess a b = true ↔ a < b := by rw [Go.Proofs.bytesLess_eq]; simp
theorem bl_not (a b : St) : Op.bytesLess a b = false ↔ ¬ a < b := by rw [Go.Proofs.bytesLess_eq]; simp
theorem nodup_len : ∀ {a b : List St}, a.Nodup → (∀ x ∈ a, x ∈ b) → a.length ≤ b.length
  | [], b, _, _ => by simp
  | x :: a, b, hn, h => by
    have hx := h x (by simp)
    rw [List.nodup_cons] at hn
    have := nodup_len (a := a) (b := b.erase x) hn.2 (fun y hy => by
      have hne : y ≠ x := fun e => hn.1 (e ▸ hy)
      exact (List.mem_erase_of_ne hne).2 (h y (by simp [hy])))
    rw [List.length_erase_of_mem hx] at this
    have : 0 < b.length := List.length_pos_of_mem hx
    simp only [List.length_cons]; omega
section
variable (N : List St) (nd : St → List St)
/-! How far, over greater names alone -/
inductive Rw (to : St) : Nat → St → Prop
  | one (s : St) (h : s ∈ N) (hl : ¬ s < to) (hx : to ∈ nd s) : Rw to 1 s
  | more (k : Nat) (s x : St) (h : s ∈ N) (hl : ¬ s < to) (hx : x ∈ nd s) (hge : ¬ x < to) (hne : x ≠ to) (hr : Rw to (k + 1) x) : Rw to (k + 2) s
def farC (to : St) (D : St → Nat) (n : Nat) (s : St) : Bool :=
  !(decide (0 < D s) || decide (s < to)) && (nd s).any fun x => (decide (n = 1) && decide (x = to)) || (decide (1 < n) && (!decide (x < to) && (!decide (x = to) && decide (D x = n - 1))))
def farD (to : St) : Nat → St → Nat
  | 0, _ => 0
  | n + 1, s => if s ∈ N ∧ farC nd to (farD to n) (n + 1) s = true then n + 1 else farD to n s
variable {N nd}
theorem farC_iff {to : St} {D : St → Nat} {n : Nat} {s : St} : farC nd to D n s = true ↔ (D s = 0 ∧ ¬ s < to) ∧ ∃ x ∈ nd s, (n = 1 ∧ x = to) ∨ (1 < n ∧ ¬ x < to ∧ x ≠ to ∧ D x = n - 1) := by
  unfold farC
  simp only [Bool.and_eq_true, Bool.not_eq_true', Bool.or_eq_false_iff, decide_eq_false_iff_not, List.any_eq_true, Bool.or_eq_true, decide_eq_true_eq]
  constructor
  · rintro ⟨⟨h1, h2⟩, x, hx, h⟩
    exact ⟨⟨by omega, h2⟩, x, hx, h.imp id (fun ⟨a, b, c, d⟩ => ⟨a, b, c, d⟩)⟩
  · rintro ⟨⟨h1, h2⟩, x, hx, h⟩
    exact ⟨⟨by omega, h2⟩, x, hx, h.imp id (fun ⟨a, b, c, d⟩ => ⟨a, b, c, d⟩)⟩
theorem far_le (to : St) : ∀ (n : Nat) (s : St), farD N nd to n s ≤ n
  | 0, s => by simp [farD]
  | n + 1, s => by
    have := far_le to n s
    unfold farD; split <;> omega
theorem far_mono {to : St} {n : Nat} {s : St} (h : 0 < farD N nd to n s) : farD N nd to (n + 1) s = farD N nd to n s := by
  conv => lhs; unfold farD
  rw [if_neg]
  rintro ⟨_, h2⟩
  have := (farC_iff.1 h2).1.1
  omega
theorem far_mono' {to : St} {n : Nat} {s : St} (h : 0 < farD N nd to n s) : ∀ m, n ≤ m → farD N nd to m s = farD N nd to n s := by
  intro m hm
  induction m with
  | zero => obtain rfl : n = 0 := by omega
            rfl
  | succ m ih =>
    rcases Nat.lt_or_ge m n with h1 | h1
    · obtain rfl : n = m + 1 := by omega
      rfl
    · have := ih h1
      rw [far_mono (by omega), this]
theorem far_at {to : St} : ∀ {n j : Nat} {s : St}, farD N nd to n s = j → 0 < j → farD N nd to j s = j
  | 0, j, s, h, hj => by simp [farD] at h; omega
  | n + 1, j, s, h, hj => by
    by_cases hc : s ∈ N ∧ farC nd to (farD N nd to n) (n + 1) s = true
    · have h' := h
      unfold farD at h; rw [if_pos hc] at h
      subst h; exact h'
    · unfold farD at h; rw [if_neg hc] at h
      exact far_at h hj
theorem far_new {to : St} {n : Nat} {s : St} (h : farD N nd to (n + 1) s = n + 1) : s ∈ N ∧ ¬ s < to ∧ ∃ x ∈ nd s, (n + 1 = 1 ∧ x = to) ∨ (1 < n + 1 ∧ ¬ x < to ∧ x ≠ to ∧ farD N nd to n x = n) := by
  by_cases hc : s ∈ N ∧ farC nd to (farD N nd to n) (n + 1) s = true
  · obtain ⟨⟨_, h2⟩, x, hx, h3⟩ := farC_iff.1 hc.2
    exact ⟨hc.1, h2, x, hx, h3⟩
  · unfold farD at h; rw [if_neg hc] at h
    have := far_le (N := N) (nd := nd) to n s
    omega
theorem far_sound {to : St} : ∀ {n : Nat} {s : St}, 0 < farD N nd to n s → Rw N nd to (farD N nd to n s) s := by
  have key : ∀ (j : Nat) (n : Nat) (s : St), farD N nd to n s = j → 0 < j → Rw N nd to j s := by
    intro j
    induction j with
    | zero => intro n s _ h; omega
    | succ j ih =>
      intro n s h _
      obtain ⟨h1, h2, x, hx, h3⟩ := far_new (far_at h (by omega))
      rcases h3 with ⟨h3, rfl⟩ | ⟨h3, h4, h5, h6⟩
      · obtain rfl : j = 0 := by omega
        exact .one s h1 h2 hx
      · obtain ⟨k, rfl⟩ : ∃ k, j = k + 1 := ⟨j - 1, by omega⟩
        exact .more k s x h1 h2 hx h4 h5 (ih _ x h6 (by omega))
  intro n s h
  exact key _ n s rfl h
theorem far_in {to : St} {n : Nat} {s : St} (h : 0 < farD N nd to n s) : s ∈ N ∧ ¬ s < to := by
  have hr := far_sound h
  generalize farD N nd to n s = k at hr
  cases hr <;> exact ⟨by assumption, by assumption⟩
theorem far_next {to : St} {m n : Nat} {s : St} (h : farD N nd to m s = n + 2) : ∃ x ∈ nd s, to < x ∧ farD N nd to m x = n + 1 := by
  obtain ⟨h1, h2, x, hx, h3⟩ := far_new (far_at h (by omega))
  rcases h3 with ⟨h3, -⟩ | ⟨h3, h4, h5, h6⟩
  · omega
  · refine ⟨x, hx, gt_of h4 h5, ?_⟩
    have := far_le (N := N) (nd := nd) to m s
    rw [h] at this
    rw [far_mono' (n := n + 1) (by omega) m (by omega), h6]
theorem far_last {to : St} {m : Nat} {s : St} (h : farD N nd to m s = 1) : to ∈ nd s := by
  obtain ⟨h1, h2, x, hx, h3⟩ := far_new (far_at h (by omega))
  rcases h3 with ⟨h3, rfl⟩ | ⟨h3, -⟩
  · exact hx
  · omega
/-! A way from one to one over greater names, by least names -/
variable (nd)
def Path (to : St) : St → List St → Prop
  | s, [] => to ∈ nd s
  | s, y :: l => y ∈ nd s ∧ Path to y l
def sortT (L : List St) : List St := L.mergeSort (fun x y => decide (x ≤ y))
def ringT (to : St) (D : St → Nat) : Nat → St → List St
  | 0, _ => []
  | 1, _ => []
  | n + 2, s => match (sortT (nd s)).find? (fun x => decide (to < x) && decide (D x = n + 1)) with
    | some x => x :: ringT to D (n + 1) x
    | none => []
variable {nd}
theorem sort_mem {L : List St} {x : St} : x ∈ sortT L ↔ x ∈ L := (List.mergeSort_perm L _).mem_iff
theorem tx_tr (a b c : St) : decide (a ≤ b) = true → decide (b ≤ c) = true → decide (a ≤ c) = true := by
  simp only [decide_eq_true_eq]; exact List.le_trans
theorem tx_tt (a b : St) : (decide (a ≤ b) || decide (b ≤ a)) = true := by
  simp only [Bool.or_eq_true, decide_eq_true_eq]; exact List.le_total a b
theorem sort_rise {L : List St} (h : L.Nodup) : Rise (sortT L) := by
  have h1 := List.pairwise_mergeSort tx_tr tx_tt L
  have h2 : (sortT L).Nodup := (List.mergeSort_perm L _).nodup_iff.2 h
  have := h1.and h2
  refine this.imp fun ⟨a, b⟩ => ?_
  simp only [decide_eq_true_eq] at a
  exact lt_of a b
theorem ringT_step {to : St} {D : St → Nat} {n : Nat} {s : St} (h : ∃ x ∈ nd s, to < x ∧ D x = n + 1) : ∃ x, x ∈ nd s ∧ to < x ∧ D x = n + 1 ∧ (sortT (nd s)).find? (fun x => decide (to < x) && decide (D x = n + 1)) = some x ∧ ringT nd to D (n + 2) s = x :: ringT nd to D (n + 1) x := by
  cases hf : (sortT (nd s)).find? (fun x => decide (to < x) && decide (D x = n + 1)) with
  | none =>
    obtain ⟨x, hx, h1, h2⟩ := h
    have := List.find?_eq_none.1 hf x (sort_mem.2 hx)
    simp [h1, h2] at this
  | some x =>
    have h1 := List.find?_some hf
    simp only [Bool.and_eq_true, decide_eq_true_eq] at h1
    refine ⟨x, sort_mem.1 (List.mem_of_find?_eq_some hf), h1.1, h1.2, rfl, ?_⟩
    conv => lhs; unfold ringT
    rw [hf]
theorem ringT_spec {to : St} {m : Nat} : ∀ {n : Nat} {s : St}, farD N nd to m s = n + 1 → Path nd to s (ringT nd to (farD N nd to m) (n + 1) s) ∧ (ringT nd to (farD N nd to m) (n + 1) s).length = n ∧
    (∀ y ∈ ringT nd to (farD N nd to m) (n + 1) s, to < y ∧ y ∈ N ∧ 0 < farD N nd to m y ∧ farD N nd to m y < n + 1) ∧ (ringT nd to (farD N nd to m) (n + 1) s).Nodup
  | 0, s, h => by
    simp only [ringT]
    exact ⟨far_last h, rfl, (fun y hy => by cases hy), List.nodup_nil⟩
  | n + 1, s, h => by
    obtain ⟨x, h1, h2, h3, -, h4⟩ := ringT_step (nd := nd) (far_next h)
    obtain ⟨i1, i2, i3, i4⟩ := ringT_spec h3
    rw [h4]
    refine ⟨⟨h1, i1⟩, by simp [i2], fun y hy => ?_, List.nodup_cons.2 ⟨fun hx => ?_, i4⟩⟩
    · rcases List.mem_cons.1 hy with rfl | hy
      · exact ⟨h2, (far_in (N := N) (nd := nd) (to := to) (n := m) (by omega)).1, by omega, by omega⟩
      · obtain ⟨a, b, c, d⟩ := i3 y hy; exact ⟨a, b, c, by omega⟩
    · have := (i3 x hx).2.2.2; omega
/-! An order -/
variable (N nd)
def readyG (out : List St) (s : St) : Bool := !decide (s ∈ out) && (nd s).all fun x => !(decide (x ∈ N)) || decide (x ∈ out)
def sortG : Nat → List St → Option (List St)
  | 0, out => some out
  | n + 1, out => match N.find? (readyG N nd out) with
    | none => none
    | some s => sortG n (out ++ [s])
/-- Each stands behind all that it needs. -/
def OrdG (out : List St) : Prop := ∀ a s b, out = a ++ s :: b → ∀ x ∈ nd s, x ∈ N → x ∈ a
variable {N nd}
theorem ready_iff {out : List St} {s : St} : readyG N nd out s = true ↔ s ∉ out ∧ ∀ x ∈ nd s, x ∈ N → x ∈ out := by
  unfold readyG
  simp only [Bool.and_eq_true, Bool.not_eq_true', decide_eq_false_iff_not, List.all_eq_true, Bool.or_eq_true, decide_eq_true_eq]
  exact ⟨fun ⟨a, b⟩ => ⟨a, fun x hx hn => (b x hx).resolve_left (fun h => h hn)⟩, fun ⟨a, b⟩ => ⟨a, fun x hx => (Decidable.em (x ∈ N)).elim (fun h => .inr (b x hx h)) .inl⟩⟩
theorem OrdG.snoc {out : List St} {s : St} (h : OrdG N nd out) (hs : ∀ x ∈ nd s, x ∈ N → x ∈ out) : OrdG N nd (out ++ [s]) := by
  intro a t b he x hx hn
  rcases List.append_eq_append_iff.1 he with ⟨c, h1, h2⟩ | ⟨c, h1, h2⟩
  · cases c with
    | nil => simp at h1 h2; obtain ⟨rfl, rfl⟩ := h2; rw [h1]; exact hs x hx hn
    | cons y c => simp at h2
  · cases c with
    | nil => simp at h1 h2; obtain ⟨rfl, rfl⟩ := h2; rw [← h1]; exact hs x hx hn
    | cons y c =>
      simp only [List.cons_append, List.cons.injEq] at h2
      obtain ⟨rfl, h2⟩ := h2
      exact h a t c h1 x hx hn
theorem sortG_spec : ∀ {n : Nat} {out out' : List St}, sortG N nd n out = some out' → OrdG N nd out → out.Nodup → (∀ s ∈ out, s ∈ N) → OrdG N nd out' ∧ out'.Nodup ∧ (∀ s ∈ out', s ∈ N) ∧ out'.length = out.length + n
  | 0, out, out', h, h1, h2, h3 => by cases h; exact ⟨h1, h2, h3, rfl⟩
  | n + 1, out, out', h, h1, h2, h3 => by
    unfold sortG at h
    split at h
    · cases h
    · rename_i s hf
      have hr := ready_iff.1 (List.find?_some hf)
      have hm := List.mem_of_find?_eq_some hf
      obtain ⟨a, b, c, d⟩ := sortG_spec h (h1.snoc hr.2) (by
        rw [List.nodup_append]
        refine ⟨h2, by simp, fun x hx y hy e => ?_⟩
        simp at hy; subst hy; subst e; exact hr.1 hx) (fun x hx => by
        rcases List.mem_append.1 hx with hx | hx
        · exact h3 x hx
        · simp at hx; subst hx; exact hm)
      exact ⟨a, b, c, by rw [d]; simp; omega⟩
theorem full_of {out : List St} (hN : N.Nodup) (h2 : out.Nodup) (h3 : ∀ s ∈ out, s ∈ N) (hl : out.length = N.length) : out.Perm N := by
  refine (List.perm_ext_iff_of_nodup h2 hN).2 fun s => ⟨h3 s, fun hs => ?_⟩
  refine Decidable.byContradiction fun hno => ?_
  have := nodup_len (a := s :: out) (b := N) (List.nodup_cons.2 ⟨hno, h2⟩) (fun x hx => by
    rcases List.mem_cons.1 hx with rfl | hx
    · exact hs
    · exact h3 x hx)
  simp at this; omega
theorem ord_idx {out : List St} (h : OrdG N nd out) {s x : St} (hs : s ∈ out) (hx : x ∈ nd s) (hn : x ∈ N) : out.idxOf x < out.idxOf s := by
  obtain ⟨a, b, e, hna⟩ := List.eq_append_cons_of_mem hs
  have hxa := h a s b e x hx hn
  subst e
  have h1 : (a ++ s :: b).idxOf s = a.length := by rw [List.idxOf_append, if_neg hna]; simp
  have h2 : (a ++ s :: b).idxOf x = a.idxOf x := by rw [List.idxOf_append, if_pos hxa]
  rw [h1, h2]
  exact List.idxOf_lt_length_of_mem hxa
end
end Go.Proofs.Ytdiokmmjdpbdbaa

namespace Go.Proofs.Ytdiokmmjdpbdbaa
open Go PG
set_option linter.unusedSimpArgs false
set_option linter.unusedVariables false
section
variable (nd : St → List St)
/-! All that a name needs -/
inductive Rch : St → St → Prop
  | one (s y : St) (h : y ∈ nd s) : Rch s y
  | more (s x y : St) (h : x ∈ nd s) (hr : Rch x y) : Rch s y
mutual
def dfs : Nat → St → List St → List St
  | 0, _, out => out
  | n + 1, s, out => dfsL n (nd s) out
termination_by n _ _ => (n, 0)
def dfsL : Nat → List St → List St → List St
  | _, [], out => out
  | n, x :: xs, out => if x ∈ out then dfsL n xs out else dfsL n xs (dfs n x (out ++ [x]))
termination_by n xs _ => (n, xs.length + 1)
end
variable {nd}
theorem Rch.trans {a b c : St} (h : Rch nd a b) (k : Rch nd b c) : Rch nd a c := by
  induction h with
  | one s y h => exact .more s y c h k
  | more s x y h hr ih => exact .more s x c h (ih k)
def cntU (U out : List St) : Nat := (U.filter fun x => !decide (x ∈ out)).length
theorem cnt_le {U out out' : List St} (h : ∀ x ∈ out, x ∈ out') : cntU U out' ≤ cntU U out := by
  induction U with
  | nil => simp [cntU]
  | cons u U ih =>
    simp only [cntU, List.filter_cons] at ih ⊢
    by_cases h1 : u ∈ out
    · have := h u h1
      simp [h1, this]; exact ih
    · by_cases h2 : u ∈ out'
      · simp [h1, h2]; omega
      · simp [h1, h2]; exact ih
theorem cnt_lt {U out : List St} {x : St} (hx : x ∈ U) (hn : x ∉ out) : cntU U (out ++ [x]) < cntU U out := by
  induction U with
  | nil => cases hx
  | cons u U ih =>
    simp only [cntU, List.filter_cons] at ih ⊢
    rcases List.mem_cons.1 hx with rfl | hx'
    · have := cnt_le (U := U) (out := out) (out' := out ++ [x]) (fun y hy => by simp [hy])
      simp only [cntU] at this
      simp [hn]; simp at this; omega
    · have := ih hx'
      by_cases h1 : u ∈ out
      · simp [h1]; simpa using this
      · by_cases h2 : u = x
        · subst h2; simp [h1]; simp at this; omega
        · simp [h1, h2]; simpa using this
structure DfsOk (U : List St) (R : St → Prop) (xs out o : List St) : Prop where
  sub : ∀ x ∈ out, x ∈ o
  nodup : o.Nodup
  has : ∀ x ∈ xs, x ∈ o
  closed : ∀ y ∈ o, y ∉ out → ∀ x ∈ nd y, x ∈ o
  reach : ∀ y ∈ o, y ∉ out → R y
theorem dfs_spec {U : List St} (hU : ∀ s x, x ∈ nd s → x ∈ U) : ∀ (n : Nat),
    (∀ s out, cntU U out < n → out.Nodup → DfsOk (nd := nd) U (Rch nd s) (nd s) out (dfs nd n s out)) ∧
    (∀ (xs out : List St), (∀ x ∈ xs, x ∈ U) → cntU U out ≤ n → out.Nodup → DfsOk (nd := nd) U (fun y => ∃ x ∈ xs, y = x ∨ Rch nd x y) xs out (dfsL nd n xs out)) := by
  intro n
  induction n with
  | zero =>
    refine ⟨fun s out h => by omega, fun xs => ?_⟩
    induction xs with
    | nil => intro out _ _ hn; unfold dfsL; exact ⟨fun x h => h, hn, (fun x h => by cases h), fun y h h' => absurd h h', fun y h h' => absurd h h'⟩
    | cons x xs ih =>
      intro out hxs hc hn
      have hx : x ∈ out := Decidable.byContradiction fun hx => by
        have := cnt_lt (hxs x (by simp)) hx; omega
      unfold dfsL; rw [if_pos hx]
      obtain ⟨a, b, c, d, e⟩ := ih out (fun y hy => hxs y (by simp [hy])) hc hn
      exact ⟨a, b, fun y hy => by
        rcases List.mem_cons.1 hy with rfl | hy
        · exact a _ hx
        · exact c y hy, d, fun y hy hy' => let ⟨z, hz, h⟩ := e y hy hy'; ⟨z, by simp [hz], h⟩⟩
  | succ n ihn =>
    have h1 : ∀ s out, cntU U out < n + 1 → out.Nodup → DfsOk (nd := nd) U (Rch nd s) (nd s) out (dfs nd (n + 1) s out) := by
      intro s out hc hn
      unfold dfs
      obtain ⟨a, b, c, d, e⟩ := ihn.2 (nd s) out (fun x hx => hU s x hx) (by omega) hn
      exact ⟨a, b, c, d, fun y hy hy' => by
        obtain ⟨x, hx, h⟩ := e y hy hy'
        rcases h with rfl | h
        · exact .one _ _ hx
        · exact .more _ _ _ hx h⟩
    refine ⟨h1, fun xs => ?_⟩
    induction xs with
    | nil => intro out _ _ hn; unfold dfsL; exact ⟨fun x h => h, hn, (fun x h => by cases h), fun y h h' => absurd h h', fun y h h' => absurd h h'⟩
    | cons x xs ih =>
      intro out hxs hc hn
      unfold dfsL
      by_cases hx : x ∈ out
      · rw [if_pos hx]
        obtain ⟨a, b, c, d, e⟩ := ih out (fun y hy => hxs y (by simp [hy])) hc hn
        exact ⟨a, b, fun y hy => by
          rcases List.mem_cons.1 hy with rfl | hy
          · exact a _ hx
          · exact c y hy, d, fun y hy hy' => let ⟨z, hz, h⟩ := e y hy hy'; ⟨z, by simp [hz], h⟩⟩
      · rw [if_neg hx]
        have hlt := cnt_lt (hxs x (by simp)) hx
        have hn' : (out ++ [x]).Nodup := by
          rw [List.nodup_append]
          refine ⟨hn, by simp, fun y hy z hz e => ?_⟩
          simp at hz; subst hz; subst e; exact hx hy
        obtain ⟨a, b, c, d, e⟩ := h1 x (out ++ [x]) (by omega) hn'
        have hsub : ∀ y ∈ out, y ∈ dfs nd (n + 1) x (out ++ [x]) := fun y hy => a y (by simp [hy])
        have hxo : x ∈ dfs nd (n + 1) x (out ++ [x]) := a x (by simp)
        obtain ⟨a', b', c', d', e'⟩ := ih (dfs nd (n + 1) x (out ++ [x])) (fun y hy => hxs y (by simp [hy])) (Nat.le_trans (cnt_le hsub) hc) b
        refine ⟨fun y hy => a' y (hsub y hy), b', fun y hy => ?_, fun y hy hy' z hz => ?_, fun y hy hy' => ?_⟩
        · rcases List.mem_cons.1 hy with rfl | hy
          · exact a' _ hxo
          · exact c' y hy
        · by_cases h2 : y ∈ dfs nd (n + 1) x (out ++ [x])
          · by_cases h3 : y = x
            · subst h3; exact a' z (c z hz)
            · exact a' z (d y h2 (by simp [hy', h3]) z hz)
          · exact d' y hy h2 z hz
        · by_cases h2 : y ∈ dfs nd (n + 1) x (out ++ [x])
          · by_cases h3 : y = x
            · exact ⟨x, by simp, .inl h3⟩
            · exact ⟨x, by simp, .inr (e y h2 (by simp [hy', h3]))⟩
          · obtain ⟨z, hz, h⟩ := e' y hy h2
            exact ⟨z, by simp [hz], h⟩
theorem dfs_mem {U : List St} (hU : ∀ s x, x ∈ nd s → x ∈ U) {n : Nat} {s : St} (hc : cntU U [] < n) (y : St) : y ∈ dfs nd n s [] ↔ Rch nd s y := by
  obtain ⟨a, b, c, d, e⟩ := (dfs_spec hU n).1 s [] hc List.nodup_nil
  refine ⟨fun h => e y h (by simp), fun h => ?_⟩
  generalize hO : dfs nd n s [] = O at *
  clear hO e
  revert c
  induction h with
  | one s y h => intro c; exact c y h
  | more s x y h hr ih => intro c; exact ih (fun z hz => d x (c x h) (by simp) z hz)
theorem dfs_nodup {U : List St} (hU : ∀ s x, x ∈ nd s → x ∈ U) {n : Nat} {s : St} (hc : cntU U [] < n) : (dfs nd n s []).Nodup := ((dfs_spec hU n).1 s [] hc List.nodup_nil).nodup
end
/-! Edges -/
structure Ed where
  name : St
  needs : List St
def nmOk (s : St) : Bool := !decide (s = []) && decide (s.length ≤ 32)
def wrongF : List St → List Ed → Int
  | _, [] => 0
  | seen, e :: l => if nmOk e.name = false then 12 else if 64 < e.needs.length then 5 else if e.needs.all nmOk = false then 12 else if e.name ∈ seen then 7 else wrongF (seen ++ [e.name]) l
def wrongM (l : List Ed) : Int := if 64 < l.length then 5 else wrongF [] l
def nsM (l : List Ed) : List St := sortT (l.map (·.name))
def ndM (l : List Ed) (s : St) : List St := match l.find? (fun e => decide (e.name = s)) with
  | some e => e.needs
  | none => []
theorem wrongF_0 : ∀ {l : List Ed} {seen : List St}, wrongF seen l = 0 → (l.map (·.name)).Nodup ∧ (∀ e ∈ l, e.name ∉ seen ∧ nmOk e.name = true ∧ e.needs.length ≤ 64 ∧ e.needs.all nmOk = true)
  | [], _, _ => ⟨List.nodup_nil, fun e h => by cases h⟩
  | e :: l, seen, h => by
    unfold wrongF at h
    split at h
    · cases h
    split at h
    · cases h
    split at h
    · cases h
    split at h
    · cases h
    rename_i h1 h2 h3 h4
    obtain ⟨i1, i2⟩ := wrongF_0 h
    refine ⟨?_, fun x hx => ?_⟩
    · rw [List.map_cons, List.nodup_cons]
      refine ⟨fun hm => ?_, i1⟩
      obtain ⟨x, hx, he⟩ := List.mem_map.1 hm
      exact (i2 x hx).1 (by simp [he])
    · rcases List.mem_cons.1 hx with rfl | hx
      · exact ⟨h4, by simpa using h1, by omega, by simpa using h3⟩
      · obtain ⟨a, b⟩ := i2 x hx
        exact ⟨fun hh => a (by simp [hh]), b⟩
theorem wrongF_intro : ∀ {l : List Ed} {seen : List St}, (l.map (·.name)).Nodup → (∀ e ∈ l, e.name ∉ seen ∧ nmOk e.name = true ∧ e.needs.length ≤ 64 ∧ e.needs.all nmOk = true) → wrongF seen l = 0
  | [], _, _, _ => rfl
  | e :: l, seen, hn, h => by
    obtain ⟨h1, h2, h3, h4⟩ := h e (by simp)
    rw [List.map_cons, List.nodup_cons] at hn
    unfold wrongF
    rw [if_neg (by simp [h2]), if_neg (by omega), if_neg (by simp [h4]), if_neg h1]
    refine wrongF_intro hn.2 fun x hx => ?_
    obtain ⟨a, b⟩ := h x (by simp [hx])
    refine ⟨fun hh => ?_, b⟩
    rcases List.mem_append.1 hh with hh | hh
    · exact a hh
    · simp at hh; exact hn.1 (List.mem_map.2 ⟨x, hx, hh⟩)
theorem wrongM_0 {l : List Ed} : wrongM l = 0 ↔ l.length ≤ 64 ∧ (l.map (·.name)).Nodup ∧ ∀ e ∈ l, nmOk e.name = true ∧ e.needs.length ≤ 64 ∧ e.needs.all nmOk = true := by
  unfold wrongM
  constructor
  · intro h
    split at h
    · cases h
    · obtain ⟨a, b⟩ := wrongF_0 h
      exact ⟨by omega, a, fun e he => (b e he).2⟩
  · rintro ⟨a, b, c⟩
    rw [if_neg (by omega)]
    exact wrongF_intro b fun e he => ⟨by simp, c e he⟩
theorem ns_mem {l : List Ed} {s : St} : s ∈ nsM l ↔ ∃ e ∈ l, e.name = s := by
  unfold nsM; rw [sort_mem, List.mem_map]
theorem ns_len (l : List Ed) : (nsM l).length = l.length := by
  unfold nsM sortT; rw [(List.mergeSort_perm _ _).length_eq]; simp
theorem ns_rise {l : List Ed} (h : wrongM l = 0) : Rise (nsM l) := sort_rise (wrongM_0.1 h).2.1
theorem nd_at {l : List Ed} (hn : (l.map (·.name)).Nodup) {e : Ed} (he : e ∈ l) : ndM l e.name = e.needs := by
  unfold ndM
  induction l with
  | nil => cases he
  | cons x l ih =>
    rw [List.map_cons, List.nodup_cons] at hn
    rw [List.find?_cons]
    rcases List.mem_cons.1 he with rfl | he
    · simp
    · have : x.name ≠ e.name := fun h => hn.1 (h ▸ List.mem_map.2 ⟨e, he, rfl⟩)
      simp only [this, decide_false]
      exact ih hn.2 he
theorem nd_out {l : List Ed} {s : St} (h : s ∉ nsM l) : ndM l s = [] := by
  unfold ndM
  have : l.find? (fun e => decide (e.name = s)) = none := List.find?_eq_none.2 fun e he hh => h (ns_mem.2 ⟨e, he, by simpa using hh⟩)
  rw [this]
theorem nd_in {l : List Ed} {s x : St} (h : x ∈ ndM l s) : s ∈ nsM l ∧ ∃ e ∈ l, e.name = s ∧ x ∈ e.needs := by
  unfold ndM at h
  cases hf : l.find? (fun e => decide (e.name = s)) with
  | none => rw [hf] at h; cases h
  | some e =>
    rw [hf] at h
    have h1 := List.find?_some hf
    have h2 := List.mem_of_find?_eq_some hf
    simp only [decide_eq_true_eq] at h1
    exact ⟨ns_mem.2 ⟨e, h2, h1⟩, e, h2, h1, h⟩
def allN (l : List Ed) : List St := l.flatMap (·.needs)
theorem nd_all {l : List Ed} (s x : St) (h : x ∈ ndM l s) : x ∈ allN l := by
  obtain ⟨-, e, he, -, hx⟩ := nd_in h
  exact List.mem_flatMap.2 ⟨e, he, hx⟩
/-! What the chapter's functions come to -/
def sortM (l : List Ed) : List St × Int := if wrongM l ≠ 0 then ([], wrongM l) else match sortG (nsM l) (ndM l) (nsM l).length [] with
  | none => ([], 13)
  | some o => (o, 0)
def bestG (N : List St) (nd : St → List St) : List St → List St → List St
  | [], b => b
  | s :: r, b => bestG N nd r (if 0 < farD N nd s N.length s ∧ (b = [] ∨ farD N nd s N.length s < b.length) then s :: ringT nd s (farD N nd s N.length) (farD N nd s N.length s) s else b)
def ringM (l : List Ed) : List St := if wrongM l ≠ 0 then [] else bestG (nsM l) (ndM l) (nsM l) []
def belowM (l : List Ed) (s : St) : List St := if s ∉ nsM l ∨ wrongM l ≠ 0 then [] else sortT (dfs (ndM l) ((allN l).length + 1) s [])
def aboveM (l : List Ed) (s : St) : List St := if wrongM l ≠ 0 then [] else sortT ((l.filter fun e => decide (s ∈ belowM l e.name)).map (·.name))
def rightM (l : List Ed) (o : List St) : Bool := decide (wrongM l = 0) && (decide (sortT o = nsM l) && (nsM l).all fun s => (ndM l s).all fun x => !decide (x ∈ o) || decide (o.idxOf x < o.idxOf s))
theorem below_spec {l : List Ed} (hw : wrongM l = 0) {s : St} (hs : s ∈ nsM l) : Rise (belowM l s) ∧ ∀ y, y ∈ belowM l s ↔ Rch (ndM l) s y := by
  have hc : cntU (allN l) [] < (allN l).length + 1 := by
    have := List.length_filter_le (fun x => !decide (x ∈ ([] : List St))) (allN l)
    unfold cntU; omega
  unfold belowM
  rw [if_neg (by simp [hs, hw])]
  exact ⟨sort_rise (dfs_nodup nd_all hc), fun y => by rw [sort_mem]; exact dfs_mem nd_all hc y⟩
theorem below_out {l : List Ed} {s : St} (h : s ∉ nsM l ∨ wrongM l ≠ 0) : belowM l s = [] := by unfold belowM; rw [if_pos h]
theorem rch_in {l : List Ed} {s y : St} (h : Rch (ndM l) s y) : s ∈ nsM l := by
  cases h with
  | one _ _ h => exact (nd_in h).1
  | more _ _ _ h _ => exact (nd_in h).1
theorem below_iff {l : List Ed} (hw : wrongM l = 0) (s y : St) : y ∈ belowM l s ↔ Rch (ndM l) s y := by
  by_cases hs : s ∈ nsM l
  · exact (below_spec hw hs).2 y
  · rw [below_out (.inl hs)]
    exact ⟨(fun h => by cases h), fun h => absurd (rch_in h) hs⟩
theorem below_rise {l : List Ed} (s : St) : Rise (belowM l s) := by
  by_cases hw : wrongM l = 0
  · by_cases hs : s ∈ nsM l
    · exact (below_spec hw hs).1
    · rw [below_out (.inl hs)]; exact List.Pairwise.nil
  · rw [below_out (.inr hw)]; exact List.Pairwise.nil
theorem above_iff {l : List Ed} (hw : wrongM l = 0) (s y : St) : y ∈ aboveM l s ↔ Rch (ndM l) y s := by
  unfold aboveM
  rw [if_neg (by simp [hw]), sort_mem, List.mem_map]
  constructor
  · rintro ⟨e, he, rfl⟩
    rw [List.mem_filter, decide_eq_true_eq, below_iff hw] at he
    exact he.2
  · intro h
    obtain ⟨e, he, rfl⟩ := ns_mem.1 (rch_in h)
    exact ⟨e, List.mem_filter.2 ⟨he, by rw [decide_eq_true_eq, below_iff hw]; exact h⟩, rfl⟩
theorem above_rise {l : List Ed} (s : St) : Rise (aboveM l s) := by
  unfold aboveM
  split
  · exact List.Pairwise.nil
  · rename_i hw
    have hw : wrongM l = 0 := by simpa using hw
    refine sort_rise (List.Nodup.sublist ?_ (wrongM_0.1 hw).2.1)
    exact (List.filter_sublist).map _
end Go.Proofs.Ytdiokmmjdpbdbaa

namespace Go.Proofs.Ytdiokmmjdpbdbaa
open Go PG
set_option linter.unusedSimpArgs false
set_option linter.unusedVariables false
/-! The least ring is one -/
structure IsRing (N : List St) (nd : St → List St) (r : List St) : Prop where
  some : ∃ s T, r = s :: T ∧ s ∈ N ∧ Path nd s s T ∧ (∀ y ∈ T, s < y ∧ y ∈ N) ∧ T.Nodup
theorem ring_is {N : List St} {nd : St → List St} {s : St} (h : 0 < farD N nd s N.length s) : IsRing N nd (s :: ringT nd s (farD N nd s N.length) (farD N nd s N.length s) s) := by
  obtain ⟨n, hn⟩ : ∃ n, farD N nd s N.length s = n + 1 := ⟨farD N nd s N.length s - 1, by omega⟩
  obtain ⟨a, b, c, d⟩ := ringT_spec hn
  rw [hn]
  exact ⟨s, _, rfl, (far_in h).1, a, fun y hy => ⟨(c y hy).1, (c y hy).2.1⟩, d⟩
theorem best_spec {N : List St} {nd : St → List St} : ∀ (R b : List St), (b = [] ∨ IsRing N nd b) → (bestG N nd R b = [] ∨ IsRing N nd (bestG N nd R b)) ∧ (bestG N nd R b = [] → b = [] ∧ ∀ s ∈ R, farD N nd s N.length s = 0)
  | [], b, h => ⟨h, fun h => ⟨h, fun s hs => by cases hs⟩⟩
  | s :: R, b, h => by
    unfold bestG
    by_cases hc : 0 < farD N nd s N.length s ∧ (b = [] ∨ farD N nd s N.length s < b.length)
    · rw [if_pos hc]
      obtain ⟨h1, h2⟩ := best_spec R _ (.inr (ring_is hc.1))
      exact ⟨h1, fun h0 => by cases (h2 h0).1⟩
    · rw [if_neg hc]
      obtain ⟨h1, h2⟩ := best_spec R b h
      refine ⟨h1, fun h0 => ⟨(h2 h0).1, fun x hx => ?_⟩⟩
      rcases List.mem_cons.1 hx with rfl | hx
      · rcases Nat.eq_zero_or_pos (farD N nd x N.length x) with h3 | h3
        · exact h3
        · exact absurd ⟨h3, .inl (h2 h0).1⟩ hc
      · exact (h2 h0).2 x hx
theorem ring_spec {l : List Ed} (hw : wrongM l = 0) : (ringM l = [] ∨ IsRing (nsM l) (ndM l) (ringM l)) ∧ (ringM l = [] → ∀ s ∈ nsM l, farD (nsM l) (ndM l) s (nsM l).length s = 0) := by
  unfold ringM
  rw [if_neg (by simp [hw])]
  obtain ⟨h1, h2⟩ := best_spec (N := nsM l) (nd := ndM l) (nsM l) [] (.inl rfl)
  exact ⟨h1, fun h => (h2 h).2⟩
/-! What a right order is -/
theorem right_iff {l : List Ed} {o : List St} : rightM l o = true ↔ wrongM l = 0 ∧ sortT o = nsM l ∧ ∀ s ∈ nsM l, ∀ x ∈ ndM l s, x ∈ o → o.idxOf x < o.idxOf s := by
  unfold rightM
  simp only [Bool.and_eq_true, decide_eq_true_eq, List.all_eq_true, Bool.or_eq_true, Bool.not_eq_true', decide_eq_false_iff_not]
  exact ⟨fun ⟨a, b, c⟩ => ⟨a, b, fun s hs x hx hm => (c s hs x hx).resolve_left (fun h => h hm)⟩, fun ⟨a, b, c⟩ => ⟨a, b, fun s hs x hx => (Decidable.em (x ∈ o)).elim (fun h => .inr (c s hs x hx h)) .inl⟩⟩
theorem sort_perm {l : List Ed} (hw : wrongM l = 0) {o : List St} (h : o.Perm (nsM l)) : sortT o = nsM l :=
  rise_uniq (sort_rise (h.nodup_iff.2 (ns_rise hw).nodup)) (ns_rise hw) (fun x => by rw [sort_mem]; exact h.mem_iff)
theorem perm_sort {l : List Ed} {o : List St} (h : sortT o = nsM l) : o.Perm (nsM l) := by
  rw [← h]; exact (List.mergeSort_perm _ _).symm
theorem right_ord {l : List Ed} (hw : wrongM l = 0) {o : List St} (hp : o.Perm (nsM l)) (h : OrdG (nsM l) (ndM l) o) : rightM l o = true :=
  right_iff.2 ⟨hw, sort_perm hw hp, fun s hs x hx hm => ord_idx h (hp.mem_iff.2 hs) hx (hp.mem_iff.1 hm)⟩
theorem sort_wrong {l : List Ed} (h : wrongM l ≠ 0) : sortM l = ([], wrongM l) := by unfold sortM; rw [if_pos h]
theorem sort_ok {l : List Ed} (h : (sortM l).2 = 0) : wrongM l = 0 ∧ sortG (nsM l) (ndM l) (nsM l).length [] = some (sortM l).1 := by
  unfold sortM at h ⊢
  by_cases hw : wrongM l = 0
  · rw [if_neg (by simp [hw])] at h ⊢
    cases hg : sortG (nsM l) (ndM l) (nsM l).length [] with
    | none => rw [hg] at h; cases h
    | some o => exact ⟨hw, rfl⟩
  · rw [if_pos hw] at h; exact absurd h hw
theorem ordG_nil (N : List St) (nd : St → List St) : OrdG N nd [] := by
  intro a s b h; simp at h
theorem sort_spec {l : List Ed} (h : (sortM l).2 = 0) : wrongM l = 0 ∧ OrdG (nsM l) (ndM l) (sortM l).1 ∧ (sortM l).1.Perm (nsM l) := by
  obtain ⟨hw, hg⟩ := sort_ok h
  obtain ⟨a, b, c, d⟩ := sortG_spec hg (ordG_nil _ _) List.nodup_nil (by simp)
  exact ⟨hw, a, full_of (ns_rise hw).nodup b c (by simpa using d)⟩
/-- OrderSorts. -/
theorem sorts_ok {l : List Ed} (h : (sortM l).2 = 0) : ringM l = [] ∧ rightM l (sortM l).1 = true := by
  obtain ⟨hw, ho, hp⟩ := sort_spec h
  refine ⟨?_, right_ord hw hp ho⟩
  rcases (ring_spec hw).1 with h1 | h1
  · exact h1
  · obtain ⟨s, T, e, hs, hP, hT, hn⟩ := h1.some
    exfalso
    have key : ∀ (T : List St) (t : St), t ∈ nsM l → Path (ndM l) s t T → (∀ y ∈ T, y ∈ nsM l) → (sortM l).1.idxOf s < (sortM l).1.idxOf t := by
      intro T
      induction T with
      | nil => intro t ht hP _; exact ord_idx ho (hp.mem_iff.2 ht) hP hs
      | cons y T ih =>
        intro t ht hP hT
        have hy := hT y (by simp)
        exact Nat.lt_trans (ih y hy hP.2 (fun z hz => hT z (by simp [hz]))) (ord_idx ho (hp.mem_iff.2 ht) hP.1 hy)
    have := key T s hs hP (fun y hy => (hT y hy).2)
    omega
theorem sorts_else {l : List Ed} (h : wrongM l ≠ 0) : (sortM l).1 = [] ∧ ringM l = [] ∧ ∀ o, rightM l o = false := by
  refine ⟨by rw [sort_wrong h], by unfold ringM; rw [if_pos h], fun o => ?_⟩
  unfold rightM
  rw [decide_eq_false h]; rfl
/-- OrderMeets. -/
theorem meets_sides (l : List Ed) (a b : St) : b ∈ belowM l a ↔ a ∈ aboveM l b := by
  by_cases hw : wrongM l = 0
  · rw [below_iff hw, above_iff hw]
  · rw [below_out (.inr hw)]; unfold aboveM; rw [if_pos hw]; simp
theorem idx_at {o : List St} (hn : o.Nodup) (i : Nat) (h : i < o.length) : o.idxOf o[i] = i := by
  have h1 : o.idxOf o[i] < o.length := List.idxOf_lt_length_of_mem (List.getElem_mem h)
  have h2 : o[o.idxOf o[i]] = o[i] := List.getElem_idxOf h1
  rcases Nat.lt_trichotomy (o.idxOf o[i]) i with h3 | h3 | h3
  · exact absurd h2 (List.pairwise_iff_getElem.1 hn _ _ h1 h h3)
  · exact h3
  · exact absurd h2.symm (List.pairwise_iff_getElem.1 hn _ _ h h1 h3)
end Go.Proofs.Ytdiokmmjdpbdbaa

namespace Go.Proofs.Ytdiokmmjdpbdbaa
open Go PG
set_option linter.unusedSimpArgs false
set_option linter.unusedVariables false
set_option linter.unusedSectionVars false
/-! Nothing hangs on more than the names, and what each one needs -/
section
variable {N : List St} {nd nd' : St → List St} (h : ∀ s x, x ∈ nd s ↔ x ∈ nd' s)
include h
end
section
variable {N : List St} {nd nd' : St → List St} (h : ∀ s x, x ∈ nd s ↔ x ∈ nd' s)
include h
end
structure SameE (l l' : List Ed) : Prop where
  wrong : wrongM l = 0 ↔ wrongM l' = 0
  ns : nsM l = nsM l'
  nd : wrongM l = 0 → ∀ s x, x ∈ ndM l s ↔ x ∈ ndM l' s
/-! One edge more -/
structure NewE (l : List Ed) (x : Ed) : Prop where
  name : ∀ e ∈ l, e.name ≠ x.name ∧ x.name ∉ e.needs
  self : x.name ∉ x.needs
section
variable {l : List Ed} {x : Ed} (hn : NewE l x) (hw : wrongM (l ++ [x]) = 0)
include hn hw
end
end Go.Proofs.Ytdiokmmjdpbdbaa

