import Derived.Test.YthekpjhffciakaaDoorQ6
import Derived.Test.YthekpjhffciakaaDoorQ12
import Derived.Test.YthekpjhffciakaaDoorQ11
namespace Go.Proofs.YthekpjhffciakaaDoor
open Go PG Go.Proofs
set_option linter.unusedSimpArgs false
set_option linter.unusedVariables false
set_option maxRecDepth 100000
section
variable {nm : List UInt8 → Int} {l : List Tok}
def AllK (o : List Nd) : Prop := ∀ x ∈ o, x.kids.length ≤ 3
def KF (f : PS → Int × PS) : Prop := ∀ s, AllK s.out → AllK (f s).2.out
theorem allK_put {s : PS} {n : Nd} (h : AllK s.out) (hn : n.kids.length ≤ 3) : AllK (putP s n).2.out := by
  intro x hx
  rcases List.mem_append.1 hx with hx | hx
  · exact h x hx
  · rw [List.mem_singleton.1 hx]; exact hn
theorem callL_K {f : PS → Int × PS} {op : Nat} (h : KF f) : ∀ (k : Nat) (kids : List Int) (s : PS), kids.length + k ≤ 3 → AllK s.out → AllK (callL l f op k kids s).2.out
  | 0, _, _, _, hs => hs
  | k + 1, kids, s, hk, hs => by
    unfold callL
    split
    · exact h s hs
    · split
      · split
        · exact allK_put (h s hs) (by simp; omega)
        · exact h s hs
      · split
        · exact callL_K h k _ _ (by simp; omega) (h s hs)
        · exact h s hs
theorem factor_K {jk : Bool} {f : PS → Int × PS} (h : KF f) : KF (factorP nm l jk f) := by
  intro s hs
  unfold factorP
  split
  · exact allK_put hs (by simp)
  · split
    · split
      · unfold callP
        split
        · exact hs
        · exact callL_K h _ _ _ (by unfold kidN; split <;> simp) hs
      · exact allK_put hs (by simp)
    · split
      · exact hs
      · split
        · exact h _ hs
        · split
          · exact h _ hs
          · exact h _ hs
theorem rowL_K {f : PS → Int × PS} {ops : List (Nat × List UInt8)} (h : KF f) : ∀ (k : Nat) (n : Int) (s : PS), AllK s.out → AllK (rowL l f ops k n s).2.out
  | 0, _, _, hs => hs
  | k + 1, n, s, hs => by
    unfold rowL
    split
    · exact hs
    · split
      · exact hs
      · exact rowL_K h k _ _ (allK_put (h _ hs) (by simp))
theorem rowP_K {f : PS → Int × PS} {ops : List (Nat × List UInt8)} (h : KF f) : KF (rowP l f ops) := fun s hs => rowL_K h _ _ _ (h s hs)
theorem sumP_K {jk : Bool} : ∀ k, KF (sumP nm l jk k)
  | 0 => fun s hs => hs
  | k + 1 => rowP_K (rowP_K (factor_K (sumP_K k)))
end
end Go.Proofs.YthekpjhffciakaaDoor

namespace Go.Proofs.YthekpjhffciakaaDoor
open Go PG Go.Proofs
set_option linter.unusedSimpArgs false
set_option linter.unusedVariables false
set_option maxRecDepth 100000
/-! Formulas, and how their tokens stand -/
inductive Ex where
  | num (v : Int)
  | var (x : List UInt8)
  | two (o : Nat) (a b : Ex)
  | thr (a b d : Ex)
def Ex.size : Ex → Nat
  | .num _ => 1
  | .var _ => 1
  | .two _ a b => a.size + b.size + 1
  | .thr a b d => a.size + b.size + d.size + 1
def Ex.deep : Ex → Int
  | .num _ => 1
  | .var _ => 1
  | .two _ a b => max a.deep b.deep + 1
  | .thr a b d => max (max a.deep b.deep) d.deep + 1
def Ex.root (e : Ex) (c : Nat) : Int := ((c + e.size - 1 : Nat) : Int)
def Ex.nds : Ex → Nat → List Nd
  | .num v, _ => [⟨0, v, [], []⟩]
  | .var x, _ => [⟨1, 0, x, []⟩]
  | .two o a b, c => a.nds c ++ (b.nds (c + a.size) ++ [⟨o, 0, [], [a.root c, b.root (c + a.size)]⟩])
  | .thr a b d, c => a.nds c ++ (b.nds (c + a.size) ++ (d.nds (c + a.size + b.size) ++ [⟨7, 0, [], [a.root c, b.root (c + a.size), d.root (c + a.size + b.size)]⟩]))
theorem Ex.size_pos : ∀ e : Ex, 0 < e.size
  | .num _ => by simp [Ex.size]
  | .var _ => by simp [Ex.size]
  | .two _ a b => by simp [Ex.size]
  | .thr a b d => by simp [Ex.size]
theorem Ex.nds_len : ∀ (e : Ex) (c : Nat), (e.nds c).length = e.size
  | .num _, _ => rfl
  | .var _, _ => rfl
  | .two _ a b, c => by simp only [Ex.nds, Ex.size, List.length_append, List.length_cons, List.length_nil, Ex.nds_len a, Ex.nds_len b]; omega
  | .thr a b d, c => by simp only [Ex.nds, Ex.size, List.length_append, List.length_cons, List.length_nil, Ex.nds_len a, Ex.nds_len b, Ex.nds_len d]; omega
/-- The tokens of formulas: of a factor (0), a product (1), a sum (2). -/
inductive D (nm : List UInt8 → Int) : Nat → List KT → Ex → Prop
  | num {x} : D nm 0 [(2, x)] (.num (nm x))
  | var {x} : D nm 0 [(1, x)] (.var x)
  | par {w e} : D nm 2 w e → D nm 0 ((3, [40]) :: (w ++ [(3, [41])])) e
  | call2 {x i w v a b} : callNo x = some i → kidN (i + 5) = 2 → D nm 2 w a → D nm 2 v b → D nm 0 ((1, x) :: (3, [40]) :: (w ++ (3, [44]) :: (v ++ [(3, [41])]))) (.two (i + 5) a b)
  | call3 {x w v u a b d} : callNo x = some 2 → D nm 2 w a → D nm 2 v b → D nm 2 u d → D nm 0 ((1, x) :: (3, [40]) :: (w ++ (3, [44]) :: (v ++ (3, [44]) :: (u ++ [(3, [41])])))) (.thr a b d)
  | fac {w e} : D nm 0 w e → D nm 1 w e
  | mul {w v a b} : D nm 1 w a → D nm 0 v b → D nm 1 (w ++ (3, [42]) :: v) (.two 4 a b)
  | pro {w e} : D nm 1 w e → D nm 2 w e
  | add {w v a b} : D nm 2 w a → D nm 1 v b → D nm 2 (w ++ (3, [43]) :: v) (.two 2 a b)
  | sub {w v a b} : D nm 2 w a → D nm 1 v b → D nm 2 (w ++ (3, [45]) :: v) (.two 3 a b)
/-- These tokens stand from a place on. -/
def Mt (l : List Tok) : Nat → List KT → Prop
  | _, [] => True
  | i, t :: w => (tkAt l i).1 = t.1 ∧ (tkAt l i).2.1 = t.2 ∧ Mt l (i + 1) w
theorem Mt_app {l : List Tok} : ∀ {i : Nat} {w v : List KT}, Mt l i (w ++ v) ↔ Mt l i w ∧ Mt l (i + w.length) v
  | i, [], v => by simp [Mt]
  | i, t :: w, v => by
    simp only [List.cons_append, Mt, List.length_cons, Mt_app (w := w) (v := v), show i + (w.length + 1) = i + 1 + w.length by omega, and_assoc]
def af (s : PS) (w : List KT) (e : Ex) : PS := ⟨s.at_ + w.length, 0, s.out ++ e.nds s.out.length⟩
def Nx (l : List Tok) (i : Nat) (x : List UInt8) : Prop := ¬ ((tkAt l i).1 = 3 ∧ (tkAt l i).2.1 = x)
theorem Nx.no {l : List Tok} {s : PS} {x : List UInt8} (h : Nx l s.at_ x) : sgn l s x = false := by
  unfold Nx at h; unfold sgn
  simp only [Bool.and_eq_false_iff, decide_eq_false_iff_not]
  by_cases h1 : (tkAt l s.at_).1 = 3
  · exact .inr fun h2 => h ⟨h1, h2⟩
  · exact .inl h1
theorem sgn_yes {l : List Tok} {s : PS} {x : List UInt8} (h1 : (tkAt l s.at_).1 = 3) (h2 : (tkAt l s.at_).2.1 = x) : sgn l s x = true := by
  unfold sgn; simp [h1, h2]
theorem sgn_tok {l : List Tok} {s : PS} {x : List UInt8} (h : sgn l s x = true) : (tkAt l s.at_).1 = 3 ∧ (tkAt l s.at_).2.1 = x := by
  unfold sgn at h; simpa using h
theorem Nx.other {l : List Tok} {i : Nat} {x y : List UInt8} (h1 : (tkAt l i).2.1 = y) (h : y ≠ x) : Nx l i x := fun h2 => h (h1.symm.trans h2.2)
section
variable {nm : List UInt8 → Int} {l : List Tok} {jk : Bool}
def PtF (l : List Tok) (f : PS → Int × PS) (w : List KT) (e : Ex) : Prop := ∀ s : PS, Mt l s.at_ w → s.e = 0 → s.at_ + w.length < l.length → Nx l (s.at_ + w.length) [40] → f s = (e.root s.out.length, af s w e)
def PtR (l : List Tok) (part : PS → Int × PS) (ops : List (Nat × List UInt8)) (w : List KT) (e : Ex) : Prop := ∀ s : PS, Mt l s.at_ w → s.e = 0 → s.at_ + w.length < l.length → Nx l (s.at_ + w.length) [40] → ∃ K, l.length - (s.at_ + w.length) ≤ K ∧ rowP l part ops s = rowL l part ops K (e.root s.out.length) (af s w e)
theorem row_part {part : PS → Int × PS} {ops : List (Nat × List UInt8)} {w : List KT} {e : Ex} (h : PtF l part w e) : PtR l part ops w e := by
  intro s h1 h2 h3 h4
  refine ⟨_, Nat.le_refl _, ?_⟩
  unfold rowP
  rw [h s h1 h2 h3 h4]
  rfl
theorem rowL_succ {part : PS → Int × PS} {ops : List (Nat × List UInt8)} {K : Nat} {n : Int} {s : PS} (h : s.e = 0) : rowL l part ops (K + 1) n s = (match ops.find? (fun o => sgn l s o.2) with
      | none => (n, s)
      | some o => rowL l part ops K (putP (part (adv s 1)).2 ⟨o.1, 0, [], [n, (part (adv s 1)).1]⟩).1 (putP (part (adv s 1)).2 ⟨o.1, 0, [], [n, (part (adv s 1)).1]⟩).2) := by
  conv => lhs; unfold rowL
  rw [if_neg (by simp [h])]
  cases ops.find? (fun o => sgn l s o.2) <;> rfl
theorem callL_succ {sum : PS → Int × PS} {op k : Nat} {kids : List Int} {s : PS} (h : (sum s).2.e = 0) : callL l sum op (k + 1) kids s = (if k = 0 then (if sgn l (sum s).2 [41] then putP (adv (sum s).2 1) ⟨op, 0, [], kids ++ [(sum s).1]⟩ else failP (sum s).2 3)
    else if sgn l (sum s).2 [44] then callL l sum op k (kids ++ [(sum s).1]) (adv (sum s).2 1) else failP (sum s).2 3) := by
  conv => lhs; unfold callL
  rw [if_neg (by simp [h])]
theorem row_stop {part : PS → Int × PS} {ops : List (Nat × List UInt8)} {n : Int} {s : PS} (h : ∀ o ∈ ops, Nx l s.at_ o.2) : ∀ K, rowL l part ops K n s = (n, s)
  | 0 => rfl
  | K + 1 => by
    unfold rowL
    have : ops.find? (fun o => sgn l s o.2) = none := by
      rw [List.find?_eq_none]
      intro o ho
      rw [(h o ho).no]; simp
    rw [this]
    split <;> rfl
theorem row_step {part : PS → Int × PS} {ops : List (Nat × List UInt8)} {w v : List KT} {a b : Ex} {o : Nat} {x : List UInt8}
    (hf : ∀ s : PS, (tkAt l s.at_).1 = 3 → (tkAt l s.at_).2.1 = x → ops.find? (fun o => sgn l s o.2) = some (o, x)) (hx : x ≠ [40])
    (ha : PtR l part ops w a) (hb : PtF l part v b) : PtR l part ops (w ++ (3, x) :: v) (.two o a b) := by
  intro s h1 h2 h3 h4
  rw [Mt_app] at h1
  obtain ⟨h1, h5, h6, h7⟩ := h1
  simp only at h5 h6
  simp only [List.length_append, List.length_cons] at h3 h4 ⊢
  obtain ⟨K, hK, he⟩ := ha s h1 h2 (by omega) (Nx.other h6 hx)
  obtain ⟨K, rfl⟩ : ∃ K', K = K' + 1 := ⟨K - 1, by omega⟩
  refine ⟨K, by omega, ?_⟩
  rw [he, rowL, if_neg (by simp [af]), hf (af s w a) h5 h6]
  simp only
  have hb' := hb (adv (af s w a) 1) h7 rfl (by simp only [adv, af]; omega) (by simp only [adv, af]; rw [show s.at_ + w.length + 1 + v.length = s.at_ + (w.length + (v.length + 1)) by omega]; exact h4)
  rw [hb']
  simp only [putP, af, adv, Ex.nds, Ex.root, Ex.size, List.length_append, List.length_cons, Ex.nds_len, List.append_assoc]
  have e1 : s.at_ + w.length + 1 + v.length = s.at_ + (w.length + (v.length + 1)) := by omega
  have e2 : s.out.length + (a.size + b.size) = s.out.length + (a.size + b.size + 1) - 1 := by omega
  rw [e1, e2]
theorem findM {s : PS} (h1 : (tkAt l s.at_).1 = 3) (h2 : (tkAt l s.at_).2.1 = [42]) : opsM.find? (fun o => sgn l s o.2) = some (4, [42]) := by
  have := sgn_yes h1 h2
  simp [opsM, this]
theorem findA {s : PS} (h1 : (tkAt l s.at_).1 = 3) (h2 : (tkAt l s.at_).2.1 = [43]) : opsA.find? (fun o => sgn l s o.2) = some (2, [43]) := by
  have := sgn_yes h1 h2
  simp [opsA, this]
theorem findS {s : PS} (h1 : (tkAt l s.at_).1 = 3) (h2 : (tkAt l s.at_).2.1 = [45]) : opsA.find? (fun o => sgn l s o.2) = some (3, [45]) := by
  have h3 := sgn_yes h1 h2
  have h4 : sgn l s [43] = false := (Nx.other h2 (by decide)).no
  simp [opsA, h3, h4]
abbrev facF (nm : List UInt8 → Int) (l : List Tok) (jk : Bool) (k : Nat) := factorP nm l jk (sumP nm l jk k)
abbrev proF (nm : List UInt8 → Int) (l : List Tok) (jk : Bool) (k : Nat) := rowP l (facF nm l jk k) opsM
/-- What a factor's, a product's, a sum's tokens come to. -/
def PtL (nm : List UInt8 → Int) (l : List Tok) (jk : Bool) : Nat → List KT → Ex → Prop
  | 0, w, e => ∀ k, w.length ≤ k → PtF l (facF nm l jk k) w e
  | 1, w, e => ∀ k, w.length ≤ k → PtR l (facF nm l jk k) opsM w e
  | _, w, e => ∀ k, w.length ≤ k → (∀ s : PS, Mt l s.at_ w → s.e = 0 → s.at_ + w.length < l.length → Nx l (s.at_ + w.length) [40] → Nx l (s.at_ + w.length) [42] → ∃ K, l.length - (s.at_ + w.length) ≤ K ∧ rowP l (proF nm l jk k) opsA s = rowL l (proF nm l jk k) opsA K (e.root s.out.length) (af s w e))
theorem pro_full {w : List KT} {e : Ex} {k : Nat} (h : PtR l (facF nm l jk k) opsM w e) (s : PS) (h1 : Mt l s.at_ w) (h2 : s.e = 0) (h3 : s.at_ + w.length < l.length) (h4 : Nx l (s.at_ + w.length) [40]) (h5 : Nx l (s.at_ + w.length) [42]) : proF nm l jk k s = (e.root s.out.length, af s w e) := by
  obtain ⟨K, -, he⟩ := h s h1 h2 h3 h4
  unfold proF
  rw [he, row_stop]
  intro o ho
  simp only [opsM, List.mem_singleton] at ho
  subst ho
  exact h5
theorem sum_full {w : List KT} {e : Ex} (h : PtL nm l jk 2 w e) {k : Nat} (hk : w.length < k) (s : PS) (h1 : Mt l s.at_ w) (h2 : s.e = 0) (h3 : s.at_ + w.length < l.length) (h4 : ∀ x ∈ [[40], [42], [43], [45]], Nx l (s.at_ + w.length) x) : sumP nm l jk k s = (e.root s.out.length, af s w e) := by
  obtain ⟨k, rfl⟩ : ∃ k', k = k' + 1 := ⟨k - 1, by omega⟩
  obtain ⟨K, -, he⟩ := h k (by omega) s h1 h2 h3 (h4 _ (by simp)) (h4 _ (by simp))
  unfold sumP
  rw [he, row_stop]
  intro o ho
  simp only [opsA, List.mem_cons, List.not_mem_nil, or_false] at ho
  rcases ho with rfl | rfl
  · exact h4 [43] (by simp)
  · exact h4 [45] (by simp)
theorem sum_row {w v : List KT} {a b : Ex} {o : Nat} {x : List UInt8}
    (hf : ∀ s : PS, (tkAt l s.at_).1 = 3 → (tkAt l s.at_).2.1 = x → opsA.find? (fun o => sgn l s o.2) = some (o, x)) (hx : x ≠ [40]) (hx2 : x ≠ [42])
    (ha : PtL nm l jk 2 w a) (hb : PtL nm l jk 1 v b) : PtL nm l jk 2 (w ++ (3, x) :: v) (.two o a b) := by
  intro k hk s h1 h2 h3 h4 h4'
  rw [Mt_app] at h1
  obtain ⟨h1, h5, h6, h7⟩ := h1
  simp only at h5 h6
  simp only [List.length_append, List.length_cons] at h3 h4 h4' hk ⊢
  obtain ⟨K, hK, he⟩ := ha k (by omega) s h1 h2 (by omega) (Nx.other h6 hx) (Nx.other h6 hx2)
  obtain ⟨K, rfl⟩ : ∃ K', K = K' + 1 := ⟨K - 1, by omega⟩
  refine ⟨K, by omega, ?_⟩
  rw [he, rowL, if_neg (by simp [af]), hf (af s w a) h5 h6]
  simp only
  have e0 : s.at_ + w.length + 1 + v.length = s.at_ + (w.length + (v.length + 1)) := by omega
  have hb' := pro_full (hb k (by omega)) (adv (af s w a) 1) h7 rfl (by simp only [adv, af]; omega) (by simp only [adv, af]; rw [e0]; exact h4) (by simp only [adv, af]; rw [e0]; exact h4')
  rw [hb']
  simp only [putP, af, adv, Ex.nds, Ex.root, Ex.size, List.length_append, List.length_cons, Ex.nds_len, List.append_assoc]
  have e2 : s.out.length + (a.size + b.size) = s.out.length + (a.size + b.size + 1) - 1 := by omega
  rw [e0, e2]
/-- An argument of a call, and the sign behind it. -/
theorem arg_full {w : List KT} {e : Ex} (h : PtL nm l jk 2 w e) {k : Nat} (hk : w.length < k) {s : PS} {x : List UInt8} {v : List KT} (h1 : Mt l s.at_ (w ++ (3, x) :: v)) (h2 : s.e = 0) (h3 : s.at_ + w.length < l.length) (hx : x = [44] ∨ x = [41]) : sumP nm l jk k s = (e.root s.out.length, af s w e) ∧ sgn l (af s w e) x = true ∧ Mt l (adv (af s w e) 1).at_ v := by
  rw [Mt_app] at h1
  obtain ⟨h1, h5, h6, h7⟩ := h1
  refine ⟨sum_full h hk s h1 h2 h3 (fun y hy => Nx.other h6 ?_), sgn_yes h5 h6, h7⟩
  rcases hx with rfl | rfl <;> (simp only [List.mem_cons, List.not_mem_nil, or_false] at hy; rcases hy with rfl | rfl | rfl | rfl <;> simp)
theorem complete {lv : Nat} {w : List KT} {e : Ex} (h : D nm lv w e) : PtL nm l jk lv w e := by
  induction h with
  | num =>
    intro k hk s h1 h2 h3 h4
    unfold facF factorP
    rw [if_pos h1.1, h1.2.1]
    simp [putP, adv, af, Ex.root, Ex.size, Ex.nds, h2]
  | @var x =>
    intro k hk s h1 h2 h3 h4
    have hs : sgn l (adv s 1) [40] = false := Nx.no (by simpa [adv] using h4)
    have k1 := h1.1
    simp only at k1
    unfold facF factorP
    rw [if_neg (by omega), if_pos k1, hs, h1.2.1]
    simp [putP, adv, af, Ex.root, Ex.size, Ex.nds, h2]
  | @par w e hd ih =>
    intro k hk s h1 h2 h3 h4
    have k1 := h1.1
    have k2 := h1.2.1
    simp only at k1 k2
    simp only [List.length_cons, List.length_append, List.length_nil] at hk h3
    obtain ⟨e1, e2, -⟩ := arg_full ih (k := k) (by omega) (s := adv s 1) (x := [41]) (v := []) h1.2.2 h2 (by simp only [adv]; omega) (.inr rfl)
    have hs := sgn_yes (s := s) k1 k2
    unfold facF factorP
    rw [if_neg (by omega), if_neg (by omega), hs, e1]
    simp only [e2]
    simp [af, adv, h2]
    omega
  | @call2 x i w v a b hx hi hd hd' ih ih' =>
    intro k hk s h1 h2 h3 h4
    have k1 := h1.1
    have k2 := h1.2.1
    have k3 := sgn_yes (s := adv s 1) h1.2.2.1 h1.2.2.2.1
    have k4 := h1.2.2.2.2
    simp only at k1 k2 k3
    simp only [List.length_cons, List.length_append, List.length_nil] at hk h3
    obtain ⟨e1, e2, e3⟩ := arg_full ih (k := k) (by omega) (s := adv s 2) (x := [44]) (v := v ++ [(3, [41])]) k4 h2 (by simp only [adv]; omega) (.inl rfl)
    obtain ⟨f1, f2, f3⟩ := arg_full ih' (k := k) (by omega) (s := adv (af (adv s 2) w a) 1) (x := [41]) (v := []) e3 rfl (by simp only [adv, af]; omega) (.inr rfl)
    unfold facF factorP
    rw [if_neg (by omega), if_pos k1, k3, if_pos rfl]
    unfold callP
    rw [k2, hx]
    simp only
    rw [hi]
    unfold callL
    rw [e1]
    simp only [e2]
    rw [if_neg (by simp [af]), if_neg (by omega), if_pos trivial]
    unfold callL
    rw [f1]
    simp only [f2]
    rw [if_neg (by simp [af]), if_pos trivial, if_pos trivial]
    simp only [putP, af, adv, Ex.nds, Ex.root, Ex.size, List.length_append, List.length_cons, List.length_nil, Ex.nds_len, List.append_assoc, List.nil_append, List.cons_append]
    have g1 : s.at_ + 2 + w.length + 1 + v.length + 1 = s.at_ + (w.length + (v.length + (0 + 1) + 1) + 1 + 1) := by omega
    have g2 : s.out.length + (a.size + b.size) = s.out.length + (a.size + b.size + 1) - 1 := by omega
    rw [g1, g2]
  | @call3 x w v u a b d hx hd hd' hd'' ih ih' ih'' =>
    intro k hk s h1 h2 h3 h4
    have k1 := h1.1
    have k2 := h1.2.1
    have k3 := sgn_yes (s := adv s 1) h1.2.2.1 h1.2.2.2.1
    have k4 := h1.2.2.2.2
    simp only at k1 k2 k3
    simp only [List.length_cons, List.length_append, List.length_nil] at hk h3
    obtain ⟨e1, e2, e3⟩ := arg_full ih (k := k) (by omega) (s := adv s 2) (x := [44]) (v := v ++ (3, [44]) :: (u ++ [(3, [41])])) k4 h2 (by simp only [adv]; omega) (.inl rfl)
    obtain ⟨f1, f2, f3⟩ := arg_full ih' (k := k) (by omega) (s := adv (af (adv s 2) w a) 1) (x := [44]) (v := u ++ [(3, [41])]) e3 rfl (by simp only [adv, af]; omega) (.inl rfl)
    obtain ⟨q1, q2, q3⟩ := arg_full ih'' (k := k) (by omega) (s := adv (af (adv (af (adv s 2) w a) 1) v b) 1) (x := [41]) (v := []) f3 rfl (by simp only [adv, af]; omega) (.inr rfl)
    unfold facF factorP
    rw [if_neg (by omega), if_pos k1, k3, if_pos rfl]
    unfold callP
    rw [k2, hx]
    simp only
    rw [show kidN (2 + 5) = 3 from rfl]
    unfold callL
    rw [e1]
    simp only [e2]
    rw [if_neg (by simp [af]), if_neg (by omega), if_pos trivial]
    unfold callL
    rw [f1]
    simp only [f2]
    rw [if_neg (by simp [af]), if_neg (by omega), if_pos trivial]
    unfold callL
    rw [q1]
    simp only [q2]
    rw [if_neg (by simp [af]), if_pos trivial, if_pos trivial]
    simp only [putP, af, adv, Ex.nds, Ex.root, Ex.size, List.length_append, List.length_cons, List.length_nil, Ex.nds_len, List.append_assoc, List.nil_append, List.cons_append]
    have g1 : s.at_ + 2 + w.length + 1 + v.length + 1 + u.length + 1 = s.at_ + (w.length + (v.length + (u.length + (0 + 1) + 1) + 1) + 1 + 1) := by omega
    have g2 : s.out.length + (a.size + (b.size + d.size)) = s.out.length + (a.size + b.size + d.size + 1) - 1 := by omega
    have g3 : s.out.length + (a.size + b.size) = s.out.length + a.size + b.size := by omega
    rw [g1, g2, g3]
    rfl
  | fac hd ih => exact fun k hk => row_part (ih k hk)
  | @mul w v a b hd hd' ih ih' =>
    intro k hk
    simp only [List.length_append, List.length_cons] at hk
    exact row_step (fun s h1 h2 => findM h1 h2) (by decide) (ih k (by omega)) (ih' k (by omega))
  | pro hd ih =>
    intro k hk s h1 h2 h3 h4 h5
    refine ⟨_, Nat.le_refl _, ?_⟩
    have := pro_full (ih k hk) s h1 h2 h3 h4 h5
    rw [rowP, this]
    rfl
  | add hd hd' ih ih' => exact sum_row (fun s h1 h2 => findA h1 h2) (by decide) (by decide) ih ih'
  | sub hd hd' ih ih' => exact sum_row (fun s h1 h2 => findS h1 h2) (by decide) (by decide) ih ih'
/-! ### And the other way round -/
def Snd (l : List Tok) (P : List KT → Ex → Prop) (f : PS → Int × PS) : Prop := ∀ s : PS, s.e = 0 → (f s).2.e = 0 → ∃ w e, Mt l s.at_ w ∧ P w e ∧ f s = (e.root s.out.length, af s w e)
theorem rowL_err {part : PS → Int × PS} {ops : List (Nat × List UInt8)} {n : Int} {s : PS} (h : s.e ≠ 0) : ∀ K, rowL l part ops K n s = (n, s)
  | 0 => rfl
  | K + 1 => by unfold rowL; rw [if_pos h]
theorem rowL_snd {part : PS → Int × PS} {ops : List (Nat × List UInt8)} {P Q : List KT → Ex → Prop} (hp : Snd l Q part) (hops : ∀ o ∈ ops, ∀ w a v b, P w a → Q v b → P (w ++ (3, o.2) :: v) (.two o.1 a b)) (s : PS) : ∀ (K : Nat) (w : List KT) (a : Ex), Mt l s.at_ w → P w a → (rowL l part ops K (a.root s.out.length) (af s w a)).2.e = 0 → ∃ v e, Mt l s.at_ v ∧ P v e ∧ rowL l part ops K (a.root s.out.length) (af s w a) = (e.root s.out.length, af s v e)
  | 0, w, a, h1, h2, h3 => ⟨w, a, h1, h2, rfl⟩
  | K + 1, w, a, h1, h2, h3 => by
    rw [rowL_succ (s := af s w a) rfl] at h3 ⊢
    cases hfo : ops.find? (fun o => sgn l (af s w a) o.2) with
    | none => exact ⟨w, a, h1, h2, rfl⟩
    | some o =>
      rw [hfo] at h3
      dsimp only at h3 ⊢
      have ho := List.mem_of_find?_eq_some hfo
      have hs := List.find?_some hfo
      obtain ⟨hs1, hs2⟩ := sgn_tok hs
      by_cases he : (part (adv (af s w a) 1)).2.e = 0
      · obtain ⟨v, b, g1, g2, g3⟩ := hp (adv (af s w a) 1) rfl he
        rw [g3] at h3 ⊢
        have hm : Mt l s.at_ (w ++ (3, o.2) :: v) := Mt_app.2 ⟨h1, hs1, hs2, g1⟩
        have hst : putP (af (adv (af s w a) 1) v b) ⟨(o.1 : Int), 0, [], [a.root s.out.length, b.root (adv (af s w a) 1).out.length]⟩ = ((Ex.two o.1 a b).root s.out.length, af s (w ++ (3, o.2) :: v) (.two o.1 a b)) := by
          simp only [putP, af, adv, Ex.nds, Ex.root, Ex.size, List.length_append, List.length_cons, Ex.nds_len, List.append_assoc]
          have e1 : s.at_ + w.length + 1 + v.length = s.at_ + (w.length + (v.length + 1)) := by omega
          have e2 : s.out.length + (a.size + b.size) = s.out.length + (a.size + b.size + 1) - 1 := by omega
          rw [e1, e2]
        rw [hst] at h3 ⊢
        exact rowL_snd hp hops s K _ _ hm (hops o ho w a v b h2 g2) h3
      · rw [rowL_err (by simpa [putP] using he)] at h3
        exact absurd h3 (by simpa [putP] using he)
theorem rowP_snd {part : PS → Int × PS} {ops : List (Nat × List UInt8)} {P Q : List KT → Ex → Prop} (hp : Snd l Q part) (hq : ∀ w e, Q w e → P w e) (hops : ∀ o ∈ ops, ∀ w a v b, P w a → Q v b → P (w ++ (3, o.2) :: v) (.two o.1 a b)) : Snd l P (rowP l part ops) := by
  intro s h1 h2
  unfold rowP at h2 ⊢
  by_cases he : (part s).2.e = 0
  · obtain ⟨w, a, g1, g2, g3⟩ := hp s h1 he
    rw [g3] at h2 ⊢
    exact rowL_snd hp hops s _ w a g1 (hq _ _ g2) h2
  · rw [rowL_err he] at h2; exact absurd h2 he
/-- One argument of a call. -/
theorem callL_one {sum : PS → Int × PS} {op k : Nat} {kids : List Int} {s : PS} (hs : Snd l (D nm 2) sum) (h0 : s.e = 0) (h : (callL l sum op (k + 1) kids s).2.e = 0) : ∃ w e, Mt l s.at_ w ∧ D nm 2 w e ∧
    ((k = 0 ∧ Mt l (s.at_ + w.length) [(3, [41])] ∧ callL l sum op (k + 1) kids s = putP (adv (af s w e) 1) ⟨op, 0, [], kids ++ [e.root s.out.length]⟩) ∨
     (k ≠ 0 ∧ Mt l (s.at_ + w.length) [(3, [44])] ∧ callL l sum op (k + 1) kids s = callL l sum op k (kids ++ [e.root s.out.length]) (adv (af s w e) 1))) := by
  by_cases he : (sum s).2.e = 0
  · rw [callL_succ he] at h ⊢
    obtain ⟨w, e, g1, g2, g3⟩ := hs s h0 he
    rw [g3] at h ⊢
    refine ⟨w, e, g1, g2, ?_⟩
    by_cases hk : k = 0
    · rw [if_pos hk] at h ⊢
      by_cases hsg : sgn l (af s w e) [41] = true
      · rw [if_pos hsg] at h ⊢
        obtain ⟨a1, a2⟩ := sgn_tok hsg
        exact .inl ⟨hk, ⟨a1, a2, trivial⟩, rfl⟩
      · rw [if_neg hsg] at h
        simp [failP, af] at h
    · rw [if_neg hk] at h ⊢
      by_cases hsg : sgn l (af s w e) [44] = true
      · rw [if_pos hsg] at h ⊢
        obtain ⟨a1, a2⟩ := sgn_tok hsg
        exact .inr ⟨hk, ⟨a1, a2, trivial⟩, rfl⟩
      · rw [if_neg hsg] at h
        simp [failP, af] at h
  · unfold callL at h; rw [if_pos he] at h; exact absurd h he
theorem callNo_if {x : List UInt8} {i : Nat} (h : callNo x = some i) : i < 5 := by
  unfold callNo at h
  have := List.idxOf?_eq_some_iff.1 h
  obtain ⟨hl, -⟩ := this
  simpa [callWords] using hl
theorem factor_snd {sum : PS → Int × PS} (hs : Snd l (D nm 2) sum) : Snd l (D nm 0) (factorP nm l jk sum) := by
  intro s h0 h
  unfold factorP at h ⊢
  by_cases k2 : (tkAt l s.at_).1 = 2
  · rw [if_pos k2]
    exact ⟨[(2, (tkAt l s.at_).2.1)], _, ⟨k2, rfl, trivial⟩, .num, by simp [putP, adv, af, Ex.root, Ex.size, Ex.nds, h0]⟩
  rw [if_neg k2] at h ⊢
  by_cases k1 : (tkAt l s.at_).1 = 1
  · rw [if_pos k1] at h ⊢
    by_cases hb : sgn l (adv s 1) [40] = true
    · rw [if_pos hb] at h ⊢
      obtain ⟨b1, b2⟩ := sgn_tok hb
      unfold callP at h ⊢
      cases hc : callNo (tkAt l s.at_).2.1 with
      | none => rw [hc] at h; simp [failP, h0] at h
      | some i =>
        rw [hc] at h
        simp only at h ⊢
        have hi := callNo_if hc
        have hkn : kidN (i + 5) = 2 ∨ (kidN (i + 5) = 3 ∧ i = 2) := by unfold kidN; split <;> omega
        rcases hkn with hk | ⟨hk, rfl⟩
        · rw [hk] at h ⊢
          obtain ⟨w, a, m1, d1, hr⟩ := callL_one hs (s := adv s 2) h0 h
          obtain ⟨-, c1, hr⟩ := hr.resolve_left (fun h => absurd h.1 (by decide))
          rw [hr] at h ⊢
          obtain ⟨v, b, m2, d2, hr⟩ := callL_one hs (s := adv (af (adv s 2) w a) 1) rfl h
          obtain ⟨-, c2, hr⟩ := hr.resolve_right (fun h => h.1 rfl)
          rw [hr]
          refine ⟨(1, (tkAt l s.at_).2.1) :: (3, [40]) :: (w ++ (3, [44]) :: (v ++ [(3, [41])])), _, ⟨k1, rfl, b1, b2, Mt_app.2 ⟨m1, c1.1, c1.2.1, Mt_app.2 ⟨m2, c2⟩⟩⟩, .call2 hc hk d1 d2, ?_⟩
          simp only [putP, af, adv, Ex.nds, Ex.root, Ex.size, List.length_append, List.length_cons, List.length_nil, Ex.nds_len, List.append_assoc, List.nil_append, List.cons_append]
          have g1 : s.at_ + 2 + w.length + 1 + v.length + 1 = s.at_ + (w.length + (v.length + (0 + 1) + 1) + 1 + 1) := by omega
          have g2 : s.out.length + (a.size + b.size) = s.out.length + (a.size + b.size + 1) - 1 := by omega
          rw [g1, g2]
        · rw [hk] at h ⊢
          obtain ⟨w, a, m1, d1, hr⟩ := callL_one hs (s := adv s 2) h0 h
          obtain ⟨-, c1, hr⟩ := hr.resolve_left (fun h => absurd h.1 (by decide))
          rw [hr] at h ⊢
          obtain ⟨v, b, m2, d2, hr⟩ := callL_one hs (s := adv (af (adv s 2) w a) 1) rfl h
          obtain ⟨-, c2, hr⟩ := hr.resolve_left (fun h => absurd h.1 (by decide))
          rw [hr] at h ⊢
          obtain ⟨u, d, m3, d3, hr⟩ := callL_one hs (s := adv (af (adv (af (adv s 2) w a) 1) v b) 1) rfl h
          obtain ⟨-, c3, hr⟩ := hr.resolve_right (fun h => h.1 rfl)
          rw [hr]
          refine ⟨(1, (tkAt l s.at_).2.1) :: (3, [40]) :: (w ++ (3, [44]) :: (v ++ (3, [44]) :: (u ++ [(3, [41])]))), _, ⟨k1, rfl, b1, b2, Mt_app.2 ⟨m1, c1.1, c1.2.1, Mt_app.2 ⟨m2, c2.1, c2.2.1, Mt_app.2 ⟨m3, c3⟩⟩⟩⟩, .call3 hc d1 d2 d3, ?_⟩
          simp only [putP, af, adv, Ex.nds, Ex.root, Ex.size, List.length_append, List.length_cons, List.length_nil, Ex.nds_len, List.append_assoc, List.nil_append, List.cons_append]
          have g1 : s.at_ + 2 + w.length + 1 + v.length + 1 + u.length + 1 = s.at_ + (w.length + (v.length + (u.length + (0 + 1) + 1) + 1) + 1 + 1) := by omega
          have g2 : s.out.length + (a.size + (b.size + d.size)) = s.out.length + (a.size + b.size + d.size + 1) - 1 := by omega
          have g3 : s.out.length + (a.size + b.size) = s.out.length + a.size + b.size := by omega
          rw [g1, g2, g3]
          rfl
    · rw [if_neg hb]
      exact ⟨[(1, (tkAt l s.at_).2.1)], _, ⟨k1, rfl, trivial⟩, .var, by simp [putP, adv, af, Ex.root, Ex.size, Ex.nds, h0]⟩
  rw [if_neg k1] at h ⊢
  by_cases hb : sgn l s [40] = true
  · rw [hb] at h ⊢
    simp only [Bool.true_eq_false, if_false] at h ⊢
    obtain ⟨b1, b2⟩ := sgn_tok hb
    by_cases he : (sum (adv s 1)).2.e = 0
    · obtain ⟨w, e, m1, d1, hr⟩ := hs (adv s 1) h0 he
      rw [hr] at h ⊢
      rw [if_neg (by simp [af])] at h ⊢
      by_cases hsg : sgn l (af (adv s 1) w e) [41] = true
      · simp only [hsg, if_true]
        obtain ⟨a1, a2⟩ := sgn_tok hsg
        refine ⟨(3, [40]) :: (w ++ [(3, [41])]), _, ⟨b1, b2, Mt_app.2 ⟨m1, a1, a2, trivial⟩⟩, .par d1, ?_⟩
        simp [af, adv]
        omega
      · rw [if_neg hsg] at h
        simp [failP, af] at h
    · rw [if_pos he] at h; exact absurd h he
  · have hb' : sgn l s [40] = false := by simpa using hb
    rw [hb'] at h
    simp [failP, h0] at h
theorem sound : ∀ k, Snd l (D nm 2) (sumP nm l jk k)
  | 0 => fun s h0 h => by simp [sumP, failP, h0] at h
  | k + 1 => by
    have hf := factor_snd (jk := jk) (sound k)
    have hp : Snd l (D nm 1) (rowP l (factorP nm l jk (sumP nm l jk k)) opsM) := rowP_snd hf (fun _ _ => .fac) (fun o ho w a v b h1 h2 => by
      simp only [opsM, List.mem_singleton] at ho
      subst ho
      exact .mul h1 h2)
    exact rowP_snd hp (fun _ _ => .pro) (fun o ho w a v b h1 h2 => by
      simp only [opsA, List.mem_cons, List.not_mem_nil, or_false] at ho
      rcases ho with rfl | rfl
      · exact .add h1 h2
      · exact .sub h1 h2)
end
end Go.Proofs.YthekpjhffciakaaDoor

namespace Go.Proofs.YthekpjhffciakaaDoor
open Go PG Go.Proofs
set_option linter.unusedSimpArgs false
set_option linter.unusedVariables false
set_option maxHeartbeats 4000000
set_option maxRecDepth 100000
theorem cw2 : cut (some 10) none wordsP (0 + Int.toNat 2 * 1) = .str [43] := rfl
theorem cw3 : cut (some 10) none wordsP (0 + Int.toNat 3 * 1) = .str [45] := rfl
theorem cw4 : cut (some 10) none wordsP (0 + Int.toNat 4 * 1) = .str [42] := rfl
theorem gW : G0 0 = some (some 10, wordsP) := rfl
theorem v72A (l : List Tok) (hl : l.length ≤ 100000) (f : Nat) (first caps : List PV) (hE : Ent Tryd.prog f) (part : PS → Int × PS) (m : Nat) (ν : Mem) (hν : ν.map (Option.map (MObj.kill (killTag 1))) = ν)
    (hpart : ∀ s, Inv l s → l.length - s.at_ ≤ m → RdC l f (first ++ [] ++ caps) ν s (part s)) (hgood : GoodF l part m) (hno : (PV.fn f first caps).kill (killTag 1) = .fn f first caps) (s0 : PS) (hI : Inv l s0) (hm : l.length - s0.at_ ≤ m) :
    RdC l 72 [.ref 0 0, .fn f first caps, .list none [.int .i64 2, .int .i64 3]] ν s0 (rowP l part opsA s0) := by
  refine PCalls.of_PW Tryd.func72 k72 mix (by simp [c72]) ?_
  simp only [c72, L72, CC, argE]
  have hp := hpart s0 hI hm
  have hg0 := hgood s0 hI hm
  have h0 := hI.end0
  have hr := rowL_good (ops := opsA) hgood h0 s0 hI.le hm
  unfold rowP
  have hkk : ∃ k, l.length - (part s0).2.at_ ≤ k ∧ rowL l part opsA (l.length - (part s0).2.at_) (part s0).1 (part s0).2 = rowL l part opsA k (part s0).1 (part s0).2 := ⟨_, Nat.le_refl _, rfl⟩
  generalize rowL l part opsA (l.length - (part s0).2.at_) (part s0).1 (part s0).2 = R at hkk
  generalize part s0 = r0 at hp hg0 hkk
  obtain ⟨n0, s1⟩ := r0
  repeat' (first | exact True.intro | (refine PW.seqK ?_; intro K hK) | refine stp ?_ | refine seqK_n ‹_› ?_ | refine seqK_r ‹_› ?_ | refine seqK_e ‹_› ?_ | exact schedW_stop_i | refine schK_n ‹_› ?_ | (refine PW.cond rfl ?_ ?_ <;> intro hcond <;> (try contradiction) <;> try simp only [DD] at hcond) | (refine goCall_K 1 hE hp rfl ?_; rintro p μ' ⟨rfl, rfl⟩; simp only [hno, SA, Nat.reduceAdd, reduceIte, Nat.reduceEqDiff, Nat.reduceBEq, reduceCtorEq]) | (refine gd_i ?_; intro hg; try simp only [hg]) | (refine ari ?_; first | omega | (simp only [DD, LL] <;> omega) | (go_unwrap; omega)) | ((first | refine stq ?_ | show (_ : Post) _ _ _ | (refine schedW_alt_k ?_ ?_; intro K hK)); focus (simp only [SA, Nat.reduceAdd, reduceIte, Nat.reduceEqDiff, Nat.reduceBEq, reduceCtorEq]; (try go_unwrap; try simp only [RR, reduceCtorEq]))) | refine And.intro ?_ ?_ | exact Or.inr ⟨rfl, Nat.le_refl _⟩ | exact (fun h => Bool.noConfusion h))
  refine PW.loop (σ := Int × PS) [0, 1, 2, 7] (fun q => [.ref 0 0, .fn f first caps, .list none [.int .i64 2, .int .i64 3], .int .i64 q.1]) (fun q => some (rdP l q.2) :: some (rowO q.2) :: ν)
    (fun q => Good l s0 q ∧ ∃ k, l.length - q.2.at_ ≤ k ∧ R = rowL l part opsA k q.1 q.2) (fun q => l.length - q.2.at_) (n0, s1) ?_ rfl ⟨hg0, hkk⟩ ?_
  · simp only [SA, Nat.reduceAdd, reduceIte, Nat.reduceEqDiff, Nat.reduceBEq, reduceCtorEq]; rfl
  clear hp hkk hg0
  rintro ⟨n, s⟩ ⟨hg, k, hk, hR⟩
  simp only at hk hR
  simp only [List.zip_cons_cons, List.zip_nil_left]
  simp only [rdP, rowO]
  by_cases he : s.e = 0
  case neg =>
    have d1 : decide (s.e = 0) = false := by simp only [decide_eq_false_iff_not]; exact he
    have hRR : R = (n, s) := by rw [hR]; cases k <;> simp [rowL, he]
    subst hRR
    repeat' (first | exact True.intro | (refine PW.seqK ?_; intro K hK) | refine stp ?_ | refine seqK_n ‹_› ?_ | refine seqK_r ‹_› ?_ | refine seqK_e ‹_› ?_ | exact schedW_stop_i | refine schK_n ‹_› ?_ | (refine PW.cond rfl ?_ ?_ <;> intro hcond <;> (try contradiction) <;> try simp only [DD] at hcond) | (refine gd_i ?_; intro hg; try simp only [hg]) | (refine ari ?_; first | omega | (simp only [DD, LL] <;> omega) | (go_unwrap; omega)) | ((first | refine stq ?_ | show (_ : Post) _ _ _ | (refine schedW_alt_k ?_ ?_; intro K hK)); focus (simp only [d1, SA, Nat.reduceAdd, reduceIte, Nat.reduceEqDiff, Nat.reduceBEq, reduceCtorEq]; (try go_unwrap; try simp only [d1, RR, reduceCtorEq]))) | refine And.intro ?_ ?_ | exact Or.inr ⟨rfl, Nat.le_refl _⟩ | exact (fun h => Bool.noConfusion h))
    all_goals rfl
  have d1 : decide (s.e = 0) = true := by simp only [decide_eq_true_eq]; exact he
  have hg' := hg
  obtain ⟨hlt, hle, hout, hn0, hn1, hgo, -⟩ := hg
  simp only at hlt hle hout hn0 hn1 hgo
  have htk : (s.out.map ndP).take s.out.length = s.out.map ndP := List.take_of_length_le (by simp)
  have hadv : s.at_ + 1 < l.length → Inv l (adv s 1) := fun h => ⟨by simpa [adv] using h, by have := hI.le; simp [adv]; omega, he, h0⟩
  obtain ⟨k', rfl⟩ : ∃ k', k = k' + 1 := ⟨k - 1, by omega⟩
  have wa : IntKind.i64.wrap ((s.at_ : Int) + 1) = ((s.at_ + 1 : Nat) : Int) := by rw [IntWalk.i64_in _ (by omega)]; simp
  repeat' (first | exact True.intro | (refine PW.seqK ?_; intro K hK) | refine stp ?_ | refine seqK_n ‹_› ?_ | refine seqK_r ‹_› ?_ | refine seqK_e ‹_› ?_ | exact schedW_stop_i | refine schK_n ‹_› ?_ | (refine PW.cond rfl ?_ ?_ <;> intro hcond <;> (try contradiction) <;> try simp only [DD] at hcond) | (refine gd_i ?_; intro hg; try simp only [hg]) | (refine ari ?_; first | omega | (simp only [DD, LL] <;> omega) | (go_unwrap; omega)) | ((first | refine stq ?_ | show (_ : Post) _ _ _ | (refine schedW_alt_k ?_ ?_; intro K hK)); focus (simp only [d1, SA, Nat.reduceAdd, reduceIte, Nat.reduceEqDiff, Nat.reduceBEq, reduceCtorEq]; (try go_unwrap; try simp only [d1, RR, reduceCtorEq]))) | refine And.intro ?_ ?_ | exact Or.inr ⟨rfl, Nat.le_refl _⟩ | exact (fun h => Bool.noConfusion h))
  refine PW.loop (σ := Nat) [0, 1, 2, 7, 17, 18, 19] (fun j => [.ref 0 0, .fn f first caps, .list none [.int .i64 2, .int .i64 3], .int .i64 n, .list none [.int .i64 2, .int .i64 3], .int .i64 2, .int .i64 j]) (fun _ => some (rdP l s) :: some (rowO s) :: ν)
    (fun j => j ≤ 2 ∧ (0 < j → sgn l s [43] = false) ∧ (1 < j → sgn l s [45] = false)) (fun j => 2 - j) 0 ?_ rfl ⟨by omega, by omega, by omega⟩ ?_
  · simp only [SA, Nat.reduceAdd, reduceIte, Nat.reduceEqDiff, Nat.reduceBEq, reduceCtorEq]; rfl
  rintro j ⟨hj, hsn⟩
  simp only [List.zip_cons_cons, List.zip_nil_left]
  simp only [rdP, rowO]
  rcases j with _ | _ | j
  · have hv := v98 l s [43] hlt hl
    by_cases hs : sgn l s [43] = true
    · rw [hs] at hv
      have h1 := sgn_lt h0 hlt hs
      have hIa := hadv h1
      have hpa := hpart (adv s 1) hIa (by simp [adv]; omega)
      have hga := hgood (adv s 1) hIa (by simp [adv]; omega)
      have hRn : R = rowL l part opsA k' (putP (part (adv s 1)).2 ⟨2, 0, [], [n, (part (adv s 1)).1]⟩).1 (putP (part (adv s 1)).2 ⟨2, 0, [], [n, (part (adv s 1)).1]⟩).2 := by
        rw [hR]; simp [rowL, he, opsA, hs]
      have hle2 : s.at_ + 1 ≤ (part (adv s 1)).2.at_ := hga.le
      have hoo : (part (adv s 1)).2.out.length + (s.at_ + 1) ≤ s.out.length + (part (adv s 1)).2.at_ := hga.out
      generalize part (adv s 1) = r at hpa hga hRn hle2 hoo
      obtain ⟨rn, rs⟩ := r
      simp only at hRn hle2 hoo
      have hga2 := hga.lt
      simp only at hga2
      have hgood2 : Good l s0 (putP rs ⟨2, 0, [], [n, rn]⟩) := good_put (s := s0) hga.lt (by omega) (by omega) hI.le hga.er
      have hpt := (v99 l rs ⟨2, 0, [], [n, rn]⟩ (by have := hI.le; omega)).frame ν hν (by simp [PV.kill, ndP, ndC, kidsP])
      simp only [ndP, ndC, kidsP, List.map_cons, List.map_nil] at hpt
      simp only [RdC, rdP, rowO, adv] at hpa hpt
      repeat' (first | exact True.intro | (exact Or.inr (by decide)) | (exact Or.inr ⟨rfl, by decide⟩) | (refine PW.seqK ?_; intro K hK) | refine stp ?_ | refine seqK_n ‹_› ?_ | refine seqK_r ‹_› ?_ | refine seqK_e ‹_› ?_ | exact schedW_stop_i | refine schK_n ‹_› ?_ | (refine PW.cond rfl ?_ ?_ <;> intro hcond <;> (try contradiction) <;> try simp only [DD] at hcond) | (refine goCall_K 1 hE hpa rfl ?_; rintro p μ' ⟨rfl, rfl⟩; simp only [hno, gW, evalO, cw2, cw3, cw4, q2, wa, List.length_cons, List.length_nil, SA, Nat.reduceAdd, reduceIte, Nat.reduceEqDiff, Nat.reduceBEq, reduceCtorEq]) | (refine goCall_K 1 e99 hpt rfl ?_; rintro p μ' ⟨rfl, rfl⟩; simp only [hno, gW, evalO, cw2, cw3, cw4, q2, wa, List.length_cons, List.length_nil, SA, Nat.reduceAdd, reduceIte, Nat.reduceEqDiff, Nat.reduceBEq, reduceCtorEq]) | (refine gd_i ?_; intro hg; try simp only [hg]) | refine goCall_L 1 e98 hv (by simp [PV.lend, PV.view, Mem.get, htk]) (by simp [PV.lends, PV.lend, PV.view, PV.seen, fitB, PV.scalar, Mem.get, Sh.size, htk]) (by simp [PV.flat]) ?_ | (refine ari ?_; first | omega | (simp only [DD, LL] <;> omega) | (go_unwrap; omega)) | ((first | refine stq ?_ | show (_ : Post) _ _ _ | (refine schedW_alt_k ?_ ?_; intro K hK)); focus (simp only [gW, evalO, cw2, cw3, cw4, q2, wa, List.length_cons, List.length_nil, SA, Nat.reduceAdd, reduceIte, Nat.reduceEqDiff, Nat.reduceBEq, reduceCtorEq]; (try go_unwrap; try simp only [gW, evalO, cw2, cw3, cw4, q2, wa, List.length_cons, List.length_nil, RR, reduceCtorEq]))) | refine And.intro ?_ ?_ | exact Or.inr ⟨rfl, Nat.le_refl _⟩ | exact (fun h => Bool.noConfusion h))
      all_goals exact ⟨putP rs ⟨2, 0, [], [n, rn]⟩, rfl, rfl, ⟨hgood2, k', by simp [putP]; omega, hRn⟩, by simp [putP]; omega⟩
    · have hs' : sgn l s [43] = false := by simpa using hs
      rw [hs'] at hv
      repeat' (first | exact True.intro | (exact Or.inr (by decide)) | (refine PW.seqK ?_; intro K hK) | refine stp ?_ | refine seqK_n ‹_› ?_ | refine seqK_r ‹_› ?_ | refine seqK_e ‹_› ?_ | exact schedW_stop_i | refine schK_n ‹_› ?_ | (refine PW.cond rfl ?_ ?_ <;> intro hcond <;> (try contradiction) <;> try simp only [DD] at hcond) | (refine gd_i ?_; intro hg; try simp only [hg]) | refine goCall_L 1 e98 hv (by simp [PV.lend, PV.view, Mem.get, htk]) (by simp [PV.lends, PV.lend, PV.view, PV.seen, fitB, PV.scalar, Mem.get, Sh.size, htk]) (by simp [PV.flat]) ?_ | (refine ari ?_; first | omega | (simp only [DD, LL] <;> omega) | (go_unwrap; omega)) | ((first | refine stq ?_ | show (_ : Post) _ _ _ | (refine schedW_alt_k ?_ ?_; intro K hK)); focus (simp only [gW, evalO, cw2, cw3, cw4, List.length_cons, List.length_nil, SA, Nat.reduceAdd, reduceIte, Nat.reduceEqDiff, Nat.reduceBEq, reduceCtorEq]; (try go_unwrap; try simp only [gW, evalO, cw2, cw3, cw4, List.length_cons, List.length_nil, RR, reduceCtorEq]))) | refine And.intro ?_ ?_ | exact Or.inr ⟨rfl, Nat.le_refl _⟩ | exact (fun h => Bool.noConfusion h))
      all_goals exact ⟨1, rfl, ⟨by omega, fun _ => hs', fun h => absurd h (by omega)⟩, by omega⟩
  · have n0 : sgn l s [43] = false := hsn.1 (by omega)
    have hv := v98 l s [45] hlt hl
    by_cases hs : sgn l s [45] = true
    · rw [hs] at hv
      have h1 := sgn_lt h0 hlt hs
      have hIa := hadv h1
      have hpa := hpart (adv s 1) hIa (by simp [adv]; omega)
      have hga := hgood (adv s 1) hIa (by simp [adv]; omega)
      have hRn : R = rowL l part opsA k' (putP (part (adv s 1)).2 ⟨3, 0, [], [n, (part (adv s 1)).1]⟩).1 (putP (part (adv s 1)).2 ⟨3, 0, [], [n, (part (adv s 1)).1]⟩).2 := by
        rw [hR]; simp [rowL, he, opsA, hs, n0]
      have hle2 : s.at_ + 1 ≤ (part (adv s 1)).2.at_ := hga.le
      have hoo : (part (adv s 1)).2.out.length + (s.at_ + 1) ≤ s.out.length + (part (adv s 1)).2.at_ := hga.out
      generalize part (adv s 1) = r at hpa hga hRn hle2 hoo
      obtain ⟨rn, rs⟩ := r
      simp only at hRn hle2 hoo
      have hga2 := hga.lt
      simp only at hga2
      have hgood2 : Good l s0 (putP rs ⟨3, 0, [], [n, rn]⟩) := good_put (s := s0) hga.lt (by omega) (by omega) hI.le hga.er
      have hpt := (v99 l rs ⟨3, 0, [], [n, rn]⟩ (by have := hI.le; omega)).frame ν hν (by simp [PV.kill, ndP, ndC, kidsP])
      simp only [ndP, ndC, kidsP, List.map_cons, List.map_nil] at hpt
      simp only [RdC, rdP, rowO, adv] at hpa hpt
      repeat' (first | exact True.intro | (exact Or.inr (by decide)) | (exact Or.inr ⟨rfl, by decide⟩) | (refine PW.seqK ?_; intro K hK) | refine stp ?_ | refine seqK_n ‹_› ?_ | refine seqK_r ‹_› ?_ | refine seqK_e ‹_› ?_ | exact schedW_stop_i | refine schK_n ‹_› ?_ | (refine PW.cond rfl ?_ ?_ <;> intro hcond <;> (try contradiction) <;> try simp only [DD] at hcond) | (refine goCall_K 1 hE hpa rfl ?_; rintro p μ' ⟨rfl, rfl⟩; simp only [hno, gW, evalO, cw2, cw3, cw4, q2, wa, List.length_cons, List.length_nil, SA, Nat.reduceAdd, reduceIte, Nat.reduceEqDiff, Nat.reduceBEq, reduceCtorEq]) | (refine goCall_K 1 e99 hpt rfl ?_; rintro p μ' ⟨rfl, rfl⟩; simp only [hno, gW, evalO, cw2, cw3, cw4, q2, wa, List.length_cons, List.length_nil, SA, Nat.reduceAdd, reduceIte, Nat.reduceEqDiff, Nat.reduceBEq, reduceCtorEq]) | (refine gd_i ?_; intro hg; try simp only [hg]) | refine goCall_L 1 e98 hv (by simp [PV.lend, PV.view, Mem.get, htk]) (by simp [PV.lends, PV.lend, PV.view, PV.seen, fitB, PV.scalar, Mem.get, Sh.size, htk]) (by simp [PV.flat]) ?_ | (refine ari ?_; first | omega | (simp only [DD, LL] <;> omega) | (go_unwrap; omega)) | ((first | refine stq ?_ | show (_ : Post) _ _ _ | (refine schedW_alt_k ?_ ?_; intro K hK)); focus (simp only [gW, evalO, cw2, cw3, cw4, q2, wa, List.length_cons, List.length_nil, SA, Nat.reduceAdd, reduceIte, Nat.reduceEqDiff, Nat.reduceBEq, reduceCtorEq]; (try go_unwrap; try simp only [gW, evalO, cw2, cw3, cw4, q2, wa, List.length_cons, List.length_nil, RR, reduceCtorEq]))) | refine And.intro ?_ ?_ | exact Or.inr ⟨rfl, Nat.le_refl _⟩ | exact (fun h => Bool.noConfusion h))
      all_goals exact ⟨putP rs ⟨3, 0, [], [n, rn]⟩, rfl, rfl, ⟨hgood2, k', by simp [putP]; omega, hRn⟩, by simp [putP]; omega⟩
    · have hs' : sgn l s [45] = false := by simpa using hs
      rw [hs'] at hv
      repeat' (first | exact True.intro | (exact Or.inr (by decide)) | (refine PW.seqK ?_; intro K hK) | refine stp ?_ | refine seqK_n ‹_› ?_ | refine seqK_r ‹_› ?_ | refine seqK_e ‹_› ?_ | exact schedW_stop_i | refine schK_n ‹_› ?_ | (refine PW.cond rfl ?_ ?_ <;> intro hcond <;> (try contradiction) <;> try simp only [DD] at hcond) | (refine gd_i ?_; intro hg; try simp only [hg]) | refine goCall_L 1 e98 hv (by simp [PV.lend, PV.view, Mem.get, htk]) (by simp [PV.lends, PV.lend, PV.view, PV.seen, fitB, PV.scalar, Mem.get, Sh.size, htk]) (by simp [PV.flat]) ?_ | (refine ari ?_; first | omega | (simp only [DD, LL] <;> omega) | (go_unwrap; omega)) | ((first | refine stq ?_ | show (_ : Post) _ _ _ | (refine schedW_alt_k ?_ ?_; intro K hK)); focus (simp only [gW, evalO, cw2, cw3, cw4, List.length_cons, List.length_nil, SA, Nat.reduceAdd, reduceIte, Nat.reduceEqDiff, Nat.reduceBEq, reduceCtorEq]; (try go_unwrap; try simp only [gW, evalO, cw2, cw3, cw4, List.length_cons, List.length_nil, RR, reduceCtorEq]))) | refine And.intro ?_ ?_ | exact Or.inr ⟨rfl, Nat.le_refl _⟩ | exact (fun h => Bool.noConfusion h))
      all_goals exact ⟨2, rfl, ⟨by omega, fun _ => n0, fun _ => hs'⟩, by omega⟩
  · have hj0 : j = 0 := by omega
    subst hj0
    have n0 : sgn l s [43] = false := hsn.1 (by omega)
    have n1 : sgn l s [45] = false := hsn.2 (by omega)
    have hRR : R = (n, s) := by rw [hR]; simp [rowL, he, opsA, n0, n1]
    subst hRR
    repeat' (first | exact True.intro | (refine PW.seqK ?_; intro K hK) | refine stp ?_ | refine seqK_n ‹_› ?_ | refine seqK_r ‹_› ?_ | refine seqK_e ‹_› ?_ | exact schedW_stop_i | refine schK_n ‹_› ?_ | (refine PW.cond rfl ?_ ?_ <;> intro hcond <;> (try contradiction) <;> try simp only [DD] at hcond) | (refine gd_i ?_; intro hg; try simp only [hg]) | (refine ari ?_; first | omega | (simp only [DD, LL] <;> omega) | (go_unwrap; omega)) | ((first | refine stq ?_ | show (_ : Post) _ _ _ | (refine schedW_alt_k ?_ ?_; intro K hK)); focus (simp only [List.length_cons, List.length_nil, SA, Nat.reduceAdd, reduceIte, Nat.reduceEqDiff, Nat.reduceBEq, reduceCtorEq]; (try go_unwrap; try simp only [List.length_cons, List.length_nil, RR, reduceCtorEq]))) | refine And.intro ?_ ?_ | exact Or.inr ⟨rfl, Nat.le_refl _⟩ | exact (fun h => Bool.noConfusion h))
    all_goals rfl
theorem v72M (l : List Tok) (hl : l.length ≤ 100000) (f : Nat) (first caps : List PV) (hE : Ent Tryd.prog f) (part : PS → Int × PS) (m : Nat) (ν : Mem) (hν : ν.map (Option.map (MObj.kill (killTag 1))) = ν)
    (hpart : ∀ s, Inv l s → l.length - s.at_ ≤ m → RdC l f (first ++ [] ++ caps) ν s (part s)) (hgood : GoodF l part m) (hno : (PV.fn f first caps).kill (killTag 1) = .fn f first caps) (s0 : PS) (hI : Inv l s0) (hm : l.length - s0.at_ ≤ m) :
    RdC l 72 [.ref 0 0, .fn f first caps, .list none [.int .i64 4]] ν s0 (rowP l part opsM s0) := by
  refine PCalls.of_PW Tryd.func72 k72 mix (by simp [c72]) ?_
  simp only [c72, L72, CC, argE]
  have hp := hpart s0 hI hm
  have hg0 := hgood s0 hI hm
  have h0 := hI.end0
  have hr := rowL_good (ops := opsM) hgood h0 s0 hI.le hm
  unfold rowP
  have hkk : ∃ k, l.length - (part s0).2.at_ ≤ k ∧ rowL l part opsM (l.length - (part s0).2.at_) (part s0).1 (part s0).2 = rowL l part opsM k (part s0).1 (part s0).2 := ⟨_, Nat.le_refl _, rfl⟩
  generalize rowL l part opsM (l.length - (part s0).2.at_) (part s0).1 (part s0).2 = R at hkk
  generalize part s0 = r0 at hp hg0 hkk
  obtain ⟨n0, s1⟩ := r0
  repeat' (first | exact True.intro | (refine PW.seqK ?_; intro K hK) | refine stp ?_ | refine seqK_n ‹_› ?_ | refine seqK_r ‹_› ?_ | refine seqK_e ‹_› ?_ | exact schedW_stop_i | refine schK_n ‹_› ?_ | (refine PW.cond rfl ?_ ?_ <;> intro hcond <;> (try contradiction) <;> try simp only [DD] at hcond) | (refine goCall_K 1 hE hp rfl ?_; rintro p μ' ⟨rfl, rfl⟩; simp only [hno, SA, Nat.reduceAdd, reduceIte, Nat.reduceEqDiff, Nat.reduceBEq, reduceCtorEq]) | (refine gd_i ?_; intro hg; try simp only [hg]) | (refine ari ?_; first | omega | (simp only [DD, LL] <;> omega) | (go_unwrap; omega)) | ((first | refine stq ?_ | show (_ : Post) _ _ _ | (refine schedW_alt_k ?_ ?_; intro K hK)); focus (simp only [SA, Nat.reduceAdd, reduceIte, Nat.reduceEqDiff, Nat.reduceBEq, reduceCtorEq]; (try go_unwrap; try simp only [RR, reduceCtorEq]))) | refine And.intro ?_ ?_ | exact Or.inr ⟨rfl, Nat.le_refl _⟩ | exact (fun h => Bool.noConfusion h))
  refine PW.loop (σ := Int × PS) [0, 1, 2, 7] (fun q => [.ref 0 0, .fn f first caps, .list none [.int .i64 4], .int .i64 q.1]) (fun q => some (rdP l q.2) :: some (rowO q.2) :: ν)
    (fun q => Good l s0 q ∧ ∃ k, l.length - q.2.at_ ≤ k ∧ R = rowL l part opsM k q.1 q.2) (fun q => l.length - q.2.at_) (n0, s1) ?_ rfl ⟨hg0, hkk⟩ ?_
  · simp only [SA, Nat.reduceAdd, reduceIte, Nat.reduceEqDiff, Nat.reduceBEq, reduceCtorEq]; rfl
  clear hp hkk hg0
  rintro ⟨n, s⟩ ⟨hg, k, hk, hR⟩
  simp only at hk hR
  simp only [List.zip_cons_cons, List.zip_nil_left]
  simp only [rdP, rowO]
  by_cases he : s.e = 0
  case neg =>
    have d1 : decide (s.e = 0) = false := by simp only [decide_eq_false_iff_not]; exact he
    have hRR : R = (n, s) := by rw [hR]; cases k <;> simp [rowL, he]
    subst hRR
    repeat' (first | exact True.intro | (refine PW.seqK ?_; intro K hK) | refine stp ?_ | refine seqK_n ‹_› ?_ | refine seqK_r ‹_› ?_ | refine seqK_e ‹_› ?_ | exact schedW_stop_i | refine schK_n ‹_› ?_ | (refine PW.cond rfl ?_ ?_ <;> intro hcond <;> (try contradiction) <;> try simp only [DD] at hcond) | (refine gd_i ?_; intro hg; try simp only [hg]) | (refine ari ?_; first | omega | (simp only [DD, LL] <;> omega) | (go_unwrap; omega)) | ((first | refine stq ?_ | show (_ : Post) _ _ _ | (refine schedW_alt_k ?_ ?_; intro K hK)); focus (simp only [d1, SA, Nat.reduceAdd, reduceIte, Nat.reduceEqDiff, Nat.reduceBEq, reduceCtorEq]; (try go_unwrap; try simp only [d1, RR, reduceCtorEq]))) | refine And.intro ?_ ?_ | exact Or.inr ⟨rfl, Nat.le_refl _⟩ | exact (fun h => Bool.noConfusion h))
    all_goals rfl
  have d1 : decide (s.e = 0) = true := by simp only [decide_eq_true_eq]; exact he
  have hg' := hg
  obtain ⟨hlt, hle, hout, hn0, hn1, hgo, -⟩ := hg
  simp only at hlt hle hout hn0 hn1 hgo
  have htk : (s.out.map ndP).take s.out.length = s.out.map ndP := List.take_of_length_le (by simp)
  have hadv : s.at_ + 1 < l.length → Inv l (adv s 1) := fun h => ⟨by simpa [adv] using h, by have := hI.le; simp [adv]; omega, he, h0⟩
  obtain ⟨k', rfl⟩ : ∃ k', k = k' + 1 := ⟨k - 1, by omega⟩
  have wa : IntKind.i64.wrap ((s.at_ : Int) + 1) = ((s.at_ + 1 : Nat) : Int) := by rw [IntWalk.i64_in _ (by omega)]; simp
  repeat' (first | exact True.intro | (refine PW.seqK ?_; intro K hK) | refine stp ?_ | refine seqK_n ‹_› ?_ | refine seqK_r ‹_› ?_ | refine seqK_e ‹_› ?_ | exact schedW_stop_i | refine schK_n ‹_› ?_ | (refine PW.cond rfl ?_ ?_ <;> intro hcond <;> (try contradiction) <;> try simp only [DD] at hcond) | (refine gd_i ?_; intro hg; try simp only [hg]) | (refine ari ?_; first | omega | (simp only [DD, LL] <;> omega) | (go_unwrap; omega)) | ((first | refine stq ?_ | show (_ : Post) _ _ _ | (refine schedW_alt_k ?_ ?_; intro K hK)); focus (simp only [d1, SA, Nat.reduceAdd, reduceIte, Nat.reduceEqDiff, Nat.reduceBEq, reduceCtorEq]; (try go_unwrap; try simp only [d1, RR, reduceCtorEq]))) | refine And.intro ?_ ?_ | exact Or.inr ⟨rfl, Nat.le_refl _⟩ | exact (fun h => Bool.noConfusion h))
  refine PW.loop (σ := Nat) [0, 1, 2, 7, 17, 18, 19] (fun j => [.ref 0 0, .fn f first caps, .list none [.int .i64 4], .int .i64 n, .list none [.int .i64 4], .int .i64 1, .int .i64 j]) (fun _ => some (rdP l s) :: some (rowO s) :: ν)
    (fun j => j ≤ 1 ∧ (0 < j → sgn l s [42] = false)) (fun j => 1 - j) 0 ?_ rfl ⟨by omega, by omega⟩ ?_
  · simp only [SA, Nat.reduceAdd, reduceIte, Nat.reduceEqDiff, Nat.reduceBEq, reduceCtorEq]; rfl
  rintro j ⟨hj, hsn⟩
  simp only [List.zip_cons_cons, List.zip_nil_left]
  simp only [rdP, rowO]
  rcases j with _ | j
  · have hv := v98 l s [42] hlt hl
    by_cases hs : sgn l s [42] = true
    · rw [hs] at hv
      have h1 := sgn_lt h0 hlt hs
      have hIa := hadv h1
      have hpa := hpart (adv s 1) hIa (by simp [adv]; omega)
      have hga := hgood (adv s 1) hIa (by simp [adv]; omega)
      have hRn : R = rowL l part opsM k' (putP (part (adv s 1)).2 ⟨4, 0, [], [n, (part (adv s 1)).1]⟩).1 (putP (part (adv s 1)).2 ⟨4, 0, [], [n, (part (adv s 1)).1]⟩).2 := by
        rw [hR]; simp [rowL, he, opsM, hs]
      have hle2 : s.at_ + 1 ≤ (part (adv s 1)).2.at_ := hga.le
      have hoo : (part (adv s 1)).2.out.length + (s.at_ + 1) ≤ s.out.length + (part (adv s 1)).2.at_ := hga.out
      generalize part (adv s 1) = r at hpa hga hRn hle2 hoo
      obtain ⟨rn, rs⟩ := r
      simp only at hRn hle2 hoo
      have hga2 := hga.lt
      simp only at hga2
      have hgood2 : Good l s0 (putP rs ⟨4, 0, [], [n, rn]⟩) := good_put (s := s0) hga.lt (by omega) (by omega) hI.le hga.er
      have hpt := (v99 l rs ⟨4, 0, [], [n, rn]⟩ (by have := hI.le; omega)).frame ν hν (by simp [PV.kill, ndP, ndC, kidsP])
      simp only [ndP, ndC, kidsP, List.map_cons, List.map_nil] at hpt
      simp only [RdC, rdP, rowO, adv] at hpa hpt
      repeat' (first | exact True.intro | (exact Or.inr (by decide)) | (exact Or.inr ⟨rfl, by decide⟩) | (refine PW.seqK ?_; intro K hK) | refine stp ?_ | refine seqK_n ‹_› ?_ | refine seqK_r ‹_› ?_ | refine seqK_e ‹_› ?_ | exact schedW_stop_i | refine schK_n ‹_› ?_ | (refine PW.cond rfl ?_ ?_ <;> intro hcond <;> (try contradiction) <;> try simp only [DD] at hcond) | (refine goCall_K 1 hE hpa rfl ?_; rintro p μ' ⟨rfl, rfl⟩; simp only [hno, gW, evalO, cw2, cw3, cw4, q2, wa, List.length_cons, List.length_nil, SA, Nat.reduceAdd, reduceIte, Nat.reduceEqDiff, Nat.reduceBEq, reduceCtorEq]) | (refine goCall_K 1 e99 hpt rfl ?_; rintro p μ' ⟨rfl, rfl⟩; simp only [hno, gW, evalO, cw2, cw3, cw4, q2, wa, List.length_cons, List.length_nil, SA, Nat.reduceAdd, reduceIte, Nat.reduceEqDiff, Nat.reduceBEq, reduceCtorEq]) | (refine gd_i ?_; intro hg; try simp only [hg]) | refine goCall_L 1 e98 hv (by simp [PV.lend, PV.view, Mem.get, htk]) (by simp [PV.lends, PV.lend, PV.view, PV.seen, fitB, PV.scalar, Mem.get, Sh.size, htk]) (by simp [PV.flat]) ?_ | (refine ari ?_; first | omega | (simp only [DD, LL] <;> omega) | (go_unwrap; omega)) | ((first | refine stq ?_ | show (_ : Post) _ _ _ | (refine schedW_alt_k ?_ ?_; intro K hK)); focus (simp only [gW, evalO, cw2, cw3, cw4, q2, wa, List.length_cons, List.length_nil, SA, Nat.reduceAdd, reduceIte, Nat.reduceEqDiff, Nat.reduceBEq, reduceCtorEq]; (try go_unwrap; try simp only [gW, evalO, cw2, cw3, cw4, q2, wa, List.length_cons, List.length_nil, RR, reduceCtorEq]))) | refine And.intro ?_ ?_ | exact Or.inr ⟨rfl, Nat.le_refl _⟩ | exact (fun h => Bool.noConfusion h))
      all_goals exact ⟨putP rs ⟨4, 0, [], [n, rn]⟩, rfl, rfl, ⟨hgood2, k', by simp [putP]; omega, hRn⟩, by simp [putP]; omega⟩
    · have hs' : sgn l s [42] = false := by simpa using hs
      rw [hs'] at hv
      repeat' (first | exact True.intro | (exact Or.inr (by decide)) | (refine PW.seqK ?_; intro K hK) | refine stp ?_ | refine seqK_n ‹_› ?_ | refine seqK_r ‹_› ?_ | refine seqK_e ‹_› ?_ | exact schedW_stop_i | refine schK_n ‹_› ?_ | (refine PW.cond rfl ?_ ?_ <;> intro hcond <;> (try contradiction) <;> try simp only [DD] at hcond) | (refine gd_i ?_; intro hg; try simp only [hg]) | refine goCall_L 1 e98 hv (by simp [PV.lend, PV.view, Mem.get, htk]) (by simp [PV.lends, PV.lend, PV.view, PV.seen, fitB, PV.scalar, Mem.get, Sh.size, htk]) (by simp [PV.flat]) ?_ | (refine ari ?_; first | omega | (simp only [DD, LL] <;> omega) | (go_unwrap; omega)) | ((first | refine stq ?_ | show (_ : Post) _ _ _ | (refine schedW_alt_k ?_ ?_; intro K hK)); focus (simp only [gW, evalO, cw2, cw3, cw4, List.length_cons, List.length_nil, SA, Nat.reduceAdd, reduceIte, Nat.reduceEqDiff, Nat.reduceBEq, reduceCtorEq]; (try go_unwrap; try simp only [gW, evalO, cw2, cw3, cw4, List.length_cons, List.length_nil, RR, reduceCtorEq]))) | refine And.intro ?_ ?_ | exact Or.inr ⟨rfl, Nat.le_refl _⟩ | exact (fun h => Bool.noConfusion h))
      all_goals exact ⟨1, rfl, ⟨by omega, fun _ => hs'⟩, by omega⟩
  · have hj0 : j = 0 := by omega
    subst hj0
    have n0 : sgn l s [42] = false := hsn (by omega)
    have hRR : R = (n, s) := by rw [hR]; simp [rowL, he, opsM, n0]
    subst hRR
    repeat' (first | exact True.intro | (refine PW.seqK ?_; intro K hK) | refine stp ?_ | refine seqK_n ‹_› ?_ | refine seqK_r ‹_› ?_ | refine seqK_e ‹_› ?_ | exact schedW_stop_i | refine schK_n ‹_› ?_ | (refine PW.cond rfl ?_ ?_ <;> intro hcond <;> (try contradiction) <;> try simp only [DD] at hcond) | (refine gd_i ?_; intro hg; try simp only [hg]) | (refine ari ?_; first | omega | (simp only [DD, LL] <;> omega) | (go_unwrap; omega)) | ((first | refine stq ?_ | show (_ : Post) _ _ _ | (refine schedW_alt_k ?_ ?_; intro K hK)); focus (simp only [List.length_cons, List.length_nil, SA, Nat.reduceAdd, reduceIte, Nat.reduceEqDiff, Nat.reduceBEq, reduceCtorEq]; (try go_unwrap; try simp only [List.length_cons, List.length_nil, RR, reduceCtorEq]))) | refine And.intro ?_ ?_ | exact Or.inr ⟨rfl, Nat.le_refl _⟩ | exact (fun h => Bool.noConfusion h))
    all_goals rfl
end Go.Proofs.YthekpjhffciakaaDoor

