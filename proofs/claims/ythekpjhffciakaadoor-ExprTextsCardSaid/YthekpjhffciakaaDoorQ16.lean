import Derived.Test.YthekpjhffciakaaDoorProg
import Derived.KernelRfl
import Derived.Test.YthekpjhffciakaaDoorQ13
import Derived.Test.YthekpjhffciakaaDoorQ15
import Derived.Test.YthekpjhffciakaaDoorQ11
import Derived.Test.YthekpjhffciakaaDoorP4
import Derived.Test.YthekpjhffciakaaDoorQ7
namespace Go.Proofs.YthekpjhffciakaaDoor
open Go PG Go.Proofs
set_option linter.unusedSimpArgs false
set_option linter.unusedVariables false
set_option maxRecDepth 100000
/-! What a text is parsed to, by its tokens -/
theorem Ex.deep_pos : ∀ e : Ex, 1 ≤ e.deep
  | .num _ => by simp [Ex.deep]
  | .var _ => by simp [Ex.deep]
  | .two _ a b => by have := a.deep_pos; have := b.deep_pos; simp only [Ex.deep]; omega
  | .thr a b d => by have := a.deep_pos; have := b.deep_pos; have := d.deep_pos; simp only [Ex.deep]; omega
/-- The depths of a formula's nodes. -/
def Ex.deps : Ex → List Int
  | .num _ => [1]
  | .var _ => [1]
  | .two o a b => a.deps ++ (b.deps ++ [(Ex.two o a b).deep])
  | .thr a b d => a.deps ++ (b.deps ++ (d.deps ++ [(Ex.thr a b d).deep]))
theorem Ex.deps_len : ∀ e : Ex, e.deps.length = e.size
  | .num _ => rfl
  | .var _ => rfl
  | .two _ a b => by simp only [Ex.deps, Ex.size, List.length_append, List.length_cons, List.length_nil, a.deps_len, b.deps_len]; omega
  | .thr a b d => by simp only [Ex.deps, Ex.size, List.length_append, List.length_cons, List.length_nil, a.deps_len, b.deps_len, d.deps_len]; omega
theorem Ex.deps_last : ∀ e : Ex, ∃ p, e.deps = p ++ [e.deep] ∧ p.length + 1 = e.size
  | .num _ => ⟨[], rfl, rfl⟩
  | .var _ => ⟨[], rfl, rfl⟩
  | .two o a b => ⟨a.deps ++ b.deps, by simp [Ex.deps], by simp [Ex.size, a.deps_len, b.deps_len]⟩
  | .thr a b d => ⟨a.deps ++ (b.deps ++ d.deps), by simp [Ex.deps], by simp [Ex.size, a.deps_len, b.deps_len, d.deps_len]; omega⟩
theorem getD_root {acc r : List Int} {e : Ex} {c : Nat} (h : acc.length = c) : (acc ++ (e.deps ++ r)).getD (e.root c).toNat 0 = e.deep := by
  obtain ⟨p, h1, h2⟩ := e.deps_last
  have : (e.root c).toNat = acc.length + p.length := by unfold Ex.root; omega
  rw [this, h1]
  simp [List.getD, List.getElem?_append_right]
theorem deps_nds : ∀ (e : Ex) (c : Nat) (r : List Nd) (acc : List Int), acc.length = c → depthsM (e.nds c ++ r) acc = depthsM r (acc ++ e.deps)
  | .num _, c, r, acc, h => by simp [Ex.nds, depthsM, kidsMax, Ex.deps]
  | .var _, c, r, acc, h => by simp [Ex.nds, depthsM, kidsMax, Ex.deps]
  | .two o a b, c, r, acc, h => by
    simp only [Ex.nds, List.append_assoc]
    rw [deps_nds a c _ acc h, deps_nds b _ _ _ (by simp [a.deps_len, h])]
    simp only [List.cons_append, List.nil_append, depthsM, kidsMax]
    have e1 := getD_root (r := b.deps) (e := a) h
    have e2 := getD_root (acc := acc ++ a.deps) (r := []) (e := b) (c := c + a.size) (by simp [a.deps_len, h])
    rw [List.append_nil] at e2
    have := a.deep_pos
    have e3 : max (max 0 a.deep) b.deep = max a.deep b.deep := by omega
    simp only [List.append_assoc] at e1 e2 ⊢
    rw [e1, e2, e3]
    simp only [Ex.deps, Ex.deep, List.append_assoc]
  | .thr a b d, c, r, acc, h => by
    simp only [Ex.nds, List.append_assoc]
    rw [deps_nds a c _ acc h, deps_nds b _ _ _ (by simp [a.deps_len, h]), deps_nds d _ _ _ (by simp [a.deps_len, b.deps_len, h]; omega)]
    simp only [List.cons_append, List.nil_append, depthsM, kidsMax]
    have e1 := getD_root (r := b.deps ++ d.deps) (e := a) h
    have e2 := getD_root (acc := acc ++ a.deps) (r := d.deps) (e := b) (c := c + a.size) (by simp [a.deps_len, h])
    have e3 := getD_root (acc := acc ++ (a.deps ++ b.deps)) (r := []) (e := d) (c := c + a.size + b.size) (by simp [a.deps_len, b.deps_len, h]; omega)
    rw [List.append_nil] at e3
    have := a.deep_pos
    have e4 : max (max (max 0 a.deep) b.deep) d.deep = max (max a.deep b.deep) d.deep := by omega
    simp only [List.append_assoc] at e1 e2 e3 ⊢
    rw [e1, e2, e3, e4]
    simp only [Ex.deps, Ex.deep, List.append_assoc]
theorem depth_nds (e : Ex) : depthM (e.nds 0) = e.deep := by
  obtain ⟨p, h1, h2⟩ := e.deps_last
  have := deps_nds e 0 [] [] rfl
  rw [List.append_nil] at this
  unfold depthM
  rw [this, Ex.nds_len, depthsM, List.nil_append, h1]
  have : e.size - 1 = p.length := by omega
  rw [this]
  simp [List.getD]
/-- What a formula comes to: its nodes, or that it is too much. -/
def resX (e : Ex) : Except (Nat × Int) (List Nd) := if 256 < e.size then .error (0, 5) else if 16 < e.deep then .error (0, 14) else .ok (e.nds 0)
theorem mt_self : ∀ (l : List Tok) (p : List Tok) (r : List Tok), Mt (p ++ (l ++ r)) p.length (kt l)
  | [], p, r => trivial
  | t :: l, p, r => by
    have h := mt_self l (p ++ [t]) r
    simp only [List.append_assoc, List.cons_append, List.nil_append, List.length_append, List.length_cons, List.length_nil] at h
    refine ⟨by simp [tkAt, List.getD], by simp [tkAt, List.getD], ?_⟩
    simpa [kt] using h
theorem mt_eq : ∀ (w : List KT) (l p r : List Tok), Mt (p ++ (l ++ r)) p.length w → w.length = l.length → w = kt l
  | [], [], _, _, _, _ => rfl
  | t :: w, u :: l, p, r, h, hl => by
    obtain ⟨h1, h2, h3⟩ := h
    have := mt_eq w l (p ++ [u]) r (by simpa using h3) (by simpa using hl)
    simp [tkAt, List.getD] at h1 h2
    simp only [kt, List.map_cons, List.cons.injEq]
    exact ⟨by rw [h1, h2], this⟩
theorem tk_end0 (l' : List Tok) (n : Nat) : tkAt (l' ++ [(0, [], n)]) l'.length = (0, [], n) := by simp [tkAt, List.getD]
theorem parse_complete {nm : List UInt8 → Int} {jk : Bool} {l' : List Tok} {n : Nat} {e : Ex} (h : D nm 2 (kt l') e) : parseR nm (l' ++ [(0, [], n)]) jk = resX e := by
  have hl : (kt l').length = l'.length := by simp [kt]
  have hN : ∀ x, Nx (l' ++ [(0, [], n)]) (0 + (kt l').length) x := fun x => by
    rw [hl, Nat.zero_add]
    intro h
    rw [tk_end0] at h
    exact absurd (show (0 : Nat) = 3 from h.1) (by decide)
  have hm := mt_self l' [] [(0, [], n)]
  have hs := sum_full (jk := jk) (complete (l := l' ++ [(0, [], n)]) h) (k := (l' ++ [(0, [], n)]).length) (by simp [kt]) ⟨0, 0, []⟩ (by simpa using hm) rfl (by simp [kt]) (fun x _ => hN x)
  unfold parseR
  simp only
  rw [hs]
  simp only [af, List.nil_append, List.length_nil, Nat.zero_add, hl, tk_end0, ne_eq, not_true, if_false, Ex.nds_len, depth_nds]
  rfl
theorem parse_sound {nm : List UInt8 → Int} {jk : Bool} {l' : List Tok} {n : Nat} {nd : List Nd} (hk : ∀ t ∈ l', t.1 ≠ 0) (h : parseR nm (l' ++ [(0, [], n)]) jk = .ok nd) : ∃ e, D nm 2 (kt l') e ∧ resX e = .ok nd := by
  have h' := h
  unfold parseR at h
  simp only at h
  split at h
  · cases h
  · rename_i he
    split at h
    · cases h
    · rename_i hz
      have he' : (sumP nm (l' ++ [(0, [], n)]) jk (l' ++ [(0, [], n)]).length ⟨0, 0, []⟩).2.e = 0 := by simpa using he
      obtain ⟨w, e, m1, d1, hr⟩ := sound (nm := nm) (l := l' ++ [(0, [], n)]) (jk := jk) _ ⟨0, 0, []⟩ rfl he'
      have hg := sumP_good (nm := nm) (l := l' ++ [(0, [], n)]) (jk := jk) (l' ++ [(0, [], n)]).length ⟨0, 0, []⟩ ⟨by simp, by simp, rfl, tk_end l' n⟩ (by simp)
      have hlt := hg.lt
      rw [hr] at hz hlt
      simp only [af, Nat.zero_add, List.length_append, List.length_cons, List.length_nil] at hz hlt
      have hw : w.length = l'.length := by
        rcases Nat.lt_or_ge w.length l'.length with hc | hc
        · exfalso
          have : tkAt (l' ++ [(0, [], n)]) w.length = l'[w.length] := by simp [tkAt, List.getD, List.getElem?_append_left hc, hc]
          rw [this] at hz
          exact hk _ (List.getElem_mem hc) (by simpa using hz)
        · omega
      have hwk := mt_eq w l' [] [(0, [], n)] (by simpa using m1) hw
      subst hwk
      exact ⟨e, d1, by rw [← parse_complete d1, h']⟩
theorem resX_ok {e : Ex} {nd : List Nd} (h : resX e = .ok nd) : nd = e.nds 0 ∧ e.size ≤ 256 ∧ e.deep ≤ 16 := by
  unfold resX at h
  split at h
  · cases h
  · split at h
    · cases h
    · cases h; exact ⟨rfl, by omega, by omega⟩
/-- A text's parsing, by the kinds and texts of its tokens. -/
theorem parseS_of {s : List UInt8} {w : List KT} {e : Ex} (hs : s.length ≤ 4096) (hw : lx s = some w) (h : D nmP 2 w e) : parseS s = resX e := by
  obtain ⟨l, h1, h2⟩ := all_lx hs hw
  unfold parseS
  rw [h2]
  simp only
  subst h1
  exact parse_complete h
theorem of_parseS {s : List UInt8} {nd : List Nd} (h : parseS s = .ok nd) : ∃ w e l, s.length ≤ 4096 ∧ lx s = some w ∧ D nmP 2 w e ∧ resX e = .ok nd ∧ kt l = w ∧ (∀ t ∈ l, t.1 ≠ 0 ∧ t.2.1 ≠ [] ∧ tokE 0 t.2.1 = .ok (t.1, t.2.1.length)) := by
  unfold parseS at h
  cases hA : allE s with
  | error p => rw [hA] at h; obtain ⟨o, e⟩ := p; cases h
  | ok l =>
    rw [hA] at h
    simp only at h
    obtain ⟨w, l', h1, h2, h3⟩ := lx_all hA
    obtain ⟨l2, h4, h5, h6, h7⟩ := toks_of hA
    have hll : l' = l2 := by
      rw [h3] at h4
      exact (List.append_inj' h4 rfl).1
    subst hll
    subst h3
    obtain ⟨e, h8, h9⟩ := parse_sound (fun t ht => (h7 t ht).1) h
    exact ⟨w, e, l', h6, h1, h2 ▸ h8, h9, h2, fun t ht => ⟨(h7 t ht).1, (h7 t ht).2.1, (h7 t ht).2.2.1⟩⟩
end Go.Proofs.YthekpjhffciakaaDoor

namespace Go.Proofs.YthekpjhffciakaaDoor
open Go PG Go.Proofs
set_option linter.unusedSimpArgs false
set_option linter.unusedVariables false
set_option maxRecDepth 100000
/-! Formulas that are right, and their nodes' check -/
def Ex.ok : Ex → Prop
  | .num v => 0 ≤ v ∧ v ≤ 1000000000000000000 ∧ v.tmod 100 = 0
  | .var x => isName x = true
  | .two o a b => 2 ≤ o ∧ o ≤ 9 ∧ o ≠ 7 ∧ a.ok ∧ b.ok
  | .thr a b d => a.ok ∧ b.ok ∧ d.ok
theorem part4 (r : List UInt8) (h : r.length ≤ 4) : partV 100000 r % 100 = 0 := by
  match r, h with
  | [], _ => simp [partV]
  | [a], _ => simp [partV]; omega
  | [a, b], _ => simp [partV]; omega
  | [a, b, c], _ => simp [partV]; omega
  | [a, b, c, d], _ => simp [partV]; omega
theorem numL_100 {l : List UInt8} {n v : Nat} (h : numL l = .ok (n, v)) : v % 100 = 0 := by
  unfold numL at h
  split at h
  · split at h
    · cases h
    · split at h
      · cases h
      · rename_i h4
        split at h
        · simp only [Except.ok.injEq, Prod.mk.injEq] at h
          obtain ⟨-, rfl⟩ := h
          have := part4 ((l.drop (runL digitB l + 1)).take (runL digitB (l.drop (runL digitB l + 1)))) (by rw [List.length_take]; omega)
          unfold milV
          omega
        · cases h
  · split at h
    · simp only [Except.ok.injEq, Prod.mk.injEq] at h
      obtain ⟨-, rfl⟩ := h
      unfold milV partV
      omega
    · cases h
theorem num_tok {x : List UInt8} (hx : x ≠ []) (h : tokE 0 x = .ok (2, x.length)) : 0 ≤ nmP x ∧ nmP x ≤ 1000000000000000000 ∧ (nmP x).tmod 100 = 0 := by
  unfold tokE at h
  split at h
  · split at h
    · cases h
    · cases h
  · split at h
    · rename_i hd
      cases hn : numL x with
      | error p => rw [hn] at h; cases h
      | ok p =>
        obtain ⟨m, v⟩ := p
        rw [hn] at h
        simp only [Except.ok.injEq, Prod.mk.injEq, true_and] at h
        subst h
        obtain ⟨w, r, b, -, -, -, hv⟩ := cut_full hn
        have h100 := numL_100 hn
        have : nmP x = (v : Int) := by
          unfold nmP numOf
          rw [if_neg hx, hd, hn]
          simp
        rw [this]
        refine ⟨by omega, by omega, ?_⟩
        rw [Int.tmod_eq_emod_of_nonneg (by omega)]
        omega
    · split at h
      · cases h
      · cases h
theorem kid2_ne {i : Nat} (h : kidN (i + 5) = 2) : i ≠ 2 := by
  intro e; subst e; cases h
theorem D_ok {lv : Nat} {w : List KT} {e : Ex} (h : D nmP lv w e) : (∀ t ∈ w, t.2 ≠ [] ∧ tokE 0 t.2 = .ok (t.1, t.2.length)) → e.ok := by
  induction h with
  | @num x =>
    intro ht
    obtain ⟨h1, h2⟩ := ht (2, x) (by simp)
    exact num_tok h1 h2
  | @var x =>
    intro ht
    obtain ⟨h1, h2⟩ := ht (1, x) (by simp)
    have := (self_name h1 h2).1
    simpa [Ex.ok] using this
  | par hd ih => exact fun ht => ih (fun t h => ht t (by simp [h]))
  | call2 hx hk h1 h2 ih1 ih2 =>
    intro ht
    have := callNo_if hx
    have := kid2_ne hk
    exact ⟨by omega, by omega, by omega, ih1 (fun t h => ht t (by simp [h])), ih2 (fun t h => ht t (by simp [h]))⟩
  | call3 hx h1 h2 h3 ih1 ih2 ih3 =>
    intro ht
    exact ⟨ih1 (fun t h => ht t (by simp [h])), ih2 (fun t h => ht t (by simp [h])), ih3 (fun t h => ht t (by simp [h]))⟩
  | fac hd ih => exact ih
  | mul h1 h2 ih1 ih2 => exact fun ht => ⟨by omega, by omega, by omega, ih1 (fun t h => ht t (by simp [h])), ih2 (fun t h => ht t (by simp [h]))⟩
  | pro hd ih => exact ih
  | add h1 h2 ih1 ih2 => exact fun ht => ⟨by omega, by omega, by omega, ih1 (fun t h => ht t (by simp [h])), ih2 (fun t h => ht t (by simp [h]))⟩
  | sub h1 h2 ih1 ih2 => exact fun ht => ⟨by omega, by omega, by omega, ih1 (fun t h => ht t (by simp [h])), ih2 (fun t h => ht t (by simp [h]))⟩
/-- A right text's formula is right. -/
theorem of_parse {s : List UInt8} {nd : List Nd} (h : parseS s = .ok nd) : ∃ w e, s.length ≤ 4096 ∧ lx s = some w ∧ D nmP 2 w e ∧ resX e = .ok nd ∧ e.ok := by
  obtain ⟨w, e, l, h1, h2, h3, h4, h5, h6⟩ := of_parseS h
  refine ⟨w, e, h1, h2, h3, h4, D_ok h3 (fun t ht => ?_)⟩
  rw [← h5] at ht
  obtain ⟨u, hu, rfl⟩ := List.mem_map.1 ht
  exact ⟨(h6 u hu).2.1, (h6 u hu).2.2⟩
/-! ### The check of nodes -/
theorem form_num {v : Int} : formE ⟨0, v, [], []⟩ = 0 := by simp [formE, kidsTab]
theorem form_var {x : List UInt8} : formE ⟨1, 0, x, []⟩ = 0 := by simp [formE, kidsTab]
theorem rest_num {v : Int} (h : 0 ≤ v ∧ v ≤ 1000000000000000000 ∧ v.tmod 100 = 0) : restE ⟨0, v, [], []⟩ = 0 := by
  obtain ⟨h1, h2, h3⟩ := h
  simp [restE, h3]; omega
theorem rest_var {x : List UInt8} (h : isName x = true) : restE ⟨1, 0, x, []⟩ = 0 := by simp [restE, h]
theorem form_two {o : Nat} {a b : Int} (h1 : 2 ≤ o) (h2 : o ≤ 9) (h3 : o ≠ 7) : formE ⟨o, 0, [], [a, b]⟩ = 0 := by
  have : o = 2 ∨ o = 3 ∨ o = 4 ∨ o = 5 ∨ o = 6 ∨ o = 8 ∨ o = 9 := by omega
  rcases this with rfl | rfl | rfl | rfl | rfl | rfl | rfl <;> rfl
theorem rest_two {o : Nat} {k : List Int} (h1 : 2 ≤ o) : restE ⟨o, 0, [], k⟩ = 0 := by
  simp [restE]; omega
theorem form_thr {a b d : Int} : formE ⟨7, 0, [], [a, b, d]⟩ = 0 := rfl
/-- What is taken behind a formula's nodes: all of them but the root. -/
def TkP (t t' : List Bool) (c n : Nat) : Prop := t'.length = t.length ∧ ∀ j, t'.getD j false = (t.getD j false || (decide (c ≤ j) && decide (j + 1 < c + n)))
theorem getD_set' {t : List Bool} {i j : Nat} (hi : i < t.length) : (t.set i true).getD j false = (t.getD j false || decide (j = i)) := by
  simp only [List.getD_eq_getElem?_getD, List.getElem?_set]
  by_cases h : i = j
  · subst h; simp [hi]
  · simp [h, Ne.symm h]
theorem kids_take {i : Nat} : ∀ (ks : List Nat) (t : List Bool), (∀ k ∈ ks, k < i ∧ k < t.length ∧ t.getD k false = false) → ks.Nodup → ∃ t', kidsStep i (ks.map (fun k : Nat => (k : Int))) t = some t' ∧ t'.length = t.length ∧ ∀ j, t'.getD j false = (t.getD j false || decide (j ∈ ks))
  | [], t, _, _ => ⟨t, rfl, rfl, by simp⟩
  | k :: ks, t, h, hn => by
    obtain ⟨h1, h2, h3⟩ := h k (by simp)
    rw [List.nodup_cons] at hn
    obtain ⟨t', g1, g2, g3⟩ := kids_take ks (t.set k true) (fun x hx => by
      obtain ⟨a1, a2, a3⟩ := h x (by simp [hx])
      refine ⟨a1, by simpa using a2, ?_⟩
      rw [getD_set' h2, a3]
      simp
      intro e; subst e; exact hn.1 hx) hn.2
    refine ⟨t', ?_, by simpa using g2, fun j => ?_⟩
    · simp only [List.map_cons, kidsStep, Int.toNat_natCast, h3]
      rw [if_neg (by simp; omega)]
      exact g1
    · rw [g3, getD_set' h2]
      simp only [List.mem_cons]
      by_cases e1 : j = k <;> by_cases e2 : j ∈ ks <;> simp [e1, e2]
theorem root_nat {e : Ex} {c : Nat} : e.root c = ((c + e.size - 1 : Nat) : Int) := rfl
theorem tk_leaf (t : List Bool) (c j : Nat) : t.getD j false = (t.getD j false || (decide (c ≤ j) && decide (j + 1 < c + 1))) := by
  have : (decide (c ≤ j) && decide (j + 1 < c + 1)) = false := by
    simp only [Bool.and_eq_false_iff, decide_eq_false_iff_not]; omega
  rw [this, Bool.or_false]
theorem check_nds : ∀ (e : Ex) (c : Nat) (r : List Nd) (t : List Bool), e.ok → c + e.size ≤ t.length → (∀ j, c ≤ j → t.getD j false = false) → ∃ t', checkNodes (e.nds c ++ r) c t = checkNodes r (c + e.size) t' ∧ TkP t t' c e.size
  | .num v, c, r, t, h, hl, hf => ⟨t, by simp only [Ex.nds, List.cons_append, List.nil_append, checkNodes, form_num, rest_num h, kidsStep, ne_eq, not_true, if_false, Ex.size], rfl, tk_leaf t c⟩
  | .var x, c, r, t, h, hl, hf => ⟨t, by simp only [Ex.nds, List.cons_append, List.nil_append, checkNodes, form_var, rest_var h, kidsStep, ne_eq, not_true, if_false, Ex.size], rfl, tk_leaf t c⟩
  | .two o a b, c, r, t, h, hl, hf => by
    obtain ⟨h1, h2, h3, ha, hb⟩ := h
    simp only [Ex.size] at hl ⊢
    have pa := a.size_pos
    have pb := b.size_pos
    obtain ⟨t1, a1, a2, a3⟩ := check_nds a c (b.nds (c + a.size) ++ ([⟨o, 0, [], [a.root c, b.root (c + a.size)]⟩] ++ r)) t ha (by omega) hf
    obtain ⟨t2, b1, b2, b3⟩ := check_nds b (c + a.size) ([⟨o, 0, [], [a.root c, b.root (c + a.size)]⟩] ++ r) t1 hb (by omega) (fun j hj => by
      rw [a3, hf j (by omega)]; simp; omega)
    obtain ⟨t3, c1, c2, c3⟩ := kids_take (i := c + a.size + b.size) [c + a.size - 1, c + a.size + b.size - 1] t2 (fun k hk => by
      simp only [List.mem_cons, List.not_mem_nil, or_false] at hk
      rcases hk with rfl | rfl
      · refine ⟨by omega, by omega, ?_⟩
        rw [b3, a3, hf _ (by omega)]; simp; omega
      · refine ⟨by omega, by omega, ?_⟩
        rw [b3, a3, hf _ (by omega)]; simp; omega) (by simp; omega)
    refine ⟨t3, ?_, by omega, fun j => ?_⟩
    · simp only [Ex.nds, List.append_assoc]
      rw [a1, b1]
      simp only [List.cons_append, List.nil_append, checkNodes, form_two h1 h2 h3, rest_two h1, ne_eq, not_true, if_false]
      simp only [List.map_cons, List.map_nil] at c1
      simp only [root_nat]
      rw [c1]
      simp only
      rw [show c + a.size + b.size + 1 = c + (a.size + b.size + 1) by omega]
    · rw [c3, b3, a3]
      rw [Bool.eq_iff_iff]
      simp only [Bool.or_eq_true, Bool.and_eq_true, decide_eq_true_eq, List.mem_cons, List.not_mem_nil, or_false]
      cases t.getD j false <;> simp <;> omega
  | .thr a b d, c, r, t, h, hl, hf => by
    obtain ⟨ha, hb, hd⟩ := h
    simp only [Ex.size] at hl ⊢
    have pa := a.size_pos
    have pb := b.size_pos
    have pd := d.size_pos
    obtain ⟨t1, a1, a2, a3⟩ := check_nds a c (b.nds (c + a.size) ++ (d.nds (c + a.size + b.size) ++ ([⟨7, 0, [], [a.root c, b.root (c + a.size), d.root (c + a.size + b.size)]⟩] ++ r))) t ha (by omega) hf
    obtain ⟨t2, b1, b2, b3⟩ := check_nds b (c + a.size) (d.nds (c + a.size + b.size) ++ ([⟨7, 0, [], [a.root c, b.root (c + a.size), d.root (c + a.size + b.size)]⟩] ++ r)) t1 hb (by omega) (fun j hj => by
      rw [a3, hf j (by omega)]; simp; omega)
    obtain ⟨t4, d1, d2, d3⟩ := check_nds d (c + a.size + b.size) ([⟨7, 0, [], [a.root c, b.root (c + a.size), d.root (c + a.size + b.size)]⟩] ++ r) t2 hd (by omega) (fun j hj => by
      rw [b3, a3, hf j (by omega)]; simp; omega)
    obtain ⟨t3, c1, c2, c3⟩ := kids_take (i := c + a.size + b.size + d.size) [c + a.size - 1, c + a.size + b.size - 1, c + a.size + b.size + d.size - 1] t4 (fun k hk => by
      simp only [List.mem_cons, List.not_mem_nil, or_false] at hk
      rcases hk with rfl | rfl | rfl
      · refine ⟨by omega, by omega, ?_⟩
        rw [d3, b3, a3, hf _ (by omega)]; simp; omega
      · refine ⟨by omega, by omega, ?_⟩
        rw [d3, b3, a3, hf _ (by omega)]; simp; omega
      · refine ⟨by omega, by omega, ?_⟩
        rw [d3, b3, a3, hf _ (by omega)]; simp; omega) (by simp; omega)
    refine ⟨t3, ?_, by omega, fun j => ?_⟩
    · simp only [Ex.nds, List.append_assoc]
      rw [a1, b1, d1]
      simp only [List.cons_append, List.nil_append, checkNodes, form_thr, rest_two (o := 7) (by omega), ne_eq, not_true, if_false]
      simp only [List.map_cons, List.map_nil] at c1
      simp only [root_nat]
      rw [c1]
      have : restE ⟨7, 0, [], [((c + a.size - 1 : Nat) : Int), ((c + a.size + b.size - 1 : Nat) : Int), ((c + a.size + b.size + d.size - 1 : Nat) : Int)]⟩ = 0 := rest_two (o := 7) (by omega)
      simp only [this, ne_eq, not_true, if_false]
      rw [show c + a.size + b.size + d.size + 1 = c + (a.size + b.size + d.size + 1) by omega]
    · rw [c3, d3, b3, a3]
      rw [Bool.eq_iff_iff]
      simp only [Bool.or_eq_true, Bool.and_eq_true, decide_eq_true_eq, List.mem_cons, List.not_mem_nil, or_false]
      cases t.getD j false <;> simp <;> omega
/-- The nodes of a right formula that isn't too much are right. -/
theorem check_ok {e : Ex} (h : e.ok) (hs : e.size ≤ 256) (hd : e.deep ≤ 16) : checkM (e.nds 0) = 0 := by
  have hp := e.size_pos
  obtain ⟨t, h1, h2, h3⟩ := check_nds e 0 [] (List.replicate e.size false) h (by simp) (fun j _ => by simp [List.getD, List.getElem?_replicate]; split <;> rfl)
  unfold checkM
  rw [Ex.nds_len, if_neg (by omega), if_neg (by omega)]
  rw [List.append_nil] at h1
  rw [h1]
  simp only [checkNodes]
  have hc : (t.take (e.size - 1)).contains false = false := by
    rw [List.contains_eq_any_beq, List.any_eq_false]
    intro x hx
    obtain ⟨i, hi, rfl⟩ := List.getElem_of_mem hx
    rw [List.length_take] at hi
    have := h3 i
    have e1 : t.getD i false = (t.take (e.size - 1))[i] := by simp [List.getD, show i < t.length by omega]
    rw [← e1, this]
    simp
    omega
  rw [hc, depth_nds]
  simp only [Bool.false_eq_true, if_false]
  rw [if_neg (by omega)]
end Go.Proofs.YthekpjhffciakaaDoor

namespace Go.Proofs.YthekpjhffciakaaDoor
open Go PG Go.Proofs
set_option linter.unusedSimpArgs false
set_option linter.unusedVariables false
set_option maxRecDepth 100000
/-! Formulas in brackets -/
theorem lx_open (r : List UInt8) : lx (40 :: r) = (lx r).map ((3, [40]) :: ·) := lx_sign (by decide) (by decide) (by decide) (by decide) r
theorem lx_close (r : List UInt8) : lx (41 :: r) = (lx r).map ((3, [41]) :: ·) := lx_sign (by decide) (by decide) (by decide) (by decide) r
theorem lx_comma (r : List UInt8) : lx (44 :: r) = (lx r).map ((3, [44]) :: ·) := lx_sign (by decide) (by decide) (by decide) (by decide) r
theorem lx_plus (r : List UInt8) : lx (43 :: r) = (lx r).map ((3, [43]) :: ·) := lx_sign (by decide) (by decide) (by decide) (by decide) r
theorem lx_minus (r : List UInt8) : lx (45 :: r) = (lx r).map ((3, [45]) :: ·) := lx_sign (by decide) (by decide) (by decide) (by decide) r
theorem lx_times (r : List UInt8) : lx (42 :: r) = (lx r).map ((3, [42]) :: ·) := lx_sign (by decide) (by decide) (by decide) (by decide) r
/-- A text, and a sign behind it. -/
theorem lx_cat {b : UInt8} (hb : innerB b = false) {s r : List UInt8} {w v : List KT} (h : lx s = some w) (h2 : lx (b :: r) = some v) : lx (s ++ b :: r) = some (w ++ v) := by
  rw [lx_app hb r _ s w (Nat.le_refl _) h, h2]; rfl
theorem lx_par {s r : List UInt8} {w v : List KT} (h : lx s = some w) (h2 : lx r = some v) : lx (40 :: (s ++ 41 :: r)) = some ((3, [40]) :: (w ++ (3, [41]) :: v)) := by
  rw [lx_open, lx_cat (by decide) h (v := (3, [41]) :: v) (by rw [lx_close, h2]; rfl)]; rfl
theorem lx_nil : lx [] = some [] := by rw [lx]
/-- What a right text's nodes are. -/
structure OkNds (nd : List Nd) : Prop where
  ex : ∃ e : Ex, e.ok ∧ nd = e.nds 0 ∧ e.size ≤ 256 ∧ e.deep ≤ 16
theorem OkNds.len {nd : List Nd} (h : OkNds nd) : nd.length ≤ 256 ∧ nd ≠ [] := by
  obtain ⟨e, h1, rfl, h2, h3⟩ := h.ex
  rw [Ex.nds_len]
  refine ⟨h2, fun h => ?_⟩
  have := congrArg List.length h
  rw [Ex.nds_len] at this
  have := e.size_pos
  simp at *; omega
theorem OkNds.check {nd : List Nd} (h : OkNds nd) : checkM nd = 0 := by
  obtain ⟨e, h1, rfl, h2, h3⟩ := h.ex
  exact check_ok h1 h2 h3
theorem OkNds.deep {nd : List Nd} (h : OkNds nd) : 1 ≤ depthM nd ∧ depthM nd ≤ 16 := by
  obtain ⟨e, h1, rfl, h2, h3⟩ := h.ex
  rw [depth_nds]
  exact ⟨e.deep_pos, h3⟩
theorem isName_le {x : List UInt8} (h : isName x = true) : x.length ≤ 32 := by
  unfold isName at h
  simp only [Bool.and_eq_true, decide_eq_true_eq] at h
  exact h.1.1.2
theorem nds_small : ∀ (e : Ex) (c : Nat), e.ok → ∀ n ∈ e.nds c, n.name.length ≤ 32 ∧ n.kids.length ≤ 3
  | .num v, c, h, n, hn => by simp [Ex.nds] at hn; subst hn; simp
  | .var x, c, h, n, hn => by simp [Ex.nds] at hn; subst hn; have := isName_le h; simp [this]
  | .two o a b, c, h, n, hn => by
    simp only [Ex.nds, List.mem_append, List.mem_singleton] at hn
    rcases hn with hn | hn | hn
    · exact nds_small a _ h.2.2.2.1 n hn
    · exact nds_small b _ h.2.2.2.2 n hn
    · subst hn; simp
  | .thr a b d, c, h, n, hn => by
    simp only [Ex.nds, List.mem_append, List.mem_singleton] at hn
    rcases hn with hn | hn | hn | hn
    · exact nds_small a _ h.1 n hn
    · exact nds_small b _ h.2.1 n hn
    · exact nds_small d _ h.2.2 n hn
    · subst hn; simp
theorem OkNds.small {nd : List Nd} (h : OkNds nd) : ∀ n ∈ nd, n.name.length ≤ 32 ∧ n.kids.length ≤ 3 := by
  obtain ⟨e, h1, rfl, h2, h3⟩ := h.ex
  exact nds_small e 0 h1
theorem parse_ok {s : List UInt8} {nd : List Nd} (h : parseS s = .ok nd) : OkNds nd := by
  obtain ⟨w, e, h1, h2, h3, h4, h5⟩ := of_parse h
  obtain ⟨rfl, h6, h7⟩ := resX_ok h4
  exact ⟨e, h5, rfl, h6, h7⟩
end Go.Proofs.YthekpjhffciakaaDoor

namespace Go.Proofs.YthekpjhffciakaaDoor
open PG Go.Proofs
-- wagebook/wagebooklaw13.ExprBrackets
end Go.Proofs.YthekpjhffciakaaDoor

namespace Go.Proofs.YthekpjhffciakaaDoor
open Go PG Go.Proofs
set_option linter.unusedSimpArgs false
set_option linter.unusedVariables false
set_option maxHeartbeats 4000000
set_option maxRecDepth 100000
variable {G : Globs}
theorem err_ne : ∀ (ns : List Nd) (i : Nat) (t : List Bool) (e : Int), checkNodes ns i t = .error e → e ≠ 0 := by
  intro ns
  induction ns with
  | nil => intro i t e h; cases h
  | cons n ns ih =>
    intro i t e h
    unfold checkNodes at h
    split at h
    · cases h; assumption
    · split at h
      · cases h; decide
      · split at h
        · cases h; assumption
        · exact ih _ _ _ h
/-- What a right list of nodes is by itself. -/
theorem checkM_ok {l : List Nd} (h : checkM l = 0) : l.length ≤ 256 ∧ l ≠ [] ∧ wfK l 0 ∧ (∀ n ∈ l, formE n = 0 ∧ restE n = 0) ∧ depthM l ≤ 16 := by
  unfold checkM at h
  split at h
  · cases h
  · split at h
    · cases h
    · split at h
      · rename_i hc
        exfalso
        exact err_ne _ _ _ _ hc h
      · rename_i hc
        obtain ⟨-, h2, h3⟩ := checkNodes_ok hc
        split at h
        · cases h
        · split at h
          · cases h
          · exact ⟨by omega, fun h => by simp_all, h2, h3, by omega⟩
end Go.Proofs.YthekpjhffciakaaDoor

namespace Go.Proofs.YthekpjhffciakaaDoor
open Go PG Go.Proofs
set_option linter.unusedSimpArgs false
set_option linter.unusedVariables false
set_option maxRecDepth 100000
/-! The formula that a right list of nodes tells -/
abbrev nd (l : List Nd) (i : Int) : Nd := l.getD i.toNat default
def exOf (l : List Nd) : Nat → Int → Ex
  | 0, _ => .num 0
  | k + 1, i =>
    if (nd l i).op = 0 then .num (nd l i).num
    else if (nd l i).op = 1 then .var (nd l i).name
    else if (nd l i).op = 7 then .thr (exOf l k ((nd l i).kids.getD 0 0)) (exOf l k ((nd l i).kids.getD 1 0)) (exOf l k ((nd l i).kids.getD 2 0))
    else .two (nd l i).op.toNat (exOf l k ((nd l i).kids.getD 0 0)) (exOf l k ((nd l i).kids.getD 1 0))
theorem exOf_succ (l : List Nd) (k : Nat) (i : Int) : exOf l (k + 1) i = if (nd l i).op = 0 then .num (nd l i).num
    else if (nd l i).op = 1 then .var (nd l i).name
    else if (nd l i).op = 7 then .thr (exOf l k ((nd l i).kids.getD 0 0)) (exOf l k ((nd l i).kids.getD 1 0)) (exOf l k ((nd l i).kids.getD 2 0))
    else .two (nd l i).op.toNat (exOf l k ((nd l i).kids.getD 0 0)) (exOf l k ((nd l i).kids.getD 1 0)) := rfl
/-- A right node: no kids, two, or three. -/
structure Nd1 (n : Nd) : Prop where
  op0 : 0 ≤ n.op
  op9 : n.op ≤ 9
  none : n.op < 2 → n.kids = []
  three : n.op = 7 → ∃ a b c, n.kids = [a, b, c]
  two : 2 ≤ n.op → n.op ≠ 7 → ∃ a b, n.kids = [a, b]
  num : n.op = 0 → 0 ≤ n.num ∧ n.num ≤ 1000000000000000000 ∧ n.num.tmod 100 = 0
  name1 : n.op = 1 → isName n.name = true
  name0 : n.op ≠ 1 → n.name = []
  num0 : n.op ≠ 0 → n.num = 0
theorem nd1_of {n : Nd} (h1 : formE n = 0) (h2 : restE n = 0) : Nd1 n := by
  obtain ⟨a1, a2, a3, a4⟩ := formE_ok h1
  unfold restE at h2
  rw [if_neg (by omega)] at h2
  split at h2
  · cases h2
  · rename_i hr1
    split at h2
    · cases h2
    · rename_i hr2
      simp only [not_or, not_and, ne_eq, Decidable.not_not, Int.not_lt] at hr1 hr2
      obtain ⟨k, hk⟩ : ∃ k : Nat, n.op = k := ⟨n.op.toNat, by omega⟩
      have hkt : (n.kids.length : Int) = kidsTab.getD k 0 := by rw [a3, hk]; rfl
      obtain ⟨kv0, kv1, kv2, kv3, kv4, kv5, kv6, kv7, kv8, kv9⟩ : kidsTab.getD 0 0 = 0 ∧ kidsTab.getD 1 0 = 0 ∧ kidsTab.getD 2 0 = 2 ∧ kidsTab.getD 3 0 = 2 ∧ kidsTab.getD 4 0 = 2 ∧ kidsTab.getD 5 0 = 2 ∧ kidsTab.getD 6 0 = 2 ∧ kidsTab.getD 7 0 = 3 ∧ kidsTab.getD 8 0 = 2 ∧ kidsTab.getD 9 0 = 2 := ⟨rfl, rfl, rfl, rfl, rfl, rfl, rfl, rfl, rfl, rfl⟩
      refine ⟨a1, a2, fun h => ?_, fun h => ?_, fun h h' => ?_, fun h => ?_, fun h => ?_, fun h => ?_, fun h => ?_⟩
      · have : k = 0 ∨ k = 1 := by omega
        apply List.length_eq_zero_iff.1
        rcases this with rfl | rfl <;> omega
      · have hl : n.kids.length = 3 := by
          have : k = 7 := by omega
          subst this; omega
        match n.kids, hl with
        | [a, b, c], _ => exact ⟨a, b, c, rfl⟩
      · have hl : n.kids.length = 2 := by
          have : k = 2 ∨ k = 3 ∨ k = 4 ∨ k = 5 ∨ k = 6 ∨ k = 8 ∨ k = 9 := by omega
          rcases this with rfl | rfl | rfl | rfl | rfl | rfl | rfl <;> omega
        match n.kids, hl with
        | [a, b], _ => exact ⟨a, b, rfl⟩
      · have := hr1.1 h
        exact ⟨by omega, by omega, this.2.2⟩
      · have := hr2.1 h; simpa using this
      · exact hr2.2 h
      · exact hr1.2 h
theorem Nd1.ndOk {n : Nd} (h : Nd1 n) : NdOk n := by
  refine ⟨h.op0, h.op9, fun e => ⟨(h.num e).1, (h.num e).2.1⟩, ?_, ?_, fun a b => ?_⟩
  · by_cases e : n.op = 1
    · have := isName_le (h.name1 e); omega
    · rw [h.name0 e]; simp
  · by_cases e : n.op < 2
    · rw [h.none e]; simp
    · by_cases e7 : n.op = 7
      · obtain ⟨a, b, c, hk⟩ := h.three e7; rw [hk]; simp
      · obtain ⟨a, b, hk⟩ := h.two (by omega) e7; rw [hk]; simp
  · obtain ⟨x, y, hk⟩ := h.two a (by omega); rw [hk]; rfl
theorem nd_get {l : List Nd} {i : Int} (h0 : 0 ≤ i) (h : i.toNat < l.length) : nd l i = l[i.toNat] := by simp [nd, List.getD, h]
/-- More depth than is asked for does no harm. -/
theorem fits_mono {l : List Nd} : ∀ {k k' : Nat} {i : Int}, fitsD l k i → k ≤ k' → fitsD l k' i
  | 0, _, _, h, _ => h.elim
  | k + 1, 0, _, _, h => absurd h (by omega)
  | k + 1, k' + 1, i, h, hk => ⟨h.1, h.2.1, h.2.2.1, fun c hc => fits_mono (h.2.2.2 c hc) (by omega)⟩
theorem exOf_mono {l : List Nd} (hl : ∀ n ∈ l, Nd1 n) : ∀ {k k' : Nat} {i : Int}, fitsD l k i → k ≤ k' → exOf l k' i = exOf l k i
  | 0, _, _, h, _ => h.elim
  | k + 1, 0, _, _, h => absurd h (by omega)
  | k + 1, k' + 1, i, h, hk => by
    have hn : Nd1 (nd l i) := by rw [nd_get h.1 h.2.1]; exact hl _ (List.getElem_mem h.2.1)
    have h4 := h.2.2.2
    unfold exOf
    by_cases e0 : (nd l i).op = 0
    · rw [if_pos e0, if_pos e0]
    by_cases e1 : (nd l i).op = 1
    · rw [if_neg e0, if_neg e0, if_pos e1, if_pos e1]
    have h2 : 2 ≤ (nd l i).op := by have := hn.op0; omega
    by_cases e7 : (nd l i).op = 7
    · obtain ⟨a, b, c, hks⟩ := hn.three e7
      simp only [nd] at hks h4
      rw [hks] at h4
      rw [if_neg e0, if_neg e0, if_neg e1, if_neg e1, if_pos e7, if_pos e7]
      simp only [nd, hks, List.getD_cons_zero, List.getD_cons_succ]
      rw [exOf_mono hl (h4 a (by simp)) (by omega), exOf_mono hl (h4 b (by simp)) (by omega), exOf_mono hl (h4 c (by simp)) (by omega)]
    · obtain ⟨a, b, hks⟩ := hn.two h2 e7
      simp only [nd] at hks h4
      rw [hks] at h4
      rw [if_neg e0, if_neg e0, if_neg e1, if_neg e1, if_neg e7, if_neg e7]
      simp only [nd, hks, List.getD_cons_zero, List.getD_cons_succ]
      rw [exOf_mono hl (h4 a (by simp)) (by omega), exOf_mono hl (h4 b (by simp)) (by omega)]
theorem exOf_deep {l : List Nd} (hl : ∀ n ∈ l, Nd1 n) : ∀ {k : Nat} {i : Int}, fitsD l k i → (exOf l k i).deep ≤ k ∧ (exOf l k i).ok
  | 0, _, h => h.elim
  | k + 1, i, h => by
    have hn : Nd1 (nd l i) := by rw [nd_get h.1 h.2.1]; exact hl _ (List.getElem_mem h.2.1)
    have h4 := h.2.2.2
    unfold exOf
    by_cases e0 : (nd l i).op = 0
    · rw [if_pos e0]; exact ⟨by simp only [Ex.deep]; omega, hn.num e0⟩
    by_cases e1 : (nd l i).op = 1
    · rw [if_neg e0, if_pos e1]; exact ⟨by simp only [Ex.deep]; omega, hn.name1 e1⟩
    have h2 : 2 ≤ (nd l i).op := by have := hn.op0; omega
    by_cases e7 : (nd l i).op = 7
    · obtain ⟨a, b, c, hks⟩ := hn.three e7
      simp only [nd] at hks h4
      rw [hks] at h4
      rw [if_neg e0, if_neg e1, if_pos e7]
      simp only [nd, hks, List.getD_cons_zero, List.getD_cons_succ]
      obtain ⟨a1, a2⟩ := exOf_deep hl (h4 a (by simp))
      obtain ⟨b1, b2⟩ := exOf_deep hl (h4 b (by simp))
      obtain ⟨c1, c2⟩ := exOf_deep hl (h4 c (by simp))
      exact ⟨by simp only [Ex.deep]; omega, a2, b2, c2⟩
    · obtain ⟨a, b, hks⟩ := hn.two h2 e7
      simp only [nd] at hks h4
      rw [hks] at h4
      rw [if_neg e0, if_neg e1, if_neg e7]
      simp only [nd, hks, List.getD_cons_zero, List.getD_cons_succ]
      obtain ⟨a1, a2⟩ := exOf_deep hl (h4 a (by simp))
      obtain ⟨b1, b2⟩ := exOf_deep hl (h4 b (by simp))
      have := hn.op9
      simp only [nd] at this h2 e7
      exact ⟨by simp only [Ex.deep]; omega, by omega, by omega, by omega, a2, b2⟩
/-! ### Depth and size of the whole -/
theorem depthsM_app : ∀ (a b : List Nd) (acc : List Int), depthsM (a ++ b) acc = depthsM b (depthsM a acc)
  | [], b, acc => rfl
  | n :: a, b, acc => by simp only [List.cons_append, depthsM]; exact depthsM_app a b _
theorem depthsM_pre : ∀ (b : List Nd) (acc : List Int), ∃ r, depthsM b acc = acc ++ r
  | [], acc => ⟨[], by simp [depthsM]⟩
  | n :: b, acc => by
    obtain ⟨r, h⟩ := depthsM_pre b (acc ++ [kidsMax acc n.kids 0 + 1])
    exact ⟨_, by rw [depthsM, h, List.append_assoc]⟩
theorem kidsMax_ge (acc : List Int) : ∀ (ks : List Int) (m : Int), m ≤ kidsMax acc ks m ∧ ∀ k ∈ ks, acc.getD k.toNat 0 ≤ kidsMax acc ks m
  | [], m => ⟨Int.le_refl _, by simp⟩
  | k :: ks, m => by
    obtain ⟨h1, h2⟩ := kidsMax_ge acc ks (max m (acc.getD k.toNat 0))
    simp only [kidsMax]
    refine ⟨by omega, fun x hx => ?_⟩
    rcases List.mem_cons.1 hx with rfl | hx
    · omega
    · exact h2 x hx
theorem deps_at {l : List Nd} {i : Nat} (h : i < l.length) : (depthsM l []).getD i 0 = kidsMax (depthsM (l.take i) []) l[i].kids 0 + 1 ∧ ∀ j, j < i → (depthsM (l.take i) []).getD j 0 = (depthsM l []).getD j 0 := by
  have e : l = l.take i ++ l[i] :: l.drop (i + 1) := by rw [← List.drop_eq_getElem_cons h, List.take_append_drop]
  have hd : depthsM l [] = depthsM (l.drop (i + 1)) (depthsM (l.take i) [] ++ [kidsMax (depthsM (l.take i) []) l[i].kids 0 + 1]) := by
    conv => lhs; rw [e]
    rw [depthsM_app]; rfl
  obtain ⟨r, hr⟩ := depthsM_pre (l.drop (i + 1)) (depthsM (l.take i) [] ++ [kidsMax (depthsM (l.take i) []) l[i].kids 0 + 1])
  have hl : (depthsM (l.take i) []).length = i := by rw [depthsM_len]; simp; omega
  rw [hd, hr]
  refine ⟨?_, fun j hj => ?_⟩
  · rw [List.append_assoc, List.getD_eq_getElem?_getD, List.getElem?_append_right (by omega), hl]; simp
  · rw [List.append_assoc, List.getD_eq_getElem?_getD, List.getD_eq_getElem?_getD, List.getElem?_append_left (by omega)]
theorem wf_at : ∀ {l : List Nd} {c i : Nat}, wfK l c → (h : i < l.length) → ∀ k ∈ l[i].kids, 0 ≤ k ∧ k < ((c + i : Nat) : Int)
  | n :: l, c, 0, hw, h => by simpa using hw.1
  | n :: l, c, i + 1, hw, h => by
    have := wf_at (i := i) hw.2 (by simpa using h)
    simp only [List.getElem_cons_succ]
    intro k hk
    have := this k hk
    refine ⟨this.1, ?_⟩
    have := this.2
    omega
theorem fits_deep {l : List Nd} (hl : ∀ n ∈ l, Nd1 n) (hw : wfK l 0) : ∀ (i : Nat), (h : i < l.length) → ∀ k : Nat, (depthsM l []).getD i 0 ≤ k → fitsD l k i := by
  intro i
  induction i using Nat.strongRecOn with
  | ind i ih =>
    intro h k hk
    obtain ⟨h1, h2⟩ := deps_at h
    obtain ⟨g1, g2⟩ := kidsMax_ge (depthsM (l.take i) []) l[i].kids 0
    rw [h1] at hk
    obtain ⟨k, rfl⟩ : ∃ k', k = k' + 1 := ⟨k - 1, by omega⟩
    have e : l.getD ((i : Int)).toNat default = l[i] := by simp [List.getD, h]
    refine ⟨by omega, by simpa using h, by rw [e]; exact (hl _ (List.getElem_mem h)).ndOk, ?_⟩
    rw [e]
    intro c hc
    obtain ⟨c0, c1⟩ := wf_at hw h c hc
    have hci : c.toNat < i := by omega
    have hg := g2 c hc
    rw [h2 _ hci] at hg
    have := ih c.toNat hci (by omega) k (by omega)
    rw [Int.toNat_of_nonneg c0] at this
    exact this
/-- Of nodes that stand ahead, all that no node has as kid: their sizes together. -/
def unt (sz : Nat → Nat) (t : List Bool) : Nat → Nat
  | 0 => 0
  | j + 1 => unt sz t j + if t.getD j false then 0 else sz j
theorem unt_set {sz : Nat → Nat} {t : List Bool} {k : Nat} (hk : k < t.length) (hf : t.getD k false = false) : ∀ i, unt sz (t.set k true) i + (if k < i then sz k else 0) = unt sz t i
  | 0 => by simp [unt]
  | i + 1 => by
    have := unt_set (sz := sz) hk hf i
    simp only [unt]
    rw [getD_set' hk]
    by_cases e : i = k
    · subst e
      rw [hf]
      simp only [Bool.false_or, decide_true, if_true, Bool.false_eq_true, if_false, Nat.lt_irrefl] at this ⊢
      rw [if_pos (by omega)]
      omega
    · simp only [e, decide_false, Bool.or_false]
      by_cases h2 : k < i
      · have q : (if k < i + 1 then sz k else 0) = sz k := if_pos (by omega)
        rw [if_pos h2] at this; rw [q]; omega
      · have q : (if k < i + 1 then sz k else 0) = 0 := if_neg (by omega)
        rw [if_neg h2] at this; rw [q]; omega
def sumK (sz : Nat → Nat) : List Int → Nat
  | [] => 0
  | k :: ks => sz k.toNat + sumK sz ks
theorem kids_unt {sz : Nat → Nat} {i : Nat} : ∀ {ks : List Int} {t t' : List Bool}, i ≤ t.length → kidsStep i ks t = some t' → unt sz t' i + sumK sz ks = unt sz t i
  | [], t, t', _, h => by simp [kidsStep] at h; subst h; simp [sumK]
  | k :: ks, t, t', hi, h => by
    unfold kidsStep at h
    split at h
    · cases h
    · rename_i hk
      simp only [not_or, Bool.not_eq_true] at hk
      have := kids_unt (sz := sz) (by simpa using hi) h
      have h2 := unt_set (sz := sz) (t := t) (k := k.toNat) (by omega) hk.2.2 i
      rw [if_pos (by omega)] at h2
      simp only [sumK]
      omega
theorem kids_keep {i : Nat} : ∀ {ks : List Int} {t t' : List Bool}, kidsStep i ks t = some t' → ∀ j, i ≤ j → t'.getD j false = t.getD j false
  | [], t, t', h, j, hj => by simp [kidsStep] at h; subst h; rfl
  | k :: ks, t, t', h, j, hj => by
    unfold kidsStep at h
    split at h
    · cases h
    · rename_i hk
      simp only [not_or, Bool.not_eq_true] at hk
      rw [kids_keep h j hj]
      simp only [List.getD_eq_getElem?_getD, List.getElem?_set]
      rw [if_neg (by omega)]
theorem nodes_unt {sz : Nat → Nat} : ∀ {ns : List Nd} {i : Nat} {t t' : List Bool}, (∀ j, (h : j < ns.length) → sz (i + j) = 1 + sumK sz ns[j].kids) → (∀ j, i ≤ j → t.getD j false = false) → i + ns.length ≤ t.length → unt sz t i = i → checkNodes ns i t = .ok t' → unt sz t' (i + ns.length) = i + ns.length ∧ ∀ j, i + ns.length ≤ j + 1 → t'.getD j false = false ∨ j + 1 < i + ns.length + (if ns = [] then 1 else 0)
  | [], i, t, t', _, hf, _, hu, h => by
    simp [checkNodes] at h
    subst h
    exact ⟨by simpa using hu, fun j hj => by simp at hj ⊢; rcases Nat.lt_or_ge j i with h | h; exact .inr h; exact .inl (by have := hf j h; simpa [List.getD] using this)⟩
  | n :: ns, i, t, t', hs, hf, hl, hu, h => by
    unfold checkNodes at h
    split at h
    · cases h
    · split at h
      · cases h
      · rename_i t1 hk
        split at h
        · cases h
        · have e1 := kids_unt (sz := sz) (by simp at hl; omega) hk
          have e2 := kids_keep hk
          obtain ⟨e3, -⟩ := kidsStep_len hk
          have e4 := hs 0 (by simp)
          simp only [Nat.add_zero, List.getElem_cons_zero] at e4
          have e5 : unt sz t1 (i + 1) = i + 1 := by
            simp only [unt]
            rw [e2 i (Nat.le_refl _), hf i (Nat.le_refl _)]
            simp only [Bool.false_eq_true, if_false]
            omega
          obtain ⟨g1, g2⟩ := nodes_unt (sz := sz) (ns := ns) (i := i + 1) (t := t1) (t' := t') (fun j hj => by
            have := hs (j + 1) (by simpa using hj)
            simpa [show i + (j + 1) = i + 1 + j by omega] using this) (fun j hj => by rw [e2 j (by omega)]; exact hf j (by omega)) (by simp at hl; omega) e5 h
          refine ⟨by simp only [List.length_cons]; rw [show i + (ns.length + 1) = i + 1 + ns.length by omega]; exact g1, fun j hj => ?_⟩
          simp only [List.length_cons] at hj ⊢
          rcases g2 j (by omega) with h1 | h1
          · exact .inl h1
          · by_cases hns : ns = []
            · subst hns
              simp only [if_true, List.length_nil] at h1 hj ⊢
              have : j = i := by omega
              subst this
              have hh : t' = t1 := by simp [checkNodes] at h; exact h.symm
              rw [hh, e2 j (Nat.le_refl _)]
              exact .inl (hf j (Nat.le_refl _))
            · rw [if_neg hns] at h1
              exact .inr (by simp; omega)
theorem unt_last {sz : Nat → Nat} {t : List Bool} : ∀ {n : Nat}, (∀ j, j < n → t.getD j false = true) → unt sz t n = 0
  | 0, _ => rfl
  | n + 1, h => by simp only [unt]; rw [unt_last (fun j hj => h j (by omega)), h n (by omega)]; rfl
/-- A right list of nodes is one formula's: of as many nodes, no deeper than may be. -/
theorem tree_ex {l : List Nd} (hc : checkM l = 0) : fitsD l 16 ((l.length : Int) - 1) ∧ (∀ n ∈ l, Nd1 n) ∧ (exOf l 16 ((l.length : Int) - 1)).ok ∧ (exOf l 16 ((l.length : Int) - 1)).deep ≤ 16 ∧ (exOf l 16 ((l.length : Int) - 1)).size = l.length := by
  obtain ⟨h1, h2, h3, h4, h5⟩ := checkM_ok hc
  have hl : ∀ n ∈ l, Nd1 n := fun n hn => nd1_of (h4 n hn).1 (h4 n hn).2
  have hpos : 0 < l.length := List.length_pos_iff.2 h2
  have hfit := fits_deep hl h3 (l.length - 1) (by omega) 16 (by unfold depthM at h5; exact h5)
  have hcast : (((l.length - 1 : Nat)) : Int) = (l.length : Int) - 1 := by omega
  rw [hcast] at hfit
  obtain ⟨d1, d2⟩ := exOf_deep hl hfit
  refine ⟨hfit, hl, d2, by omega, ?_⟩
  have hall : ∀ i, (h : i < l.length) → fitsD l (i + 1) i := by
    intro i
    induction i using Nat.strongRecOn with
    | ind i ih =>
      intro h
      have e : l.getD ((i : Int)).toNat default = l[i] := by simp [List.getD, h]
      refine ⟨by omega, by simpa using h, by rw [e]; exact (hl _ (List.getElem_mem h)).ndOk, ?_⟩
      rw [e]
      intro c hc
      obtain ⟨c0, c1⟩ := wf_at h3 h c hc
      have := ih c.toNat (by omega) (by omega)
      rw [Int.toNat_of_nonneg c0] at this
      exact fits_mono this (by omega)
  have hsz : ∀ i, (h : i < l.length) → (exOf l (i + 1) i).size = 1 + sumK (fun j => (exOf l (j + 1) j).size) l[i].kids := by
    intro i h
    have e : nd l (i : Int) = l[i] := by simp [nd, List.getD, h]
    have hn := hl _ (List.getElem_mem h)
    have hk : ∀ c ∈ l[i].kids, exOf l i c = exOf l (c.toNat + 1) c.toNat := fun c hc => by
      obtain ⟨c0, c1⟩ := wf_at h3 h c hc
      have := exOf_mono hl (hall c.toNat (by omega)) (show c.toNat + 1 ≤ i by omega)
      rw [Int.toNat_of_nonneg c0] at this ⊢
      exact this
    rw [exOf_succ l i i, e]
    by_cases e0 : l[i].op = 0
    · rw [if_pos e0, hn.none (by omega)]; rfl
    by_cases e1 : l[i].op = 1
    · rw [if_neg e0, if_pos e1, hn.none (by omega)]; rfl
    have h2 : 2 ≤ l[i].op := by have := hn.op0; omega
    by_cases e7 : l[i].op = 7
    · obtain ⟨a, b, c, hks⟩ := hn.three e7
      rw [if_neg e0, if_neg e1, if_pos e7]
      rw [hks] at hk ⊢
      simp only [List.getD_cons_zero, List.getD_cons_succ, Ex.size, sumK]
      rw [hk a (by simp), hk b (by simp), hk c (by simp)]
      omega
    · obtain ⟨a, b, hks⟩ := hn.two h2 e7
      rw [if_neg e0, if_neg e1, if_neg e7]
      rw [hks] at hk ⊢
      simp only [List.getD_cons_zero, List.getD_cons_succ, Ex.size, sumK]
      rw [hk a (by simp), hk b (by simp)]
      omega
  have hroot : (exOf l 16 ((l.length : Int) - 1)).size = (exOf l (l.length - 1 + 1) ((l.length - 1 : Nat) : Int)).size := by
    rw [hcast]
    have ha := hall (l.length - 1) (by omega)
    rw [hcast] at ha
    rcases Nat.le_total 16 (l.length - 1 + 1) with h | h
    · rw [exOf_mono hl hfit h]
    · rw [exOf_mono hl ha h]
  rw [hroot]
  unfold checkM at hc
  rw [if_neg (by omega), if_neg (by omega)] at hc
  split at hc
  · rename_i e hce
    exfalso
    have := checkM_ok (l := l) (by unfold checkM; rw [if_neg (by omega), if_neg (by omega), hce]; exact hc)
    exact err_ne _ _ _ _ hce hc
  · rename_i t hct
    split at hc
    · cases hc
    · rename_i hcon
      obtain ⟨u1, u2⟩ := nodes_unt (sz := fun j => (exOf l (j + 1) j).size) (ns := l) (i := 0) (t := List.replicate l.length false) (t' := t) (fun j hj => by rw [Nat.zero_add]; exact hsz j hj) (fun j _ => by simp [List.getD, List.getElem?_replicate]; split <;> rfl) (by simp) rfl hct
      rw [Nat.zero_add] at u1
      have ht : ∀ j, j < l.length - 1 → t.getD j false = true := by
        intro j hj
        have htl := (checkNodes_ok hct).1
        simp only [List.length_replicate] at htl
        cases hx : t.getD j false with
        | true => rfl
        | false =>
          exfalso
          apply hcon
          have e1 : t.getD j false = t[j] := by simp [List.getD, show j < t.length by omega]
          rw [e1] at hx
          have : false ∈ t.take (l.length - 1) := by rw [List.mem_take_iff_getElem]; exact ⟨j, by omega, hx⟩
          simpa using this
      have hlast : t.getD (l.length - 1) false = false := by
        rcases u2 (l.length - 1) (by omega) with h | h
        · exact h
        · rw [if_neg h2] at h; omega
      obtain ⟨m, hm⟩ : ∃ m, l.length = m + 1 := ⟨l.length - 1, by omega⟩
      have hm1 : l.length - 1 = m := by omega
      rw [hm1] at ht hlast
      rw [hm] at u1
      simp only [unt] at u1
      rw [unt_last ht, hlast] at u1
      simp only [Bool.false_eq_true, if_false, Nat.zero_add] at u1
      rw [hm1, hm]
      exact u1
end Go.Proofs.YthekpjhffciakaaDoor

