import Derived.Test.YthjkmhfiffojeaaGreatDoorQ14
namespace Go.Proofs.YthjkmhfiffojeaaGreatDoor
open Go PG Go.Proofs
set_option linter.unusedSimpArgs false
set_option linter.unusedVariables false
set_option maxHeartbeats 4000000
set_option maxRecDepth 100000
theorem E21 : Ent Tryz.prog 21 := ⟨Tryz.f21, Tryz.func21, by kernel_rfl, by kernel_rfl⟩
def jP7 : List (List UInt8) := [[], [], [43], [45], [42], [108, 101, 97, 115, 116], [109, 111, 115, 116], [105, 102], [108, 101, 115, 115], [101, 113, 117, 97, 108]]
def jCX (op : Int) : List UInt8 := jP7.getD op.toNat []
def joinL (f : Int -> List UInt8) : List Int -> Nat -> List UInt8 -> List UInt8
 | [], _, s => s
 | k :: ks, i, s => joinL f ks (i + 1) ((if 0 < i then s ++ [44] else s) ++ f k)
def jDU (l : List Nd) : Nat -> Int -> Int -> List UInt8
 | 0, _, _ => []
 | k + 1, i, least =>
  if (l.getD i.toNat default).op = 0 then jO5 (l.getD i.toNat default).num.toNat
  else if (l.getD i.toNat default).op = 1 then (l.getD i.toNat default).name
  else if jAJ (l.getD i.toNat default).op = 3 then joinL (fun c => jDU l k c 0) (l.getD i.toNat default).kids 0 (jCX (l.getD i.toNat default).op ++ [40]) ++ [41]
  else if jAJ (l.getD i.toNat default).op < least then ([40] ++ ((jDU l k ((l.getD i.toNat default).kids.getD 0 0) (jAJ (l.getD i.toNat default).op) ++ jCX (l.getD i.toNat default).op) ++ jDU l k ((l.getD i.toNat default).kids.getD 1 0) (jAJ (l.getD i.toNat default).op + 1))) ++ [41]
  else (jDU l k ((l.getD i.toNat default).kids.getD 0 0) (jAJ (l.getD i.toNat default).op) ++ jCX (l.getD i.toNat default).op) ++ jDU l k ((l.getD i.toNat default).kids.getD 1 0) (jAJ (l.getD i.toNat default).op + 1)
structure kQ1 (n : Nd) : Prop where
 op0 : 0 <= n.op
 op9 : n.op <= 9
 num : n.op = 0 -> 0 <= n.num ∧ n.num <= 1000000000000000000
 name : n.name.length <= 100
 kids : n.kids.length <= 3
 two : 2 <= n.op -> n.op <= 4 -> n.kids.length = 2
def jHG (l : List Nd) : Nat -> Int -> Prop
 | 0, _ => False
 | k + 1, i => 0 <= i ∧ i.toNat < l.length ∧ kQ1 (l.getD i.toNat default) ∧ ∀ c ∈ (l.getD i.toNat default).kids, jHG l k c
theorem jZI (op : Int) : (jCX op).length <= 5 := by
 unfold jCX
 rw [List.getD_eq_getElem?_getD]
 cases h : jP7[op.toNat]? with
 | none => simp
 | some w =>
  have : ∀ w ∈ jP7, w.length <= 5 := by decide
  exact this w (List.mem_of_getElem? h)
theorem jUR (l : List UInt8) : (jEA l).length <= l.length := by
 unfold jEA
 rw [List.length_reverse]
 exact Nat.le_trans (List.dropWhile_suffix _).length_le (by simp)
theorem kBL {n : Nat} (h : n <= 1000000000000000000) : (jO5 n).length <= 30 := by
 have hl1 := jPN 18 (n / 1000000) (by have : (10 : Nat) ^ 19 = 10000000000000000000 := rfl; omega)
 unfold jO5
 split
 ·omega
 ·have h5 := kPL (n % 1000000 / 100) (by omega)
  have := jUR ((jDY (10000 + n % 1000000 / 100)).drop 1)
  have hd : ((jDY (10000 + n % 1000000 / 100)).drop 1).length = 4 := by rw [h5]; rfl
  simp only [List.length_append, List.length_cons, List.length_nil]
  omega
theorem join_le {f : Int -> List UInt8} {B : Nat} : ∀ (ks : List Int) (i : Nat) (s : List UInt8), (∀ c ∈ ks, (f c).length <= B) -> (joinL f ks i s).length <= s.length + ks.length * (B + 1)
 | [], _, s, _ => by simp [joinL]
 | k :: ks, i, s, h => by
  have h1 := h k (by simp)
  have h2 := join_le ks (i + 1) ((if 0 < i then s ++ [44] else s) ++ f k) (fun c hc => h c (by simp [hc]))
  have h3 : ((if 0 < i then s ++ [44] else s) ++ f k).length <= s.length + 1 + B := by
   split <;> simp <;> omega
  simp only [joinL, List.length_cons, Nat.add_mul, Nat.one_mul] at h2 ⊢
  omega
theorem jOK (l : List Nd) : ∀ (k : Nat) (i least : Int), jHG l k i -> (jDU l k i least).length <= 100 * 4 ^ k
 | 0, i, least, h => h.elim
 | k + 1, i, least, h => by
  obtain ⟨h1, h2, h3, h4⟩ := h
  have hp : 0 < 4 ^ k := Nat.pow_pos (by omega)
  have hpp : 4 ^ (k + 1) = 4 * 4 ^ k := by rw [Nat.pow_succ]; omega
  rw [hpp]
  unfold jDU
  generalize l.getD i.toNat default = n at *
  have hw := jZI n.op
  split
  ·rename_i h0
   have := kBL (n := n.num.toNat) (by have := h3.num h0; omega)
   omega
  ·split
   ·have := h3.name; omega
   ·have hkl := h3.kids
    split
    ·have := join_le (f := fun c => jDU l k c 0) (B := 100 * 4 ^ k) n.kids 0 (jCX n.op ++ [40]) (fun c hc => jOK l k c 0 (h4 c hc))
     simp only [List.length_append, List.length_cons, List.length_nil] at this ⊢
     have h5 : n.kids.length * (100 * 4 ^ k + 1) <= 3 * (100 * 4 ^ k + 1) := Nat.mul_le_mul_right _ hkl
     omega
    ·rename_i hs
     have h24 : 2 <= n.op ∧ n.op <= 4 := by
      have := h3.op0; have := h3.op9
      unfold jAJ at hs
      by_cases a : n.op = 2 ∨ n.op = 3
      ·omega
      ·rw [if_neg a] at hs
       by_cases b : n.op = 4
       ·omega
       ·rw [if_neg b] at hs; exact absurd rfl hs
     have hk2 := h3.two h24.1 h24.2
     obtain ⟨a, b, hab⟩ : ∃ a b, n.kids = [a, b] := by
      match n.kids, hk2 with
      | [a, b], _ => exact ⟨a, b, rfl⟩
     rw [hab] at h4 ⊢
     have ha := fun z => jOK l k a z (h4 a (by simp))
     have hb := fun z => jOK l k b z (h4 b (by simp))
     have ha := ha (jAJ n.op)
     have hb := hb (jAJ n.op + 1)
     simp only [List.getD_cons_zero, List.getD_cons_succ]
     split <;> simp only [List.length_append, List.length_cons, List.length_nil] <;> omega
def Ex.ok : Ex -> Prop
 | .num v => 0 <= v ∧ v <= 1000000000000000000 ∧ v.tmod 100 = 0
 | .var x => isName x = true
 | .two o a b => 2 <= o ∧ o <= 9 ∧ o ≠ 7 ∧ a.ok ∧ b.ok
 | .thr a b d => a.ok ∧ b.ok ∧ d.ok
theorem kFI {v : Int} : jE0 ⟨0, v, [], []⟩ = 0 := by simp [jE0, jA1]
theorem kFF {x : List UInt8} : jE0 ⟨1, 0, x, []⟩ = 0 := by simp [jE0, jA1]
theorem kES {v : Int} (h : 0 <= v ∧ v <= 1000000000000000000 ∧ v.tmod 100 = 0) : jEN ⟨0, v, [], []⟩ = 0 := by
 obtain ⟨h1, h2, h3⟩ := h
 simp [jEN, h3]; omega
theorem kER {x : List UInt8} (h : isName x = true) : jEN ⟨1, 0, x, []⟩ = 0 := by simp [jEN, h]
theorem kFG {o : Nat} {a b : Int} (h1 : 2 <= o) (h2 : o <= 9) (h3 : o ≠ 7) : jE0 ⟨o, 0, [], [a, b]⟩ = 0 := by
 have : o = 2 ∨ o = 3 ∨ o = 4 ∨ o = 5 ∨ o = 6 ∨ o = 8 ∨ o = 9 := by omega
 rcases this with rfl | rfl | rfl | rfl | rfl | rfl | rfl <;> rfl
theorem jOU {o : Nat} {k : List Int} (h1 : 2 <= o) : jEN ⟨o, 0, [], k⟩ = 0 := by
 simp [jEN]; omega
theorem kFH {a b d : Int} : jE0 ⟨7, 0, [], [a, b, d]⟩ = 0 := rfl
def TkP (t t' : List Bool) (c n : Nat) : Prop := t'.length = t.length ∧ ∀ j, t'.getD j false = (t.getD j false || (decide (c <= j) && decide (j + 1 < c + n)))
theorem jLR {t : List Bool} {i j : Nat} (hi : i < t.length) : (t.set i true).getD j false = (t.getD j false || decide (j = i)) := by
 simp only [List.getD_eq_getElem?_getD, List.getElem?_set]
 by_cases h : i = j
 ·subst h; simp [hi]
 ·simp [h, Ne.symm h]
theorem jLJ {i : Nat} : ∀ (ks : List Nat) (t : List Bool), (∀ k ∈ ks, k < i ∧ k < t.length ∧ t.getD k false = false) -> ks.Nodup -> ∃ t', jBO i (ks.map (fun k : Nat => (k : Int))) t = some t' ∧ t'.length = t.length ∧ ∀ j, t'.getD j false = (t.getD j false || decide (j ∈ ks))
 | [], t, _, _ => ⟨t, rfl, rfl, by simp⟩
 | k :: ks, t, h, hn => by
  obtain ⟨h1, h2, h3⟩ := h k (by simp)
  rw [List.nodup_cons] at hn
  obtain ⟨t', g1, g2, g3⟩ := jLJ ks (t.set k true) (fun x hx => by
   obtain ⟨a1, a2, a3⟩ := h x (by simp [hx])
   refine ⟨a1, by simpa using a2, ?_⟩
   rw [jLR h2, a3]
   simp
   intro e; subst e; exact hn.1 hx) hn.2
  refine ⟨t', ?_, by simpa using g2, fun j => ?_⟩
  ·simp only [List.map_cons, jBO, Int.toNat_natCast, h3]
   rw [if_neg (by simp; omega)]
   exact g1
  ·rw [g3, jLR h2]
   simp only [List.mem_cons]
   by_cases e1 : j = k <;> by_cases e2 : j ∈ ks <;> simp [e1, e2]
theorem jU5 {e : Ex} {c : Nat} : e.root c = ((c + e.size - 1 : Nat) : Int) := rfl
theorem jZS (t : List Bool) (c j : Nat) : t.getD j false = (t.getD j false || (decide (c <= j) && decide (j + 1 < c + 1))) := by
 have : (decide (c <= j) && decide (j + 1 < c + 1)) = false := by
  simp only [Bool.and_eq_false_iff, decide_eq_false_iff_not]; omega
 rw [this, Bool.or_false]
theorem jFI : ∀ (e : Ex) (c : Nat) (r : List Nd) (t : List Bool), e.ok -> c + e.size <= t.length -> (∀ j, c <= j -> t.getD j false = false) -> ∃ t', jAU (e.nds c ++ r) c t = jAU r (c + e.size) t' ∧ TkP t t' c e.size
 | .num v, c, r, t, h, hl, hf => ⟨t, by simp only [Ex.nds, List.cons_append, List.nil_append, jAU, kFI, kES h, jBO, ne_eq, not_true, if_false, Ex.size], rfl, jZS t c⟩
 | .var x, c, r, t, h, hl, hf => ⟨t, by simp only [Ex.nds, List.cons_append, List.nil_append, jAU, kFF, kER h, jBO, ne_eq, not_true, if_false, Ex.size], rfl, jZS t c⟩
 | .two o a b, c, r, t, h, hl, hf => by
  obtain ⟨h1, h2, h3, ha, hb⟩ := h
  simp only [Ex.size] at hl ⊢
  have pa := a.size_pos
  have pb := b.size_pos
  obtain ⟨t1, a1, a2, a3⟩ := jFI a c (b.nds (c + a.size) ++ ([⟨o, 0, [], [a.root c, b.root (c + a.size)]⟩] ++ r)) t ha (by omega) hf
  obtain ⟨t2, b1, b2, b3⟩ := jFI b (c + a.size) ([⟨o, 0, [], [a.root c, b.root (c + a.size)]⟩] ++ r) t1 hb (by omega) (fun j hj => by
   rw [a3, hf j (by omega)]; simp; omega)
  obtain ⟨t3, c1, c2, c3⟩ := jLJ (i := c + a.size + b.size) [c + a.size - 1, c + a.size + b.size - 1] t2 (fun k hk => by
   simp only [List.mem_cons, List.not_mem_nil, or_false] at hk
   rcases hk with rfl | rfl
   ·refine ⟨by omega, by omega, ?_⟩
    rw [b3, a3, hf _ (by omega)]; simp; omega
   ·refine ⟨by omega, by omega, ?_⟩
    rw [b3, a3, hf _ (by omega)]; simp; omega) (by simp; omega)
  refine ⟨t3, ?_, by omega, fun j => ?_⟩
  ·simp only [Ex.nds, List.append_assoc]
   rw [a1, b1]
   simp only [List.cons_append, List.nil_append, jAU, kFG h1 h2 h3, jOU h1, ne_eq, not_true, if_false]
   simp only [List.map_cons, List.map_nil] at c1
   simp only [jU5]
   rw [c1]
   simp only
   rw [show c + a.size + b.size + 1 = c + (a.size + b.size + 1) by omega]
  ·rw [c3, b3, a3]
   rw [Bool.eq_iff_iff]
   simp only [Bool.or_eq_true, Bool.and_eq_true, decide_eq_true_eq, List.mem_cons, List.not_mem_nil, or_false]
   cases t.getD j false <;> simp <;> omega
 | .thr a b d, c, r, t, h, hl, hf => by
  obtain ⟨ha, hb, hd⟩ := h
  simp only [Ex.size] at hl ⊢
  have pa := a.size_pos
  have pb := b.size_pos
  have pd := d.size_pos
  obtain ⟨t1, a1, a2, a3⟩ := jFI a c (b.nds (c + a.size) ++ (d.nds (c + a.size + b.size) ++ ([⟨7, 0, [], [a.root c, b.root (c + a.size), d.root (c + a.size + b.size)]⟩] ++ r))) t ha (by omega) hf
  obtain ⟨t2, b1, b2, b3⟩ := jFI b (c + a.size) (d.nds (c + a.size + b.size) ++ ([⟨7, 0, [], [a.root c, b.root (c + a.size), d.root (c + a.size + b.size)]⟩] ++ r)) t1 hb (by omega) (fun j hj => by
   rw [a3, hf j (by omega)]; simp; omega)
  obtain ⟨t4, d1, d2, d3⟩ := jFI d (c + a.size + b.size) ([⟨7, 0, [], [a.root c, b.root (c + a.size), d.root (c + a.size + b.size)]⟩] ++ r) t2 hd (by omega) (fun j hj => by
   rw [b3, a3, hf j (by omega)]; simp; omega)
  obtain ⟨t3, c1, c2, c3⟩ := jLJ (i := c + a.size + b.size + d.size) [c + a.size - 1, c + a.size + b.size - 1, c + a.size + b.size + d.size - 1] t4 (fun k hk => by
   simp only [List.mem_cons, List.not_mem_nil, or_false] at hk
   rcases hk with rfl | rfl | rfl
   ·refine ⟨by omega, by omega, ?_⟩
    rw [d3, b3, a3, hf _ (by omega)]; simp; omega
   ·refine ⟨by omega, by omega, ?_⟩
    rw [d3, b3, a3, hf _ (by omega)]; simp; omega
   ·refine ⟨by omega, by omega, ?_⟩
    rw [d3, b3, a3, hf _ (by omega)]; simp; omega) (by simp; omega)
  refine ⟨t3, ?_, by omega, fun j => ?_⟩
  ·simp only [Ex.nds, List.append_assoc]
   rw [a1, b1, d1]
   simp only [List.cons_append, List.nil_append, jAU, kFH, jOU (o := 7) (by omega), ne_eq, not_true, if_false]
   simp only [List.map_cons, List.map_nil] at c1
   simp only [jU5]
   rw [c1]
   have : jEN ⟨7, 0, [], [((c + a.size - 1 : Nat) : Int), ((c + a.size + b.size - 1 : Nat) : Int), ((c + a.size + b.size + d.size - 1 : Nat) : Int)]⟩ = 0 := jOU (o := 7) (by omega)
   simp only [this, ne_eq, not_true, if_false]
   rw [show c + a.size + b.size + d.size + 1 = c + (a.size + b.size + d.size + 1) by omega]
  ·rw [c3, d3, b3, a3]
   rw [Bool.eq_iff_iff]
   simp only [Bool.or_eq_true, Bool.and_eq_true, decide_eq_true_eq, List.mem_cons, List.not_mem_nil, or_false]
   cases t.getD j false <;> simp <;> omega
theorem kFX {e : Ex} (h : e.ok) (hs : e.size <= 256) (hd : e.deep <= 16) : jBP (e.nds 0) = 0 := by
 have hp := e.size_pos
 obtain ⟨t, h1, h2, h3⟩ := jFI e 0 [] (List.replicate e.size false) h (by simp) (fun j _ => by simp [List.getD, List.getElem?_replicate]; split <;> rfl)
 unfold jBP
 rw [Ex.jB7, if_neg (by omega), if_neg (by omega)]
 rw [List.append_nil] at h1
 rw [h1]
 simp only [jAU]
 have hc : (t.take (e.size - 1)).contains false = false := by
  rw [List.contains_eq_any_beq, List.any_eq_false]
  intro x hx
  obtain ⟨i, hi, rfl⟩ := List.getElem_of_mem hx
  rw [List.length_take] at hi
  have := h3 i
  have e1 : t.getD i false = (t.take (e.size - 1))[i] := by simp [List.getD, show i < t.length by omega]
  rw [<- e1, this]
  simp
  omega
 rw [hc, jL7]
 simp only [Bool.false_eq_true, if_false]
 rw [if_neg (by omega)]
theorem jTW (r : List UInt8) : lx (40 :: r) = (lx r).map ((3, [40]) :: ·) := jI4 (by decide) (by decide) (by decide) (by decide) r
theorem jO8 (r : List UInt8) : lx (41 :: r) = (lx r).map ((3, [41]) :: ·) := jI4 (by decide) (by decide) (by decide) (by decide) r
theorem jO7 (r : List UInt8) : lx (44 :: r) = (lx r).map ((3, [44]) :: ·) := jI4 (by decide) (by decide) (by decide) (by decide) r
theorem kBZ (r : List UInt8) : lx (43 :: r) = (lx r).map ((3, [43]) :: ·) := jI4 (by decide) (by decide) (by decide) (by decide) r
theorem jWG (r : List UInt8) : lx (45 :: r) = (lx r).map ((3, [45]) :: ·) := jI4 (by decide) (by decide) (by decide) (by decide) r
theorem jWE (r : List UInt8) : lx (42 :: r) = (lx r).map ((3, [42]) :: ·) := jI4 (by decide) (by decide) (by decide) (by decide) r
theorem jH6 {b : UInt8} (hb : jB2 b = false) {s r : List UInt8} {w v : List KT} (h : lx s = some w) (h2 : lx (b :: r) = some v) : lx (s ++ b :: r) = some (w ++ v) := by
 rw [kLN hb r _ s w (Nat.le_refl _) h, h2]; rfl
theorem kG4 {s r : List UInt8} {w v : List KT} (h : lx s = some w) (h2 : lx r = some v) : lx (40 :: (s ++ 41 :: r)) = some ((3, [40]) :: (w ++ (3, [41]) :: v)) := by
 rw [jTW, jH6 (by decide) h (v := (3, [41]) :: v) (by rw [jO8, h2]; rfl)]; rfl
theorem jWF : lx [] = some [] := by rw [lx]
structure jMH (nd : List Nd) : Prop where
 ex : ∃ e : Ex, e.ok ∧ nd = e.nds 0 ∧ e.size <= 256 ∧ e.deep <= 16
theorem jMH.len {nd : List Nd} (h : jMH nd) : nd.length <= 256 ∧ nd ≠ [] := by
 obtain ⟨e, h1, rfl, h2, h3⟩ := h.ex
 rw [Ex.jB7]
 refine ⟨h2, fun h => ?_⟩
 have := congrArg List.length h
 rw [Ex.jB7] at this
 have := e.size_pos
 simp at *; omega
theorem jMH.check {nd : List Nd} (h : jMH nd) : jBP nd = 0 := by
 obtain ⟨e, h1, rfl, h2, h3⟩ := h.ex
 exact kFX h1 h2 h3
theorem jMH.deep {nd : List Nd} (h : jMH nd) : 1 <= jER nd ∧ jER nd <= 16 := by
 obtain ⟨e, h1, rfl, h2, h3⟩ := h.ex
 rw [jL7]
 exact ⟨e.jCU, h3⟩
theorem jLM {x : List UInt8} (h : isName x = true) : x.length <= 32 := by
 unfold isName at h
 simp only [Bool.and_eq_true, decide_eq_true_eq] at h
 exact h.1.1.2
theorem jE7 : ∀ (e : Ex) (c : Nat), e.ok -> ∀ n ∈ e.nds c, n.name.length <= 32 ∧ n.kids.length <= 3
 | .num v, c, h, n, hn => by simp [Ex.nds] at hn; subst hn; simp
 | .var x, c, h, n, hn => by simp [Ex.nds] at hn; subst hn; have := jLM h; simp [this]
 | .two o a b, c, h, n, hn => by
  simp only [Ex.nds, List.mem_append, List.mem_singleton] at hn
  rcases hn with hn | hn | hn
  ·exact jE7 a _ h.2.2.2.1 n hn
  ·exact jE7 b _ h.2.2.2.2 n hn
  ·subst hn; simp
 | .thr a b d, c, h, n, hn => by
  simp only [Ex.nds, List.mem_append, List.mem_singleton] at hn
  rcases hn with hn | hn | hn | hn
  ·exact jE7 a _ h.1 n hn
  ·exact jE7 b _ h.2.1 n hn
  ·exact jE7 d _ h.2.2 n hn
  ·subst hn; simp
theorem jMH.small {nd : List Nd} (h : jMH nd) : ∀ n ∈ nd, n.name.length <= 32 ∧ n.kids.length <= 3 := by
 obtain ⟨e, h1, rfl, h2, h3⟩ := h.ex
 exact jE7 e 0 h1
section
variable {G : jA3}
theorem kHJ : ∀ (ns : List Nd) (i : Nat) (t : List Bool) (e : Int), jAU ns i t = .error e -> e ≠ 0 := by
 intro ns
 induction ns with
 | nil => intro i t e h; cases h
 | cons n ns ih =>
  intro i t e h
  unfold jAU at h
  split at h
  ·cases h; assumption
  ·split at h
   ·cases h; decide
   ·split at h
    ·cases h; assumption
    ·exact ih _ _ _ h
theorem jGD {l : List Nd} (h : jBP l = 0) : l.length <= 256 ∧ l ≠ [] ∧ wfK l 0 ∧ (∀ n ∈ l, jE0 n = 0 ∧ jEN n = 0) ∧ jER l <= 16 := by
 unfold jBP at h
 split at h
 ·cases h
 ·split at h
  ·cases h
  ·split at h
   ·rename_i hc
    exfalso
    exact kHJ _ _ _ _ hc h
   ·rename_i hc
    obtain ⟨-, h2, h3⟩ := jD6 hc
    split at h
    ·cases h
    ·split at h
     ·cases h
     ·exact ⟨by omega, fun h => by simp_all, h2, h3, by omega⟩
end
abbrev nd (l : List Nd) (i : Int) : Nd := l.getD i.toNat default
def jHQ (l : List Nd) : Nat -> Int -> Ex
 | 0, _ => .num 0
 | k + 1, i =>
  if (nd l i).op = 0 then .num (nd l i).num
  else if (nd l i).op = 1 then .var (nd l i).name
  else if (nd l i).op = 7 then .thr (jHQ l k ((nd l i).kids.getD 0 0)) (jHQ l k ((nd l i).kids.getD 1 0)) (jHQ l k ((nd l i).kids.getD 2 0))
  else .two (nd l i).op.toNat (jHQ l k ((nd l i).kids.getD 0 0)) (jHQ l k ((nd l i).kids.getD 1 0))
theorem jFD (l : List Nd) (k : Nat) (i : Int) : jHQ l (k + 1) i = if (nd l i).op = 0 then .num (nd l i).num
  else if (nd l i).op = 1 then .var (nd l i).name
  else if (nd l i).op = 7 then .thr (jHQ l k ((nd l i).kids.getD 0 0)) (jHQ l k ((nd l i).kids.getD 1 0)) (jHQ l k ((nd l i).kids.getD 2 0))
  else .two (nd l i).op.toNat (jHQ l k ((nd l i).kids.getD 0 0)) (jHQ l k ((nd l i).kids.getD 1 0)) := rfl
structure Nd1 (n : Nd) : Prop where
 op0 : 0 <= n.op
 op9 : n.op <= 9
 none : n.op < 2 -> n.kids = []
 three : n.op = 7 -> ∃ a b c, n.kids = [a, b, c]
 two : 2 <= n.op -> n.op ≠ 7 -> ∃ a b, n.kids = [a, b]
 num : n.op = 0 -> 0 <= n.num ∧ n.num <= 1000000000000000000 ∧ n.num.tmod 100 = 0
 name1 : n.op = 1 -> isName n.name = true
 kOE : n.op ≠ 1 -> n.name = []
 kSA : n.op ≠ 0 -> n.num = 0
theorem kLM {n : Nd} (h1 : jE0 n = 0) (h2 : jEN n = 0) : Nd1 n := by
 obtain ⟨a1, a2, a3, a4⟩ := jPG h1
 unfold jEN at h2
 rw [if_neg (by omega)] at h2
 split at h2
 ·cases h2
 ·rename_i hr1
  split at h2
  ·cases h2
  ·rename_i hr2
   simp only [not_or, not_and, ne_eq, Decidable.not_not, Int.not_lt] at hr1 hr2
   obtain ⟨k, hk⟩ : ∃ k : Nat, n.op = k := ⟨n.op.toNat, by omega⟩
   have hkt : (n.kids.length : Int) = jA1.getD k 0 := by rw [a3, hk]; rfl
   obtain ⟨kv0, kv1, kv2, kv3, kv4, kv5, kv6, kv7, kv8, kv9⟩ : jA1.getD 0 0 = 0 ∧ jA1.getD 1 0 = 0 ∧ jA1.getD 2 0 = 2 ∧ jA1.getD 3 0 = 2 ∧ jA1.getD 4 0 = 2 ∧ jA1.getD 5 0 = 2 ∧ jA1.getD 6 0 = 2 ∧ jA1.getD 7 0 = 3 ∧ jA1.getD 8 0 = 2 ∧ jA1.getD 9 0 = 2 := ⟨rfl, rfl, rfl, rfl, rfl, rfl, rfl, rfl, rfl, rfl⟩
   refine ⟨a1, a2, fun h => ?_, fun h => ?_, fun h h' => ?_, fun h => ?_, fun h => ?_, fun h => ?_, fun h => ?_⟩
   ·have : k = 0 ∨ k = 1 := by omega
    apply List.length_eq_zero_iff.1
    rcases this with rfl | rfl <;> omega
   ·have hl : n.kids.length = 3 := by
     have : k = 7 := by omega
     subst this; omega
    match n.kids, hl with
    | [a, b, c], _ => exact ⟨a, b, c, rfl⟩
   ·have hl : n.kids.length = 2 := by
     have : k = 2 ∨ k = 3 ∨ k = 4 ∨ k = 5 ∨ k = 6 ∨ k = 8 ∨ k = 9 := by omega
     rcases this with rfl | rfl | rfl | rfl | rfl | rfl | rfl <;> omega
    match n.kids, hl with
    | [a, b], _ => exact ⟨a, b, rfl⟩
   ·have := hr1.1 h
    exact ⟨by omega, by omega, this.2.2⟩
   ·have := hr2.1 h; simpa using this
   ·exact hr2.2 h
   ·exact hr1.2 h
theorem Nd1.kP4 {n : Nd} (h : Nd1 n) : kQ1 n := by
 refine ⟨h.op0, h.op9, fun e => ⟨(h.num e).1, (h.num e).2.1⟩, ?_, ?_, fun a b => ?_⟩
 ·by_cases e : n.op = 1
  ·have := jLM (h.name1 e); omega
  ·rw [h.kOE e]; simp
 ·by_cases e : n.op < 2
  ·rw [h.none e]; simp
  ·by_cases e7 : n.op = 7
   ·obtain ⟨a, b, c, hk⟩ := h.three e7; rw [hk]; simp
   ·obtain ⟨a, b, hk⟩ := h.two (by omega) e7; rw [hk]; simp
 ·obtain ⟨x, y, hk⟩ := h.two a (by omega); rw [hk]; rfl
theorem kBQ {l : List Nd} {i : Int} (h0 : 0 <= i) (h : i.toNat < l.length) : nd l i = l[i.toNat] := by simp [nd, List.getD, h]
theorem jSH {l : List Nd} : ∀ {k k' : Nat} {i : Int}, jHG l k i -> k <= k' -> jHG l k' i
 | 0, _, _, h, _ => h.elim
 | k + 1, 0, _, _, h => absurd h (by omega)
 | k + 1, k' + 1, i, h, hk => ⟨h.1, h.2.1, h.2.2.1, fun c hc => jSH (h.2.2.2 c hc) (by omega)⟩
theorem jDR {l : List Nd} (hl : ∀ n ∈ l, Nd1 n) : ∀ {k k' : Nat} {i : Int}, jHG l k i -> k <= k' -> jHQ l k' i = jHQ l k i
 | 0, _, _, h, _ => h.elim
 | k + 1, 0, _, _, h => absurd h (by omega)
 | k + 1, k' + 1, i, h, hk => by
  have hn : Nd1 (nd l i) := by rw [kBQ h.1 h.2.1]; exact hl _ (List.getElem_mem h.2.1)
  have h4 := h.2.2.2
  unfold jHQ
  by_cases e0 : (nd l i).op = 0
  ·rw [if_pos e0, if_pos e0]
  by_cases e1 : (nd l i).op = 1
  ·rw [if_neg e0, if_neg e0, if_pos e1, if_pos e1]
  have h2 : 2 <= (nd l i).op := by have := hn.op0; omega
  by_cases e7 : (nd l i).op = 7
  ·obtain ⟨a, b, c, hks⟩ := hn.three e7
   simp only [nd] at hks h4
   rw [hks] at h4
   rw [if_neg e0, if_neg e0, if_neg e1, if_neg e1, if_pos e7, if_pos e7]
   simp only [nd, hks, List.getD_cons_zero, List.getD_cons_succ]
   rw [jDR hl (h4 a (by simp)) (by omega), jDR hl (h4 b (by simp)) (by omega), jDR hl (h4 c (by simp)) (by omega)]
  ·obtain ⟨a, b, hks⟩ := hn.two h2 e7
   simp only [nd] at hks h4
   rw [hks] at h4
   rw [if_neg e0, if_neg e0, if_neg e1, if_neg e1, if_neg e7, if_neg e7]
   simp only [nd, hks, List.getD_cons_zero, List.getD_cons_succ]
   rw [jDR hl (h4 a (by simp)) (by omega), jDR hl (h4 b (by simp)) (by omega)]
theorem jFE {l : List Nd} (hl : ∀ n ∈ l, Nd1 n) : ∀ {k : Nat} {i : Int}, jHG l k i -> (jHQ l k i).deep <= k ∧ (jHQ l k i).ok
 | 0, _, h => h.elim
 | k + 1, i, h => by
  have hn : Nd1 (nd l i) := by rw [kBQ h.1 h.2.1]; exact hl _ (List.getElem_mem h.2.1)
  have h4 := h.2.2.2
  unfold jHQ
  by_cases e0 : (nd l i).op = 0
  ·rw [if_pos e0]; exact ⟨by simp only [Ex.deep]; omega, hn.num e0⟩
  by_cases e1 : (nd l i).op = 1
  ·rw [if_neg e0, if_pos e1]; exact ⟨by simp only [Ex.deep]; omega, hn.name1 e1⟩
  have h2 : 2 <= (nd l i).op := by have := hn.op0; omega
  by_cases e7 : (nd l i).op = 7
  ·obtain ⟨a, b, c, hks⟩ := hn.three e7
   simp only [nd] at hks h4
   rw [hks] at h4
   rw [if_neg e0, if_neg e1, if_pos e7]
   simp only [nd, hks, List.getD_cons_zero, List.getD_cons_succ]
   obtain ⟨a1, a2⟩ := jFE hl (h4 a (by simp))
   obtain ⟨b1, b2⟩ := jFE hl (h4 b (by simp))
   obtain ⟨c1, c2⟩ := jFE hl (h4 c (by simp))
   exact ⟨by simp only [Ex.deep]; omega, a2, b2, c2⟩
  ·obtain ⟨a, b, hks⟩ := hn.two h2 e7
   simp only [nd] at hks h4
   rw [hks] at h4
   rw [if_neg e0, if_neg e1, if_neg e7]
   simp only [nd, hks, List.getD_cons_zero, List.getD_cons_succ]
   obtain ⟨a1, a2⟩ := jFE hl (h4 a (by simp))
   obtain ⟨b1, b2⟩ := jFE hl (h4 b (by simp))
   have := hn.op9
   simp only [nd] at this h2 e7
   exact ⟨by simp only [Ex.deep]; omega, by omega, by omega, by omega, a2, b2⟩
theorem jL6 : ∀ (a b : List Nd) (acc : List Int), jA6 (a ++ b) acc = jA6 b (jA6 a acc)
 | [], b, acc => rfl
 | n :: a, b, acc => by simp only [List.cons_append, jA6]; exact jL6 a b _
theorem jL4 : ∀ (b : List Nd) (acc : List Int), ∃ r, jA6 b acc = acc ++ r
 | [], acc => ⟨[], by simp [jA6]⟩
 | n :: b, acc => by
  obtain ⟨r, h⟩ := jL4 b (acc ++ [jCK acc n.kids 0 + 1])
  exact ⟨_, by rw [jA6, h, List.append_assoc]⟩
theorem jNV (acc : List Int) : ∀ (ks : List Int) (m : Int), m <= jCK acc ks m ∧ ∀ k ∈ ks, acc.getD k.toNat 0 <= jCK acc ks m
 | [], m => ⟨Int.le_refl _, by simp⟩
 | k :: ks, m => by
  obtain ⟨h1, h2⟩ := jNV acc ks (max m (acc.getD k.toNat 0))
  simp only [jCK]
  refine ⟨by omega, fun x hx => ?_⟩
  rcases List.mem_cons.1 hx with rfl | hx
  ·omega
  ·exact h2 x hx
theorem kJ6 {l : List Nd} {i : Nat} (h : i < l.length) : (jA6 l []).getD i 0 = jCK (jA6 (l.take i) []) l[i].kids 0 + 1 ∧ ∀ j, j < i -> (jA6 (l.take i) []).getD j 0 = (jA6 l []).getD j 0 := by
 have e : l = l.take i ++ l[i] :: l.drop (i + 1) := by rw [<- List.drop_eq_getElem_cons h, List.take_append_drop]
 have hd : jA6 l [] = jA6 (l.drop (i + 1)) (jA6 (l.take i) [] ++ [jCK (jA6 (l.take i) []) l[i].kids 0 + 1]) := by
  conv => lhs; rw [e]
  rw [jL6]; rfl
 obtain ⟨r, hr⟩ := jL4 (l.drop (i + 1)) (jA6 (l.take i) [] ++ [jCK (jA6 (l.take i) []) l[i].kids 0 + 1])
 have hl : (jA6 (l.take i) []).length = i := by rw [jL5]; simp; omega
 rw [hd, hr]
 refine ⟨?_, fun j hj => ?_⟩
 ·rw [List.append_assoc, List.getD_eq_getElem?_getD, List.getElem?_append_right (by omega), hl]; simp
 ·rw [List.append_assoc, List.getD_eq_getElem?_getD, List.getD_eq_getElem?_getD, List.getElem?_append_left (by omega)]
theorem wf_at : ∀ {l : List Nd} {c i : Nat}, wfK l c -> (h : i < l.length) -> ∀ k ∈ l[i].kids, 0 <= k ∧ k < ((c + i : Nat) : Int)
 | n :: l, c, 0, hw, h => by simpa using hw.1
 | n :: l, c, i + 1, hw, h => by
  have := wf_at (i := i) hw.2 (by simpa using h)
  simp only [List.getElem_cons_succ]
  intro k hk
  have := this k hk
  refine ⟨this.1, ?_⟩
  have := this.2
  omega
theorem kCT {l : List Nd} (hl : ∀ n ∈ l, Nd1 n) (hw : wfK l 0) : ∀ (i : Nat), (h : i < l.length) -> ∀ k : Nat, (jA6 l []).getD i 0 <= k -> jHG l k i := by
 intro i
 induction i using Nat.strongRecOn with
 | ind i ih =>
  intro h k hk
  obtain ⟨h1, h2⟩ := kJ6 h
  obtain ⟨g1, g2⟩ := jNV (jA6 (l.take i) []) l[i].kids 0
  rw [h1] at hk
  obtain ⟨k, rfl⟩ : ∃ k', k = k' + 1 := ⟨k - 1, by omega⟩
  have e : l.getD ((i : Int)).toNat default = l[i] := by simp [List.getD, h]
  refine ⟨by omega, by simpa using h, by rw [e]; exact (hl _ (List.getElem_mem h)).kP4, ?_⟩
  rw [e]
  intro c hc
  obtain ⟨c0, c1⟩ := wf_at hw h c hc
  have hci : c.toNat < i := by omega
  have hg := g2 c hc
  rw [h2 _ hci] at hg
  have := ih c.toNat hci (by omega) k (by omega)
  rw [Int.toNat_of_nonneg c0] at this
  exact this
def unt (sz : Nat -> Nat) (t : List Bool) : Nat -> Nat
 | 0 => 0
 | j + 1 => unt sz t j + if t.getD j false then 0 else sz j
theorem jZN {sz : Nat -> Nat} {t : List Bool} {k : Nat} (hk : k < t.length) (hf : t.getD k false = false) : ∀ i, unt sz (t.set k true) i + (if k < i then sz k else 0) = unt sz t i
 | 0 => by simp [unt]
 | i + 1 => by
  have := jZN (sz := sz) hk hf i
  simp only [unt]
  rw [jLR hk]
  by_cases e : i = k
  ·subst e
   rw [hf]
   simp only [Bool.false_or, decide_true, if_true, Bool.false_eq_true, if_false, Nat.lt_irrefl] at this ⊢
   rw [if_pos (by omega)]
   omega
  ·simp only [e, decide_false, Bool.or_false]
   by_cases h2 : k < i
   ·have q : (if k < i + 1 then sz k else 0) = sz k := if_pos (by omega)
    rw [if_pos h2] at this; rw [q]; omega
   ·have q : (if k < i + 1 then sz k else 0) = 0 := if_neg (by omega)
    rw [if_neg h2] at this; rw [q]; omega
def kGM (sz : Nat -> Nat) : List Int -> Nat
 | [] => 0
 | k :: ks => sz k.toNat + kGM sz ks
theorem jWL {sz : Nat -> Nat} {i : Nat} : ∀ {ks : List Int} {t t' : List Bool}, i <= t.length -> jBO i ks t = some t' -> unt sz t' i + kGM sz ks = unt sz t i
 | [], t, t', _, h => by simp [jBO] at h; subst h; simp [kGM]
 | k :: ks, t, t', hi, h => by
  unfold jBO at h
  split at h
  ·cases h
  ·rename_i hk
   simp only [not_or, Bool.not_eq_true] at hk
   have := jWL (sz := sz) (by simpa using hi) h
   have h2 := jZN (sz := sz) (t := t) (k := k.toNat) (by omega) hk.2.2 i
   rw [if_pos (by omega)] at h2
   simp only [kGM]
   omega
theorem jR0 {i : Nat} : ∀ {ks : List Int} {t t' : List Bool}, jBO i ks t = some t' -> ∀ j, i <= j -> t'.getD j false = t.getD j false
 | [], t, t', h, j, hj => by simp [jBO] at h; subst h; rfl
 | k :: ks, t, t', h, j, hj => by
  unfold jBO at h
  split at h
  ·cases h
  ·rename_i hk
   simp only [not_or, Bool.not_eq_true] at hk
   rw [jR0 h j hj]
   simp only [List.getD_eq_getElem?_getD, List.getElem?_set]
   rw [if_neg (by omega)]
theorem jRL {sz : Nat -> Nat} : ∀ {ns : List Nd} {i : Nat} {t t' : List Bool}, (∀ j, (h : j < ns.length) -> sz (i + j) = 1 + kGM sz ns[j].kids) -> (∀ j, i <= j -> t.getD j false = false) -> i + ns.length <= t.length -> unt sz t i = i -> jAU ns i t = .ok t' -> unt sz t' (i + ns.length) = i + ns.length ∧ ∀ j, i + ns.length <= j + 1 -> t'.getD j false = false ∨ j + 1 < i + ns.length + (if ns = [] then 1 else 0)
 | [], i, t, t', _, hf, _, hu, h => by
  simp [jAU] at h
  subst h
  exact ⟨by simpa using hu, fun j hj => by simp at hj ⊢; rcases Nat.lt_or_ge j i with h | h; exact .inr h; exact .inl (by have := hf j h; simpa [List.getD] using this)⟩
 | n :: ns, i, t, t', hs, hf, hl, hu, h => by
  unfold jAU at h
  split at h
  ·cases h
  ·split at h
   ·cases h
   ·rename_i t1 hk
    split at h
    ·cases h
    ·have e1 := jWL (sz := sz) (by simp at hl; omega) hk
     have e2 := jR0 hk
     obtain ⟨e3, -⟩ := jF8 hk
     have e4 := hs 0 (by simp)
     simp only [Nat.add_zero, List.getElem_cons_zero] at e4
     have e5 : unt sz t1 (i + 1) = i + 1 := by
      simp only [unt]
      rw [e2 i (Nat.le_refl _), hf i (Nat.le_refl _)]
      simp only [Bool.false_eq_true, if_false]
      omega
     obtain ⟨g1, g2⟩ := jRL (sz := sz) (ns := ns) (i := i + 1) (t := t1) (t' := t') (fun j hj => by
      have := hs (j + 1) (by simpa using hj)
      simpa [show i + (j + 1) = i + 1 + j by omega] using this) (fun j hj => by rw [e2 j (by omega)]; exact hf j (by omega)) (by simp at hl; omega) e5 h
     refine ⟨by simp only [List.length_cons]; rw [show i + (ns.length + 1) = i + 1 + ns.length by omega]; exact g1, fun j hj => ?_⟩
     simp only [List.length_cons] at hj ⊢
     rcases g2 j (by omega) with h1 | h1
     ·exact .inl h1
     ·by_cases hns : ns = []
      ·subst hns
       simp only [if_true, List.length_nil] at h1 hj ⊢
       have : j = i := by omega
       subst this
       have hh : t' = t1 := by simp [jAU] at h; exact h.symm
       rw [hh, e2 j (Nat.le_refl _)]
       exact .inl (hf j (Nat.le_refl _))
      ·rw [if_neg hns] at h1
       exact .inr (by simp; omega)
theorem jUM {sz : Nat -> Nat} {t : List Bool} : ∀ {n : Nat}, (∀ j, j < n -> t.getD j false = true) -> unt sz t n = 0
 | 0, _ => rfl
 | n + 1, h => by simp only [unt]; rw [jUM (fun j hj => h j (by omega)), h n (by omega)]; rfl
theorem kHX {l : List Nd} (hc : jBP l = 0) : jHG l 16 ((l.length : Int) - 1) ∧ (∀ n ∈ l, Nd1 n) ∧ (jHQ l 16 ((l.length : Int) - 1)).ok ∧ (jHQ l 16 ((l.length : Int) - 1)).deep <= 16 ∧ (jHQ l 16 ((l.length : Int) - 1)).size = l.length := by
 obtain ⟨h1, h2, h3, h4, h5⟩ := jGD hc
 have hl : ∀ n ∈ l, Nd1 n := fun n hn => kLM (h4 n hn).1 (h4 n hn).2
 have hpos : 0 < l.length := List.length_pos_iff.2 h2
 have hfit := kCT hl h3 (l.length - 1) (by omega) 16 (by unfold jER at h5; exact h5)
 have hcast : (((l.length - 1 : Nat)) : Int) = (l.length : Int) - 1 := by omega
 rw [hcast] at hfit
 obtain ⟨d1, d2⟩ := jFE hl hfit
 refine ⟨hfit, hl, d2, by omega, ?_⟩
 have hall : ∀ i, (h : i < l.length) -> jHG l (i + 1) i := by
  intro i
  induction i using Nat.strongRecOn with
  | ind i ih =>
   intro h
   have e : l.getD ((i : Int)).toNat default = l[i] := by simp [List.getD, h]
   refine ⟨by omega, by simpa using h, by rw [e]; exact (hl _ (List.getElem_mem h)).kP4, ?_⟩
   rw [e]
   intro c hc
   obtain ⟨c0, c1⟩ := wf_at h3 h c hc
   have := ih c.toNat (by omega) (by omega)
   rw [Int.toNat_of_nonneg c0] at this
   exact jSH this (by omega)
 have hsz : ∀ i, (h : i < l.length) -> (jHQ l (i + 1) i).size = 1 + kGM (fun j => (jHQ l (j + 1) j).size) l[i].kids := by
  intro i h
  have e : nd l (i : Int) = l[i] := by simp [nd, List.getD, h]
  have hn := hl _ (List.getElem_mem h)
  have hk : ∀ c ∈ l[i].kids, jHQ l i c = jHQ l (c.toNat + 1) c.toNat := fun c hc => by
   obtain ⟨c0, c1⟩ := wf_at h3 h c hc
   have := jDR hl (hall c.toNat (by omega)) (show c.toNat + 1 <= i by omega)
   rw [Int.toNat_of_nonneg c0] at this ⊢
   exact this
  rw [jFD l i i, e]
  by_cases e0 : l[i].op = 0
  ·rw [if_pos e0, hn.none (by omega)]; rfl
  by_cases e1 : l[i].op = 1
  ·rw [if_neg e0, if_pos e1, hn.none (by omega)]; rfl
  have h2 : 2 <= l[i].op := by have := hn.op0; omega
  by_cases e7 : l[i].op = 7
  ·obtain ⟨a, b, c, hks⟩ := hn.three e7
   rw [if_neg e0, if_neg e1, if_pos e7]
   rw [hks] at hk ⊢
   simp only [List.getD_cons_zero, List.getD_cons_succ, Ex.size, kGM]
   rw [hk a (by simp), hk b (by simp), hk c (by simp)]
   omega
  ·obtain ⟨a, b, hks⟩ := hn.two h2 e7
   rw [if_neg e0, if_neg e1, if_neg e7]
   rw [hks] at hk ⊢
   simp only [List.getD_cons_zero, List.getD_cons_succ, Ex.size, kGM]
   rw [hk a (by simp), hk b (by simp)]
   omega
 have hroot : (jHQ l 16 ((l.length : Int) - 1)).size = (jHQ l (l.length - 1 + 1) ((l.length - 1 : Nat) : Int)).size := by
  rw [hcast]
  have ha := hall (l.length - 1) (by omega)
  rw [hcast] at ha
  rcases Nat.le_total 16 (l.length - 1 + 1) with h | h
  ·rw [jDR hl hfit h]
  ·rw [jDR hl ha h]
 rw [hroot]
 unfold jBP at hc
 rw [if_neg (by omega), if_neg (by omega)] at hc
 split at hc
 ·rename_i e hce
  exfalso
  have := jGD (l := l) (by unfold jBP; rw [if_neg (by omega), if_neg (by omega), hce]; exact hc)
  exact kHJ _ _ _ _ hce hc
 ·rename_i t hct
  split at hc
  ·cases hc
  ·rename_i hcon
   obtain ⟨u1, u2⟩ := jRL (sz := fun j => (jHQ l (j + 1) j).size) (ns := l) (i := 0) (t := List.replicate l.length false) (t' := t) (fun j hj => by rw [Nat.zero_add]; exact hsz j hj) (fun j _ => by simp [List.getD, List.getElem?_replicate]; split <;> rfl) (by simp) rfl hct
   rw [Nat.zero_add] at u1
   have ht : ∀ j, j < l.length - 1 -> t.getD j false = true := by
    intro j hj
    have htl := (jD6 hct).1
    simp only [List.length_replicate] at htl
    cases hx : t.getD j false with
    | true => rfl
    | false =>
     exfalso
     apply hcon
     have e1 : t.getD j false = t[j] := by simp [List.getD, show j < t.length by omega]
     rw [e1] at hx
     have : false ∈ t.take (l.length - 1) := by rw [List.mem_take_iff_getElem]; exact ⟨j, by omega, hx⟩
     simpa using this
   have hlast : t.getD (l.length - 1) false = false := by
    rcases u2 (l.length - 1) (by omega) with h | h
    ·exact h
    ·rw [if_neg h2] at h; omega
   obtain ⟨m, hm⟩ : ∃ m, l.length = m + 1 := ⟨l.length - 1, by omega⟩
   have hm1 : l.length - 1 = m := by omega
   rw [hm1] at ht hlast
   rw [hm] at u1
   simp only [unt] at u1
   rw [jUM ht, hlast] at u1
   simp only [Bool.false_eq_true, if_false, Nat.zero_add] at u1
   rw [hm1, hm]
   exact u1
theorem jI8 {d : Nat} (h : d <= 9) : (UInt8.ofNat (48 + d) - 48).toNat = d := by
 have : d = 0 ∨ d = 1 ∨ d = 2 ∨ d = 3 ∨ d = 4 ∨ d = 5 ∨ d = 6 ∨ d = 7 ∨ d = 8 ∨ d = 9 := by omega
 rcases this with rfl | rfl | rfl | rfl | rfl | rfl | rfl | rfl | rfl | rfl <;> decide
theorem kM2 {d : Nat} (h : d <= 9) : jAE (UInt8.ofNat (48 + d)) = true := by
 have : d = 0 ∨ d = 1 ∨ d = 2 ∨ d = 3 ∨ d = 4 ∨ d = 5 ∨ d = 6 ∨ d = 7 ∨ d = 8 ∨ d = 9 := by omega
 rcases this with rfl | rfl | rfl | rfl | rfl | rfl | rfl | rfl | rfl | rfl <;> decide
theorem jPO : ∀ n, ∀ b ∈ jDY n, jAE b = true := by
 intro n
 induction n using Nat.strongRecOn with
 | ind n ih =>
  rw [jDY]
  split
  ·rename_i h9; intro b hb; rw [List.mem_singleton.1 hb]; exact kM2 h9
  ·intro b hb
   rcases List.mem_append.1 hb with hb | hb
   ·exact ih (n / 10) (by omega) b hb
   ·rw [List.mem_singleton.1 hb]; exact kM2 (by omega)
theorem kDH (n : Nat) : jDY n ≠ [] := by
 rw [jDY]; split <;> simp
theorem jOS {p : UInt8 -> Bool} : ∀ {l : List UInt8}, (∀ b ∈ l, p b = true) -> jA8 p l = l.length
 | [], _ => rfl
 | b :: l, h => by
  simp only [jA8, h b (by simp), if_true, List.length_cons]
  rw [jOS (fun c hc => h c (by simp [hc]))]
theorem kDP : ∀ (n : Nat), n <= 1000000000000 -> ∀ l, jXD 0 (jDY n ++ l) = jXD n l := by
 intro n
 induction n using Nat.strongRecOn with
 | ind n ih =>
  intro hn l
  rw [jDY]
  split
  ·rename_i h9
   simp only [List.cons_append, List.nil_append, jXD, jI8 h9]
   rw [if_neg (by omega)]
   congr 1; omega
  ·rw [List.append_assoc, ih (n / 10) (by omega) (by omega)]
   simp only [List.cons_append, List.nil_append, jXD, jI8 (show n % 10 <= 9 by omega)]
   rw [if_neg (by omega)]
   congr 1; omega
theorem jYC (u : Nat) : ∀ l : List UInt8, jC1 u (l ++ [48]) = jC1 u l := by
 intro l
 induction l generalizing u with
 | nil => simp [jC1]
 | cons b l ih => simp only [List.cons_append, jC1, ih]
theorem jK1 (u : Nat) : ∀ (n : Nat) (l : List UInt8), l.length <= n -> jC1 u (jEA l) = jC1 u l
 | 0, l, h => by have : l = [] := List.length_eq_zero_iff.1 (by omega); subst this; rfl
 | n + 1, l, h => by
  rcases List.eq_nil_or_concat l with rfl | ⟨l', b, rfl⟩
  ·rfl
  ·rw [List.concat_eq_append] at *
   rw [jKM]
   split
   ·rename_i hb
    subst hb
    rw [jK1 u n l' (by simp at h; omega), jYC]
   ·rfl
theorem jZ4 {l : List UInt8} : ∀ b ∈ jEA l, b ∈ l := by
 intro b hb
 unfold jEA at hb
 rw [List.mem_reverse] at hb
 exact List.mem_reverse.1 ((List.dropWhile_sublist _).subset hb)
theorem jST {p : UInt8 -> Bool} : ∀ {l : List UInt8}, l.dropWhile p = [] -> ∀ b ∈ l, p b = true
 | [], _, b, hb => by cases hb
 | c :: l, h, b, hb => by
  rw [List.dropWhile_cons] at h
  split at h
  ·rename_i hc
   rcases List.mem_cons.1 hb with rfl | hb
   ·exact hc
   ·exact jST h b hb
  ·cases h
theorem kEL {l : List UInt8} (h : ∃ b ∈ l, b ≠ 48) : jEA l ≠ [] := by
 unfold jEA
 intro e
 rw [List.reverse_eq_nil_iff] at e
 obtain ⟨b, hb, hb2⟩ := h
 have := jST e b (List.mem_reverse.2 hb)
 simp at this
 exact hb2 this
theorem jRK {n : Nat} (h : n <= 1000000000000000000) (kHE : n % 100 = 0) : jHE (jO5 n) = .ok ((jO5 n).length, n) := by
 have hcap := kDP (n / 1000000) (by omega) []
 rw [List.append_nil] at hcap
 have hd := jPO (n / 1000000)
 have hrun := jOS hd
 unfold jO5
 by_cases hr : n % 1000000 / 100 = 0
 ·rw [if_pos hr]
  unfold jHE
  rw [hrun, if_neg (by omega), List.take_length]
  have hv : jS5 (jDY (n / 1000000)) [] = n := by
   unfold jS5; rw [hcap]; simp only [jXD, jC1]; omega
  rw [hv, if_pos h]
 ·rw [if_neg hr]
  have h5 := kPL (n % 1000000 / 100) (by omega)
  have hf : (jDY (10000 + n % 1000000 / 100)).drop 1 = [UInt8.ofNat (48 + n % 1000000 / 100 / 1000), UInt8.ofNat (48 + n % 1000000 / 100 / 100 % 10), UInt8.ofNat (48 + n % 1000000 / 100 / 10 % 10), UInt8.ofNat (48 + n % 1000000 / 100 % 10)] := by rw [h5]; rfl
  have hrr : n % 1000000 / 100 <= 9999 := by omega
  have hpv : jC1 100000 ((jDY (10000 + n % 1000000 / 100)).drop 1) = 100 * (n % 1000000 / 100) := by
   rw [hf]
   simp only [jC1]
   rw [jI8 (by omega), jI8 (by omega), jI8 (by omega), jI8 (by omega)]
   simp only [Nat.reduceDiv]
   omega
  have hfd : ∀ b ∈ (jDY (10000 + n % 1000000 / 100)).drop 1, jAE b = true := fun b hb => jPO _ b (List.mem_of_mem_drop hb)
  have hfl : ((jDY (10000 + n % 1000000 / 100)).drop 1).length = 4 := by rw [hf]; rfl
  have hne : ∃ b ∈ (jDY (10000 + n % 1000000 / 100)).drop 1, b ≠ 48 := by
   refine Classical.byContradiction fun hx => ?_
   have hall : ∀ b ∈ (jDY (10000 + n % 1000000 / 100)).drop 1, b = 48 := fun b hb => Classical.byContradiction fun e => hx ⟨b, hb, e⟩
   have : jC1 100000 ((jDY (10000 + n % 1000000 / 100)).drop 1) = 0 := by
    rw [hf] at hall ⊢
    simp only [List.mem_cons, List.not_mem_nil, or_false, forall_eq_or_imp, forall_eq] at hall
    obtain ⟨a1, a2, a3, a4⟩ := hall
    rw [a1, a2, a3, a4]; rfl
   omega
  clear hf
  generalize (jDY (10000 + n % 1000000 / 100)).drop 1 = f0 at *
  have e1 := jK1 100000 f0.length f0 (Nat.le_refl _)
  have e2 : ∀ b ∈ jEA f0, jAE b = true := fun b hb => hfd b (jZ4 b hb)
  have e3 := kEL hne
  have e4 := jUR f0
  generalize jEA f0 = f at *
  have hfr := jOS e2
  have hlp : 0 < f.length := List.length_pos_iff.2 e3
  have hw : (jDY (n / 1000000) ++ [46]) ++ f = jDY (n / 1000000) ++ 46 :: f := by simp
  rw [hw]
  generalize jDY (n / 1000000) = w at *
  have hr1 : jA8 jAE (w ++ 46 :: f) = w.length := by rw [jDA kJ5, hrun]
  have hg : (w ++ 46 :: f).getD w.length 0 = 46 := by simp [List.getD]
  have hdr : (w ++ 46 :: f).drop (w.length + 1) = f := by
   rw [List.drop_append]; simp
  have htk : (w ++ 46 :: f).take w.length = w := by simp
  unfold jHE
  rw [hr1, if_pos ⟨by simp, hg⟩, hdr, hfr, if_neg (by omega), if_neg (by omega), htk, List.take_length]
  have hv : jS5 w f = n := by
   unfold jS5; rw [hcap, e1, hpv]; simp only [jXD]; omega
  rw [hv, if_pos h]
  simp
  omega
theorem jLA (n : Nat) : jAE ((jO5 n).getD 0 0) = true := by
 have h : ∀ r : List UInt8, jAE ((jDY (n / 1000000) ++ r).getD 0 0) = true := by
  intro r
  rw [jJ8 (List.length_pos_iff.2 (kDH _))]
  cases hx : jDY (n / 1000000) with
  | nil => exact absurd hx (kDH _)
  | cons b l =>
   have := jPO (n / 1000000) b (by rw [hx]; simp)
   simpa using this
 unfold jO5
 split
 ·have := h []; rwa [List.append_nil] at this
 ·rw [List.append_assoc]; exact h _
theorem kIF (n : Nat) : jO5 n ≠ [] := by
 intro e
 have := jLA n
 rw [e] at this
 cases this
theorem kIJ {n : Nat} (h : n <= 1000000000000000000) (kHE : n % 100 = 0) : lx (jO5 n) = some [(2, jO5 n)] := kB4 (jLA n) (jRK h kHE)
theorem kIG {n : Nat} (h : n <= 1000000000000000000) (kHE : n % 100 = 0) : nmP (jO5 n) = n := by
 unfold nmP numOf
 rw [if_neg (kIF n), jLA n, jRK h kHE]
 simp
end Go.Proofs.YthjkmhfiffojeaaGreatDoor
