import Derived.Test.YthjkmhfiffojeaaGreatDoorQ10
namespace Go.Proofs.YthjkmhfiffojeaaGreatDoor
open Go PG Go.Proofs
open Nat (reduceAdd reduceEqDiff)
set_option linter.unusedSimpArgs false
set_option linter.unusedVariables false
set_option maxRecDepth 100000
section
variable {nm : List UInt8 -> Int} {l : List Tok}
def kHR (o : List Nd) : Prop := ∀ x ∈ o, x.kids.length <= 3
def KF (f : PS -> Int × PS) : Prop := ∀ s, kHR s.out -> kHR (f s).2.out
theorem jKD {s : PS} {n : Nd} (h : kHR s.out) (hn : n.kids.length <= 3) : kHR (jEE s n).2.out := by
 intro x hx
 rcases List.mem_append.1 hx with hx | hx
 ·exact h x hx
 ·rw [List.mem_singleton.1 hx]; exact hn
theorem kDR {f : PS -> Int × PS} {op : Nat} (h : KF f) : ∀ (k : Nat) (kids : List Int) (s : PS), kids.length + k <= 3 -> kHR s.out -> kHR (jGG l f op k kids s).2.out
 | 0, _, _, _, hs => hs
 | k + 1, kids, s, hk, hs => by
  unfold jGG
  split
  ·exact h s hs
  ·split
   ·split
    ·exact jKD (h s hs) (by simp; omega)
    ·exact h s hs
   ·split
    ·exact kDR h k _ _ (by simp; omega) (h s hs)
    ·exact h s hs
theorem kFP {jk : Bool} {f : PS -> Int × PS} (h : KF f) : KF (jBR nm l jk f) := by
 intro s hs
 unfold jBR
 split
 ·exact jKD hs (by simp)
 ·split
  ·split
   ·unfold jIK
    split
    ·exact hs
    ·exact kDR h _ _ _ (by unfold jMJ; split <;> simp) hs
   ·exact jKD hs (by simp)
  ·split
   ·exact hs
   ·split
    ·exact h _ hs
    ·split
     ·exact h _ hs
     ·exact h _ hs
theorem kGW {f : PS -> Int × PS} {ops : List (Nat × List UInt8)} (h : KF f) : ∀ (k : Nat) (n : Int) (s : PS), kHR s.out -> kHR (jG4 l f ops k n s).2.out
 | 0, _, _, hs => hs
 | k + 1, n, s, hs => by
  unfold jG4
  split
  ·exact hs
  ·split
   ·exact hs
   ·exact kGW h k _ _ (jKD (h _ hs) (by simp))
theorem kGU {f : PS -> Int × PS} {ops : List (Nat × List UInt8)} (h : KF f) : KF (rowP l f ops) := fun s hs => kGW h _ _ _ (h s hs)
theorem kGL {jk : Bool} : ∀ k, KF (sumP nm l jk k)
 | 0 => fun s hs => hs
 | k + 1 => kGU (kGU (kFP (kGL k)))
end
inductive Ex where
 | num (v : Int)
 | var (x : List UInt8)
 | two (o : Nat) (a b : Ex)
 | thr (a b d : Ex)
def Ex.size : Ex -> Nat
 | .num _ => 1
 | .var _ => 1
 | .two _ a b => a.size + b.size + 1
 | .thr a b d => a.size + b.size + d.size + 1
def Ex.deep : Ex -> Int
 | .num _ => 1
 | .var _ => 1
 | .two _ a b => max a.deep b.deep + 1
 | .thr a b d => max (max a.deep b.deep) d.deep + 1
def Ex.root (e : Ex) (c : Nat) : Int := ((c + e.size - 1 : Nat) : Int)
def Ex.nds : Ex -> Nat -> List Nd
 | .num v, _ => [⟨0, v, [], []⟩]
 | .var x, _ => [⟨1, 0, x, []⟩]
 | .two o a b, c => a.nds c ++ (b.nds (c + a.size) ++ [⟨o, 0, [], [a.root c, b.root (c + a.size)]⟩])
 | .thr a b d, c => a.nds c ++ (b.nds (c + a.size) ++ (d.nds (c + a.size + b.size) ++ [⟨7, 0, [], [a.root c, b.root (c + a.size), d.root (c + a.size + b.size)]⟩]))
theorem Ex.size_pos : ∀ e : Ex, 0 < e.size
 | .num _ => by simp [Ex.size]
 | .var _ => by simp [Ex.size]
 | .two _ a b => by simp [Ex.size]
 | .thr a b d => by simp [Ex.size]
theorem Ex.jB7 : ∀ (e : Ex) (c : Nat), (e.nds c).length = e.size
 | .num _, _ => rfl
 | .var _, _ => rfl
 | .two _ a b, c => by simp only [Ex.nds, Ex.size, List.length_append, List.length_cons, List.length_nil, Ex.jB7 a, Ex.jB7 b]; omega
 | .thr a b d, c => by simp only [Ex.nds, Ex.size, List.length_append, List.length_cons, List.length_nil, Ex.jB7 a, Ex.jB7 b, Ex.jB7 d]; omega
inductive D (nm : List UInt8 -> Int) : Nat -> List KT -> Ex -> Prop
 | num {x} : D nm 0 [(2, x)] (.num (nm x))
 | var {x} : D nm 0 [(1, x)] (.var x)
 | par {w e} : D nm 2 w e -> D nm 0 ((3, [40]) :: (w ++ [(3, [41])])) e
 | jS0 {x i w v a b} : jGF x = some i -> jMJ (i + 5) = 2 -> D nm 2 w a -> D nm 2 v b -> D nm 0 ((1, x) :: (3, [40]) :: (w ++ (3, [44]) :: (v ++ [(3, [41])]))) (.two (i + 5) a b)
 | kDS {x w v u a b d} : jGF x = some 2 -> D nm 2 w a -> D nm 2 v b -> D nm 2 u d -> D nm 0 ((1, x) :: (3, [40]) :: (w ++ (3, [44]) :: (v ++ (3, [44]) :: (u ++ [(3, [41])])))) (.thr a b d)
 | fac {w e} : D nm 0 w e -> D nm 1 w e
 | mul {w v a b} : D nm 1 w a -> D nm 0 v b -> D nm 1 (w ++ (3, [42]) :: v) (.two 4 a b)
 | pro {w e} : D nm 1 w e -> D nm 2 w e
 | add {w v a b} : D nm 2 w a -> D nm 1 v b -> D nm 2 (w ++ (3, [43]) :: v) (.two 2 a b)
 | sub {w v a b} : D nm 2 w a -> D nm 1 v b -> D nm 2 (w ++ (3, [45]) :: v) (.two 3 a b)
def Mt (l : List Tok) : Nat -> List KT -> Prop
 | _, [] => True
 | i, t :: w => (jB8 l i).1 = t.1 ∧ (jB8 l i).2.1 = t.2 ∧ Mt l (i + 1) w
theorem jXK {l : List Tok} : ∀ {i : Nat} {w v : List KT}, Mt l i (w ++ v) ↔ Mt l i w ∧ Mt l (i + w.length) v
 | i, [], v => by simp [Mt]
 | i, t :: w, v => by
  simp only [List.cons_append, Mt, List.length_cons, jXK (w := w) (v := v), show i + (w.length + 1) = i + 1 + w.length by omega, and_assoc]
def af (s : PS) (w : List KT) (e : Ex) : PS := ⟨s.at_ + w.length, 0, s.out ++ e.nds s.out.length⟩
def Nx (l : List Tok) (i : Nat) (x : List UInt8) : Prop := ¬ ((jB8 l i).1 = 3 ∧ (jB8 l i).2.1 = x)
theorem Nx.no {l : List Tok} {s : PS} {x : List UInt8} (h : Nx l s.at_ x) : sgn l s x = false := by
 unfold Nx at h; unfold sgn
 simp only [Bool.and_eq_false_iff, decide_eq_false_iff_not]
 by_cases h1 : (jB8 l s.at_).1 = 3
 ·exact .inr fun h2 => h ⟨h1, h2⟩
 ·exact .inl h1
theorem jHC {l : List Tok} {s : PS} {x : List UInt8} (h1 : (jB8 l s.at_).1 = 3) (h2 : (jB8 l s.at_).2.1 = x) : sgn l s x = true := by
 unfold sgn; simp [h1, h2]
theorem Nx.other {l : List Tok} {i : Nat} {x y : List UInt8} (h1 : (jB8 l i).2.1 = y) (h : y ≠ x) : Nx l i x := fun h2 => h (h1.symm.trans h2.2)
section
variable {nm : List UInt8 -> Int} {l : List Tok} {jk : Bool}
def PtF (l : List Tok) (f : PS -> Int × PS) (w : List KT) (e : Ex) : Prop := ∀ s : PS, Mt l s.at_ w -> s.e = 0 -> s.at_ + w.length < l.length -> Nx l (s.at_ + w.length) [40] -> f s = (e.root s.out.length, af s w e)
def PtR (l : List Tok) (part : PS -> Int × PS) (ops : List (Nat × List UInt8)) (w : List KT) (e : Ex) : Prop := ∀ s : PS, Mt l s.at_ w -> s.e = 0 -> s.at_ + w.length < l.length -> Nx l (s.at_ + w.length) [40] -> ∃ K, l.length - (s.at_ + w.length) <= K ∧ rowP l part ops s = jG4 l part ops K (e.root s.out.length) (af s w e)
theorem kEP {part : PS -> Int × PS} {ops : List (Nat × List UInt8)} {w : List KT} {e : Ex} (h : PtF l part w e) : PtR l part ops w e := by
 intro s h1 h2 h3 h4
 refine ⟨_, Nat.le_refl _, ?_⟩
 unfold rowP
 rw [h s h1 h2 h3 h4]
 rfl
theorem jU0 {part : PS -> Int × PS} {ops : List (Nat × List UInt8)} {n : Int} {s : PS} (h : ∀ o ∈ ops, Nx l s.at_ o.2) : ∀ K, jG4 l part ops K n s = (n, s)
 | 0 => rfl
 | K + 1 => by
  unfold jG4
  have : ops.find? (fun o => sgn l s o.2) = none := by
   rw [List.find?_eq_none]
   intro o ho
   rw [(h o ho).no]; simp
  rw [this]
  split <;> rfl
theorem row_step {part : PS -> Int × PS} {ops : List (Nat × List UInt8)} {w v : List KT} {a b : Ex} {o : Nat} {x : List UInt8}
  (hf : ∀ s : PS, (jB8 l s.at_).1 = 3 -> (jB8 l s.at_).2.1 = x -> ops.find? (fun o => sgn l s o.2) = some (o, x)) (hx : x ≠ [40])
  (ha : PtR l part ops w a) (hb : PtF l part v b) : PtR l part ops (w ++ (3, x) :: v) (.two o a b) := by
 intro s h1 h2 h3 h4
 rw [jXK] at h1
 obtain ⟨h1, h5, h6, h7⟩ := h1
 simp only at h5 h6
 simp only [List.length_append, List.length_cons] at h3 h4 ⊢
 obtain ⟨K, hK, he⟩ := ha s h1 h2 (by omega) (Nx.other h6 hx)
 obtain ⟨K, rfl⟩ : ∃ K', K = K' + 1 := ⟨K - 1, by omega⟩
 refine ⟨K, by omega, ?_⟩
 rw [he, jG4, if_neg (by simp [af]), hf (af s w a) h5 h6]
 simp only
 have hb' := hb (adv (af s w a) 1) h7 rfl (by simp only [adv, af]; omega) (by simp only [adv, af]; rw [show s.at_ + w.length + 1 + v.length = s.at_ + (w.length + (v.length + 1)) by omega]; exact h4)
 rw [hb']
 simp only [jEE, af, adv, Ex.nds, Ex.root, Ex.size, List.length_append, List.length_cons, Ex.jB7, List.append_assoc]
 have e1 : s.at_ + w.length + 1 + v.length = s.at_ + (w.length + (v.length + 1)) := by omega
 have e2 : s.out.length + (a.size + b.size) = s.out.length + (a.size + b.size + 1) - 1 := by omega
 rw [e1, e2]
theorem kPC {s : PS} (h1 : (jB8 l s.at_).1 = 3) (h2 : (jB8 l s.at_).2.1 = [42]) : jNL.find? (fun o => sgn l s o.2) = some (4, [42]) := by
 have := jHC h1 h2
 simp [jNL, this]
theorem kPD {s : PS} (h1 : (jB8 l s.at_).1 = 3) (h2 : (jB8 l s.at_).2.1 = [43]) : jMI.find? (fun o => sgn l s o.2) = some (2, [43]) := by
 have := jHC h1 h2
 simp [jMI, this]
theorem kPB {s : PS} (h1 : (jB8 l s.at_).1 = 3) (h2 : (jB8 l s.at_).2.1 = [45]) : jMI.find? (fun o => sgn l s o.2) = some (3, [45]) := by
 have h3 := jHC h1 h2
 have h4 : sgn l s [43] = false := (Nx.other h2 (by decide)).no
 simp [jMI, h3, h4]
abbrev kFQ (nm : List UInt8 -> Int) (l : List Tok) (jk : Bool) (k : Nat) := jBR nm l jk (sumP nm l jk k)
abbrev kNJ (nm : List UInt8 -> Int) (l : List Tok) (jk : Bool) (k : Nat) := rowP l (kFQ nm l jk k) jNL
def PtL (nm : List UInt8 -> Int) (l : List Tok) (jk : Bool) : Nat -> List KT -> Ex -> Prop
 | 0, w, e => ∀ k, w.length <= k -> PtF l (kFQ nm l jk k) w e
 | 1, w, e => ∀ k, w.length <= k -> PtR l (kFQ nm l jk k) jNL w e
 | _, w, e => ∀ k, w.length <= k -> (∀ s : PS, Mt l s.at_ w -> s.e = 0 -> s.at_ + w.length < l.length -> Nx l (s.at_ + w.length) [40] -> Nx l (s.at_ + w.length) [42] -> ∃ K, l.length - (s.at_ + w.length) <= K ∧ rowP l (kNJ nm l jk k) jMI s = jG4 l (kNJ nm l jk k) jMI K (e.root s.out.length) (af s w e))
theorem jVF {w : List KT} {e : Ex} {k : Nat} (h : PtR l (kFQ nm l jk k) jNL w e) (s : PS) (h1 : Mt l s.at_ w) (h2 : s.e = 0) (h3 : s.at_ + w.length < l.length) (h4 : Nx l (s.at_ + w.length) [40]) (h5 : Nx l (s.at_ + w.length) [42]) : kNJ nm l jk k s = (e.root s.out.length, af s w e) := by
 obtain ⟨K, -, he⟩ := h s h1 h2 h3 h4
 unfold kNJ
 rw [he, jU0]
 intro o ho
 simp only [jNL, List.mem_singleton] at ho
 subst ho
 exact h5
theorem jUQ {w : List KT} {e : Ex} (h : PtL nm l jk 2 w e) {k : Nat} (hk : w.length < k) (s : PS) (h1 : Mt l s.at_ w) (h2 : s.e = 0) (h3 : s.at_ + w.length < l.length) (h4 : ∀ x ∈ [[40], [42], [43], [45]], Nx l (s.at_ + w.length) x) : sumP nm l jk k s = (e.root s.out.length, af s w e) := by
 obtain ⟨k, rfl⟩ : ∃ k', k = k' + 1 := ⟨k - 1, by omega⟩
 obtain ⟨K, -, he⟩ := h k (by omega) s h1 h2 h3 (h4 _ (by simp)) (h4 _ (by simp))
 unfold sumP
 rw [he, jU0]
 intro o ho
 simp only [jMI, List.mem_cons, List.not_mem_nil, or_false] at ho
 rcases ho with rfl | rfl
 ·exact h4 [43] (by simp)
 ·exact h4 [45] (by simp)
theorem jZ0 {w v : List KT} {a b : Ex} {o : Nat} {x : List UInt8}
  (hf : ∀ s : PS, (jB8 l s.at_).1 = 3 -> (jB8 l s.at_).2.1 = x -> jMI.find? (fun o => sgn l s o.2) = some (o, x)) (hx : x ≠ [40]) (hx2 : x ≠ [42])
  (ha : PtL nm l jk 2 w a) (hb : PtL nm l jk 1 v b) : PtL nm l jk 2 (w ++ (3, x) :: v) (.two o a b) := by
 intro k hk s h1 h2 h3 h4 h4'
 rw [jXK] at h1
 obtain ⟨h1, h5, h6, h7⟩ := h1
 simp only at h5 h6
 simp only [List.length_append, List.length_cons] at h3 h4 h4' hk ⊢
 obtain ⟨K, hK, he⟩ := ha k (by omega) s h1 h2 (by omega) (Nx.other h6 hx) (Nx.other h6 hx2)
 obtain ⟨K, rfl⟩ : ∃ K', K = K' + 1 := ⟨K - 1, by omega⟩
 refine ⟨K, by omega, ?_⟩
 rw [he, jG4, if_neg (by simp [af]), hf (af s w a) h5 h6]
 simp only
 have e0 : s.at_ + w.length + 1 + v.length = s.at_ + (w.length + (v.length + 1)) := by omega
 have hb' := jVF (hb k (by omega)) (adv (af s w a) 1) h7 rfl (by simp only [adv, af]; omega) (by simp only [adv, af]; rw [e0]; exact h4) (by simp only [adv, af]; rw [e0]; exact h4')
 rw [hb']
 simp only [jEE, af, adv, Ex.nds, Ex.root, Ex.size, List.length_append, List.length_cons, Ex.jB7, List.append_assoc]
 have e2 : s.out.length + (a.size + b.size) = s.out.length + (a.size + b.size + 1) - 1 := by omega
 rw [e0, e2]
theorem jGZ {w : List KT} {e : Ex} (h : PtL nm l jk 2 w e) {k : Nat} (hk : w.length < k) {s : PS} {x : List UInt8} {v : List KT} (h1 : Mt l s.at_ (w ++ (3, x) :: v)) (h2 : s.e = 0) (h3 : s.at_ + w.length < l.length) (hx : x = [44] ∨ x = [41]) : sumP nm l jk k s = (e.root s.out.length, af s w e) ∧ sgn l (af s w e) x = true ∧ Mt l (adv (af s w e) 1).at_ v := by
 rw [jXK] at h1
 obtain ⟨h1, h5, h6, h7⟩ := h1
 refine ⟨jUQ h hk s h1 h2 h3 (fun y hy => Nx.other h6 ?_), jHC h5 h6, h7⟩
 rcases hx with rfl | rfl <;> (simp only [List.mem_cons, List.not_mem_nil, or_false] at hy; rcases hy with rfl | rfl | rfl | rfl <;> simp)
theorem complete {lv : Nat} {w : List KT} {e : Ex} (h : D nm lv w e) : PtL nm l jk lv w e := by
 induction h with
 | num =>
  intro k hk s h1 h2 h3 h4
  unfold kFQ jBR
  rw [if_pos h1.1, h1.2.1]
  simp [jEE, adv, af, Ex.root, Ex.size, Ex.nds, h2]
 | @var x =>
  intro k hk s h1 h2 h3 h4
  have hs : sgn l (adv s 1) [40] = false := Nx.no (by simpa [adv] using h4)
  have k1 := h1.1
  simp only at k1
  unfold kFQ jBR
  rw [if_neg (by omega), if_pos k1, hs, h1.2.1]
  simp [jEE, adv, af, Ex.root, Ex.size, Ex.nds, h2]
 | @par w e hd ih =>
  intro k hk s h1 h2 h3 h4
  have k1 := h1.1
  have k2 := h1.2.1
  simp only at k1 k2
  simp only [List.length_cons, List.length_append, List.length_nil] at hk h3
  obtain ⟨e1, e2, -⟩ := jGZ ih (k := k) (by omega) (s := adv s 1) (x := [41]) (v := []) h1.2.2 h2 (by simp only [adv]; omega) (.inr rfl)
  have hs := jHC (s := s) k1 k2
  unfold kFQ jBR
  rw [if_neg (by omega), if_neg (by omega), hs, e1]
  simp only [e2]
  simp [af, adv, h2]
  omega
 | @jS0 x i w v a b hx hi hd hd' ih ih' =>
  intro k hk s h1 h2 h3 h4
  have k1 := h1.1
  have k2 := h1.2.1
  have k3 := jHC (s := adv s 1) h1.2.2.1 h1.2.2.2.1
  have k4 := h1.2.2.2.2
  simp only at k1 k2 k3
  simp only [List.length_cons, List.length_append, List.length_nil] at hk h3
  obtain ⟨e1, e2, e3⟩ := jGZ ih (k := k) (by omega) (s := adv s 2) (x := [44]) (v := v ++ [(3, [41])]) k4 h2 (by simp only [adv]; omega) (.inl rfl)
  obtain ⟨f1, f2, f3⟩ := jGZ ih' (k := k) (by omega) (s := adv (af (adv s 2) w a) 1) (x := [41]) (v := []) e3 rfl (by simp only [adv, af]; omega) (.inr rfl)
  unfold kFQ jBR
  rw [if_neg (by omega), if_pos k1, k3, if_pos rfl]
  unfold jIK
  rw [k2, hx]
  simp only
  rw [hi]
  unfold jGG
  rw [e1]
  simp only [e2]
  rw [if_neg (by simp [af]), if_neg (by omega), if_pos trivial]
  unfold jGG
  rw [f1]
  simp only [f2]
  rw [if_neg (by simp [af]), if_pos trivial, if_pos trivial]
  simp only [jEE, af, adv, Ex.nds, Ex.root, Ex.size, List.length_append, List.length_cons, List.length_nil, Ex.jB7, List.append_assoc, List.nil_append, List.cons_append]
  have g1 : s.at_ + 2 + w.length + 1 + v.length + 1 = s.at_ + (w.length + (v.length + (0 + 1) + 1) + 1 + 1) := by omega
  have g2 : s.out.length + (a.size + b.size) = s.out.length + (a.size + b.size + 1) - 1 := by omega
  rw [g1, g2]
 | @kDS x w v u a b d hx hd hd' hd'' ih ih' kRJ =>
  intro k hk s h1 h2 h3 h4
  have k1 := h1.1
  have k2 := h1.2.1
  have k3 := jHC (s := adv s 1) h1.2.2.1 h1.2.2.2.1
  have k4 := h1.2.2.2.2
  simp only at k1 k2 k3
  simp only [List.length_cons, List.length_append, List.length_nil] at hk h3
  obtain ⟨e1, e2, e3⟩ := jGZ ih (k := k) (by omega) (s := adv s 2) (x := [44]) (v := v ++ (3, [44]) :: (u ++ [(3, [41])])) k4 h2 (by simp only [adv]; omega) (.inl rfl)
  obtain ⟨f1, f2, f3⟩ := jGZ ih' (k := k) (by omega) (s := adv (af (adv s 2) w a) 1) (x := [44]) (v := u ++ [(3, [41])]) e3 rfl (by simp only [adv, af]; omega) (.inl rfl)
  obtain ⟨q1, q2, q3⟩ := jGZ kRJ (k := k) (by omega) (s := adv (af (adv (af (adv s 2) w a) 1) v b) 1) (x := [41]) (v := []) f3 rfl (by simp only [adv, af]; omega) (.inr rfl)
  unfold kFQ jBR
  rw [if_neg (by omega), if_pos k1, k3, if_pos rfl]
  unfold jIK
  rw [k2, hx]
  simp only
  rw [show jMJ (2 + 5) = 3 from rfl]
  unfold jGG
  rw [e1]
  simp only [e2]
  rw [if_neg (by simp [af]), if_neg (by omega), if_pos trivial]
  unfold jGG
  rw [f1]
  simp only [f2]
  rw [if_neg (by simp [af]), if_neg (by omega), if_pos trivial]
  unfold jGG
  rw [q1]
  simp only [q2]
  rw [if_neg (by simp [af]), if_pos trivial, if_pos trivial]
  simp only [jEE, af, adv, Ex.nds, Ex.root, Ex.size, List.length_append, List.length_cons, List.length_nil, Ex.jB7, List.append_assoc, List.nil_append, List.cons_append]
  have g1 : s.at_ + 2 + w.length + 1 + v.length + 1 + u.length + 1 = s.at_ + (w.length + (v.length + (u.length + (0 + 1) + 1) + 1) + 1 + 1) := by omega
  have g2 : s.out.length + (a.size + (b.size + d.size)) = s.out.length + (a.size + b.size + d.size + 1) - 1 := by omega
  have g3 : s.out.length + (a.size + b.size) = s.out.length + a.size + b.size := by omega
  rw [g1, g2, g3]
  rfl
 | fac hd ih => exact fun k hk => kEP (ih k hk)
 | @mul w v a b hd hd' ih ih' =>
  intro k hk
  simp only [List.length_append, List.length_cons] at hk
  exact row_step (fun s h1 h2 => kPC h1 h2) (by decide) (ih k (by omega)) (ih' k (by omega))
 | pro hd ih =>
  intro k hk s h1 h2 h3 h4 h5
  refine ⟨_, Nat.le_refl _, ?_⟩
  have := jVF (ih k hk) s h1 h2 h3 h4 h5
  rw [rowP, this]
  rfl
 | add hd hd' ih ih' => exact jZ0 (fun s h1 h2 => kPD h1 h2) (by decide) (by decide) ih ih'
 | sub hd hd' ih ih' => exact jZ0 (fun s h1 h2 => kPB h1 h2) (by decide) (by decide) ih ih'
end
set_option maxHeartbeats 4000000
section
def jG1 (l : List Int) : PV := .list none (l.map (PV.int .i64))
def ndC (n : Nd) : List PV := [.int .i64 n.op, .int .i64 n.num, .str n.name, jG1 n.kids]
def ndP (n : Nd) : PV := .agg (ndC n)
def jFL (l : List Nd) : PV := .agg [.list (some 4) (l.map ndP)]
def jA1 : List Int := [0, 0, 2, 2, 2, 2, 2, 3, 2, 2]
def jAS : PV := .agg (jA1.map (PV.int .i64))
def jJD (G : jA3) : Prop := G 1 = some (some 10, jAS)
theorem E49 : Ent Tryz.prog 49 := ⟨Tryz.f49, Tryz.func49, by kernel_rfl, by kernel_rfl⟩
theorem E50 : Ent Tryz.prog 50 := ⟨Tryz.f50, Tryz.func50, by kernel_rfl, by kernel_rfl⟩
theorem E73 : Ent Tryz.prog 73 := ⟨Tryz.f73, Tryz.func73, by kernel_rfl, by kernel_rfl⟩
theorem E18 : Ent Tryz.prog 18 := ⟨Tryz.f18, Tryz.func18, by kernel_rfl, by kernel_rfl⟩
theorem E20 : Ent Tryz.prog 20 := ⟨Tryz.f20, Tryz.func20, by kernel_rfl, by kernel_rfl⟩
def jE0 (n : Nd) : Int := if n.op < 0 ∨ 9 < n.op then 11 else if (n.kids.length : Int) ≠ jA1.getD n.op.toNat 0 then 3 else 0
def jEN (n : Nd) : Int :=
 if n.op < 0 ∨ 9 < n.op then 0
 else if (n.op = 0 ∧ (n.num < 0 ∨ 1000000000000000000 < n.num ∨ n.num.tmod 100 ≠ 0)) ∨ (n.op ≠ 0 ∧ n.num ≠ 0) then 2
 else if (n.op = 1 ∧ isName n.name = false) ∨ (n.op ≠ 1 ∧ n.name ≠ []) then 12 else 0
variable {G : jA3}
theorem jLK {op : Int} (h0 : 0 <= op) (h9 : op <= 9) : (List.map (PV.int IntKind.i64) jA1).getD (0 + op.toNat * 1) PV.junk = .int .i64 (jA1.getD op.toNat 0) ∧ op.toNat < 10 := by
 obtain ⟨k, rfl⟩ : ∃ k : Nat, op = k := ⟨op.toNat, by omega⟩
 have hk : k < 10 := by omega
 have e : ((k : Int)).toNat = k := by omega
 rw [e]
 refine ⟨?_, hk⟩
 have : 0 + k * 1 = k := by omega
 rw [this]
 have hl : jA1.length = 10 := rfl
 simp [List.getD, hl, hk]
theorem V49 (hG : jJD G) (n : Nd) (hs : n.name.length <= 9223372036854775807) : jAB Tryz.prog G 49 [ndP n] (.tup [.int .i64 (jE0 n), .int .i64 (jEN n)]) := by
 refine jAB.jAT Tryz.func49 k49 mix (by simp [c49]) ?_
 unfold jJD at hG
 simp only [c49, L49, CC, jBW, ndP, ndC, jG1]
 by_cases ho : n.op < 0 ∨ 9 < n.op
 ·have h1 : (decide (n.op < 0) || decide (9 < n.op)) = true := by simpa using ho
  have h2 : jE0 n = 11 := by rw [jE0, if_pos ho]
  have h3 : jEN n = 0 := by rw [jEN, if_pos ho]
  rw [h2, h3]
  repeat' (first | exact clo | (refine sqI ?_; intros) | refine stp ?_ | (refine cnd rfl ?_ ?_ <;> intro hcond <;> (try contradiction) <;> try simp only [DD] at hcond) | (refine jAG ?_; intro hg; try simp only [hg]) | (refine saI ?_ ?_; intros) | (refine ari ?_; first | omega | (simp only [DD, LL] <;> omega) | (go_unwrap; omega) | (simp only [DD] at hg; omega)) | (refine stq ?_; focus (simp only [h1, SA, reduceAdd, reduceIte, reduceEqDiff, Nat.reduceBEq, reduceCtorEq]; (try go_unwrap; try simp only [h1, RR, reduceCtorEq]))) | refine And.intro ?_ ?_)
  all_goals (first | rfl | simp)
 ·have h1 : (decide (n.op < 0) || decide (9 < n.op)) = false := by
   simp only [not_or] at ho
   simp only [Bool.or_eq_false_iff, decide_eq_false_iff_not]; exact ho
  obtain ⟨hget, hlt⟩ := jLK (op := n.op) (by omega) (by omega)
  have hi1 : (0 <= n.op ∧ n.op < ((10 : Nat) : Int)) := by omega
  have hi2 : (0 + n.op.toNat * 1 <= 10) := by omega
  have hi3 : (0 + n.op.toNat * 1 + 1 <= (List.map (PV.int IntKind.i64) jA1).length) := by
   have : (List.map (PV.int IntKind.i64) jA1).length = 10 := rfl
   omega
  have h2 : jE0 n = if (n.kids.length : Int) ≠ jA1.getD n.op.toNat 0 then 3 else 0 := by rw [jE0, if_neg ho]
  have h3 : jEN n = if (n.op = 0 ∧ (n.num < 0 ∨ 1000000000000000000 < n.num ∨ n.num.tmod 100 ≠ 0)) ∨ (n.op ≠ 0 ∧ n.num ≠ 0) then 2
   else if (n.op = 1 ∧ isName n.name = false) ∨ (n.op ≠ 1 ∧ n.name ≠ []) then 12 else 0 := by rw [jEN, if_neg ho]
  repeat' (first | exact clo | (refine sqI ?_; intros) | refine stp ?_ | (refine cnd rfl ?_ ?_ <;> intro hcond <;> (try contradiction) <;> try simp only [DD] at hcond) | (apply jDQ E55; (case hV => (intro hg; simp only [hg, h1, hG, jAM, jAS, hget, hi2, hi3, hi1.1, hi1.2, SA, reduceAdd, reduceIte, reduceEqDiff, Nat.reduceBEq, reduceCtorEq]; (try go_unwrap; try simp only [h1, hG, jAM, jAS, hget, hi2, hi3, hi1.1, hi1.2, RR, reduceCtorEq]); exact V55 _ hs)); (case hok => (intro hg; first | (simp only [hg, h1, hG, jAM, jAS, hget, hi2, hi3, hi1.1, hi1.2, SA, reduceAdd, reduceIte, reduceEqDiff, Nat.reduceBEq, reduceCtorEq]; done) | (simp_all [jCQ, PV.jBM]; done))); (case hs => (intro hg; simp only [hg, h1, hG, jAM, jAS, hget, hi2, hi3, hi1.1, hi1.2, SA, reduceAdd, reduceIte, reduceEqDiff, Nat.reduceBEq, reduceCtorEq])); (case hf => first | rfl | simp only [h1, hG, jAM, jAS, hget, hi2, hi3, hi1.1, hi1.2, SA, reduceAdd, reduceIte, reduceEqDiff, Nat.reduceBEq, reduceCtorEq]); (simp only [h1, hG, jAM, jAS, hget, hi2, hi3, hi1.1, hi1.2, SA, reduceAdd, reduceIte, reduceEqDiff, Nat.reduceBEq, reduceCtorEq]; (try go_unwrap; try simp only [h1, hG, jAM, jAS, hget, hi2, hi3, hi1.1, hi1.2, RR, reduceCtorEq]))) | (refine jAG ?_; intro hg; try simp only [hg]) | (refine saI ?_ ?_; intros) | (refine ari ?_; first | omega | (simp only [DD, LL] <;> omega) | (go_unwrap; omega) | (simp only [DD] at hg; omega)) | (refine stq ?_; focus (simp only [h1, hG, jAM, jAS, hget, hi2, hi3, hi1.1, hi1.2, SA, reduceAdd, reduceIte, reduceEqDiff, Nat.reduceBEq, reduceCtorEq]; (try go_unwrap; try simp only [h1, hG, jAM, jAS, hget, hi2, hi3, hi1.1, hi1.2, RR, reduceCtorEq]))) | refine And.intro ?_ ?_)
  all_goals (clear hG hget)
  all_goals (first | (simp_all; done) | grind)
end
section
variable {G : jA3}
theorem drop_at {α : Type} {l : List α} {i : Nat} (h : i < l.length) : ∃ n, l.drop i = n :: l.drop (i + 1) ∧ l[i]? = some n ∧ (∀ f : α -> PV, (l.map f).getD i .junk = f n ∧ (l.map f)[i]? = some (f n)) := by
 refine ⟨l[i], List.drop_eq_getElem_cons h, List.getElem?_eq_getElem h, fun f => ?_⟩
 simp [List.getD, h]
def kE9 (v : Bool) : List Bool -> Int -> Int
 | [], _ => -1
 | b :: l, i => if v = b then i else kE9 v l (i + 1)
theorem kCG (v : Bool) : ∀ (l : List Bool) (i : Int), 0 <= i -> (0 <= kE9 v l i ↔ l.contains v = true)
 | [], i, _ => by simp [kE9]
 | b :: l, i, h => by
  have := kCG v l (i + 1) (by omega)
  unfold kE9
  by_cases hb : v = b
  ·simp [hb, h]
  ·rw [if_neg hb, this]; simp [hb]
theorem V73 (l : List Bool) (v : Bool) (hl : l.length <= 9223372036854775806) : jAB Tryz.prog G 73 [.list none (l.map PV.bool), .bool v] (.int .i64 (kE9 v l 0)) := by
 refine jAB.jAT Tryz.func73 k73 mix (by simp [c73]) ?_
 simp only [c73, L73, CC, jBW]
 repeat' (first | exact clo | (refine sqI ?_; intros) | refine stp ?_ | (refine cnd rfl ?_ ?_ <;> intro hcond <;> (try contradiction) <;> try simp only [DD] at hcond) | (refine jAG ?_; intro hg; try simp only [hg]) | (refine saI ?_ ?_; intros) | (refine ari ?_; first | omega | (simp only [DD, LL] <;> omega) | (go_unwrap; omega) | (simp only [DD] at hg; omega)) | (refine stq ?_; focus (simp only [SA, reduceAdd, reduceIte, reduceEqDiff, Nat.reduceBEq, reduceCtorEq]; (try go_unwrap; try simp only [RR, reduceCtorEq]))) | refine And.intro ?_ ?_)
 refine PW.loop (σ := Nat) [0, 1, 7, 8] (fun j => [.list none (l.map PV.bool), .bool v, .int .i64 l.length, .int .i64 j]) (fun _ => []) (fun j => j <= l.length ∧ kE9 v l 0 = kE9 v (l.drop j) j) (fun j => l.length - j) 0 ?_ rfl ⟨by omega, by simp⟩ ?_
 ·simp only [SA, reduceAdd, reduceIte, reduceEqDiff, Nat.reduceBEq, reduceCtorEq, List.length_map]; rfl
 rintro j ⟨hj, hr⟩
 simp only [List.zip_cons_cons, List.zip_nil_left]
 rcases Nat.lt_or_ge j l.length with h | h
 ·obtain ⟨b, hd, -, hg⟩ := drop_at h
  rw [hd, kE9] at hr
  have hd' : decide ((j : Int) < l.length) = true := by simp only [decide_eq_true_eq]; omega
  repeat' (first | exact clo | (refine sqI ?_; intros) | refine stp ?_ | (refine cnd rfl ?_ ?_ <;> intro hcond <;> (try contradiction) <;> try simp only [DD] at hcond) | (refine jAG ?_; intro hg; try simp only [hg]) | (refine saI ?_ ?_; intros) | (refine ari ?_; first | omega | (simp only [DD, LL] <;> omega) | (go_unwrap; omega) | (simp only [DD] at hg; omega)) | (refine stq ?_; focus (simp only [hd', (hg PV.bool).1, List.length_map, SA, reduceAdd, reduceIte, reduceEqDiff, Nat.reduceBEq, reduceCtorEq]; (try go_unwrap; try simp only [hd', (hg PV.bool).1, List.length_map, RR, reduceCtorEq]))) | refine And.intro ?_ ?_)
  ·rw [hr, if_pos hcond]
  ·rw [if_neg hcond] at hr
   exact ⟨j + 1, rfl, ⟨h, hr⟩, by omega⟩
 ·have hd' : decide ((j : Int) < l.length) = false := by simp only [decide_eq_false_iff_not]; omega
  rw [List.drop_eq_nil_of_le h, kE9] at hr
  repeat' (first | exact clo | (refine sqI ?_; intros) | refine stp ?_ | (refine cnd rfl ?_ ?_ <;> intro hcond <;> (try contradiction) <;> try simp only [DD] at hcond) | (refine jAG ?_; intro hg; try simp only [hg]) | (refine saI ?_ ?_; intros) | (refine ari ?_; first | omega | (simp only [DD, LL] <;> omega) | (go_unwrap; omega) | (simp only [DD] at hg; omega)) | (refine stq ?_; focus (simp only [hd', SA, reduceAdd, reduceIte, reduceEqDiff, Nat.reduceBEq, reduceCtorEq]; (try go_unwrap; try simp only [hd', RR, reduceCtorEq]))) | refine And.intro ?_ ?_)
  rw [hr]
theorem V50 (l : List Bool) (v : Bool) (hl : l.length <= 9223372036854775806) : jAB Tryz.prog G 50 [.list none (l.map PV.bool), .bool v] (.bool (l.contains v)) := by
 refine jAB.jAT Tryz.func50 k50 mix (by simp [c50]) ?_
 simp only [c50, L50, CC, jBW]
 have h := kCG v l 0 (by omega)
 repeat' (first | exact clo | (refine sqI ?_; intros) | refine stp ?_ | (refine cnd rfl ?_ ?_ <;> intro hcond <;> (try contradiction) <;> try simp only [DD] at hcond) | (apply jAO E73; (case hV => (simp only [SA, reduceAdd, reduceIte, reduceEqDiff, Nat.reduceBEq, reduceCtorEq]; (try go_unwrap; try simp only [RR, reduceCtorEq]); exact V73 _ _ hl)); (try (case hs => rfl)); (try (case hf => first | exact Or.inl rfl | exact Or.inr ⟨rfl, rfl⟩ | (refine Or.inl ?_; simp only [SA, reduceAdd, reduceIte, reduceEqDiff, Nat.reduceBEq, reduceCtorEq]; done) | (refine Or.inr ⟨rfl, ?_⟩; simp only [SA, reduceAdd, reduceIte, reduceEqDiff, Nat.reduceBEq, reduceCtorEq]; done))); all_goals (first | (simp only [SA, reduceAdd, reduceIte, reduceEqDiff, Nat.reduceBEq, reduceCtorEq]; (try go_unwrap; try simp only [RR, reduceCtorEq])) | (show Env; skip) | (show Mem; skip))) | (refine jAG ?_; intro hg; try simp only [hg]) | (refine saI ?_ ?_; intros) | (refine ari ?_; first | omega | (simp only [DD, LL] <;> omega) | (go_unwrap; omega) | (simp only [DD] at hg; omega)) | (refine stq ?_; focus (simp only [SA, reduceAdd, reduceIte, reduceEqDiff, Nat.reduceBEq, reduceCtorEq]; (try go_unwrap; try simp only [RR, reduceCtorEq]))) | refine And.intro ?_ ?_)
 congr 1
 rw [Bool.eq_iff_iff, decide_eq_true_eq]; exact h
end
section
variable {G : jA3}
theorem kG1 (n : Nd) : ndP n = .agg [.int .i64 n.op, .int .i64 n.num, .str n.name, .list none (n.kids.map (PV.int .i64))] := rfl
theorem V18 (l : List Nd) (hl : l.length <= 256) (hne : l ≠ []) (hw : wfK l 0) (hkl : ∀ n ∈ l, n.kids.length <= 256) : jAB Tryz.prog G 18 [jFL l] (.int .i64 (jER l)) := by
 refine jAB.jAT Tryz.func18 k18 mix (by simp [c18]) ?_
 simp only [c18, L18, CC, jBW, jFL]
 have hl0 : 0 < l.length := List.length_pos_iff.2 hne
 have hm1 : ((8 : Nat) : Int) * (l.length : Int) <= 281474976710656 := by omega
 have hm2 : (l.length : Int) <= 9223372036854775807 := by omega
 have hm3 : 0 <= (l.length : Int) := by omega
 repeat' (first | exact clo | (refine sqI ?_; intros) | refine stp ?_ | (refine cnd rfl ?_ ?_ <;> intro hcond <;> (try contradiction) <;> try simp only [DD] at hcond) | (refine jAG ?_; intro hg; try simp only [hg]) | (refine saI ?_ ?_; intros) | (refine ari ?_; first | omega | (simp only [DD, LL] <;> omega) | (go_unwrap; omega) | (simp only [DD] at hg; omega)) | (refine stq ?_; focus (simp only [List.length_map, hm1, hm2, hm3, Int.le_refl, SA, reduceAdd, reduceIte, reduceEqDiff, Nat.reduceBEq, reduceCtorEq]; (try go_unwrap; try simp only [List.length_map, hm1, hm2, hm3, Int.le_refl, RR, reduceCtorEq]))) | refine And.intro ?_ ?_)
 refine PW.jDV (σ := Nat × List Int) 2 (fun _ _ => rfl) [3, 13, 14, 15] (fun s => [.sl none 1 l.length, .list (some 4) (l.map ndP), .int .i64 l.length, .int .i64 s.1])
  (fun s => [some (.var (some 1) (.agg [.list (some 4) (l.map ndP)])), some (.row none (jQP s.2 l.length))])
  (fun s => s.1 <= l.length ∧ s.2.length = s.1 ∧ (∀ x ∈ s.2, 0 <= x ∧ x <= s.1) ∧ wfK (l.drop s.1) s.1 ∧ jA6 l [] = jA6 (l.drop s.1) s.2) (fun s => l.length - s.1) (0, []) ?_ ?_ ⟨by simp, by simp, by simp, by simpa using hw, by simp⟩ ?_
 ·simp only [SA, reduceAdd, reduceIte, reduceEqDiff, Nat.reduceBEq, reduceCtorEq, List.length_map, Int.toNat_natCast]; rfl
 ·simp [jQP]
 rintro ⟨i, acc⟩ ⟨hi, hal, hb, hwf, hr⟩
 simp only at hi hal hb hwf hr
 simp only [List.zip_cons_cons, List.zip_nil_left]
 rcases Nat.lt_or_ge i l.length with h | h
 ·obtain ⟨n, hd, hn, hg⟩ := drop_at h
  rw [hd] at hr hwf
  rw [jA6] at hr
  obtain ⟨hwk, hwf⟩ := hwf
  have hd' : decide ((i : Int) < l.length) = true := by simp only [decide_eq_true_eq]; omega
  rw [kGT (by omega)]
  have hgn := ((hg ndP).1).trans (kG1 n)
  have hkn := hkl n (List.mem_of_getElem? hn)
  repeat' (first | exact clo | (refine sqI ?_; intros) | refine stp ?_ | (refine cnd rfl ?_ ?_ <;> intro hcond <;> (try contradiction) <;> try simp only [DD] at hcond) | (refine jAG ?_; intro hg; try simp only [hg]) | (refine saI ?_ ?_; intros) | (refine ari ?_; first | omega | (simp only [DD, LL] <;> omega) | (go_unwrap; omega) | (simp only [DD] at hg; omega)) | (refine stq ?_; focus (simp only [hd', hgn, List.length_map, SA, reduceAdd, reduceIte, reduceEqDiff, Nat.reduceBEq, reduceCtorEq]; (try go_unwrap; try simp only [hd', hgn, List.length_map, RR, reduceCtorEq]))) | refine And.intro ?_ ?_)
  refine PW.loop (σ := Nat × Int) [3, 4, 13, 14, 15, 21, 22, 23] (fun s => [.sl none 1 l.length, .int .i64 i, .list (some 4) (l.map ndP), .int .i64 l.length, .int .i64 i, .list none (n.kids.map (PV.int .i64)), .int .i64 n.kids.length, .int .i64 s.1])
   (fun s => [some (.var (some 1) (.agg [.list (some 4) (l.map ndP)])), some (.row none (jU3 acc s.2 l.length)), some (.var (some 4) (.agg [.int .i64 n.op, .int .i64 n.num, .str n.name, .list none (n.kids.map (PV.int .i64))]))])
   (fun s => s.1 <= n.kids.length ∧ 0 <= s.2 ∧ s.2 <= i ∧ jCK acc n.kids 0 = jCK acc (n.kids.drop s.1) s.2) (fun s => n.kids.length - s.1) (0, 0) ?_ rfl ⟨by simp, by simp, by simp, by simp⟩ ?_
  ·simp only [SA, reduceAdd, reduceIte, reduceEqDiff, Nat.reduceBEq, reduceCtorEq, List.length_map]; rfl
  rintro ⟨j, m⟩ ⟨hj, hm0, hmi, hk⟩
  simp only at hj hm0 hmi hk
  simp only [List.zip_cons_cons, List.zip_nil_left]
  rcases Nat.lt_or_ge j n.kids.length with h' | h'
  ·obtain ⟨k, hkd, hkn', hkg⟩ := drop_at h'
   rw [hkd, jCK] at hk
   have hd2 : decide ((j : Int) < n.kids.length) = true := by simp only [decide_eq_true_eq]; omega
   obtain ⟨hk0, hki⟩ := hwk k (List.mem_of_getElem? hkn')
   have hkt : k.toNat < acc.length := by omega
   have ha := kA8 acc m l.length
   rw [hal] at ha
   have hb' := kH5 m l.length hkt
   have hlen := jU2 (m := m) (show acc.length < l.length by omega)
   have hset := jOT acc m (max m (acc.getD k.toNat 0)) l.length
   rw [hal] at hset
   have hgb := kFC hb (by omega) k.toNat
   repeat' (first | exact clo | (refine sqI ?_; intros) | refine stp ?_ | (refine cnd rfl ?_ ?_ <;> intro hcond <;> (try contradiction) <;> try simp only [DD] at hcond) | (refine jAG ?_; intro hg; try simp only [hg]) | (refine saI ?_ ?_; intros) | (refine ari ?_; first | omega | (simp only [DD, LL] <;> omega) | (go_unwrap; omega) | (simp only [DD] at hg; omega)) | (refine stq ?_; focus (simp only [hd2, (hkg (PV.int .i64)).1, List.length_map, ha, hb', hlen, hset, SA, reduceAdd, reduceIte, reduceEqDiff, Nat.reduceBEq, reduceCtorEq]; (try go_unwrap; try simp only [hd2, (hkg (PV.int .i64)).1, List.length_map, ha, hb', hlen, hset, RR, reduceCtorEq]))) | refine And.intro ?_ ?_)
   all_goals exact ⟨(j + 1, max m (acc.getD k.toNat 0)), rfl, rfl, ⟨h', by simp only; omega, by simp only; omega, hk⟩, by simp only; omega⟩
  ·have hd2 : decide ((j : Int) < n.kids.length) = false := by simp only [decide_eq_false_iff_not]; omega
   rw [List.drop_eq_nil_of_le h', jCK] at hk
   have ha := kA8 acc m l.length
   rw [hal] at ha
   have hlen := jU2 (m := m) (show acc.length < l.length by omega)
   have hset := jOT acc m (m + 1) l.length
   rw [hal] at hset
   repeat' (first | exact clo | (refine sqI ?_; intros) | refine stp ?_ | (refine cnd rfl ?_ ?_ <;> intro hcond <;> (try contradiction) <;> try simp only [DD] at hcond) | (refine jAG ?_; intro hg; try simp only [hg]) | (refine saI ?_ ?_; intros) | (refine ari ?_; first | omega | (simp only [DD, LL] <;> omega) | (go_unwrap; omega) | (simp only [DD] at hg; omega)) | (refine stq ?_; focus (simp only [hd2, ha, hlen, hset, SA, reduceAdd, reduceIte, reduceEqDiff, Nat.reduceBEq, reduceCtorEq]; (try go_unwrap; try simp only [hd2, ha, hlen, hset, RR, reduceCtorEq]))) | refine And.intro ?_ ?_)
   refine ⟨(i + 1, acc ++ [m + 1]), (by first | rfl | (simp only [TT, jAF.kill, PV.kill, Nat.reduceLeDiff, reduceIte, Nat.le_refl, Nat.zero_le, Nat.not_le, Nat.lt_irrefl]; done) | (simp [jBE, jAZ, jAF.kill, PV.kill]; done)), ?_, ⟨h, by simp [hal], ?_, hwf, by rw [hr, hk]⟩, by simp only; omega⟩
   ·rw [<- kGV]; exact (by first | rfl | (simp only [TT, jAF.kill, PV.kill, Nat.reduceLeDiff, reduceIte, Nat.le_refl, Nat.zero_le, Nat.not_le, Nat.lt_irrefl]; done) | (simp [jBE, jAZ, jAF.kill, PV.kill]; done))
   ·intro x hx
    rcases List.mem_append.1 hx with hx | hx
    ·have := hb x hx; simp only; omega
    ·simp at hx; subst hx; simp only; omega
 ·have hd' : decide ((i : Int) < l.length) = false := by simp only [decide_eq_false_iff_not]; omega
  rw [List.drop_eq_nil_of_le h, jA6] at hr
  have hlast : (jQP acc l.length)[l.length - 1]? = some (.int .i64 (acc.getD (l.length - 1) 0)) := jTH _ (by omega)
  have hti : ((l.length : Int) - 1).toNat = l.length - 1 := by omega
  repeat' (first | exact clo | (refine sqI ?_; intros) | refine stp ?_ | (refine cnd rfl ?_ ?_ <;> intro hcond <;> (try contradiction) <;> try simp only [DD] at hcond) | (refine jAG ?_; intro hg; try simp only [hg]) | (refine saI ?_ ?_; intros) | (refine ari ?_; first | omega | (simp only [DD, LL] <;> omega) | (go_unwrap; omega) | (simp only [DD] at hg; omega)) | (refine stq ?_; focus (simp only [hd', hti, hlast, List.length_map, SA, reduceAdd, reduceIte, reduceEqDiff, Nat.reduceBEq, reduceCtorEq]; (try go_unwrap; try simp only [hd', hti, hlast, List.length_map, RR, reduceCtorEq]))) | refine And.intro ?_ ?_)
  ·exact .inl ⟨rfl, rfl⟩
  ·rw [jER, hr]
end
section
variable {G : jA3}
def jBO (i : Nat) : List Int -> List Bool -> Option (List Bool)
 | [], t => some t
 | k :: ks, t => if k < 0 ∨ (i : Int) <= k ∨ t.getD k.toNat false = true then none else jBO i ks (t.set k.toNat true)
def jAU : List Nd -> Nat -> List Bool -> Except Int (List Bool)
  | [], _, t => .ok t
  | n :: ns, i, t => if jE0 n ≠ 0 then .error (jE0 n) else
    match jBO i n.kids t with
    | none => .error 8
    | some t' => if jEN n ≠ 0 then .error (jEN n) else jAU ns (i + 1) t'
def jBP (l : List Nd) : Int :=
  if l.length = 0 then 10 else if 256 < l.length then 5 else
  match jAU l 0 (List.replicate l.length false) with
  | .error e => e
  | .ok t => if (t.take (l.length - 1)).contains false = true then 3 else if 16 < jER l then 14 else 0
theorem jF8 {i : Nat} : ∀ {ks : List Int} {t t' : List Bool}, jBO i ks t = some t' -> t'.length = t.length ∧ ∀ k ∈ ks, 0 <= k ∧ k < (i : Int)
 | [], t, t', h => by simp [jBO] at h; simp [h]
 | k :: ks, t, t', h => by
  unfold jBO at h
  split at h
  ·cases h
  ·rename_i hk
   obtain ⟨h1, h2⟩ := jF8 h
   refine ⟨by rw [h1]; simp, fun x hx => ?_⟩
   rcases List.mem_cons.1 hx with rfl | hx
   ·omega
   ·exact h2 x hx
theorem jYV (i : Nat) : jA1.getD i 0 <= 3 := by
 by_cases h : i < 10
 ·have : ∀ j, j < 10 -> jA1.getD j 0 <= 3 := by decide
  exact this i h
 ·have hl : jA1.length = 10 := rfl
  rw [List.getD_eq_getElem?_getD, List.getElem?_eq_none (by omega)]; simp
theorem jPG {n : Nd} (h : jE0 n = 0) : 0 <= n.op ∧ n.op <= 9 ∧ (n.kids.length : Int) = jA1.getD n.op.toNat 0 ∧ n.kids.length <= 3 := by
 unfold jE0 at h
 split at h
 ·cases h
 ·split at h
  ·cases h
  ·rename_i h1 h2
   have h3 := jYV n.op.toNat
   simp only [ne_eq, Decidable.not_not] at h2
   omega
theorem jD6 : ∀ {ns : List Nd} {i : Nat} {t t' : List Bool}, jAU ns i t = .ok t' -> t'.length = t.length ∧ wfK ns i ∧ ∀ n ∈ ns, jE0 n = 0 ∧ jEN n = 0
 | [], i, t, t', h => by simp [jAU] at h; simp [h, wfK]
 | n :: ns, i, t, t', h => by
  unfold jAU at h
  split at h
  ·cases h
  ·rename_i hf
   split at h
   ·cases h
   ·rename_i t1 hk
    split at h
    ·cases h
    ·rename_i hr
     obtain ⟨h1, h2, h3⟩ := jD6 h
     obtain ⟨h4, h5⟩ := jF8 hk
     refine ⟨by rw [h1, h4], ⟨h5, h2⟩, fun x hx => ?_⟩
     rcases List.mem_cons.1 hx with rfl | hx
     ·exact ⟨by omega, by omega⟩
     ·exact h3 x hx
theorem V20 (hG : jJD G) (l : List Nd) (hl : l.length <= 9223372036854775807) (hs : ∀ n ∈ l, n.name.length <= 9223372036854775807 ∧ n.kids.length <= 9223372036854775807) : jAB Tryz.prog G 20 [jFL l] (.int .i64 (jBP l)) := by
 refine jAB.jAT Tryz.func20 k20 mix (by simp [c20]) ?_
 simp only [c20, L20, CC, jBW, jFL]
 by_cases h0 : l.length = 0
 ·have hd : decide ((l.length : Int) = 0) = true := by simp only [decide_eq_true_eq]; omega
  repeat' (first | exact clo | (refine sqI ?_; intros) | refine stp ?_ | (refine cnd rfl ?_ ?_ <;> intro hcond <;> (try contradiction) <;> try simp only [DD] at hcond) | (refine jAG ?_; intro hg; try simp only [hg]) | (refine saI ?_ ?_; intros) | (refine ari ?_; first | omega | (simp only [DD, LL] <;> omega) | (go_unwrap; omega) | (simp only [DD] at hg; omega)) | (refine stq ?_; focus (simp only [hd, List.length_map, SA, reduceAdd, reduceIte, reduceEqDiff, Nat.reduceBEq, reduceCtorEq]; (try go_unwrap; try simp only [hd, List.length_map, RR, reduceCtorEq]))) | refine And.intro ?_ ?_)
  rw [jBP, if_pos h0]
 have hd0 : decide ((l.length : Int) = 0) = false := by simp only [decide_eq_false_iff_not]; omega
 by_cases h256 : 256 < l.length
 ·have hd1 : decide (256 < (l.length : Int)) = true := by simp only [decide_eq_true_eq]; omega
  repeat' (first | exact clo | (refine sqI ?_; intros) | refine stp ?_ | (refine cnd rfl ?_ ?_ <;> intro hcond <;> (try contradiction) <;> try simp only [DD] at hcond) | (refine jAG ?_; intro hg; try simp only [hg]) | (refine saI ?_ ?_; intros) | (refine ari ?_; first | omega | (simp only [DD, LL] <;> omega) | (go_unwrap; omega) | (simp only [DD] at hg; omega)) | (refine stq ?_; focus (simp only [hd0, hd1, List.length_map, SA, reduceAdd, reduceIte, reduceEqDiff, Nat.reduceBEq, reduceCtorEq]; (try go_unwrap; try simp only [hd0, hd1, List.length_map, RR, reduceCtorEq]))) | refine And.intro ?_ ?_)
  rw [jBP, if_neg h0, if_pos h256]
 have hd1 : decide (256 < (l.length : Int)) = false := by simp only [decide_eq_false_iff_not]; omega
 have hm1 : ((1 : Nat) : Int) * (l.length : Int) <= 281474976710656 := by omega
 have hm2 : (l.length : Int) <= 9223372036854775807 := by omega
 have hm3 : 0 <= (l.length : Int) := by omega
 repeat' (first | exact clo | (refine sqI ?_; intros) | refine stp ?_ | (refine cnd rfl ?_ ?_ <;> intro hcond <;> (try contradiction) <;> try simp only [DD] at hcond) | (refine jAG ?_; intro hg; try simp only [hg]) | (refine saI ?_ ?_; intros) | (refine ari ?_; first | omega | (simp only [DD, LL] <;> omega) | (go_unwrap; omega) | (simp only [DD] at hg; omega)) | (refine stq ?_; focus (simp only [hd0, hd1, List.length_map, hm1, hm2, hm3, Int.le_refl, SA, reduceAdd, reduceIte, reduceEqDiff, Nat.reduceBEq, reduceCtorEq]; (try go_unwrap; try simp only [hd0, hd1, List.length_map, hm1, hm2, hm3, Int.le_refl, RR, reduceCtorEq]))) | refine And.intro ?_ ?_)
 have hC : jBP l = (match jAU l 0 (List.replicate l.length false) with
  | .error e => e
  | .ok t => if (t.take (l.length - 1)).contains false = true then 3 else if 16 < jER l then 14 else 0) := by rw [jBP, if_neg h0, if_neg h256]
 refine PW.jDV (σ := Nat × List Bool) 2 (fun _ _ => rfl) [1, 3, 25, 26, 27] (fun s => [.ref 0 0, .sl none 1 l.length, .list (some 4) (l.map ndP), .int .i64 l.length, .int .i64 s.1])
  (fun s => [some (.var (some 1) (.agg [.list (some 4) (l.map ndP)])), some (.row none (s.2.map PV.bool))])
  (fun s => s.1 <= l.length ∧ s.2.length = l.length ∧ jAU l 0 (List.replicate l.length false) = jAU (l.drop s.1) s.1 s.2) (fun s => l.length - s.1) (0, List.replicate l.length false) ?_ ?_ ⟨by simp, by simp, by simp⟩ ?_
 ·simp only [SA, reduceAdd, reduceIte, reduceEqDiff, Nat.reduceBEq, reduceCtorEq, List.length_map, Int.toNat_natCast]; rfl
 ·simp
 rintro ⟨i, t⟩ ⟨hi, htl, hr⟩
 simp only at hi htl hr
 simp only [List.zip_cons_cons, List.zip_nil_left]
 rcases Nat.lt_or_ge i l.length with h | h
 ·obtain ⟨n, hd, hn, hg⟩ := drop_at h
  rw [hd, jAU] at hr
  have hd' : decide ((i : Int) < l.length) = true := by simp only [decide_eq_true_eq]; omega
  have hgn := ((hg ndP).1).trans (kG1 n)
  have hsn := hs n (List.mem_of_getElem? hn)
  have h60 := V49 hG n hsn.1
  rw [kG1] at h60
  by_cases hf : jE0 n = 0
  ·rw [if_neg (by omega)] at hr
   have hf' : decide (jE0 n = 0) = true := by simpa using hf
   repeat' (first | exact clo | (refine sqI ?_; intros) | refine stp ?_ | (refine cnd rfl ?_ ?_ <;> intro hcond <;> (try contradiction) <;> try simp only [DD] at hcond) | (refine jAG ?_; intro hg; try simp only [hg]) | refine jAA E49 (h60) ?_ ?_ ?_ ?_ | (refine saI ?_ ?_; intros) | (refine ari ?_; first | omega | (simp only [DD, LL] <;> omega) | (go_unwrap; omega) | (simp only [DD] at hg; omega)) | (refine stq ?_; focus (simp only [hd', hgn, hf', List.length_map, SA, reduceAdd, reduceIte, reduceEqDiff, Nat.reduceBEq, reduceCtorEq]; (try go_unwrap; try simp only [hd', hgn, hf', List.length_map, RR, reduceCtorEq]))) | refine And.intro ?_ ?_)
   refine PW.loop (σ := Nat × List Bool) [1, 3, 4, 7, 25, 26, 27, 41, 42, 43] (fun s => [.ref 0 0, .sl none 1 l.length, .int .i64 i, .int .i64 (jEN n), .list (some 4) (l.map ndP), .int .i64 l.length, .int .i64 i, .list none (n.kids.map (PV.int .i64)), .int .i64 n.kids.length, .int .i64 s.1])
    (fun s => [some (.var (some 1) (.agg [.list (some 4) (l.map ndP)])), some (.row none (s.2.map PV.bool)), some (.var (some 4) (.agg [.int .i64 n.op, .int .i64 n.num, .str n.name, .list none (n.kids.map (PV.int .i64))]))])
    (fun s => s.1 <= n.kids.length ∧ s.2.length = l.length ∧ jBO i n.kids t = jBO i (n.kids.drop s.1) s.2) (fun s => n.kids.length - s.1) (0, t) ?_ rfl ⟨by simp, htl, by simp⟩ ?_
   ·simp only [SA, reduceAdd, reduceIte, reduceEqDiff, Nat.reduceBEq, reduceCtorEq, List.length_map]; rfl
   rintro ⟨j, u⟩ ⟨hj, hul, hk⟩
   simp only at hj hul hk
   simp only [List.zip_cons_cons, List.zip_nil_left]
   rcases Nat.lt_or_ge j n.kids.length with h' | h'
   ·obtain ⟨k, hkd, hkn', hkg⟩ := drop_at h'
    rw [hkd, jBO] at hk
    have hd2 : decide ((j : Int) < n.kids.length) = true := by simp only [decide_eq_true_eq]; omega
    by_cases hk1 : k < 0 ∨ (i : Int) <= k
    ·have hd3 : (decide (k < 0) || decide ((i : Int) <= k)) = true := by simpa using hk1
     have hb : k < 0 ∨ (i : Int) <= k ∨ u.getD k.toNat false = true := hk1.imp id Or.inl
     rw [if_pos hb] at hk
     rw [hk] at hr
     repeat' (first | exact clo | (refine sqI ?_; intros) | refine stp ?_ | (refine cnd rfl ?_ ?_ <;> intro hcond <;> (try contradiction) <;> try simp only [DD] at hcond) | (refine jAG ?_; intro hg; try simp only [hg]) | (refine saI ?_ ?_; intros) | (refine ari ?_; first | omega | (simp only [DD, LL] <;> omega) | (go_unwrap; omega) | (simp only [DD] at hg; omega)) | (refine stq ?_; focus (simp only [hd2, (hkg (PV.int .i64)).1, List.length_map, hd3, SA, reduceAdd, reduceIte, reduceEqDiff, Nat.reduceBEq, reduceCtorEq]; (try go_unwrap; try simp only [hd2, (hkg (PV.int .i64)).1, List.length_map, hd3, RR, reduceCtorEq]))) | refine And.intro ?_ ?_)
     all_goals (first | (rw [hC, hr]; done) | (clear hG hC hr hgn h60; simp_all; done))
    ·have hd3 : (decide (k < 0) || decide ((i : Int) <= k)) = false := by simpa using hk1
     have hku : k.toNat < u.length := by omega
     have hug : (u.map PV.bool)[k.toNat]? = some (.bool (u.getD k.toNat false)) := by simp [List.getD, hku]
     have hus : (u.map PV.bool).set k.toNat (.bool true) = (u.set k.toNat true).map PV.bool := by rw [List.map_set]
     cases htk : u.getD k.toNat false with
     | true =>
      rw [if_pos (.inr (.inr htk))] at hk
      rw [hk] at hr
      rw [htk] at hug
      repeat' (first | exact clo | (refine sqI ?_; intros) | refine stp ?_ | (refine cnd rfl ?_ ?_ <;> intro hcond <;> (try contradiction) <;> try simp only [DD] at hcond) | (refine jAG ?_; intro hg; try simp only [hg]) | (refine saI ?_ ?_; intros) | (refine ari ?_; first | omega | (simp only [DD, LL] <;> omega) | (go_unwrap; omega) | (simp only [DD] at hg; omega)) | (refine stq ?_; focus (simp only [hd2, (hkg (PV.int .i64)).1, List.length_map, hd3, hug, SA, reduceAdd, reduceIte, reduceEqDiff, Nat.reduceBEq, reduceCtorEq]; (try go_unwrap; try simp only [hd2, (hkg (PV.int .i64)).1, List.length_map, hd3, hug, RR, reduceCtorEq]))) | refine And.intro ?_ ?_)
      rw [hC, hr]
     | false =>
      rw [if_neg (by rw [htk]; simpa using hk1)] at hk
      rw [htk] at hug
      repeat' (first | exact clo | (refine sqI ?_; intros) | refine stp ?_ | (refine cnd rfl ?_ ?_ <;> intro hcond <;> (try contradiction) <;> try simp only [DD] at hcond) | (refine jAG ?_; intro hg; try simp only [hg]) | (refine saI ?_ ?_; intros) | (refine ari ?_; first | omega | (simp only [DD, LL] <;> omega) | (go_unwrap; omega) | (simp only [DD] at hg; omega)) | (refine stq ?_; focus (simp only [hd2, (hkg (PV.int .i64)).1, List.length_map, hd3, hug, hus, SA, reduceAdd, reduceIte, reduceEqDiff, Nat.reduceBEq, reduceCtorEq]; (try go_unwrap; try simp only [hd2, (hkg (PV.int .i64)).1, List.length_map, hd3, hug, hus, RR, reduceCtorEq]))) | refine And.intro ?_ ?_)
      exact ⟨(j + 1, u.set k.toNat true), rfl, rfl, ⟨h', by simpa using hul, hk⟩, by simp only; omega⟩
   ·have hd2 : decide ((j : Int) < n.kids.length) = false := by simp only [decide_eq_false_iff_not]; omega
    rw [List.drop_eq_nil_of_le h', jBO] at hk
    rw [hk] at hr
    by_cases hre : jEN n = 0
    ·simp only [hre, ne_eq, not_true_eq_false, if_false] at hr
     have kLT : decide (jEN n = 0) = true := by simpa using hre
     repeat' (first | exact clo | (refine sqI ?_; intros) | refine stp ?_ | (refine cnd rfl ?_ ?_ <;> intro hcond <;> (try contradiction) <;> try simp only [DD] at hcond) | (refine jAG ?_; intro hg; try simp only [hg]) | (refine saI ?_ ?_; intros) | (refine ari ?_; first | omega | (simp only [DD, LL] <;> omega) | (go_unwrap; omega) | (simp only [DD] at hg; omega)) | (refine stq ?_; focus (simp only [hd2, kLT, SA, reduceAdd, reduceIte, reduceEqDiff, Nat.reduceBEq, reduceCtorEq]; (try go_unwrap; try simp only [hd2, kLT, RR, reduceCtorEq]))) | refine And.intro ?_ ?_)
     exact ⟨(i + 1, u), (by first | rfl | (simp only [TT, jAF.kill, PV.kill, Nat.reduceLeDiff, reduceIte, Nat.le_refl, Nat.zero_le, Nat.not_le, Nat.lt_irrefl]; done) | (simp [jBE, jAZ, jAF.kill, PV.kill]; done)), (by first | rfl | (simp only [TT, jAF.kill, PV.kill, Nat.reduceLeDiff, reduceIte, Nat.le_refl, Nat.zero_le, Nat.not_le, Nat.lt_irrefl]; done) | (simp [jBE, jAZ, jAF.kill, PV.kill]; done)), ⟨h, hul, hr⟩, by simp only; omega⟩
    ·simp only [hre, ne_eq, not_false_eq_true, if_true] at hr
     have kLT : decide (jEN n = 0) = false := by simpa using hre
     repeat' (first | exact clo | (refine sqI ?_; intros) | refine stp ?_ | (refine cnd rfl ?_ ?_ <;> intro hcond <;> (try contradiction) <;> try simp only [DD] at hcond) | (refine jAG ?_; intro hg; try simp only [hg]) | (refine saI ?_ ?_; intros) | (refine ari ?_; first | omega | (simp only [DD, LL] <;> omega) | (go_unwrap; omega) | (simp only [DD] at hg; omega)) | (refine stq ?_; focus (simp only [hd2, kLT, SA, reduceAdd, reduceIte, reduceEqDiff, Nat.reduceBEq, reduceCtorEq]; (try go_unwrap; try simp only [hd2, kLT, RR, reduceCtorEq]))) | refine And.intro ?_ ?_)
     rw [hC, hr]
  ·rw [if_pos (by omega)] at hr
   have hf' : decide (jE0 n = 0) = false := by simpa using hf
   repeat' (first | exact clo | (refine sqI ?_; intros) | refine stp ?_ | (refine cnd rfl ?_ ?_ <;> intro hcond <;> (try contradiction) <;> try simp only [DD] at hcond) | (refine jAG ?_; intro hg; try simp only [hg]) | refine jAA E49 (h60) ?_ ?_ ?_ ?_ | (refine saI ?_ ?_; intros) | (refine ari ?_; first | omega | (simp only [DD, LL] <;> omega) | (go_unwrap; omega) | (simp only [DD] at hg; omega)) | (refine stq ?_; focus (simp only [hd', hgn, hf', List.length_map, SA, reduceAdd, reduceIte, reduceEqDiff, Nat.reduceBEq, reduceCtorEq]; (try go_unwrap; try simp only [hd', hgn, hf', List.length_map, RR, reduceCtorEq]))) | refine And.intro ?_ ?_)
   rw [hC, hr]
 ·have hd' : decide ((i : Int) < l.length) = false := by simp only [decide_eq_false_iff_not]; omega
  rw [List.drop_eq_nil_of_le h, jAU] at hr
  obtain ⟨-, hwf, hall⟩ := jD6 hr
  have h42 := V18 (G := G) l (by omega) (by intro hh; simp [hh] at h0) hwf (fun n hn => by have := (jPG (hall n hn).1).2.2.2; omega)
  simp only [jFL] at h42
  have h61 := V50 (G := G) (t.take (l.length - 1)) false (by rw [List.length_take]; omega)
  rw [List.map_take] at h61
  have hti : ((l.length : Int) - 1).toNat = l.length - 1 := by omega
  rw [hr] at hC
  simp only at hC
  cases hct : (t.take (l.length - 1)).contains false with
  | true =>
   rw [if_pos hct] at hC
   rw [hct] at h61
   repeat' (first | exact clo | (refine sqI ?_; intros) | refine stp ?_ | (refine cnd rfl ?_ ?_ <;> intro hcond <;> (try contradiction) <;> try simp only [DD] at hcond) | (refine jAG ?_; intro hg; try simp only [hg]) | refine jAA E50 (h61) ?_ ?_ ?_ ?_ | (refine saI ?_ ?_; intros) | (refine ari ?_; first | omega | (simp only [DD, LL] <;> omega) | (go_unwrap; omega) | (simp only [DD] at hg; omega)) | (refine stq ?_; focus (simp only [hd', hti, List.length_map, htl, Nat.sub_le, SA, reduceAdd, reduceIte, reduceEqDiff, Nat.reduceBEq, reduceCtorEq]; (try go_unwrap; try simp only [hd', hti, List.length_map, htl, Nat.sub_le, RR, reduceCtorEq]))) | refine And.intro ?_ ?_)
   rw [hC]
  | false =>
   rw [if_neg (by rw [hct]; simp)] at hC
   rw [hct] at h61
   repeat' (first | exact clo | (refine sqI ?_; intros) | refine stp ?_ | (refine cnd rfl ?_ ?_ <;> intro hcond <;> (try contradiction) <;> try simp only [DD] at hcond) | (refine jAG ?_; intro hg; try simp only [hg]) | refine jAA E50 (h61) ?_ ?_ ?_ ?_ | refine jAA E18 (h42) ?_ ?_ ?_ ?_ | (refine saI ?_ ?_; intros) | (refine ari ?_; first | omega | (simp only [DD, LL] <;> omega) | (go_unwrap; omega) | (simp only [DD] at hg; omega)) | (refine stq ?_; focus (simp only [hd', hti, List.length_map, htl, Nat.sub_le, SA, reduceAdd, reduceIte, reduceEqDiff, Nat.reduceBEq, reduceCtorEq]; (try go_unwrap; try simp only [hd', hti, List.length_map, htl, Nat.sub_le, RR, reduceCtorEq]))) | refine And.intro ?_ ?_)
   ·rw [hC, if_pos hcond]
   ·rw [hC, if_neg hcond]
end
end Go.Proofs.YthjkmhfiffojeaaGreatDoor
