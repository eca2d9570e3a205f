import Derived.Shelf.LaysM
import Derived.Shelf.Strconv.Itoa3
import Derived.Shelf.Strconv.Itoa4
import Derived.Test.YthjkmhfiffojeaaGreatDoorQ15
namespace Go.Proofs.YthjkmhfiffojeaaGreatDoor
open Go PG Go.Proofs
open Nat (reduceAdd reduceEqDiff)
set_option linter.unusedSimpArgs false
set_option linter.unusedVariables false
set_option maxRecDepth 100000
def textE : Ex -> Int -> List UInt8
 | .num v, _ => jO5 v.toNat
 | .var x, _ => x
 | .two o a b, least => if jAJ o = 3 then jCX o ++ [40] ++ textE a 0 ++ [44] ++ textE b 0 ++ [41]
   else if jAJ o < least then [40] ++ (textE a (jAJ o) ++ jCX o ++ textE b (jAJ o + 1)) ++ [41]
   else textE a (jAJ o) ++ jCX o ++ textE b (jAJ o + 1)
 | .thr a b d, _ => jCX 7 ++ [40] ++ textE a 0 ++ [44] ++ textE b 0 ++ [44] ++ textE d 0 ++ [41]
def jEX : Ex -> Int -> List KT
 | .num v, _ => [(2, jO5 v.toNat)]
 | .var x, _ => [(1, x)]
 | .two o a b, least => if jAJ o = 3 then (1, jCX o) :: (3, [40]) :: (jEX a 0 ++ (3, [44]) :: (jEX b 0 ++ [(3, [41])]))
   else if jAJ o < least then (3, [40]) :: ((jEX a (jAJ o) ++ (3, jCX o) :: jEX b (jAJ o + 1)) ++ [(3, [41])])
   else jEX a (jAJ o) ++ (3, jCX o) :: jEX b (jAJ o + 1)
 | .thr a b d, _ => (1, jCX 7) :: (3, [40]) :: (jEX a 0 ++ (3, [44]) :: (jEX b 0 ++ (3, [44]) :: (jEX d 0 ++ [(3, [41])])))
theorem jXO (l : List Nd) (k : Nat) (i least : Int) : jDU l (k + 1) i least = if (nd l i).op = 0 then jO5 (nd l i).num.toNat
  else if (nd l i).op = 1 then (nd l i).name
  else if jAJ (nd l i).op = 3 then joinL (fun c => jDU l k c 0) (nd l i).kids 0 (jCX (nd l i).op ++ [40]) ++ [41]
  else if jAJ (nd l i).op < least then ([40] ++ ((jDU l k ((nd l i).kids.getD 0 0) (jAJ (nd l i).op) ++ jCX (nd l i).op) ++ jDU l k ((nd l i).kids.getD 1 0) (jAJ (nd l i).op + 1))) ++ [41]
  else (jDU l k ((nd l i).kids.getD 0 0) (jAJ (nd l i).op) ++ jCX (nd l i).op) ++ jDU l k ((nd l i).kids.getD 1 0) (jAJ (nd l i).op + 1) := rfl
theorem jEY {l : List Nd} (hl : ∀ n ∈ l, Nd1 n) : ∀ {k : Nat} {i : Int} (least : Int), jHG l k i -> jDU l k i least = textE (jHQ l k i) least
 | 0, _, _, h => h.elim
 | k + 1, i, least, h => by
  have hn : Nd1 (nd l i) := by rw [kBQ h.1 h.2.1]; exact hl _ (List.getElem_mem h.2.1)
  have h4 := h.2.2.2
  have h4 : ∀ c ∈ (nd l i).kids, jHG l k c := h4
  rw [jXO, jFD]
  generalize nd l i = n at *
  by_cases e0 : n.op = 0
  ·rw [if_pos e0, if_pos e0]; rfl
  by_cases e1 : n.op = 1
  ·rw [if_neg e0, if_neg e0, if_pos e1, if_pos e1]; rfl
  have h2 : 2 <= n.op := by have := hn.op0; omega
  rw [if_neg e0, if_neg e0, if_neg e1, if_neg e1]
  by_cases e7 : n.op = 7
  ·obtain ⟨a, b, c, hks⟩ := hn.three e7
   rw [hks] at h4
   have s3 : jAJ n.op = 3 := by rw [e7]; rfl
   rw [if_pos e7, if_pos s3, hks]
   simp only [List.getD_cons_zero, List.getD_cons_succ, textE, joinL]
   rw [jEY hl 0 (h4 a (by simp)), jEY hl 0 (h4 b (by simp)), jEY hl 0 (h4 c (by simp)), e7]
   simp
  ·obtain ⟨a, b, hks⟩ := hn.two h2 e7
   rw [hks] at h4
   have ho : ((n.op.toNat : Nat) : Int) = n.op := by omega
   rw [if_neg e7, hks]
   simp only [List.getD_cons_zero, List.getD_cons_succ, textE, joinL, ho]
   by_cases s3 : jAJ n.op = 3
   ·rw [if_pos s3, if_pos s3, jEY hl 0 (h4 a (by simp)), jEY hl 0 (h4 b (by simp))]
    simp
   ·rw [if_neg s3, if_neg s3]
    by_cases hlt : jAJ n.op < least
    ·rw [if_pos hlt, if_pos hlt, jEY hl _ (h4 a (by simp)), jEY hl _ (h4 b (by simp))]
    ·rw [if_neg hlt, if_neg hlt, jEY hl _ (h4 a (by simp)), jEY hl _ (h4 b (by simp))]
theorem kGI {o : Nat} (h2 : 2 <= o) (h9 : o <= 9) (h7 : o ≠ 7) : (o = 2 ∨ o = 3 ∨ o = 4) ∨ (jAJ o = 3 ∧ ∃ i, o = i + 5 ∧ jGF (jCX o) = some i ∧ jMJ (i + 5) = 2 ∧ isName (jCX o) = true) := by
 have : o = 2 ∨ o = 3 ∨ o = 4 ∨ o = 5 ∨ o = 6 ∨ o = 8 ∨ o = 9 := by omega
 rcases this with rfl | rfl | rfl | rfl | rfl | rfl | rfl
 ·exact .inl (.inl rfl)
 ·exact .inl (.inr (.inl rfl))
 ·exact .inl (.inr (.inr rfl))
 ·exact .inr ⟨rfl, 0, rfl, by decide, rfl, by decide⟩
 ·exact .inr ⟨rfl, 1, rfl, by decide, rfl, by decide⟩
 ·exact .inr ⟨rfl, 3, rfl, by decide, rfl, by decide⟩
 ·exact .inr ⟨rfl, 4, rfl, by decide, rfl, by decide⟩
theorem jNN {c : UInt8} (hc : jB2 c = false) (hx : ∀ r, lx (c :: r) = (lx r).map ((3, [c]) :: ·)) {s r : List UInt8} {w v : List KT} (h : lx s = some w) (h2 : lx r = some v) : lx (s ++ [c] ++ r) = some (w ++ (3, [c]) :: v) := by
 have := jH6 hc (r := r) (v := (3, [c]) :: v) h (by rw [hx, h2]; rfl)
 simpa using this
theorem jWI {x a b : List UInt8} {w v : List KT} (hx : isName x = true) (ha : lx a = some w) (hb : lx b = some v) : lx (x ++ [40] ++ a ++ [44] ++ b ++ [41]) = some ((1, x) :: (3, [40]) :: (w ++ (3, [44]) :: (v ++ [(3, [41])]))) := by
 have h1 : lx [41] = some [(3, [41])] := by rw [jO8, jWF]; rfl
 have h2 := jH6 (b := 41) (r := []) (by decide) hb h1
 have h3 := jH6 (b := 44) (r := b ++ [41]) (by decide) ha (by rw [jO7, h2]; rfl)
 have h4 := jH6 (b := 40) (r := a ++ 44 :: (b ++ [41])) (by decide) (jO6 hx) (by rw [jTW, h3]; rfl)
 simpa using h4
theorem jWH {x a b d : List UInt8} {w v u : List KT} (hx : isName x = true) (ha : lx a = some w) (hb : lx b = some v) (hd : lx d = some u) : lx (x ++ [40] ++ a ++ [44] ++ b ++ [44] ++ d ++ [41]) = some ((1, x) :: (3, [40]) :: (w ++ (3, [44]) :: (v ++ (3, [44]) :: (u ++ [(3, [41])])))) := by
 have h1 : lx [41] = some [(3, [41])] := by rw [jO8, jWF]; rfl
 have h0 := jH6 (b := 41) (r := []) (by decide) hd h1
 have h2 := jH6 (b := 44) (r := d ++ [41]) (by decide) hb (by rw [jO7, h0]; rfl)
 have h3 := jH6 (b := 44) (r := b ++ 44 :: (d ++ [41])) (by decide) ha (by rw [jO7, h2]; rfl)
 have h4 := jH6 (b := 40) (r := a ++ 44 :: (b ++ 44 :: (d ++ [41]))) (by decide) (jO6 hx) (by rw [jTW, h3]; rfl)
 simpa using h4
theorem jI3 : ∀ (e : Ex) (least : Int), e.ok -> lx (textE e least) = some (jEX e least)
 | .num v, _, h => by
  obtain ⟨h0, h1, h2⟩ := h
  have kHE : v.toNat % 100 = 0 := by rw [Int.tmod_eq_emod_of_nonneg h0] at h2; omega
  exact kIJ (by omega) kHE
 | .var x, _, h => jO6 h
 | .two o a b, least, h => by
  obtain ⟨o2, o9, o7, ha, hb⟩ := h
  have ia := fun z => jI3 a z ha
  have ib := fun z => jI3 b z hb
  simp only [textE, jEX]
  rcases kGI o2 o9 o7 with ho | ⟨s3, i, -, -, -, hn⟩
  ·have s3 : ¬ jAJ o = 3 := by rcases ho with rfl | rfl | rfl <;> decide
   have kQE : lx (textE a (jAJ o) ++ jCX o ++ textE b (jAJ o + 1)) = some (jEX a (jAJ o) ++ (3, jCX o) :: jEX b (jAJ o + 1)) := by
    rcases ho with rfl | rfl | rfl
    ·exact jNN (c := 43) (by decide) kBZ (ia _) (ib _)
    ·exact jNN (c := 45) (by decide) jWG (ia _) (ib _)
    ·exact jNN (c := 42) (by decide) jWE (ia _) (ib _)
   rw [if_neg s3, if_neg s3]
   split
   ·have := kG4 kQE jWF
    simpa using this
   ·exact kQE
  ·rw [if_pos s3, if_pos s3]
   exact jWI hn (ia 0) (ib 0)
 | .thr a b d, _, h => jWH (x := jCX 7) (by decide) (jI3 a 0 h.1) (jI3 b 0 h.2.1) (jI3 d 0 h.2.2)
def lvl (least : Int) : Nat := if least <= 1 then 2 else if least <= 2 then 1 else 0
theorem kKD {w : List KT} {e : Ex} (h : D nmP 0 w e) (n : Nat) (hn : n <= 2) : D nmP n w e := by
 have : n = 0 ∨ n = 1 ∨ n = 2 := by omega
 rcases this with rfl | rfl | rfl
 ·exact h
 ·exact .fac h
 ·exact .pro (.fac h)
theorem jLE (z : Int) : lvl z <= 2 := by unfold lvl; split; omega; split <;> omega
theorem jOF : ∀ (e : Ex) (least : Int), e.ok -> least <= 3 -> D nmP (lvl least) (jEX e least) e
 | .num v, least, h, _ => by
  obtain ⟨h0, h1, h2⟩ := h
  have kHE : v.toNat % 100 = 0 := by rw [Int.tmod_eq_emod_of_nonneg h0] at h2; omega
  have hv := kIG (n := v.toNat) (by omega) kHE
  have hd : D nmP 0 [(2, jO5 v.toNat)] (.num (nmP (jO5 v.toNat))) := .num
  rw [hv, Int.toNat_of_nonneg h0] at hd
  exact kKD hd _ (jLE _)
 | .var x, least, h, _ => kKD .var _ (jLE _)
 | .two o a b, least, h, hz => by
  obtain ⟨o2, o9, o7, ha, hb⟩ := h
  have ia := fun z hz => jOF a z ha hz
  have ib := fun z hz => jOF b z hb hz
  simp only [jEX]
  rcases kGI o2 o9 o7 with ho | ⟨s3, i, hi, hc, hk, hn⟩
  ·have s3 : ¬ jAJ o = 3 := by rcases ho with rfl | rfl | rfl <;> decide
   rw [if_neg s3]
   rcases ho with rfl | rfl | rfl
   ·have hd : D nmP 2 (jEX a 1 ++ (3, [43]) :: jEX b 2) (.two 2 a b) := .add (ia 1 (by omega)) (ib 2 (by omega))
    have e1 : jAJ ((2 : Nat) : Int) = 1 := rfl
    have e2 : jCX ((2 : Nat) : Int) = [43] := rfl
    rw [e1, e2]
    by_cases hl : (1 : Int) < least
    ·rw [if_pos hl]; exact kKD (.par hd) _ (jLE _)
    ·rw [if_neg hl, show lvl least = 2 by unfold lvl; rw [if_pos (by omega)]]; exact hd
   ·have hd : D nmP 2 (jEX a 1 ++ (3, [45]) :: jEX b 2) (.two 3 a b) := .sub (ia 1 (by omega)) (ib 2 (by omega))
    have e1 : jAJ ((3 : Nat) : Int) = 1 := rfl
    have e2 : jCX ((3 : Nat) : Int) = [45] := rfl
    rw [e1, e2]
    by_cases hl : (1 : Int) < least
    ·rw [if_pos hl]; exact kKD (.par hd) _ (jLE _)
    ·rw [if_neg hl, show lvl least = 2 by unfold lvl; rw [if_pos (by omega)]]; exact hd
   ·have hd : D nmP 1 (jEX a 2 ++ (3, [42]) :: jEX b 3) (.two 4 a b) := .mul (ia 2 (by omega)) (ib 3 (by omega))
    have e1 : jAJ ((4 : Nat) : Int) = 2 := rfl
    have e2 : jCX ((4 : Nat) : Int) = [42] := rfl
    rw [e1, e2]
    by_cases hl : (2 : Int) < least
    ·rw [if_pos hl]; exact kKD (.par (.pro hd)) _ (jLE _)
    ·rw [if_neg hl]
     by_cases h1 : least <= 1
     ·rw [show lvl least = 2 by unfold lvl; rw [if_pos h1]]; exact .pro hd
     ·rw [show lvl least = 1 by unfold lvl; rw [if_neg h1, if_pos (by omega)]]; exact hd
  ·rw [if_pos s3]
   subst hi
   exact kKD (.jS0 hc hk (ia 0 (by omega)) (ib 0 (by omega))) _ (jLE _)
 | .thr a b d, least, h, _ => kKD (.kDS (x := jCX 7) (by decide) (jOF a 0 h.1 (by omega)) (jOF b 0 h.2.1 (by omega)) (jOF d 0 h.2.2 (by omega))) _ (jLE _)
theorem jYD {e : Ex} (h : e.ok) (hs : e.size <= 256) (hd : e.deep <= 16) (hl : (textE e 0).length <= 4096) : jK6 (textE e 0) = .ok (e.nds 0) := by
 rw [jRC hl (jI3 e 0 h) (jOF e 0 h (by omega))]
 unfold kNI
 rw [if_neg (by omega), if_neg (by omega)]
theorem jVR {p r : List Nd} {n : Nd} {i : Int} (h : i = p.length) : nd (p ++ n :: r) i = n := by
 subst h; simp [nd, List.getD]
theorem jGV : ∀ (e : Ex) (p r : List Nd) (k : Nat), e.ok -> e.deep <= k -> jHQ (p ++ (e.nds p.length ++ r)) k (e.root p.length) = e
 | .num v, p, r, k, h, hd => by
  obtain ⟨k, rfl⟩ : ∃ k', k = k' + 1 := ⟨k - 1, by simp [Ex.deep] at hd; omega⟩
  rw [jFD, show nd (p ++ ((Ex.num v).nds p.length ++ r)) ((Ex.num v).root p.length) = ⟨0, v, [], []⟩ from jVR (by simp [Ex.root, Ex.size])]
  rfl
 | .var x, p, r, k, h, hd => by
  obtain ⟨k, rfl⟩ : ∃ k', k = k' + 1 := ⟨k - 1, by simp [Ex.deep] at hd; omega⟩
  rw [jFD, show nd (p ++ ((Ex.var x).nds p.length ++ r)) ((Ex.var x).root p.length) = ⟨1, 0, x, []⟩ from jVR (by simp [Ex.root, Ex.size])]
  rfl
 | .two o a b, p, r, k, h, hd => by
  obtain ⟨o2, o9, o7, ha, hb⟩ := h
  have pa := a.jCU
  have pb := b.jCU
  simp only [Ex.deep] at hd
  obtain ⟨k, rfl⟩ : ∃ k', k = k' + 1 := ⟨k - 1, by omega⟩
  have e1 := jGV a p (b.nds (p.length + a.size) ++ ([⟨o, 0, [], [a.root p.length, b.root (p.length + a.size)]⟩] ++ r)) k ha (by omega)
  have e2 := jGV b (p ++ a.nds p.length) ([⟨o, 0, [], [a.root p.length, b.root (p.length + a.size)]⟩] ++ r) k hb (by omega)
  have hn : nd (p ++ ((Ex.two o a b).nds p.length ++ r)) ((Ex.two o a b).root p.length) = ⟨o, 0, [], [a.root p.length, b.root (p.length + a.size)]⟩ := by
   have := jVR (p := p ++ (a.nds p.length ++ b.nds (p.length + a.size))) (r := r) (n := ⟨o, 0, [], [a.root p.length, b.root (p.length + a.size)]⟩) (i := (Ex.two o a b).root p.length) (by simp [Ex.root, Ex.size, Ex.jB7])
   simpa [Ex.nds] using this
  rw [jFD, hn]
  simp only [List.length_append, Ex.jB7] at e2
  simp only [Ex.nds, List.append_assoc] at e1 e2 ⊢
  rw [if_neg (by omega), if_neg (by omega), if_neg (by omega)]
  simp only [List.getD_cons_zero, List.getD_cons_succ, Int.toNat_natCast]
  rw [e1, e2]
 | .thr a b d, p, r, k, h, hd => by
  obtain ⟨ha, hb, hc⟩ := h
  have pa := a.jCU
  have pb := b.jCU
  have pd := d.jCU
  simp only [Ex.deep] at hd
  obtain ⟨k, rfl⟩ : ∃ k', k = k' + 1 := ⟨k - 1, by omega⟩
  have e1 := jGV a p (b.nds (p.length + a.size) ++ (d.nds (p.length + a.size + b.size) ++ ([⟨7, 0, [], [a.root p.length, b.root (p.length + a.size), d.root (p.length + a.size + b.size)]⟩] ++ r))) k ha (by omega)
  have e2 := jGV b (p ++ a.nds p.length) (d.nds (p.length + a.size + b.size) ++ ([⟨7, 0, [], [a.root p.length, b.root (p.length + a.size), d.root (p.length + a.size + b.size)]⟩] ++ r)) k hb (by omega)
  have e3 := jGV d (p ++ (a.nds p.length ++ b.nds (p.length + a.size))) ([⟨7, 0, [], [a.root p.length, b.root (p.length + a.size), d.root (p.length + a.size + b.size)]⟩] ++ r) k hc (by omega)
  have hn : nd (p ++ ((Ex.thr a b d).nds p.length ++ r)) ((Ex.thr a b d).root p.length) = ⟨7, 0, [], [a.root p.length, b.root (p.length + a.size), d.root (p.length + a.size + b.size)]⟩ := by
   have := jVR (p := p ++ (a.nds p.length ++ (b.nds (p.length + a.size) ++ d.nds (p.length + a.size + b.size)))) (r := r) (n := ⟨7, 0, [], [a.root p.length, b.root (p.length + a.size), d.root (p.length + a.size + b.size)]⟩) (i := (Ex.thr a b d).root p.length) (by simp [Ex.root, Ex.size, Ex.jB7]; omega)
   simpa [Ex.nds] using this
  rw [jFD, hn]
  have l3 : p.length + (a.size + b.size) = p.length + a.size + b.size := by omega
  simp only [List.length_append, Ex.jB7, l3] at e2 e3
  simp only [Ex.nds, List.append_assoc] at e1 e2 e3 ⊢
  rw [if_neg (show ¬ (7 : Int) = 0 by decide), if_neg (show ¬ (7 : Int) = 1 by decide), if_pos trivial]
  simp only [List.getD_cons_zero, List.getD_cons_succ]
  rw [e1, e2, e3]
theorem kC0 {e : Ex} (h : e.ok) (hd : e.deep <= 16) : jHQ (e.nds 0) 16 (((e.nds 0).length : Int) - 1) = e := by
 have := jGV e [] [] 16 h hd
 simp only [List.nil_append, List.append_nil, List.length_nil] at this
 have hr : e.root 0 = ((e.nds 0).length : Int) - 1 := by
  have := e.size_pos
  rw [Ex.jB7]; unfold Ex.root; omega
 rw [<- hr]; exact this
open PG Go.Proofs
def L3 : List Nat := [0, 1, 2, 3, 4, 5, 12, 13, 14, 15, 16, 17, 19, 20, 22, 23, 24, 25, 26, 27, 28, 29, 30, 31, 32, 33, 34, 35, 37, 38, 39, 40, 41, 54, 55, 56, 57, 58, 71, 96, 117, 118, 119, 120, 178, 180, 190, 191, 192, 193, 227]
def c3 : CF := ⟨246,
 .seq (.region false [oR 12 .mov [.pv (.bool false)]] L3)
 (.seq (.seq (.region false [oM 42 0,
 oT 43 .jCH 42,
 oR 44 (.bin .lss) [.tmp 43, .pv (.int .i64 1)],
 oM 45 44,
 qM 45 false 46 0,
 qR 45 false 47 .jCH [.tmp 46],
 qR 45 false 48 (.bin .gtr) [.tmp 47, .pv (.int .i64 12)],
 oR 49 .pick [.tmp 45, .pv (.bool true), .tmp 48],
 oM 50 49,
 qM 50 false 51 4,
 qR 50 false 52 .jCH [.tmp 51],
 qR 50 false 53 (.bin .gtr) [.tmp 52, .pv (.int .i64 30)],
 oR 54 .pick [.tmp 50, .pv (.bool true), .tmp 53]] L3)
 (.cond (.tmp 54)
 (.seq (.region false [oR 12 .mov [.pv (.bool true)]] L3)
 (.ret))
 (.skip)))
 (.seq (.region false [oR 13 .mov [.pv .jAH]] L3)
 (.seq (.region false [oR 14 .mov [.pv .jAH]] L3)
 (.seq (.seq (.region false [oM 55 0,
 oT 56 .jCH 55,
 oR 57 .mov [.pv (.int .i64 0)]] L3)
 (.block 0
 (.loop
 (.seq (.region false [oB 58 (.bin .lss) 57 56] L3)
 (.seq (.cond (.tmp 58)
 (.skip)
 (.exit 0))
 (.seq (.block 1
 (.seq (.region false [oM 59 57,
 oB 60 (.jAC (some 4)) 55 57,
 oT 61 (.load (some 4)) 60,
 oE 16 (.alloc (some 4) (.agg [(.int .u8 0), (.int .u8 0), (.int .u8 0), (.int .u8 0)])) [],
 oM 15 59,
 oS (.store (some 4)) [.tmp 16, .tmp 61]] L3)
 (.seq (.region false [oT 63 (.load (some 4)) 16,
 oM 64 15,
 oC 65 5 [.tmp 63, .tmp 64],
 oC 66 4 [.tmp 65],
 oM 62 66,
 oT 67 (.ext 0) 62,
 oT 68 (.ext 1) 62,
 oT 69 (.ext 2) 62,
 oE 17 (.alloc (some 1) (.agg [.jAH])) [],
 oS (.store (some 1)) [.tmp 17, .tmp 67],
 oM 18 68,
 oM 19 69] L3)
 (.seq (.seq (.region false [oM 70 19,
 oR 71 (.bin .neq) [.tmp 70, .pv (.int .i64 0)]] L3)
 (.cond (.tmp 71)
 (.seq (.region false [oR 12 .mov [.pv (.bool false)]] L3)
 (.ret))
 (.skip)))
 (.seq (.region false [oT 73 (.load (some 1)) 17,
 oC 74 6 [.tmp 73],
 oC 75 4 [.tmp 74],
 oM 72 75,
 oT 76 (.ext 0) 72,
 oT 77 (.ext 1) 72,
 oT 78 (.ext 2) 72,
 oE 20 (.alloc (some 1) (.agg [.jAH])) [],
 oS (.store (some 1)) [.tmp 20, .tmp 76],
 oM 21 77,
 oM 22 78] L3)
 (.seq (.seq (.region true [oM 79 22,
 oR 80 (.bin .neq) [.tmp 79, .pv (.int .i64 0)],
 oM 81 80,
 qR 81 false 82 (.load (some 1)) [.tmp 20],
 ⟨some 83, some (81, false), .call (.pv (.fn 6 [] [])) [.tmp 82]⟩,
 qR 81 false 84 (.load (some 1)) [.tmp 17],
 ⟨some 85, some (81, false), .call (.pv (.fn 6 [] [])) [.tmp 84]⟩,
 qR 81 false 86 (.bin .neq) [.tmp 83, .tmp 85],
 oR 87 .pick [.tmp 81, .pv (.bool true), .tmp 86],
 oM 88 87,
 qF 0 88 false 89 20,
 qL 88 false 90 89,
 qR 88 false 91 .jCH [.tmp 90],
 qF 0 88 false 92 17,
 qL 88 false 93 92,
 qR 88 false 94 .jCH [.tmp 93],
 qR 88 false 95 (.bin .neq) [.tmp 91, .tmp 94],
 oR 96 .pick [.tmp 88, .pv (.bool true), .tmp 95]] L3)
 (.cond (.tmp 96)
 (.seq (.region false [oR 12 .mov [.pv (.bool false)]] L3)
 (.ret))
 (.skip)))
 (.seq (.region false [oM 97 15,
 oC 98 7 [.tmp 97],
 oR 99 (.bin .add) [.pv (.str [114]), .tmp 98],
 oM 23 99] L3)
 (.seq (.region false [oM 100 13,
 oM 101 23,
 oT 102 (.load (some 1)) 20,
 oB 103 (.build [(.str []), .jAH] [(0, 1), (1, 1)]) 101 102,
 oE 104 (.lit (some 2) false) [.tmp 103],
 oE 105 (.append (some 2) 40) [.tmp 100, .tmp 104],
 oM 13 105] L3)
 (.region false [oM 106 14,
 oM 107 23,
 oT 108 (.load (some 1)) 17,
 oC 109 8 [.tmp 108],
 oB 110 (.build [(.str []), .jAH] [(0, 1), (1, 1)]) 107 109,
 oE 111 (.lit (some 2) false) [.tmp 110],
 oE 112 (.append (some 2) 40) [.tmp 106, .tmp 111],
 oM 14 112] L3)))))))))
 (.region false [oR 113 (.bin .add) [.tmp 57, .pv (.int .i64 1)],
 oM 57 113] L3)))))))
 (.seq (.region false [oE 114 (.lit (some 2) true) [],
 oM 115 13,
 oE 116 (.append (some 2) 40) [.tmp 114, .tmp 115],
 oM 24 116] L3)
 (.seq (.seq (.region false [oM 117 4,
 oT 118 .jCH 117,
 oR 119 .mov [.pv (.int .i64 0)]] L3)
 (.block 2
 (.loop
 (.seq (.region false [oB 120 (.bin .lss) 119 118] L3)
 (.seq (.cond (.tmp 120)
 (.skip)
 (.exit 2))
 (.seq (.block 3
 (.seq (.region false [oM 121 119,
 oB 122 (.jAC none) 117 119,
 oL 123 122,
 oM 25 121,
 oM 26 123] L3)
 (.seq (.region true [oM 124 25,
 oM 125 24,
 oT 126 .jCH 125,
 oB 127 (.bin .rem) 124 126,
 oM 128 26,
 oT 129 (.conv .i64) 128,
 oM 130 24,
 oT 131 .jCH 130,
 oB 132 (.bin .rem) 129 131,
 oM 27 127,
 oM 28 132] L3)
 (.jB6 (.alt [oM 133 24,
 oM 134 27,
 oM 135 24,
 oM 136 28,
 oM 137 24,
 oM 138 28,
 oB 139 (.jAC (some 2)) 137 138,
 oM 141 24,
 oM 142 27,
 oB 143 (.jAC (some 2)) 141 142]
 (.alt [oT 140 (.load (some 2)) 139,
 oT 144 (.load (some 2)) 143,
 oB 145 (.jAC (some 2)) 133 134,
 oS (.store (some 2)) [.tmp 145, .tmp 140],
 oB 146 (.jAC (some 2)) 135 136,
 oS (.store (some 2)) [.tmp 146, .tmp 144]]
 .done
 (.alt [oT 144 (.load (some 2)) 143,
 oT 140 (.load (some 2)) 139,
 oB 145 (.jAC (some 2)) 133 134,
 oS (.store (some 2)) [.tmp 145, .tmp 140],
 oB 146 (.jAC (some 2)) 135 136,
 oS (.store (some 2)) [.tmp 146, .tmp 144]]
 .done
 .stop))
 .stop) L3))))
 (.region false [oR 147 (.bin .add) [.tmp 119, .pv (.int .i64 1)],
 oM 119 147] L3)))))))
 (.seq (.region false [oE 148 (.mmk .str) [],
 oM 149 1,
 oT 150 (.conv .i64) 149,
 oS (.jP1 .str) [.tmp 148, .pv (.str [120]), .tmp 150],
 oM 151 2,
 oT 152 (.conv .i64) 151,
 oS (.jP1 .str) [.tmp 148, .pv (.str [121]), .tmp 152],
 oM 153 148,
 oM 29 153] L3)
 (.seq (.region false [oM 155 29,
 oM 156 13,
 oC 157 9 [.tmp 155, .tmp 156],
 oM 154 157,
 oT 158 (.ext 0) 154,
 oT 159 (.ext 1) 154,
 oM 30 158,
 oM 31 159] L3)
 (.seq (.region false [oM 161 29,
 oM 162 24,
 oC 163 9 [.tmp 161, .tmp 162],
 oM 160 163,
 oT 164 (.ext 0) 160,
 oT 165 (.ext 1) 160,
 oM 32 164,
 oM 33 165] L3)
 (.seq (.seq (.region false [oM 166 31,
 oM 167 33,
 oB 168 (.bin .neq) 166 167,
 oM 169 168,
 qM 169 false 170 31,
 qR 169 false 171 (.bin .eql) [.tmp 170, .pv (.int .i64 0)],
 qM 169 false 172 171,
 qM 172 true 173 30,
 qM 172 true 174 32,
 ⟨some 175, some (172, true), .call (.pv (.fn 10 [] [])) [.tmp 173, .tmp 174]⟩,
 qR 172 true 176 (.un .not) [.tmp 175],
 qR 169 false 177 .pick [.tmp 172, .tmp 176, .pv (.bool false)],
 oR 178 .pick [.tmp 169, .pv (.bool true), .tmp 177]] L3)
 (.cond (.tmp 178)
 (.seq (.region false [oR 12 .mov [.pv (.bool false)]] L3)
 (.ret))
 (.skip)))
 (.seq (.seq (.region false [oM 179 31,
 oR 180 (.bin .neq) [.tmp 179, .pv (.int .i64 0)]] L3)
 (.cond (.tmp 180)
 (.seq (.region false [oR 12 .mov [.pv (.bool true)]] L3)
 (.ret))
 (.skip)))
 (.seq (.region false [oM 181 5,
 oT 182 (.conv .i64) 181,
 oM 183 0,
 oT 184 .jCH 183,
 oB 185 (.bin .rem) 182 184,
 oC 186 7 [.tmp 185],
 oR 187 (.bin .add) [.pv (.str [114]), .tmp 186],
 oM 34 187] L3)
 (.seq (.region false [oR 35 .mov [.pv (.bool false)]] L3)
 (.seq (.seq (.region false [oM 188 34,
 oM 189 14,
 oC 190 11 [.tmp 188, .tmp 189],
 oT 191 .jCH 190,
 oR 192 .mov [.pv (.int .i64 0)]] L3)
 (.block 4
 (.loop
 (.seq (.region false [oB 193 (.bin .lss) 192 191] L3)
 (.seq (.cond (.tmp 193)
 (.skip)
 (.exit 4))
 (.seq (.block 5
 (.seq (.region false [oB 194 (.jAC none) 190 192,
 oL 195 194,
 oM 37 195] L3)
 (.region false [oM 196 35,
 oM 197 196,
 qM 197 false 198 37,
 qR 197 false 199 (.bin .eql) [.tmp 198, .pv (.str [121])],
 oR 200 .pick [.tmp 197, .pv (.bool true), .tmp 199],
 oM 35 200] L3)))
 (.region false [oR 201 (.bin .add) [.tmp 192, .pv (.int .i64 1)],
 oM 192 201] L3)))))))
 (.seq (.region false [oE 203 (.mmk .str) [],
 oM 204 1,
 oT 205 (.conv .i64) 204,
 oS (.jP1 .str) [.tmp 203, .pv (.str [120]), .tmp 205],
 oM 206 3,
 oT 207 (.conv .i64) 206,
 oS (.jP1 .str) [.tmp 203, .pv (.str [121]), .tmp 207],
 oM 208 203,
 oM 209 13,
 oC 210 9 [.tmp 208, .tmp 209],
 oM 202 210,
 oT 211 (.ext 0) 202,
 oT 212 (.ext 1) 202,
 oM 38 211,
 oM 39 212] L3)
 (.seq (.seq (.region false [oM 213 39,
 oR 214 (.bin .eql) [.tmp 213, .pv (.int .i64 0)],
 oM 215 214,
 qM 215 true 216 35,
 qR 215 true 217 (.un .not) [.tmp 216],
 oR 218 .pick [.tmp 215, .tmp 217, .pv (.bool false)],
 oM 219 218,
 qM 219 true 220 38,
 qM 219 true 221 34,
 qR 219 true 222 (.look .str false (.int .i64 0)) [.tmp 220, .tmp 221],
 qM 219 true 223 30,
 qM 219 true 224 34,
 qR 219 true 225 (.look .str false (.int .i64 0)) [.tmp 223, .tmp 224],
 qR 219 true 226 (.bin .neq) [.tmp 222, .tmp 225],
 oR 227 .pick [.tmp 219, .tmp 226, .pv (.bool false)]] L3)
 (.cond (.tmp 227)
 (.seq (.region false [oR 12 .mov [.pv (.bool false)]] L3)
 (.ret))
 (.skip)))
 (.seq (.region false [oM 229 14,
 oC 230 12 [.tmp 229],
 oM 228 230,
 oT 231 (.ext 0) 228,
 oT 232 (.ext 1) 228,
 oM 40 231,
 oM 41 232] L3)
 (.seq (.region false [oM 233 41,
 oR 234 (.bin .eql) [.tmp 233, .pv (.int .i64 0)],
 oM 235 234,
 qM 235 true 236 40,
 qM 235 true 237 14,
 ⟨some 238, some (235, true), .call (.pv (.fn 13 [] [])) [.tmp 236, .tmp 237]⟩,
 oR 239 .pick [.tmp 235, .tmp 238, .pv (.bool false)],
 oM 240 239,
 qM 240 true 241 14,
 ⟨some 242, some (240, true), .call (.pv (.fn 14 [] [])) [.tmp 241]⟩,
 qR 240 true 243 .jCH [.tmp 242],
 qR 240 true 244 (.bin .eql) [.tmp 243, .pv (.int .i64 0)],
 oR 245 .pick [.tmp 240, .tmp 244, .pv (.bool false)],
 oM 12 245] L3)
 (.ret))))))))))))))))))),
 [.tmp 12]⟩
def L5 : List Nat := [0, 1, 2, 4, 5, 6, 7, 22, 23, 32, 38, 49, 59, 73]
def c5 : CF := ⟨90,
 .seq (.region false [oE 2 (.box (some 4)) [.tmp 0],
 oR 4 .mov [.pv (.str [])]] L5)
 (.seq (.region true [oF 1 8 2,
 oL 9 8,
 oM 10 1,
 oC 11 19 [.tmp 9, .tmp 10],
 oF 2 12 2,
 oL 13 12,
 oM 14 1,
 oC 15 19 [.tmp 13, .tmp 14],
 oF 3 16 2,
 oL 17 16,
 oM 18 1,
 oC 19 19 [.tmp 17, .tmp 18],
 oM 5 11,
 oM 6 15,
 oM 7 19] L5)
 (.seq (.seq (.region false [oF 0 20 2,
 oL 21 20,
 oR 22 (.bin .rem) [.tmp 21, .pv (.int .u8 7)]] L5)
 (.block 0
 (.seq (.region false [oR 24 (.bin .eql) [.tmp 22, .pv (.int .u8 0)],
 oM 23 24] L5)
 (.cond (.tmp 23)
 (.seq (.region false [oM 25 5,
 oR 26 (.bin .add) [.tmp 25, .pv (.str [43])],
 oM 27 6,
 oB 28 (.bin .add) 26 27,
 oR 29 (.bin .add) [.tmp 28, .pv (.str [45])],
 oM 30 7,
 oB 31 (.bin .add) 29 30,
 oM 4 31] L5)
 (.ret))
 (.seq (.region false [oR 33 (.bin .eql) [.tmp 22, .pv (.int .u8 1)],
 oM 32 33] L5)
 (.cond (.tmp 32)
 (.seq (.region false [oM 34 5,
 oR 35 (.bin .add) [.tmp 34, .pv (.str [42, 48, 46, 53, 42])],
 oM 36 6,
 oB 37 (.bin .add) 35 36,
 oM 4 37] L5)
 (.ret))
 (.seq (.region false [oR 39 (.bin .eql) [.tmp 22, .pv (.int .u8 2)],
 oM 38 39] L5)
 (.cond (.tmp 38)
 (.seq (.region false [oM 40 5,
 oR 41 (.bin .add) [.pv (.str [108, 101, 97, 115, 116, 40]), .tmp 40],
 oR 42 (.bin .add) [.tmp 41, .pv (.str [44])],
 oM 43 6,
 oB 44 (.bin .add) 42 43,
 oR 45 (.bin .add) [.tmp 44, .pv (.str [45, 40])],
 oM 46 7,
 oB 47 (.bin .add) 45 46,
 oR 48 (.bin .add) [.tmp 47, .pv (.str [45, 49, 41, 41])],
 oM 4 48] L5)
 (.ret))
 (.seq (.region false [oR 50 (.bin .eql) [.tmp 22, .pv (.int .u8 3)],
 oM 49 50] L5)
 (.cond (.tmp 49)
 (.seq (.region false [oM 51 5,
 oR 52 (.bin .add) [.pv (.str [109, 111, 115, 116, 40]), .tmp 51],
 oR 53 (.bin .add) [.tmp 52, .pv (.str [44])],
 oM 54 6,
 oB 55 (.bin .add) 53 54,
 oR 56 (.bin .add) [.tmp 55, .pv (.str [41, 43])],
 oM 57 7,
 oB 58 (.bin .add) 56 57,
 oM 4 58] L5)
 (.ret))
 (.seq (.region false [oR 60 (.bin .eql) [.tmp 22, .pv (.int .u8 4)],
 oM 59 60] L5)
 (.cond (.tmp 59)
 (.seq (.region false [oM 61 5,
 oR 62 (.bin .add) [.pv (.str [105, 102, 40, 108, 101, 115, 115, 40]), .tmp 61],
 oR 63 (.bin .add) [.tmp 62, .pv (.str [44])],
 oM 64 6,
 oB 65 (.bin .add) 63 64,
 oR 66 (.bin .add) [.tmp 65, .pv (.str [41, 44])],
 oM 67 7,
 oB 68 (.bin .add) 66 67,
 oR 69 (.bin .add) [.tmp 68, .pv (.str [44])],
 oM 70 5,
 oB 71 (.bin .add) 69 70,
 oR 72 (.bin .add) [.tmp 71, .pv (.str [41])],
 oM 4 72] L5)
 (.ret))
 (.seq (.region false [oR 74 (.bin .eql) [.tmp 22, .pv (.int .u8 5)],
 oM 73 74] L5)
 (.cond (.tmp 73)
 (.seq (.region false [oM 75 5,
 oR 76 (.bin .add) [.pv (.str [40]), .tmp 75],
 oR 77 (.bin .add) [.tmp 76, .pv (.str [45])],
 oM 78 6,
 oB 79 (.bin .add) 77 78,
 oR 80 (.bin .add) [.tmp 79, .pv (.str [41, 42, 40])],
 oM 81 7,
 oB 82 (.bin .add) 80 81,
 oR 83 (.bin .add) [.tmp 82, .pv (.str [43, 50, 41])],
 oM 4 83] L5)
 (.ret))
 (.skip)))))))))))))))
 (.seq (.region false [oM 84 5,
 oR 85 (.bin .add) [.pv (.str [101, 113, 117, 97, 108, 40]), .tmp 84],
 oR 86 (.bin .add) [.tmp 85, .pv (.str [44])],
 oM 87 6,
 oB 88 (.bin .add) 86 87,
 oR 89 (.bin .add) [.tmp 88, .pv (.str [41])],
 oM 4 89] L5)
 (.ret)))),
 [.tmp 4]⟩
def L10 : List Nat := [0, 1, 4, 5, 6, 7, 8, 13, 15, 17, 33]
def c10 : CF := ⟨34,
 .seq (.region false [oR 4 .mov [.pv (.bool false)]] L10)
 (.seq (.seq (.region false [oM 9 0,
 oT 10 .jZF 9,
 oM 11 1,
 oT 12 .jZF 11,
 oB 13 (.bin .neq) 10 12] L10)
 (.cond (.tmp 13)
 (.seq (.region false [oR 4 .mov [.pv (.bool false)]] L10)
 (.ret))
 (.skip)))
 (.seq (.seq (.region false [oM 14 0,
 oE 15 (.rng .str) [.tmp 14]] L10)
 (.block 0
 (.loop
 (.seq (.region false [oE 16 .nxt [.tmp 15],
 oT 17 (.ext 0) 16] L10)
 (.seq (.cond (.tmp 17)
 (.skip)
 (.exit 0))
 (.block 1
 (.seq (.region false [oE 18 .ent [.tmp 15],
 oT 19 (.ext 0) 18,
 oT 20 (.ext 1) 18,
 oM 5 19,
 oM 6 20] L10)
 (.seq (.region false [oM 22 1,
 oM 23 5,
 oB 24 (.look .str true (.int .i64 0)) 22 23,
 oM 21 24,
 oT 25 (.ext 0) 21,
 oT 26 (.ext 1) 21,
 oM 7 25,
 oM 8 26] L10)
 (.seq (.region false [oM 27 8,
 oT 28 (.un .not) 27,
 oM 29 28,
 qM 29 false 30 6,
 qM 29 false 31 7,
 qR 29 false 32 (.bin .neq) [.tmp 30, .tmp 31],
 oR 33 .pick [.tmp 29, .pv (.bool true), .tmp 32]] L10)
 (.cond (.tmp 33)
 (.seq (.region false [oR 4 .mov [.pv (.bool false)]] L10)
 (.ret))
 (.skip)))))))))))
 (.seq (.region false [oR 4 .mov [.pv (.bool true)]] L10)
 (.ret)))),
 [.tmp 4]⟩
def L19 : List Nat := [0, 1, 4, 5, 14, 18, 23]
def c19 : CF := ⟨32,
 .seq (.region false [oR 4 .mov [.pv (.str [])]] L19)
 (.seq (.region false [oM 6 0,
 oT 7 (.conv .i64) 6,
 oM 8 1,
 oR 9 (.bin .add) [.tmp 8, .pv (.int .i64 3)],
 oB 10 (.bin .rem) 7 9,
 oM 5 10] L19)
 (.block 0
 (.seq (.region false [oM 15 5,
 oM 16 1,
 oB 17 (.bin .eql) 15 16,
 oM 14 17] L19)
 (.cond (.tmp 14)
 (.seq (.region false [oR 4 .mov [.pv (.str [120])]] L19)
 (.ret))
 (.seq (.region false [oM 19 5,
 oM 20 1,
 oR 21 (.bin .add) [.tmp 20, .pv (.int .i64 1)],
 oB 22 (.bin .eql) 19 21,
 oM 18 22] L19)
 (.cond (.tmp 18)
 (.seq (.region false [oR 4 .mov [.pv (.str [121])]] L19)
 (.ret))
 (.seq (.region false [oM 24 5,
 oM 25 1,
 oB 26 (.bin .gtr) 24 25,
 oM 23 26] L19)
 (.cond (.tmp 23)
 (.seq (.region false [oM 27 0,
 oT 28 (.conv .i64) 27,
 oR 29 (.bin .rem) [.tmp 28, .pv (.int .i64 7)],
 oC 30 7 [.tmp 29],
 oR 31 (.bin .add) [.tmp 30, .pv (.str [46, 50, 53])],
 oM 4 31] L19)
 (.ret))
 (.seq (.region false [oM 11 5,
 oC 12 7 [.tmp 11],
 oR 13 (.bin .add) [.pv (.str [114]), .tmp 12],
 oM 4 13] L19)
 (.ret)))))))))),
 [.tmp 4]⟩
def L7 : List Nat := [0, 2]
def c7 : CF := ⟨5,
 .seq (.region false [oR 2 .mov [.pv (.str [])]] L7)
 (.seq (.region false [oM 3 0,
 oC 4 24 [.tmp 3],
 oM 2 4] L7)
 (.ret)),
 [.tmp 2]⟩
def L24 : List Nat := [0, 2]
def c24 : CF := ⟨5,
 .seq (.region false [oR 2 .mov [.pv (.str [])]] L24)
 (.seq (.region false [oM 3 0,
 oC 4 52 [.tmp 3, .pv (.int .i64 10)],
 oM 2 4] L24)
 (.ret)),
 [.tmp 2]⟩
theorem k3 : jAD Tryz.prog [] L3 Tryz.f3 = some c3 := by kernel_rfl
theorem k5 : jAD Tryz.prog [] L5 Tryz.f5 = some c5 := by kernel_rfl
theorem k10 : jAD Tryz.prog [] L10 Tryz.f10 = some c10 := by kernel_rfl
theorem k19 : jAD Tryz.prog [] L19 Tryz.f19 = some c19 := by kernel_rfl
theorem k7 : jAD Tryz.prog [] L7 Tryz.f7 = some c7 := by kernel_rfl
theorem k24 : jAD Tryz.prog [] L24 Tryz.f24 = some c24 := by kernel_rfl
set_option maxHeartbeats 4000000
section
open Go PG Go.Proofs Go.Shelf
def Tryz.lays246_ren : Go.Shelf.Ren := ⟨fun | 246 => 52 | 283 => 74 | 284 => 75 | 285 => 76 | 286 => 77 | 129 => 88 | 317 => 99 | 318 => 100 | 319 => 101 | 320 => 102 | 337 => 117 | 338 => 118 | n => n, fun | 2 => 2 | 3 => 3 | 9 => 9 | 4 => 4 | 171 => 122 | 0 => 0 | 53 => 123 | 37 => 23 | 5 => 5 | 173 => 126 | 212 => 146 | 51 => 137 | 20 => 20 | 213 => 147 | 46 => 110 | 232 => 167 | 233 => 168 | n => n, fun | 17 => 2 | 18 => 6 | 19 => 7 | n => n⟩
theorem Tryz.lays246 : Go.Proofs.Lays.n246 Tryz.prog Tryz.lays246_ren := {
 mixed := by kernel_rfl
 f129 := Tryz.func88.trans (congrArg some (by kernel_rfl))
 f246 := Tryz.func52.trans (congrArg some (by kernel_rfl))
 f283 := Tryz.func74.trans (congrArg some (by kernel_rfl))
 f284 := Tryz.func75.trans (congrArg some (by kernel_rfl))
 f285 := Tryz.func76.trans (congrArg some (by kernel_rfl))
 f286 := Tryz.func77.trans (congrArg some (by kernel_rfl))
 f317 := Tryz.func99.trans (congrArg some (by kernel_rfl))
 f318 := Tryz.func100.trans (congrArg some (by kernel_rfl))
 f319 := Tryz.func101.trans (congrArg some (by kernel_rfl))
 f320 := Tryz.func102.trans (congrArg some (by kernel_rfl))
 f337 := Tryz.func117.trans (congrArg some (by kernel_rfl))
 f338 := Tryz.func118.trans (congrArg some (by kernel_rfl))
 t0 := Tryz.underlying0
 a0 := Tryz.isAgg0
 z0 := Tryz.sizeOf0
 v0 := Tryz.zeroValue0
 t2 := Tryz.underlying2
 a2 := Tryz.isAgg2
 z2 := Tryz.sizeOf2
 v2 := Tryz.zeroValue2
 t3 := Tryz.underlying3
 a3 := Tryz.isAgg3
 z3 := Tryz.sizeOf3
 v3 := Tryz.zeroValue3
 t4 := Tryz.underlying4
 a4 := Tryz.isAgg4
 z4 := Tryz.sizeOf4
 v4 := Tryz.zeroValue4
 t5 := Tryz.underlying5
 a5 := Tryz.isAgg5
 z5 := Tryz.sizeOf5
 v5 := Tryz.zeroValue5
 t9 := Tryz.underlying9
 a9 := Tryz.isAgg9
 z9 := Tryz.sizeOf9
 v9 := Tryz.zeroValue9
 t20 := Tryz.underlying20
 a20 := Tryz.isAgg20
 z20 := Tryz.sizeOf20
 v20 := Tryz.zeroValue20
 t37 := Tryz.underlying23
 a37 := Tryz.isAgg23
 z37 := Tryz.sizeOf23
 v37 := Tryz.zeroValue23
 t46 := Tryz.underlying110
 a46 := Tryz.isAgg110
 z46 := Tryz.sizeOf110
 v46 := Tryz.zeroValue110
 t51 := Tryz.underlying137
 a51 := Tryz.isAgg137
 z51 := Tryz.sizeOf137
 v51 := Tryz.zeroValue137
 t53 := Tryz.underlying123
 a53 := Tryz.isAgg123
 z53 := Tryz.sizeOf123
 v53 := Tryz.zeroValue123
 t171 := Tryz.underlying122
 a171 := Tryz.isAgg122
 z171 := Tryz.sizeOf122
 v171 := Tryz.zeroValue122
 t173 := Tryz.underlying126
 a173 := Tryz.isAgg126
 z173 := Tryz.sizeOf126
 v173 := Tryz.zeroValue126
 t212 := Tryz.underlying146
 a212 := Tryz.isAgg146
 z212 := Tryz.sizeOf146
 v212 := Tryz.zeroValue146
 t213 := Tryz.underlying147
 a213 := Tryz.isAgg147
 z213 := Tryz.sizeOf147
 t232 := Tryz.underlying167
 a232 := Tryz.isAgg167
 z232 := Tryz.sizeOf167
 v232 := Tryz.zeroValue167
 t233 := Tryz.underlying168
 a233 := Tryz.isAgg168
 z233 := Tryz.sizeOf168
 v233 := Tryz.zeroValue168
 g17 := by kernel_rfl
 g18 := by kernel_rfl
 g19 := by kernel_rfl }
variable {G : jA3}
theorem E7 : Ent Tryz.prog 7 := ⟨Tryz.f7, Tryz.func7, by kernel_rfl, by kernel_rfl⟩
theorem E24 : Ent Tryz.prog 24 := ⟨Tryz.f24, Tryz.func24, by kernel_rfl, by kernel_rfl⟩
theorem E52 : Ent Tryz.prog 52 := ⟨Tryz.f52, Tryz.func52, by kernel_rfl, by kernel_rfl⟩
def jIB (i : Nat) : List UInt8 := if i < 10 then [UInt8.ofNat (48 + i)] else [UInt8.ofNat (48 + i / 10), UInt8.ofNat (48 + i % 10)]
theorem jO0 {w ex vs} {k k' : IntKind} {c d : Int} (h : jUC w ex vs [.int k c, .int k' d]) : vs = #[.int k c, .int k' d] := by
 obtain ⟨hs, hr⟩ := h
 obtain ⟨l⟩ := vs
 match l, hs with
 | [x, y], _ =>
  have h0 := hr 0 x _ rfl rfl
  have h1 := hr 1 y _ rfl rfl
  cases h0; cases h1; rfl
theorem kFU (i : Nat) (hi : i < 100) : Lib.decDigits i = jIB i := by
 unfold jIB
 by_cases h : i < 10
 ·rw [if_pos h, Lib.decDigits_one h]
 ·rw [if_neg h, Lib.decDigits_two h hi]
theorem V52 (i : Nat) (hi : i < 100) : jAB Tryz.prog G 52 [.int .i64 i, .int .i64 10] (.str (jIB i)) := by
 refine jAB.shelf (fun w ex vs h => jO0 h) (fun w ex => ?_) (fun w => Any.internal_strconv_FormatInt_10_small Tryz.lays246 i (by omega) w)
 rw [kFU i hi]
 exact jAW.str (w := w) (ex := ex) ⟨(jIB i).toArray⟩
theorem V24 (i : Nat) (hi : i < 100) : jAB Tryz.prog G 24 [.int .i64 i] (.str (jIB i)) := by
 refine jAB.jAT Tryz.func24 k24 mix (by simp [c24]) ?_
 simp only [c24, L24, CC, jBW]
 have h52 := V52 (G := G) i hi
 repeat' (first | exact clo | (refine sqI ?_; intros) | refine stp ?_ | (refine cnd rfl ?_ ?_ <;> intro hcond <;> (try contradiction) <;> try simp only [DD] at hcond) | (refine jAG ?_; intro hg; try simp only [hg]) | refine jAA E52 (h52) ?_ ?_ ?_ ?_ | (refine saI ?_ ?_; intros) | (refine ari ?_; first | omega | (simp only [DD, LL] <;> omega) | (go_unwrap; omega) | (simp only [DD] at hg; omega)) | (refine stq ?_; focus (simp only [SA, reduceAdd, reduceIte, reduceEqDiff, Nat.reduceBEq, reduceCtorEq]; (try go_unwrap; try simp only [RR, reduceCtorEq]))) | refine And.intro ?_ ?_)
theorem V7 (i : Nat) (hi : i < 100) : jAB Tryz.prog G 7 [.int .i64 i] (.str (jIB i)) := by
 refine jAB.jAT Tryz.func7 k7 mix (by simp [c7]) ?_
 simp only [c7, L7, CC, jBW]
 have h24 := V24 (G := G) i hi
 repeat' (first | exact clo | (refine sqI ?_; intros) | refine stp ?_ | (refine cnd rfl ?_ ?_ <;> intro hcond <;> (try contradiction) <;> try simp only [DD] at hcond) | (refine jAG ?_; intro hg; try simp only [hg]) | refine jAA E24 (h24) ?_ ?_ ?_ ?_ | (refine saI ?_ ?_; intros) | (refine ari ?_; first | omega | (simp only [DD, LL] <;> omega) | (go_unwrap; omega) | (simp only [DD] at hg; omega)) | (refine stq ?_; focus (simp only [SA, reduceAdd, reduceIte, reduceEqDiff, Nat.reduceBEq, reduceCtorEq]; (try go_unwrap; try simp only [RR, reduceCtorEq]))) | refine And.intro ?_ ?_)
end
section
variable {G : jA3}
theorem E19 : Ent Tryz.prog 19 := ⟨Tryz.f19, Tryz.func19, by kernel_rfl, by kernel_rfl⟩
theorem E5 : Ent Tryz.prog 5 := ⟨Tryz.f5, Tryz.func5, by kernel_rfl, by kernel_rfl⟩
def jJU (k i : Nat) : List UInt8 :=
 if k % (i + 3) = i then [120] else if k % (i + 3) = i + 1 then [121] else if i < k % (i + 3) then jIB (k % 7) ++ [46, 50, 53] else [114] ++ jIB (k % (i + 3))
theorem jFR (i : Nat) : (jIB i).length <= 2 := by unfold jIB; split <;> simp
theorem V19 (k i : Nat) (hk : k < 256) (hi : i <= 12) : jAB Tryz.prog G 19 [.int .u8 k, .int .i64 i] (.str (jJU k i)) := by
 refine jAB.jAT Tryz.func19 k19 mix (by simp [c19]) ?_
 simp only [c19, L19, CC, jBW]
 have w0 : IntKind.i64.wrap (k : Int) = k := IntWalk.i64_in _ (by omega)
 have w1 : IntKind.i64.wrap ((i : Int) + 3) = ((i + 3 : Nat) : Int) := (IntWalk.i64_in _ (by omega)).trans (by omega)
 have r1 : (k : Int).tmod ((i + 3 : Nat) : Int) = ((k % (i + 3) : Nat) : Int) := by rw [Int.tmod_eq_emod_of_nonneg (by omega)]; rfl
 have r2 : (k : Int).tmod 7 = ((k % 7 : Nat) : Int) := by rw [Int.tmod_eq_emod_of_nonneg (by omega)]; omega
 have z1 : ¬ ((i + 3 : Nat) : Int) = 0 := by omega
 have z2 : ¬ (7 : Int) = 0 := by decide
 have hm := Nat.mod_lt k (show 0 < i + 3 by omega)
 have hm7 := Nat.mod_lt k (show 0 < 7 by omega)
 have wi : IntKind.i64.wrap ((i : Int) + 1) = ((i + 1 : Nat) : Int) := (IntWalk.i64_in _ (by omega)).trans (by omega)
 have h7 := V7 (G := G) (k % 7) (by omega)
 have h7n := V7 (G := G) (k % (i + 3)) (by omega)
 unfold jJU
 generalize k % (i + 3) = n at *
 generalize k % 7 = m at *
 have l1 := jFR m
 have l2 := jFR n
 have l3 : ([46, 50, 53] : List UInt8).length = 3 := rfl
 have l4 : ([114] : List UInt8).length = 1 := rfl
 have w2 : IntKind.i64.wrap (n : Int) = n := IntWalk.i64_in _ (by omega)
 have w3 : IntKind.i64.wrap (m : Int) = m := IntWalk.i64_in _ (by omega)
 by_cases c1 : n = i
 ·rw [if_pos c1]
  have d1 : decide ((n : Int) = i) = true := by simp only [decide_eq_true_eq]; omega
  repeat' (first | exact clo | exact not_false | (refine sqI ?_; intros) | refine stp ?_ | (refine cnd rfl ?_ ?_ <;> intro hcond <;> (try contradiction) <;> try simp only [DD] at hcond) | (refine jAG ?_; intro hg; try simp only [hg]) | (refine saI ?_ ?_; intros) | (refine ari ?_; first | omega | (simp only [DD, LL] <;> omega) | (go_unwrap; omega) | (simp only [DD] at hg; omega)) | (refine stq ?_; focus (simp only [PV.bin, PV.jAI, jBC, w0, w1, r1, z1, w2, d1, SA, reduceAdd, reduceIte, reduceEqDiff, Nat.reduceBEq, reduceCtorEq]; (try go_unwrap; try simp only [PV.bin, PV.jAI, jBC, w0, w1, r1, z1, w2, d1, RR, reduceCtorEq]))) | refine And.intro ?_ ?_)
 rw [if_neg c1]
 have d1 : decide ((n : Int) = i) = false := by simp only [decide_eq_false_iff_not]; omega
 by_cases c2 : n = i + 1
 ·rw [if_pos c2]
  have d2 : decide ((n : Int) = ((i + 1 : Nat) : Int)) = true := by simp only [decide_eq_true_eq]; omega
  repeat' (first | exact clo | exact not_false | (refine sqI ?_; intros) | refine stp ?_ | (refine cnd rfl ?_ ?_ <;> intro hcond <;> (try contradiction) <;> try simp only [DD] at hcond) | (refine jAG ?_; intro hg; try simp only [hg]) | (refine saI ?_ ?_; intros) | (refine ari ?_; first | omega | (simp only [DD, LL] <;> omega) | (go_unwrap; omega) | (simp only [DD] at hg; omega)) | (refine stq ?_; focus (simp only [PV.bin, PV.jAI, jBC, w0, w1, r1, z1, w2, d1, wi, d2, SA, reduceAdd, reduceIte, reduceEqDiff, Nat.reduceBEq, reduceCtorEq]; (try go_unwrap; try simp only [PV.bin, PV.jAI, jBC, w0, w1, r1, z1, w2, d1, wi, d2, RR, reduceCtorEq]))) | refine And.intro ?_ ?_)
 rw [if_neg c2]
 have d2 : decide ((n : Int) = ((i + 1 : Nat) : Int)) = false := by simp only [decide_eq_false_iff_not]; omega
 by_cases c3 : i < n
 ·rw [if_pos c3]
  have d3 : decide ((i : Int) < n) = true := by simp only [decide_eq_true_eq]; omega
  repeat' (first | exact clo | exact not_false | (refine sqI ?_; intros) | refine stp ?_ | (refine cnd rfl ?_ ?_ <;> intro hcond <;> (try contradiction) <;> try simp only [DD] at hcond) | (refine jAG ?_; intro hg; try simp only [hg]) | refine jAA E7 (h7) ?_ ?_ ?_ ?_ | (refine saI ?_ ?_; intros) | (refine ari ?_; first | omega | (simp only [DD, LL] <;> omega) | (go_unwrap; omega) | (simp only [DD] at hg; omega)) | (refine stq ?_; focus (simp only [PV.bin, PV.jAI, jBC, jE1, w0, w1, r1, r2, z1, z2, w2, w3, d1, wi, d2, d3, SA, reduceAdd, reduceIte, reduceEqDiff, Nat.reduceBEq, reduceCtorEq]; (try go_unwrap; try simp only [PV.bin, PV.jAI, jBC, jE1, w0, w1, r1, r2, z1, z2, w2, w3, d1, wi, d2, d3, RR, reduceCtorEq]))) | refine And.intro ?_ ?_)
 ·rw [if_neg c3]
  have d3 : decide ((i : Int) < n) = false := by simp only [decide_eq_false_iff_not]; omega
  repeat' (first | exact clo | exact not_false | (refine sqI ?_; intros) | refine stp ?_ | (refine cnd rfl ?_ ?_ <;> intro hcond <;> (try contradiction) <;> try simp only [DD] at hcond) | (refine jAG ?_; intro hg; try simp only [hg]) | refine jAA E7 (h7n) ?_ ?_ ?_ ?_ | (refine saI ?_ ?_; intros) | (refine ari ?_; first | omega | (simp only [DD, LL] <;> omega) | (go_unwrap; omega) | (simp only [DD] at hg; omega)) | (refine stq ?_; focus (simp only [PV.bin, PV.jAI, jBC, jE1, w0, w1, r1, z1, w2, d1, wi, d2, d3, SA, reduceAdd, reduceIte, reduceEqDiff, Nat.reduceBEq, reduceCtorEq]; (try go_unwrap; try simp only [PV.bin, PV.jAI, jBC, jE1, w0, w1, r1, z1, w2, d1, wi, d2, d3, RR, reduceCtorEq]))) | refine And.intro ?_ ?_)
end
end Go.Proofs.YthjkmhfiffojeaaGreatDoor
