import Derived.Test.YthekpjhffciakaaDoorProg
import Derived.KernelRfl
import Derived.Shelf.SortM.Plain
import Derived.Shelf.SortM.SortNone
import Derived.Shelf.SlicesG.CompactS
import Derived.Lib.RowBridge
import Derived.Test.YthekpjhffciakaaDoorQ16
import Derived.Test.YthekpjhffciakaaDoorQ17
import Derived.Test.YthekpjhffciakaaDoorQ11
import Derived.Test.YthekpjhffciakaaDoorP4
import Derived.Test.YthekpjhffciakaaDoorQ7
import Derived.Test.YthekpjhffciakaaDoorQ8
namespace Go.Proofs.YthekpjhffciakaaDoor
open Go PG Go.Proofs
set_option linter.unusedSimpArgs false
set_option linter.unusedVariables false
set_option maxRecDepth 100000
/-! A formula's text, and its tokens -/
def textE : Ex → Int → List UInt8
  | .num v, _ => numT v.toNat
  | .var x, _ => x
  | .two o a b, least => if strongM o = 3 then wordM o ++ [40] ++ textE a 0 ++ [44] ++ textE b 0 ++ [41]
    else if strongM o < least then [40] ++ (textE a (strongM o) ++ wordM o ++ textE b (strongM o + 1)) ++ [41]
    else textE a (strongM o) ++ wordM o ++ textE b (strongM o + 1)
  | .thr a b d, _ => wordM 7 ++ [40] ++ textE a 0 ++ [44] ++ textE b 0 ++ [44] ++ textE d 0 ++ [41]
def toksE : Ex → Int → List KT
  | .num v, _ => [(2, numT v.toNat)]
  | .var x, _ => [(1, x)]
  | .two o a b, least => if strongM o = 3 then (1, wordM o) :: (3, [40]) :: (toksE a 0 ++ (3, [44]) :: (toksE b 0 ++ [(3, [41])]))
    else if strongM o < least then (3, [40]) :: ((toksE a (strongM o) ++ (3, wordM o) :: toksE b (strongM o + 1)) ++ [(3, [41])])
    else toksE a (strongM o) ++ (3, wordM o) :: toksE b (strongM o + 1)
  | .thr a b d, _ => (1, wordM 7) :: (3, [40]) :: (toksE a 0 ++ (3, [44]) :: (toksE b 0 ++ (3, [44]) :: (toksE d 0 ++ [(3, [41])])))
theorem textM_succ (l : List Nd) (k : Nat) (i least : Int) : textM l (k + 1) i least = if (nd l i).op = 0 then numT (nd l i).num.toNat
    else if (nd l i).op = 1 then (nd l i).name
    else if strongM (nd l i).op = 3 then joinL (fun c => textM l k c 0) (nd l i).kids 0 (wordM (nd l i).op ++ [40]) ++ [41]
    else if strongM (nd l i).op < least then ([40] ++ ((textM l k ((nd l i).kids.getD 0 0) (strongM (nd l i).op) ++ wordM (nd l i).op) ++ textM l k ((nd l i).kids.getD 1 0) (strongM (nd l i).op + 1))) ++ [41]
    else (textM l k ((nd l i).kids.getD 0 0) (strongM (nd l i).op) ++ wordM (nd l i).op) ++ textM l k ((nd l i).kids.getD 1 0) (strongM (nd l i).op + 1) := rfl
theorem textM_E {l : List Nd} (hl : ∀ n ∈ l, Nd1 n) : ∀ {k : Nat} {i : Int} (least : Int), fitsD l k i → textM l k i least = textE (exOf l k i) least
  | 0, _, _, h => h.elim
  | k + 1, i, least, h => by
    have hn : Nd1 (nd l i) := by rw [nd_get h.1 h.2.1]; exact hl _ (List.getElem_mem h.2.1)
    have h4 := h.2.2.2
    have h4 : ∀ c ∈ (nd l i).kids, fitsD l k c := h4
    rw [textM_succ, exOf_succ]
    generalize nd l i = n at *
    by_cases e0 : n.op = 0
    · rw [if_pos e0, if_pos e0]; rfl
    by_cases e1 : n.op = 1
    · rw [if_neg e0, if_neg e0, if_pos e1, if_pos e1]; rfl
    have h2 : 2 ≤ n.op := by have := hn.op0; omega
    rw [if_neg e0, if_neg e0, if_neg e1, if_neg e1]
    by_cases e7 : n.op = 7
    · obtain ⟨a, b, c, hks⟩ := hn.three e7
      rw [hks] at h4
      have s3 : strongM n.op = 3 := by rw [e7]; rfl
      rw [if_pos e7, if_pos s3, hks]
      simp only [List.getD_cons_zero, List.getD_cons_succ, textE, joinL]
      rw [textM_E hl 0 (h4 a (by simp)), textM_E hl 0 (h4 b (by simp)), textM_E hl 0 (h4 c (by simp)), e7]
      simp
    · obtain ⟨a, b, hks⟩ := hn.two h2 e7
      rw [hks] at h4
      have ho : ((n.op.toNat : Nat) : Int) = n.op := by omega
      rw [if_neg e7, hks]
      simp only [List.getD_cons_zero, List.getD_cons_succ, textE, joinL, ho]
      by_cases s3 : strongM n.op = 3
      · rw [if_pos s3, if_pos s3, textM_E hl 0 (h4 a (by simp)), textM_E hl 0 (h4 b (by simp))]
        simp
      · rw [if_neg s3, if_neg s3]
        by_cases hlt : strongM n.op < least
        · rw [if_pos hlt, if_pos hlt, textM_E hl _ (h4 a (by simp)), textM_E hl _ (h4 b (by simp))]
        · rw [if_neg hlt, if_neg hlt, textM_E hl _ (h4 a (by simp)), textM_E hl _ (h4 b (by simp))]
theorem two_op {o : Nat} (h2 : 2 ≤ o) (h9 : o ≤ 9) (h7 : o ≠ 7) : (o = 2 ∨ o = 3 ∨ o = 4) ∨ (strongM o = 3 ∧ ∃ i, o = i + 5 ∧ callNo (wordM o) = some i ∧ kidN (i + 5) = 2 ∧ isName (wordM o) = true) := by
  have : o = 2 ∨ o = 3 ∨ o = 4 ∨ o = 5 ∨ o = 6 ∨ o = 8 ∨ o = 9 := by omega
  rcases this with rfl | rfl | rfl | rfl | rfl | rfl | rfl
  · exact .inl (.inl rfl)
  · exact .inl (.inr (.inl rfl))
  · exact .inl (.inr (.inr rfl))
  · exact .inr ⟨rfl, 0, rfl, by decide, rfl, by decide⟩
  · exact .inr ⟨rfl, 1, rfl, by decide, rfl, by decide⟩
  · exact .inr ⟨rfl, 3, rfl, by decide, rfl, by decide⟩
  · exact .inr ⟨rfl, 4, rfl, by decide, rfl, by decide⟩
theorem lx_bin {c : UInt8} (hc : innerB c = false) (hx : ∀ r, lx (c :: r) = (lx r).map ((3, [c]) :: ·)) {s r : List UInt8} {w v : List KT} (h : lx s = some w) (h2 : lx r = some v) : lx (s ++ [c] ++ r) = some (w ++ (3, [c]) :: v) := by
  have := lx_cat hc (r := r) (v := (3, [c]) :: v) h (by rw [hx, h2]; rfl)
  simpa using this
theorem lx_call2 {x a b : List UInt8} {w v : List KT} (hx : isName x = true) (ha : lx a = some w) (hb : lx b = some v) : lx (x ++ [40] ++ a ++ [44] ++ b ++ [41]) = some ((1, x) :: (3, [40]) :: (w ++ (3, [44]) :: (v ++ [(3, [41])]))) := by
  have h1 : lx [41] = some [(3, [41])] := by rw [lx_close, lx_nil]; rfl
  have h2 := lx_cat (b := 41) (r := []) (by decide) hb h1
  have h3 := lx_cat (b := 44) (r := b ++ [41]) (by decide) ha (by rw [lx_comma, h2]; rfl)
  have h4 := lx_cat (b := 40) (r := a ++ 44 :: (b ++ [41])) (by decide) (lx_name hx) (by rw [lx_open, h3]; rfl)
  simpa using h4
theorem lx_call3 {x a b d : List UInt8} {w v u : List KT} (hx : isName x = true) (ha : lx a = some w) (hb : lx b = some v) (hd : lx d = some u) : lx (x ++ [40] ++ a ++ [44] ++ b ++ [44] ++ d ++ [41]) = some ((1, x) :: (3, [40]) :: (w ++ (3, [44]) :: (v ++ (3, [44]) :: (u ++ [(3, [41])])))) := by
  have h1 : lx [41] = some [(3, [41])] := by rw [lx_close, lx_nil]; rfl
  have h0 := lx_cat (b := 41) (r := []) (by decide) hd h1
  have h2 := lx_cat (b := 44) (r := d ++ [41]) (by decide) hb (by rw [lx_comma, h0]; rfl)
  have h3 := lx_cat (b := 44) (r := b ++ 44 :: (d ++ [41])) (by decide) ha (by rw [lx_comma, h2]; rfl)
  have h4 := lx_cat (b := 40) (r := a ++ 44 :: (b ++ 44 :: (d ++ [41]))) (by decide) (lx_name hx) (by rw [lx_open, h3]; rfl)
  simpa using h4
/-- A right formula's text has these tokens. -/
theorem lx_text : ∀ (e : Ex) (least : Int), e.ok → lx (textE e least) = some (toksE e least)
  | .num v, _, h => by
    obtain ⟨h0, h1, h2⟩ := h
    have h100 : v.toNat % 100 = 0 := by rw [Int.tmod_eq_emod_of_nonneg h0] at h2; omega
    exact lx_numT (by omega) h100
  | .var x, _, h => lx_name h
  | .two o a b, least, h => by
    obtain ⟨o2, o9, o7, ha, hb⟩ := h
    have ia := fun z => lx_text a z ha
    have ib := fun z => lx_text b z hb
    simp only [textE, toksE]
    rcases two_op o2 o9 o7 with ho | ⟨s3, i, -, -, -, hn⟩
    · have s3 : ¬ strongM o = 3 := by rcases ho with rfl | rfl | rfl <;> decide
      have hbin : lx (textE a (strongM o) ++ wordM o ++ textE b (strongM o + 1)) = some (toksE a (strongM o) ++ (3, wordM o) :: toksE b (strongM o + 1)) := by
        rcases ho with rfl | rfl | rfl
        · exact lx_bin (c := 43) (by decide) lx_plus (ia _) (ib _)
        · exact lx_bin (c := 45) (by decide) lx_minus (ia _) (ib _)
        · exact lx_bin (c := 42) (by decide) lx_times (ia _) (ib _)
      rw [if_neg s3, if_neg s3]
      split
      · have := lx_par hbin lx_nil
        simpa using this
      · exact hbin
    · rw [if_pos s3, if_pos s3]
      exact lx_call2 hn (ia 0) (ib 0)
  | .thr a b d, _, h => lx_call3 (x := wordM 7) (by decide) (lx_text a 0 h.1) (lx_text b 0 h.2.1) (lx_text d 0 h.2.2)
def lvl (least : Int) : Nat := if least ≤ 1 then 2 else if least ≤ 2 then 1 else 0
theorem D_up {w : List KT} {e : Ex} (h : D nmP 0 w e) (n : Nat) (hn : n ≤ 2) : D nmP n w e := by
  have : n = 0 ∨ n = 1 ∨ n = 2 := by omega
  rcases this with rfl | rfl | rfl
  · exact h
  · exact .fac h
  · exact .pro (.fac h)
theorem lvl_le (z : Int) : lvl z ≤ 2 := by unfold lvl; split; omega; split <;> omega
/-- They are read as that formula. -/
theorem D_text : ∀ (e : Ex) (least : Int), e.ok → least ≤ 3 → D nmP (lvl least) (toksE e least) e
  | .num v, least, h, _ => by
    obtain ⟨h0, h1, h2⟩ := h
    have h100 : v.toNat % 100 = 0 := by rw [Int.tmod_eq_emod_of_nonneg h0] at h2; omega
    have hv := nm_numT (n := v.toNat) (by omega) h100
    have hd : D nmP 0 [(2, numT v.toNat)] (.num (nmP (numT v.toNat))) := .num
    rw [hv, Int.toNat_of_nonneg h0] at hd
    exact D_up hd _ (lvl_le _)
  | .var x, least, h, _ => D_up .var _ (lvl_le _)
  | .two o a b, least, h, hz => by
    obtain ⟨o2, o9, o7, ha, hb⟩ := h
    have ia := fun z hz => D_text a z ha hz
    have ib := fun z hz => D_text b z hb hz
    simp only [toksE]
    rcases two_op o2 o9 o7 with ho | ⟨s3, i, hi, hc, hk, hn⟩
    · have s3 : ¬ strongM o = 3 := by rcases ho with rfl | rfl | rfl <;> decide
      rw [if_neg s3]
      rcases ho with rfl | rfl | rfl
      · have hd : D nmP 2 (toksE a 1 ++ (3, [43]) :: toksE b 2) (.two 2 a b) := .add (ia 1 (by omega)) (ib 2 (by omega))
        have e1 : strongM ((2 : Nat) : Int) = 1 := rfl
        have e2 : wordM ((2 : Nat) : Int) = [43] := rfl
        rw [e1, e2]
        by_cases hl : (1 : Int) < least
        · rw [if_pos hl]; exact D_up (.par hd) _ (lvl_le _)
        · rw [if_neg hl, show lvl least = 2 by unfold lvl; rw [if_pos (by omega)]]; exact hd
      · have hd : D nmP 2 (toksE a 1 ++ (3, [45]) :: toksE b 2) (.two 3 a b) := .sub (ia 1 (by omega)) (ib 2 (by omega))
        have e1 : strongM ((3 : Nat) : Int) = 1 := rfl
        have e2 : wordM ((3 : Nat) : Int) = [45] := rfl
        rw [e1, e2]
        by_cases hl : (1 : Int) < least
        · rw [if_pos hl]; exact D_up (.par hd) _ (lvl_le _)
        · rw [if_neg hl, show lvl least = 2 by unfold lvl; rw [if_pos (by omega)]]; exact hd
      · have hd : D nmP 1 (toksE a 2 ++ (3, [42]) :: toksE b 3) (.two 4 a b) := .mul (ia 2 (by omega)) (ib 3 (by omega))
        have e1 : strongM ((4 : Nat) : Int) = 2 := rfl
        have e2 : wordM ((4 : Nat) : Int) = [42] := rfl
        rw [e1, e2]
        by_cases hl : (2 : Int) < least
        · rw [if_pos hl]; exact D_up (.par (.pro hd)) _ (lvl_le _)
        · rw [if_neg hl]
          by_cases h1 : least ≤ 1
          · rw [show lvl least = 2 by unfold lvl; rw [if_pos h1]]; exact .pro hd
          · rw [show lvl least = 1 by unfold lvl; rw [if_neg h1, if_pos (by omega)]]; exact hd
    · rw [if_pos s3]
      subst hi
      exact D_up (.call2 hc hk (ia 0 (by omega)) (ib 0 (by omega))) _ (lvl_le _)
  | .thr a b d, least, h, _ => D_up (.call3 (x := wordM 7) (by decide) (D_text a 0 h.1 (by omega)) (D_text b 0 h.2.1 (by omega)) (D_text d 0 h.2.2 (by omega))) _ (lvl_le _)
/-- A right formula's text, parsed again. -/
theorem parse_text {e : Ex} (h : e.ok) (hs : e.size ≤ 256) (hd : e.deep ≤ 16) (hl : (textE e 0).length ≤ 4096) : parseS (textE e 0) = .ok (e.nds 0) := by
  rw [parseS_of hl (lx_text e 0 h) (D_text e 0 h (by omega))]
  unfold resX
  rw [if_neg (by omega), if_neg (by omega)]
/-! The formula of a formula's own nodes -/
theorem nd_app {p r : List Nd} {n : Nd} {i : Int} (h : i = p.length) : nd (p ++ n :: r) i = n := by
  subst h; simp [nd, List.getD]
theorem exOf_nds : ∀ (e : Ex) (p r : List Nd) (k : Nat), e.ok → e.deep ≤ k → exOf (p ++ (e.nds p.length ++ r)) k (e.root p.length) = e
  | .num v, p, r, k, h, hd => by
    obtain ⟨k, rfl⟩ : ∃ k', k = k' + 1 := ⟨k - 1, by simp [Ex.deep] at hd; omega⟩
    rw [exOf_succ, show nd (p ++ ((Ex.num v).nds p.length ++ r)) ((Ex.num v).root p.length) = ⟨0, v, [], []⟩ from nd_app (by simp [Ex.root, Ex.size])]
    rfl
  | .var x, p, r, k, h, hd => by
    obtain ⟨k, rfl⟩ : ∃ k', k = k' + 1 := ⟨k - 1, by simp [Ex.deep] at hd; omega⟩
    rw [exOf_succ, show nd (p ++ ((Ex.var x).nds p.length ++ r)) ((Ex.var x).root p.length) = ⟨1, 0, x, []⟩ from nd_app (by simp [Ex.root, Ex.size])]
    rfl
  | .two o a b, p, r, k, h, hd => by
    obtain ⟨o2, o9, o7, ha, hb⟩ := h
    have pa := a.deep_pos
    have pb := b.deep_pos
    simp only [Ex.deep] at hd
    obtain ⟨k, rfl⟩ : ∃ k', k = k' + 1 := ⟨k - 1, by omega⟩
    have e1 := exOf_nds a p (b.nds (p.length + a.size) ++ ([⟨o, 0, [], [a.root p.length, b.root (p.length + a.size)]⟩] ++ r)) k ha (by omega)
    have e2 := exOf_nds b (p ++ a.nds p.length) ([⟨o, 0, [], [a.root p.length, b.root (p.length + a.size)]⟩] ++ r) k hb (by omega)
    have hn : nd (p ++ ((Ex.two o a b).nds p.length ++ r)) ((Ex.two o a b).root p.length) = ⟨o, 0, [], [a.root p.length, b.root (p.length + a.size)]⟩ := by
      have := nd_app (p := p ++ (a.nds p.length ++ b.nds (p.length + a.size))) (r := r) (n := ⟨o, 0, [], [a.root p.length, b.root (p.length + a.size)]⟩) (i := (Ex.two o a b).root p.length) (by simp [Ex.root, Ex.size, Ex.nds_len])
      simpa [Ex.nds] using this
    rw [exOf_succ, hn]
    simp only [List.length_append, Ex.nds_len] at e2
    simp only [Ex.nds, List.append_assoc] at e1 e2 ⊢
    rw [if_neg (by omega), if_neg (by omega), if_neg (by omega)]
    simp only [List.getD_cons_zero, List.getD_cons_succ, Int.toNat_natCast]
    rw [e1, e2]
  | .thr a b d, p, r, k, h, hd => by
    obtain ⟨ha, hb, hc⟩ := h
    have pa := a.deep_pos
    have pb := b.deep_pos
    have pd := d.deep_pos
    simp only [Ex.deep] at hd
    obtain ⟨k, rfl⟩ : ∃ k', k = k' + 1 := ⟨k - 1, by omega⟩
    have e1 := exOf_nds a p (b.nds (p.length + a.size) ++ (d.nds (p.length + a.size + b.size) ++ ([⟨7, 0, [], [a.root p.length, b.root (p.length + a.size), d.root (p.length + a.size + b.size)]⟩] ++ r))) k ha (by omega)
    have e2 := exOf_nds b (p ++ a.nds p.length) (d.nds (p.length + a.size + b.size) ++ ([⟨7, 0, [], [a.root p.length, b.root (p.length + a.size), d.root (p.length + a.size + b.size)]⟩] ++ r)) k hb (by omega)
    have e3 := exOf_nds d (p ++ (a.nds p.length ++ b.nds (p.length + a.size))) ([⟨7, 0, [], [a.root p.length, b.root (p.length + a.size), d.root (p.length + a.size + b.size)]⟩] ++ r) k hc (by omega)
    have hn : nd (p ++ ((Ex.thr a b d).nds p.length ++ r)) ((Ex.thr a b d).root p.length) = ⟨7, 0, [], [a.root p.length, b.root (p.length + a.size), d.root (p.length + a.size + b.size)]⟩ := by
      have := nd_app (p := p ++ (a.nds p.length ++ (b.nds (p.length + a.size) ++ d.nds (p.length + a.size + b.size)))) (r := r) (n := ⟨7, 0, [], [a.root p.length, b.root (p.length + a.size), d.root (p.length + a.size + b.size)]⟩) (i := (Ex.thr a b d).root p.length) (by simp [Ex.root, Ex.size, Ex.nds_len]; omega)
      simpa [Ex.nds] using this
    rw [exOf_succ, hn]
    have l3 : p.length + (a.size + b.size) = p.length + a.size + b.size := by omega
    simp only [List.length_append, Ex.nds_len, l3] at e2 e3
    simp only [Ex.nds, List.append_assoc] at e1 e2 e3 ⊢
    rw [if_neg (show ¬ (7 : Int) = 0 by decide), if_neg (show ¬ (7 : Int) = 1 by decide), if_pos trivial]
    simp only [List.getD_cons_zero, List.getD_cons_succ]
    rw [e1, e2, e3]
theorem exOf_self {e : Ex} (h : e.ok) (hd : e.deep ≤ 16) : exOf (e.nds 0) 16 (((e.nds 0).length : Int) - 1) = e := by
  have := exOf_nds e [] [] 16 h hd
  simp only [List.nil_append, List.append_nil, List.length_nil] at this
  have hr : e.root 0 = ((e.nds 0).length : Int) - 1 := by
    have := e.size_pos
    rw [Ex.nds_len]; unfold Ex.root; omega
  rw [← hr]; exact this
end Go.Proofs.YthekpjhffciakaaDoor

namespace Go.Proofs.YthekpjhffciakaaDoor
open Go PG Go.Proofs
set_option linter.unusedSimpArgs false
set_option linter.unusedVariables false
set_option maxRecDepth 100000
/-- The order of a tree's nodes is the one of its formula's text. -/
theorem sortM_E {l : List Nd} (hl : ∀ n ∈ l, Nd1 n) : ∀ {k : Nat} {i : Int} (o : List Nd), fitsD l k i → sortM l k i o = o ++ (exOf l k i).nds o.length
  | 0, _, _, h => h.elim
  | k + 1, i, o, h => by
    have hn : Nd1 (nd l i) := by rw [nd_get h.1 h.2.1]; exact hl _ (List.getElem_mem h.2.1)
    have h4 : ∀ c ∈ (nd l i).kids, fitsD l k c := h.2.2.2
    rw [exOf_succ]
    simp only [sortM]
    generalize nd l i = n at *
    have hrt : ∀ (e : Ex) (c : Nat), ((c + e.size : Nat) : Int) - 1 = e.root c := fun e c => by
      have := e.size_pos; unfold Ex.root; omega
    by_cases e0 : n.op = 0
    · rw [if_pos e0, hn.none (by omega), hn.name0 (by omega), e0]; rfl
    by_cases e1 : n.op = 1
    · rw [if_neg e0, if_pos e1, hn.none (by omega), hn.num0 e0, e1]; rfl
    have h2 : 2 ≤ n.op := by have := hn.op0; omega
    rw [if_neg e0, if_neg e1, hn.num0 e0, hn.name0 e1]
    by_cases e7 : n.op = 7
    · obtain ⟨a, b, c, hks⟩ := hn.three e7
      rw [hks] at h4 ⊢
      rw [if_pos e7, e7]
      simp only [List.getD_cons_zero, List.getD_cons_succ, sortK]
      rw [sortM_E hl o (h4 a (by simp)), sortM_E hl _ (h4 b (by simp)), sortM_E hl _ (h4 c (by simp))]
      simp only [List.length_append, Ex.nds_len, Ex.nds, List.nil_append, List.cons_append, List.append_assoc]
      have l3 : o.length + ((exOf l k a).size + (exOf l k b).size) = o.length + (exOf l k a).size + (exOf l k b).size := by omega
      have l4 : o.length + ((exOf l k a).size + ((exOf l k b).size + (exOf l k c).size)) = o.length + (exOf l k a).size + (exOf l k b).size + (exOf l k c).size := by omega
      rw [l3, l4, hrt, hrt, hrt]
    · obtain ⟨a, b, hks⟩ := hn.two h2 e7
      rw [hks] at h4 ⊢
      rw [if_neg e7]
      simp only [List.getD_cons_zero, List.getD_cons_succ, sortK]
      rw [sortM_E hl o (h4 a (by simp)), sortM_E hl _ (h4 b (by simp))]
      simp only [List.length_append, Ex.nds_len, Ex.nds, List.nil_append, List.cons_append, List.append_assoc]
      have l3 : o.length + ((exOf l k a).size + (exOf l k b).size) = o.length + (exOf l k a).size + (exOf l k b).size := by omega
      have ho : ((n.op.toNat : Nat) : Int) = n.op := by omega
      rw [l3, hrt, hrt, ho]
end Go.Proofs.YthekpjhffciakaaDoor

namespace Go.Proofs.YthekpjhffciakaaDoor
open Go PG Go.Proofs
set_option linter.unusedSimpArgs false
set_option linter.unusedVariables false
set_option maxHeartbeats 4000000
set_option maxRecDepth 100000
theorem gW2 : G0 0 = some (some 10, wordsP) := rfl
abbrev trO (l : List Nd) : MObj := .var (some 1) (.agg [.list (some 4) (l.map ndP)])
abbrev txO : MObj := .var none (.fn 55 [] [.ref 0 0, .ref 1 0])
/-- A text, as a contract: the tree and the closure stay as they are. -/
def TxC (l : List Nd) (i least : Int) (ν : Mem) (r : List UInt8) : Prop :=
  PCalls Tryd.prog G0 55 [.int .i64 i, .int .i64 least, .ref 0 0, .ref 1 0] (some (trO l) :: some txO :: ν) (fun _ => false) (fun p μ' => p = .str r ∧ μ' = some (trO l) :: some txO :: ν)
theorem TxC.frame {l : List Nd} {i least : Int} {r : List UInt8} (h : TxC l i least [] r) (ν : Mem) (hν : ν.map (Option.map (MObj.kill fun _ => false)) = ν) : TxC l i least ν r := by
  have := PCalls.frame h ν (by rintro p μ' ⟨-, rfl⟩; rfl) (by simp [PV.kill]) (by simp [MObj.kill, PV.kill]) hν
  intro w κ vs hS hG hr
  refine (this w κ vs hS hG hr).mono ?_
  rintro e w' ⟨v, p, μ', κ', rfl, ⟨μ1, ⟨rfl, rfl⟩, rfl⟩, hS', hv, hg⟩
  exact ⟨v, _, _, κ', rfl, ⟨rfl, rfl⟩, hS', hv, hg⟩
theorem word_at (j : Nat) (h : j ≤ 9) : cut (some 10) none wordsP (0 + j * 1) = .str (wordM j) := by
  have : j = 0 ∨ j = 1 ∨ j = 2 ∨ j = 3 ∨ j = 4 ∨ j = 5 ∨ j = 6 ∨ j = 7 ∨ j = 8 ∨ j = 9 := by omega
  rcases this with rfl | rfl | rfl | rfl | rfl | rfl | rfl | rfl | rfl | rfl <;> rfl
theorem v55 (l : List Nd) (hl : l.length ≤ 256) : ∀ (k : Nat), k ≤ 16 → ∀ (i least : Int), fitsD l k i → TxC l i least [] (textM l k i least)
  | 0, _, i, least, h => h.elim
  | k + 1, hk16, i, least, h => by
    have ih : ∀ i least, fitsD l k i → TxC l i least [] (textM l k i least) := fun i least h => v55 l hl k (by omega) i least h
    have hle := text_le l k
    have hB : 100 * 4 ^ k ≤ 429496729600 := by
      have : 4 ^ k ≤ 4 ^ 16 := Nat.pow_le_pow_right (by omega) (by omega)
      have e : (4 : Nat) ^ 16 = 4294967296 := rfl
      omega
    generalize 100 * 4 ^ k = B at hle hB
    obtain ⟨h1, h2, h3, h4⟩ := h
    refine PCalls.moves (mv := fun t => decide (2 ≤ t)) (fun t ht h => ?_) ?_
    · simp only [List.length_cons, List.length_nil] at ht
      simp only [decide_eq_true_eq] at h; omega
    refine PCalls.of_PW Tryd.func55 k55d mix (by simp [c55d]) ?_
    simp only [c55d, L55d, CC, argE, trO, txO]
    obtain ⟨i, rfl⟩ : ∃ m : Nat, i = m := ⟨i.toNat, by omega⟩
    have hit : ((i : Int)).toNat = i := by omega
    rw [hit] at h2 h3 h4
    have hll : ((l.map ndP).length : Nat) = l.length := by simp
    have hgn : (l.map ndP).getD i .junk = .agg [.int .i64 (l.getD i default).op, .int .i64 (l.getD i default).num, .str (l.getD i default).name, .list none ((l.getD i default).kids.map (PV.int .i64))] := by simp [List.getD, h2, ndP, ndC, kidsP]
    unfold textM
    rw [hit]
    generalize l.getD i default = n at *
    obtain ⟨n0, n9, nnum, nname, nkids, ntwo⟩ := h3
    obtain ⟨op, hop⟩ : ∃ m : Nat, n.op = m := ⟨n.op.toNat, by omega⟩
    rw [hop] at n0 n9 nnum ntwo ⊢
    rw [hop] at hgn
    have hsc : ∀ (a b : Int) (t : List UInt8) (ks : List PV), ∀ x ∈ [PV.int IntKind.i64 a, PV.int IntKind.i64 b, PV.str t, PV.list none ks], x.scalar = true := by
      intro a b t ks x hc; simp at hc; rcases hc with rfl | rfl | rfl | rfl <;> rfl
    have hwa := word_at op (by omega)
    have hwl := word_le op
    have h56 := v56 (G := G0) op
    have hot : ((op : Int)).toNat = op := by omega
    have hkl : ((n.kids.map (PV.int .i64)).length : Nat) = n.kids.length := by simp
    have bw : 0 + op * 1 + 1 ≤ wordsP.cells.length := by
      have : wordsP.cells.length = 10 := rfl
      omega
    repeat' (first | exact True.intro | exact hsc _ _ _ _ | exact (rfl : (some 4 : Sh) = some 4) | (exact Or.inr ⟨rfl, by decide⟩) | (refine PW.stop (x := .seq (.region false (⟨some 17, none, .rd (.fldAddr 0) [.tmp 7]⟩ :: _) _) _) ?_) | (refine PW.seqK ?_; intro K hK) | refine stp ?_ | refine seqK_n ‹_› ?_ | refine seqK_r ‹_› ?_ | refine seqK_e ‹_› ?_ | exact schedW_stop_i | refine schK_n ‹_› ?_ | (refine PW.cond rfl ?_ ?_ <;> intro hcond <;> (try contradiction) <;> try simp only [DD] at hcond) | (refine gd_i ?_; intro hg; try simp only [hg]) | (refine ari ?_; first | omega | (simp only [DD, LL] <;> omega) | (go_unwrap; omega)) | ((first | refine stq ?_ | show (_ : Post) _ _ _ | (refine schedW_alt_k ?_ ?_; intro K hK)); focus (simp only [hll, hgn, SA, Nat.reduceAdd, reduceIte, Nat.reduceEqDiff, Nat.reduceBEq, reduceCtorEq]; (try go_unwrap; try simp only [hll, hgn, RR, reduceCtorEq]))) | refine And.intro ?_ ?_ | exact Or.inr ⟨rfl, Nat.le_refl _⟩ | exact (fun h => Bool.noConfusion h))
    refine ⟨?_⟩
    refine PW.frzV 7 2 (some 4) _ rfl rfl ⟨_, rfl, rfl, hsc _ _ _ _⟩ (by intro c hc; simp only [PV.cells, List.mem_cons, List.not_mem_nil, or_false] at hc; rcases hc with rfl | rfl | rfl | rfl <;> simp [PV.noOwn]) rfl ?_
    simp only [frzE, frzMem, List.map_cons, List.map_nil, PV.frz, MObj.frz, frzM, frzSl, SA, Nat.reduceAdd, reduceIte, Nat.reduceEqDiff, Nat.reduceBEq, reduceCtorEq]
    refine PW.trim 2 (fun t h => by simp [h]) ?_
    simp only [TT, MObj.kill, PV.kill, Nat.reduceLeDiff, reduceIte]
    by_cases o0 : op = 0
    · subst o0
      obtain ⟨m1, m2⟩ := nnum rfl
      have h57 := v57 (G := G0) n.num.toNat (by omega)
      have hnn : ((n.num.toNat : Nat) : Int) = n.num := by omega
      rw [hnn] at h57
      repeat' (first | exact True.intro | (exact Or.inr bw) | (exact Or.inr (by decide)) | (refine PW.seqK ?_; intro K hK) | refine stp ?_ | refine seqK_n ‹_› ?_ | refine seqK_r ‹_› ?_ | refine seqK_e ‹_› ?_ | exact schedW_stop_i | refine schK_n ‹_› ?_ | (refine PW.cond rfl ?_ ?_ <;> intro hcond <;> (try contradiction) <;> try simp only [DD] at hcond) | (refine gd_i ?_; intro hg; try simp only [hg]) | refine goCall_W e56 (h56) ?_ ?_ ?_ ?_ | refine goCall_W e57 (h57) ?_ ?_ ?_ ?_ | (refine ari ?_; first | omega | (simp only [DD, LL] <;> omega) | (go_unwrap; omega)) | ((first | refine stq ?_ | show (_ : Post) _ _ _ | (refine schedW_alt_k ?_ ?_; intro K hK)); focus (simp only [gW2, evalO, hot, hwa, SA, Nat.reduceAdd, reduceIte, Nat.reduceEqDiff, Nat.reduceBEq, reduceCtorEq]; (try go_unwrap; try simp only [gW2, evalO, hot, hwa, RR, reduceCtorEq]))) | refine And.intro ?_ ?_ | exact Or.inr ⟨rfl, Nat.le_refl _⟩ | exact (fun h => Bool.noConfusion h))
      all_goals simp
    by_cases o1 : op = 1
    · subst o1
      repeat' (first | exact True.intro | (exact Or.inr bw) | (exact Or.inr (by decide)) | (refine PW.seqK ?_; intro K hK) | refine stp ?_ | refine seqK_n ‹_› ?_ | refine seqK_r ‹_› ?_ | refine seqK_e ‹_› ?_ | exact schedW_stop_i | refine schK_n ‹_› ?_ | (refine PW.cond rfl ?_ ?_ <;> intro hcond <;> (try contradiction) <;> try simp only [DD] at hcond) | (refine gd_i ?_; intro hg; try simp only [hg]) | refine goCall_W e56 (h56) ?_ ?_ ?_ ?_ | (refine ari ?_; first | omega | (simp only [DD, LL] <;> omega) | (go_unwrap; omega)) | ((first | refine stq ?_ | show (_ : Post) _ _ _ | (refine schedW_alt_k ?_ ?_; intro K hK)); focus (simp only [gW2, evalO, hot, hwa, SA, Nat.reduceAdd, reduceIte, Nat.reduceEqDiff, Nat.reduceBEq, reduceCtorEq]; (try go_unwrap; try simp only [gW2, evalO, hot, hwa, RR, reduceCtorEq]))) | refine And.intro ?_ ?_ | exact Or.inr ⟨rfl, Nat.le_refl _⟩ | exact (fun h => Bool.noConfusion h))
      all_goals simp
    have q0 : decide ((op : Int) = 0) = false := by simp only [decide_eq_false_iff_not]; omega
    have q1 : decide ((op : Int) = 1) = false := by simp only [decide_eq_false_iff_not]; omega
    have z0 : ¬ ((op : Int) = 0) := by omega
    have z1 : ¬ ((op : Int) = 1) := by omega
    rw [if_neg z0, if_neg z1]
    by_cases o5 : 5 ≤ op
    · have hs3 : strongM op = 3 := by unfold strongM; rw [if_neg (by omega), if_neg (by omega)]
      rw [hs3] at h56
      rw [if_pos hs3]
      repeat' (first | exact True.intro | (exact Or.inr bw) | (exact Or.inr (by decide)) | (refine PW.seqK ?_; intro K hK) | refine stp ?_ | refine seqK_n ‹_› ?_ | refine seqK_r ‹_› ?_ | refine seqK_e ‹_› ?_ | exact schedW_stop_i | refine schK_n ‹_› ?_ | (refine PW.cond rfl ?_ ?_ <;> intro hcond <;> (try contradiction) <;> try simp only [DD] at hcond) | (refine gd_i ?_; intro hg; try simp only [hg]) | refine goCall_W e56 (h56) ?_ ?_ ?_ ?_ | (refine ari ?_; first | omega | (simp only [DD, LL] <;> omega) | (go_unwrap; omega)) | ((first | refine stq ?_ | show (_ : Post) _ _ _ | (refine schedW_alt_k ?_ ?_; intro K hK)); focus (simp only [gW2, evalO, hot, hwa, hkl, q0, q1, SA, Nat.reduceAdd, reduceIte, Nat.reduceEqDiff, Nat.reduceBEq, reduceCtorEq]; (try go_unwrap; try simp only [gW2, evalO, hot, hwa, hkl, q0, q1, RR, reduceCtorEq]))) | refine And.intro ?_ ?_ | exact Or.inr ⟨rfl, Nat.le_refl _⟩ | exact (fun h => Bool.noConfusion h))
      refine PW.loop (σ := Nat × List UInt8) [2, 3, 9, 43, 44, 45] (fun q => [.ref 0 0, .ref 1 0, .str q.2, .list none (n.kids.map (PV.int .i64)), .int .i64 n.kids.length, .int .i64 q.1]) (fun _ => [some (.var (some 1) (.agg [.list (some 4) (l.map ndP)])), some (.var none (.fn 55 [] [.ref 0 0, .ref 1 0]))])
        (fun q => q.1 ≤ n.kids.length ∧ q.2.length ≤ 6 + q.1 * (B + 1) ∧ joinL (fun c => textM l k c 0) n.kids 0 (wordM op ++ [40]) = joinL (fun c => textM l k c 0) (n.kids.drop q.1) q.1 q.2) (fun q => n.kids.length - q.1) (0, wordM op ++ [40]) ?_ ?_ ⟨by simp, by simp; omega, by simp⟩ ?_
      · simp only [SA, Nat.reduceAdd, reduceIte, Nat.reduceEqDiff, Nat.reduceBEq, reduceCtorEq]; rfl
      · rfl
      rintro ⟨j, s⟩ ⟨hj, hsl, hjn⟩
      simp only at hj hsl hjn
      simp only [List.zip_cons_cons, List.zip_nil_left]
      rcases Nat.lt_or_ge j n.kids.length with h | h
      · obtain ⟨c, hd, hc, hg⟩ := drop_at h
        have hfc := h4 c (List.mem_of_getElem? hc)
        have htx := ih c 0 hfc
        have htl := hle c 0 hfc
        simp only [TxC, trO, txO] at htx
        have hgc := (hg (PV.int .i64)).1
        have dj : decide ((j : Int) < n.kids.length) = true := by simp only [decide_eq_true_eq]; omega
        rw [hd, joinL] at hjn
        generalize hT : textM l k c 0 = T at *
        have hmul : (j + 1) * (B + 1) = j * (B + 1) + (B + 1) := by rw [Nat.add_mul, Nat.one_mul]
        have hjb : j * (B + 1) ≤ 3 * (B + 1) := Nat.mul_le_mul_right _ (by omega)
        by_cases hj0 : 0 < j
        · have d0 : decide ((0 : Int) < j) = true := by simp only [decide_eq_true_eq]; omega
          rw [if_pos hj0] at hjn
          repeat' (first | exact True.intro | (refine PW.seqK ?_; intro K hK) | refine stp ?_ | refine seqK_n ‹_› ?_ | refine seqK_r ‹_› ?_ | refine seqK_e ‹_› ?_ | exact schedW_stop_i | refine schK_n ‹_› ?_ | (refine PW.cond rfl ?_ ?_ <;> intro hcond <;> (try contradiction) <;> try simp only [DD] at hcond) | (refine goCall_P e55 htx ?_; rintro p μ' ⟨rfl, rfl⟩; simp only [hkl, hgc, dj, d0, SA, Nat.reduceAdd, reduceIte, Nat.reduceEqDiff, Nat.reduceBEq, reduceCtorEq]) | (refine gd_i ?_; intro hg; try simp only [hg]) | (refine ari ?_; first | omega | (simp only [DD, LL] <;> omega) | (go_unwrap; omega)) | ((first | refine stq ?_ | show (_ : Post) _ _ _ | (refine schedW_alt_k ?_ ?_; intro K hK)); focus (simp only [hkl, hgc, dj, d0, SA, Nat.reduceAdd, reduceIte, Nat.reduceEqDiff, Nat.reduceBEq, reduceCtorEq]; (try go_unwrap; try simp only [hkl, hgc, dj, d0, RR, reduceCtorEq]))) | refine And.intro ?_ ?_ | exact Or.inr ⟨rfl, Nat.le_refl _⟩ | exact (fun h => Bool.noConfusion h))
          all_goals first | exact ⟨(j + 1, (s ++ [44]) ++ T), rfl, ⟨by simp only; omega, by simp; omega, hjn⟩, by simp only; omega⟩ | (simp; omega)
        · have d0 : decide ((0 : Int) < j) = false := by simp only [decide_eq_false_iff_not]; omega
          rw [if_neg hj0] at hjn
          repeat' (first | exact True.intro | (refine PW.seqK ?_; intro K hK) | refine stp ?_ | refine seqK_n ‹_› ?_ | refine seqK_r ‹_› ?_ | refine seqK_e ‹_› ?_ | exact schedW_stop_i | refine schK_n ‹_› ?_ | (refine PW.cond rfl ?_ ?_ <;> intro hcond <;> (try contradiction) <;> try simp only [DD] at hcond) | (refine goCall_P e55 htx ?_; rintro p μ' ⟨rfl, rfl⟩; simp only [hkl, hgc, dj, d0, SA, Nat.reduceAdd, reduceIte, Nat.reduceEqDiff, Nat.reduceBEq, reduceCtorEq]) | (refine gd_i ?_; intro hg; try simp only [hg]) | (refine ari ?_; first | omega | (simp only [DD, LL] <;> omega) | (go_unwrap; omega)) | ((first | refine stq ?_ | show (_ : Post) _ _ _ | (refine schedW_alt_k ?_ ?_; intro K hK)); focus (simp only [hkl, hgc, dj, d0, SA, Nat.reduceAdd, reduceIte, Nat.reduceEqDiff, Nat.reduceBEq, reduceCtorEq]; (try go_unwrap; try simp only [hkl, hgc, dj, d0, RR, reduceCtorEq]))) | refine And.intro ?_ ?_ | exact Or.inr ⟨rfl, Nat.le_refl _⟩ | exact (fun h => Bool.noConfusion h))
          all_goals first | exact ⟨(j + 1, s ++ T), rfl, ⟨by simp only; omega, by simp; omega, hjn⟩, by simp only; omega⟩ | (simp; omega)
      · have dj : decide ((j : Int) < n.kids.length) = false := by simp only [decide_eq_false_iff_not]; omega
        rw [List.drop_eq_nil_of_le h, joinL] at hjn
        have hjb : j * (B + 1) ≤ 3 * (B + 1) := Nat.mul_le_mul_right _ (by omega)
        repeat' (first | exact True.intro | (refine PW.seqK ?_; intro K hK) | refine stp ?_ | refine seqK_n ‹_› ?_ | refine seqK_r ‹_› ?_ | refine seqK_e ‹_› ?_ | exact schedW_stop_i | refine schK_n ‹_› ?_ | (refine PW.cond rfl ?_ ?_ <;> intro hcond <;> (try contradiction) <;> try simp only [DD] at hcond) | (refine gd_i ?_; intro hg; try simp only [hg]) | (refine ari ?_; first | omega | (simp only [DD, LL] <;> omega) | (go_unwrap; omega)) | ((first | refine stq ?_ | show (_ : Post) _ _ _ | (refine schedW_alt_k ?_ ?_; intro K hK)); focus (simp only [hkl, dj, SA, Nat.reduceAdd, reduceIte, Nat.reduceEqDiff, Nat.reduceBEq, reduceCtorEq]; (try go_unwrap; try simp only [hkl, dj, RR, reduceCtorEq]))) | refine And.intro ?_ ?_ | exact Or.inr ⟨rfl, Nat.le_refl _⟩ | exact (fun h => Bool.noConfusion h))
        all_goals first | (rw [hjn]; done) | rfl | (simp; omega)
    have hst : 1 ≤ strongM op ∧ strongM op ≤ 2 := by
      unfold strongM
      by_cases a : (op : Int) = 2 ∨ (op : Int) = 3
      · rw [if_pos a]; omega
      · rw [if_neg a, if_pos (by omega)]; omega
    have hs3 : ¬ strongM op = 3 := by omega
    rw [if_neg hs3]
    have k2 := ntwo (by omega) (by omega)
    obtain ⟨a, b, hab⟩ : ∃ a b, n.kids = [a, b] := by
      match n.kids, k2 with
      | [a, b], _ => exact ⟨a, b, rfl⟩
    rw [hab] at h4 ⊢
    simp only [List.map_cons, List.map_nil, List.getD_cons_zero, List.getD_cons_succ]
    have hfa := h4 a (by simp)
    have hfb := h4 b (by simp)
    have hta := ih a (strongM op) hfa
    have htb := ih b (strongM op + 1) hfb
    have hla := hle a (strongM op) hfa
    have hlb := hle b (strongM op + 1) hfb
    simp only [TxC, trO, txO] at hta htb
    generalize textM l k a (strongM op) = Ta at *
    generalize textM l k b (strongM op + 1) = Tb at *
    have q3 : decide (strongM op = 3) = false := by simp only [decide_eq_false_iff_not]; exact hs3
    have wp : IntKind.i64.wrap (strongM op + 1) = strongM op + 1 := IntWalk.i64_in _ (by omega)
    generalize strongM op = st at *
    generalize wordM op = W at *
    by_cases hlt : st < least
    · rw [if_pos hlt]
      repeat' (first | exact True.intro | (refine PW.seqA (E := ?_) (M := ?_) ?_ ?_; rotate_left 2) | exact mergeQ_mk _ _ | (exact Or.inr bw) | (exact Or.inr (by decide)) | (refine PW.seqK ?_; intro K hK) | refine stp ?_ | refine seqK_n ‹_› ?_ | refine seqK_r ‹_› ?_ | refine seqK_e ‹_› ?_ | exact schedW_stop_i | refine schK_n ‹_› ?_ | (refine PW.cond rfl ?_ ?_ <;> intro hcond <;> (try contradiction) <;> try simp only [DD] at hcond) | (refine goCall_P e55 hta ?_; rintro p μ' ⟨rfl, rfl⟩; simp only [PV.bin, PV.binOk, binI, gW2, evalO, hot, hwa, hkl, q0, q1, q3, wp, decide_eq_true hlt, SA, Nat.reduceAdd, reduceIte, Nat.reduceEqDiff, Nat.reduceBEq, reduceCtorEq]) | (refine goCall_P e55 htb ?_; rintro p μ' ⟨rfl, rfl⟩; simp only [PV.bin, PV.binOk, binI, gW2, evalO, hot, hwa, hkl, q0, q1, q3, wp, decide_eq_true hlt, SA, Nat.reduceAdd, reduceIte, Nat.reduceEqDiff, Nat.reduceBEq, reduceCtorEq]) | (refine gd_i ?_; intro hg; try simp only [hg]) | refine goCall_W e56 (h56) ?_ ?_ ?_ ?_ | (refine ari ?_; first | omega | (simp only [DD, LL] <;> omega) | (go_unwrap; omega)) | ((first | refine stq ?_ | show (_ : Post) _ _ _ | (refine schedW_alt_k ?_ ?_; intro K hK)); focus (simp only [PV.bin, PV.binOk, binI, gW2, evalO, hot, hwa, hkl, q0, q1, q3, wp, decide_eq_true hlt, SA, Nat.reduceAdd, reduceIte, Nat.reduceEqDiff, Nat.reduceBEq, reduceCtorEq]; (try go_unwrap; try simp only [PV.bin, PV.binOk, binI, gW2, evalO, hot, hwa, hkl, q0, q1, q3, wp, decide_eq_true hlt, RR, reduceCtorEq]))) | refine And.intro ?_ ?_ | exact Or.inr ⟨rfl, Nat.le_refl _⟩ | exact (fun h => Bool.noConfusion h))
      all_goals first | rfl | (simp; omega)
    · rw [if_neg hlt]
      repeat' (first | exact True.intro | (refine PW.seqA (E := ?_) (M := ?_) ?_ ?_; rotate_left 2) | exact mergeQ_mk _ _ | (exact Or.inr bw) | (exact Or.inr (by decide)) | (refine PW.seqK ?_; intro K hK) | refine stp ?_ | refine seqK_n ‹_› ?_ | refine seqK_r ‹_› ?_ | refine seqK_e ‹_› ?_ | exact schedW_stop_i | refine schK_n ‹_› ?_ | (refine PW.cond rfl ?_ ?_ <;> intro hcond <;> (try contradiction) <;> try simp only [DD] at hcond) | (refine goCall_P e55 hta ?_; rintro p μ' ⟨rfl, rfl⟩; simp only [PV.bin, PV.binOk, binI, gW2, evalO, hot, hwa, hkl, q0, q1, q3, wp, decide_eq_false hlt, SA, Nat.reduceAdd, reduceIte, Nat.reduceEqDiff, Nat.reduceBEq, reduceCtorEq]) | (refine goCall_P e55 htb ?_; rintro p μ' ⟨rfl, rfl⟩; simp only [PV.bin, PV.binOk, binI, gW2, evalO, hot, hwa, hkl, q0, q1, q3, wp, decide_eq_false hlt, SA, Nat.reduceAdd, reduceIte, Nat.reduceEqDiff, Nat.reduceBEq, reduceCtorEq]) | (refine gd_i ?_; intro hg; try simp only [hg]) | refine goCall_W e56 (h56) ?_ ?_ ?_ ?_ | (refine ari ?_; first | omega | (simp only [DD, LL] <;> omega) | (go_unwrap; omega)) | ((first | refine stq ?_ | show (_ : Post) _ _ _ | (refine schedW_alt_k ?_ ?_; intro K hK)); focus (simp only [PV.bin, PV.binOk, binI, gW2, evalO, hot, hwa, hkl, q0, q1, q3, wp, decide_eq_false hlt, SA, Nat.reduceAdd, reduceIte, Nat.reduceEqDiff, Nat.reduceBEq, reduceCtorEq]; (try go_unwrap; try simp only [PV.bin, PV.binOk, binI, gW2, evalO, hot, hwa, hkl, q0, q1, q3, wp, decide_eq_false hlt, RR, reduceCtorEq]))) | refine And.intro ?_ ?_ | exact Or.inr ⟨rfl, Nat.le_refl _⟩ | exact (fun h => Bool.noConfusion h))
      all_goals first | rfl | (simp; omega)
end Go.Proofs.YthekpjhffciakaaDoor

namespace Go.Proofs.YthekpjhffciakaaDoor
open Go PG Go.Proofs
set_option linter.unusedSimpArgs false
set_option linter.unusedVariables false
set_option maxHeartbeats 4000000
set_option maxRecDepth 100000
theorem e26 : Ent Tryd.prog 26 := ⟨Tryd.f26, Tryd.func26, by kernel_rfl, by kernel_rfl⟩
theorem hasK0 : HasKids G0 := rfl
theorem v26 (l : List Nd) (hl : l.length ≤ 256) (hs : ∀ n ∈ l, n.name.length ≤ 9223372036854775807 ∧ n.kids.length ≤ 9223372036854775807) (hc : checkM l = 0) (hf : fitsD l 16 ((l.length : Int) - 1)) : VCalls Tryd.prog G0 26 [treeP l] (.str (textM l 16 ((l.length : Int) - 1) 0)) := by
  refine VCalls.of_PW Tryd.func26 k26 mix (by simp [c26]) ?_
  simp only [c26, L26, CC, argE]
  have h29 := v29 hasK0 l (by omega) hs
  rw [hc] at h29
  have htx := v55 l hl 16 (Nat.le_refl _) _ 0 hf
  simp only [TxC, trO, txO] at htx
  simp only [treeP] at h29 ⊢
  have hll : ((l.map ndP).length : Nat) = l.length := by simp
  have q0 : decide ((0 : Int) = 0) = true := rfl
  repeat' (first | exact True.intro | (exact Or.inr ⟨rfl, by decide⟩) | (refine PW.seqK ?_; intro K hK) | refine stp ?_ | refine seqK_n ‹_› ?_ | refine seqK_r ‹_› ?_ | refine seqK_e ‹_› ?_ | exact schedW_stop_i | refine schK_n ‹_› ?_ | (refine PW.cond rfl ?_ ?_ <;> intro hcond <;> (try contradiction) <;> try simp only [DD] at hcond) | (refine goCall_P e55 htx ?_; rintro p μ' ⟨rfl, rfl⟩; simp only [hll, q0, SA, Nat.reduceAdd, reduceIte, Nat.reduceEqDiff, Nat.reduceBEq, reduceCtorEq]) | (refine gd_i ?_; intro hg; try simp only [hg]) | refine goCall_W e29 (h29) ?_ ?_ ?_ ?_ | (refine ari ?_; first | omega | (simp only [DD, LL] <;> omega) | (go_unwrap; omega)) | ((first | refine stq ?_ | show (_ : Post) _ _ _ | (refine schedW_alt_k ?_ ?_; intro K hK)); focus (simp only [hll, q0, SA, Nat.reduceAdd, reduceIte, Nat.reduceEqDiff, Nat.reduceBEq, reduceCtorEq]; (try go_unwrap; try simp only [hll, q0, RR, reduceCtorEq]))) | refine And.intro ?_ ?_ | exact Or.inr ⟨rfl, Nat.le_refl _⟩ | exact (fun h => Bool.noConfusion h))
end Go.Proofs.YthekpjhffciakaaDoor

namespace Go.Proofs.YthekpjhffciakaaDoor
open PG Go.Proofs
-- (wagebook/expr.Tree).Vars
def L35 : List Nat := [0, 2]
def c35 : CF := ⟨8,
 .seq (.region false [⟨some 2, none, .rd .mov [.pv (.int .i64 0)]⟩] L35)
 (.seq (.region false [oM 3 0,
 oM 4 0,
 ⟨some 5, none, .rd .lenL [.tmp 4]⟩,
 ⟨some 6, none, .rd (.bin .sub) [.tmp 5, .pv (.int .i64 1)]⟩,
 ⟨some 7, none, .call (.pv (.fn 52 [] [])) [.tmp 3, .tmp 6]⟩,
 oM 2 7] L35)
 (.ret)),
 [.tmp 2]⟩

-- wagebook/wagebooklaw13.great
def L24 : List Nat := [0, 1, 2, 3, 4, 16]
def c24 : CF := ⟨38,
 .seq (.region false [⟨some 1, none, .eff (.box (some 1)) [.tmp 0]⟩,
 ⟨some 2, none, .rd .mov [.pv (.bool false)]⟩] L24)
 (.seq (.region false [oF 0 5 1,
 oL 6 5,
 ⟨some 7, none, .rd .lenL [.tmp 6]⟩,
 oM 3 7] L24)
 (.seq (.seq (.region false [⟨some 4, none, .rd .mov [.pv (.int .i64 0)]⟩] L24)
 (.block 0
 (.loop
 (.seq (.seq (.region false [oM 8 4,
 oF 0 9 1,
 oL 10 9,
 ⟨some 11, none, .rd .lenL [.tmp 10]⟩,
 ⟨some 12, none, .rd (.bin .lss) [.tmp 8, .tmp 11]⟩,
 oM 13 12,
 qM 13 true 14 3,
 ⟨some 15, some (13, true), .rd (.bin .leq) [.tmp 14, .pv (.int .i64 1000)]⟩,
 ⟨some 16, none, .rd .pick [.tmp 13, .tmp 15, .pv (.bool false)]⟩] L24)
 (.cond (.tmp 16)
 (.skip)
 (.exit 0)))
 (.seq (.block 1
 (.region true [oM 19 3,
 oF 0 20 1,
 oL 21 20,
 oM 22 4,
 ⟨some 23, none, .rd (.idxAddr (some 4)) [.tmp 21, .tmp 22]⟩,
 oF 3 24 23,
 oL 25 24,
 ⟨some 26, none, .rd .lenL [.tmp 25]⟩,
 ⟨some 27, none, .rd (.bin .add) [.tmp 19, .tmp 26]⟩,
 oF 0 28 1,
 oL 29 28,
 oM 30 4,
 ⟨some 31, none, .rd (.idxAddr (some 4)) [.tmp 29, .tmp 30]⟩,
 oF 2 32 31,
 oL 33 32,
 ⟨some 34, none, .rd .lenS [.tmp 33]⟩,
 ⟨some 35, none, .rd (.bin .add) [.tmp 27, .tmp 34]⟩,
 oM 3 35] L24))
 (.region false [oM 17 4,
 ⟨some 18, none, .rd (.bin .add) [.tmp 17, .pv (.int .i64 1)]⟩,
 oM 4 18] L24))))))
 (.seq (.region false [oM 36 3,
 ⟨some 37, none, .rd (.bin .gtr) [.tmp 36, .pv (.int .i64 1000)]⟩,
 oM 2 37] L24)
 (.ret)))),
 [.tmp 2]⟩

-- wagebook/wagebooklaw13.check
def L25 : List Nat := [0, 1, 2, 3, 4, 9]
def c25 : CF := ⟨26,
 .seq (.region false [⟨some 1, none, .eff (.box (some 1)) [.tmp 0]⟩,
 ⟨some 2, none, .rd .mov [.pv (.int .i64 0)]⟩] L25)
 (.seq (.region false [⟨some 3, none, .rd .mov [.pv .nilSl]⟩] L25)
 (.seq (.seq (.region false [⟨some 4, none, .rd .mov [.pv (.int .i64 0)]⟩] L25)
 (.block 0
 (.loop
 (.seq (.seq (.region false [oM 5 4,
 oF 0 6 1,
 oL 7 6,
 ⟨some 8, none, .rd .lenL [.tmp 7]⟩,
 ⟨some 9, none, .rd (.bin .lss) [.tmp 5, .tmp 8]⟩] L25)
 (.cond (.tmp 9)
 (.skip)
 (.exit 0)))
 (.seq (.block 1
 (.region false [oM 12 3,
 oF 0 13 1,
 oL 14 13,
 oM 15 4,
 ⟨some 16, none, .rd (.idxAddr (some 4)) [.tmp 14, .tmp 15]⟩,
 oF 2 17 16,
 oL 18 17,
 ⟨some 19, none, .call (.pv (.fn 53 [] [])) [.tmp 18]⟩,
 ⟨some 20, none, .eff (.lit none false) [.tmp 19]⟩,
 ⟨some 21, none, .eff (.append none 1) [.tmp 12, .tmp 20]⟩,
 oM 3 21] L25))
 (.region false [oM 10 4,
 ⟨some 11, none, .rd (.bin .add) [.tmp 10, .pv (.int .i64 1)]⟩,
 oM 4 11] L25))))))
 (.seq (.region false [⟨some 22, none, .rd (.load (some 1)) [.tmp 1]⟩,
 ⟨some 23, none, .call (.pv (.fn 23 [] [])) [.tmp 22]⟩,
 oM 24 3,
 ⟨some 25, none, .call (.pv (.fn 54 [] [])) [.tmp 23, .tmp 24]⟩,
 oM 2 25] L25)
 (.ret)))),
 [.tmp 2]⟩

-- wagebook/wagebooklaw13.ExprChecks
theorem k24 : compileF Tryd.prog [] L24 Tryd.f24 = some c24 := by kernel_rfl
theorem k25 : compileF Tryd.prog [] L25 Tryd.f25 = some c25 := by kernel_rfl
end Go.Proofs.YthekpjhffciakaaDoor

namespace Go.Proofs.YthekpjhffciakaaDoor
open Go PG Go.Proofs Go.Shelf
set_option linter.unusedSimpArgs false
set_option linter.unusedVariables false
set_option maxHeartbeats 4000000
set_option maxRecDepth 100000
def namesV (l : List Nd) : List (List UInt8) := (l.filter fun n => decide (n.op = 1)).map (·.name)
theorem namesV_snoc (l : List Nd) (n : Nd) : namesV (l ++ [n]) = namesV l ++ (if n.op = 1 then [n.name] else []) := by
  unfold namesV
  rw [List.filter_append, List.map_append]
  by_cases h : n.op = 1
  · simp [h]
  · simp [h]
end Go.Proofs.YthekpjhffciakaaDoor

namespace Go.Proofs.YthekpjhffciakaaDoor
open Go PG Go.Proofs
set_option linter.unusedSimpArgs false
set_option linter.unusedVariables false
set_option maxRecDepth 100000
theorem not_lt {a b : List UInt8} (h : ¬ a < b) : b ≤ a := h
theorem lt_tr {a b c : List UInt8} (h : a < b) (k : b < c) : a < c := List.lt_trans h k
theorem bl_iff (a b : List UInt8) : Op.bytesLess a b = true ↔ a < b := by rw [bytesLess_eq]; simp
/-- Does a name stand behind the last one that was found? -/
def pastB (out : List (List UInt8)) (x : List UInt8) : Bool := decide (out.length = 0) || !(Op.bytesLess x (out.getD (out.length - 1) []) || decide (x = out.getD (out.length - 1) []))
end Go.Proofs.YthekpjhffciakaaDoor

namespace Go.Proofs.YthekpjhffciakaaDoor
open Go PG Go.Proofs
set_option linter.unusedSimpArgs false
set_option linter.unusedVariables false
set_option maxHeartbeats 4000000
set_option maxRecDepth 100000
variable {G : Globs}
theorem v52 (l : List Nd) (hl : l.length ≤ 256) (hne : l ≠ []) (hw : wfK l 0) (hkl : ∀ n ∈ l, n.kids.length ≤ 256) : VCalls Tryd.prog G 52 [.list (some 4) (l.map ndP), .int .i64 ((l.length : Int) - 1)] (.int .i64 (depthM l)) := by
  refine VCalls.of_PW Tryd.func52 k52 mix (by simp [c52]) ?_
  simp only [c52, L52, CC, argE]
  have hl0 : 0 < l.length := List.length_pos_iff.2 hne
  have hm1 : ((8 : Nat) : Int) * (l.length : Int) ≤ 281474976710656 := by omega
  have hm2 : (l.length : Int) ≤ 9223372036854775807 := by omega
  have hm3 : 0 ≤ (l.length : Int) := by omega
  have wn : IntKind.i64.wrap ((l.length : Int) - 1 + 1) = l.length := by rw [IntWalk.i64_in _ (by omega)]; omega
  repeat' (first | exact True.intro | (refine PW.seqK ?_; intro K hK) | refine stp ?_ | refine seqK_n ‹_› ?_ | refine seqK_r ‹_› ?_ | refine seqK_e ‹_› ?_ | exact schedW_stop_i | refine schK_n ‹_› ?_ | (refine PW.cond rfl ?_ ?_ <;> intro hcond <;> (try contradiction) <;> try simp only [DD] at hcond) | (refine gd_i ?_; intro hg; try simp only [hg]) | (refine ari ?_; first | omega | (simp only [DD, LL] <;> omega) | (go_unwrap; omega)) | ((first | refine stq ?_ | show (_ : Post) _ _ _ | (refine schedW_alt_k ?_ ?_; intro K hK)); focus (simp only [List.length_map, wn, hm1, hm2, hm3, Int.le_refl, SA, Nat.reduceAdd, reduceIte, Nat.reduceEqDiff, Nat.reduceBEq, reduceCtorEq]; (try go_unwrap; try simp only [List.length_map, wn, hm1, hm2, hm3, Int.le_refl, RR, reduceCtorEq]))) | refine And.intro ?_ ?_ | exact Or.inr ⟨rfl, Nat.le_refl _⟩ | exact (fun h => Bool.noConfusion h))
  refine PW.loop (σ := Nat × List Int) [0, 1, 5, 6] (fun s => [.list (some 4) (l.map ndP), .int .i64 ((l.length : Int) - 1), .sl none 0 l.length, .int .i64 s.1])
    (fun s => [some (.row none (rowV s.2 l.length))])
    (fun s => s.1 ≤ l.length ∧ s.2.length = s.1 ∧ (∀ x ∈ s.2, 0 ≤ x ∧ x ≤ s.1) ∧ wfK (l.drop s.1) s.1 ∧ depthsM l [] = depthsM (l.drop s.1) s.2) (fun s => l.length - s.1) (0, []) ?_ ?_ ⟨by simp, by simp, by simp, by simpa using hw, by simp⟩ ?_
  · simp only [SA, Nat.reduceAdd, reduceIte, Nat.reduceEqDiff, Nat.reduceBEq, reduceCtorEq, List.length_map, Int.toNat_natCast]; rfl
  · simp [rowV]
  rintro ⟨i, acc⟩ ⟨hi, hal, hb, hwf, hr⟩
  simp only at hi hal hb hwf hr
  simp only [List.zip_cons_cons, List.zip_nil_left]
  rcases Nat.lt_or_ge i l.length with h | h
  · obtain ⟨n, hd, hn, hg⟩ := drop_at h
    rw [hd] at hr hwf
    rw [depthsM] at hr
    obtain ⟨hwk, hwf⟩ := hwf
    have hd' : decide ((i : Int) ≤ (l.length : Int) - 1) = true := by simp only [decide_eq_true_eq]; omega
    rw [rowV_M (by omega)]
    have hgn := ((hg ndP).1).trans (ndP1 n)
    have hkn := hkl n (List.mem_of_getElem? hn)
    have ha := rowM_at acc 0 l.length
    rw [hal] at ha
    have hlen := rowM_len (m := 0) (show acc.length < l.length by omega)
    have hset := rowM_set acc 0 1 l.length
    rw [hal] at hset
    repeat' (first | exact True.intro | (refine PW.seqK ?_; intro K hK) | refine stp ?_ | refine seqK_n ‹_› ?_ | refine seqK_r ‹_› ?_ | refine seqK_e ‹_› ?_ | exact schedW_stop_i | refine schK_n ‹_› ?_ | (refine PW.cond rfl ?_ ?_ <;> intro hcond <;> (try contradiction) <;> try simp only [DD] at hcond) | (refine gd_i ?_; intro hg; try simp only [hg]) | (refine ari ?_; first | omega | (simp only [DD, LL] <;> omega) | (go_unwrap; omega)) | ((first | refine stq ?_ | show (_ : Post) _ _ _ | (refine schedW_alt_k ?_ ?_; intro K hK)); focus (simp only [hd', hgn, ha, hlen, hset, List.length_map, SA, Nat.reduceAdd, reduceIte, Nat.reduceEqDiff, Nat.reduceBEq, reduceCtorEq]; (try go_unwrap; try simp only [hd', hgn, ha, hlen, hset, List.length_map, RR, reduceCtorEq]))) | refine And.intro ?_ ?_ | exact Or.inr ⟨rfl, Nat.le_refl _⟩ | exact (fun h => Bool.noConfusion h))
    refine PW.loop (σ := Nat × Int) [0, 1, 5, 6, 7] (fun s => [.list (some 4) (l.map ndP), .int .i64 ((l.length : Int) - 1), .sl none 0 l.length, .int .i64 i, .int .i64 s.1])
      (fun s => [some (.row none (rowM acc (s.2 + 1) l.length))])
      (fun s => s.1 ≤ n.kids.length ∧ 0 ≤ s.2 ∧ s.2 ≤ i ∧ kidsMax acc n.kids 0 = kidsMax acc (n.kids.drop s.1) s.2) (fun s => n.kids.length - s.1) (0, 0) ?_ (by simp) ⟨by simp, by simp, by simp, by simp⟩ ?_
    · simp only [SA, Nat.reduceAdd, reduceIte, Nat.reduceEqDiff, Nat.reduceBEq, reduceCtorEq, List.length_map]; rfl
    rintro ⟨j, m⟩ ⟨hj, hm0, hmi, hk⟩
    simp only at hj hm0 hmi hk
    simp only [List.zip_cons_cons, List.zip_nil_left]
    clear ha hlen hset
    rcases Nat.lt_or_ge j n.kids.length with h' | h'
    · obtain ⟨k, hkd, hkn', hkg⟩ := drop_at h'
      rw [hkd, kidsMax] at hk
      have hd2 : decide ((j : Int) < n.kids.length) = true := by simp only [decide_eq_true_eq]; omega
      obtain ⟨hk0, hki⟩ := hwk k (List.mem_of_getElem? hkn')
      have hkt : k.toNat < acc.length := by omega
      have ha := rowM_at acc (m + 1) l.length
      rw [hal] at ha
      have hb' := rowM_lt (m + 1) l.length hkt
      have hlen := rowM_len (m := m + 1) (show acc.length < l.length by omega)
      have hmx : max (m + 1) (1 + acc.getD k.toNat 0) = max m (acc.getD k.toNat 0) + 1 := by omega
      have hset := rowM_set acc (m + 1) (max (m + 1) (1 + acc.getD k.toNat 0)) l.length
      rw [hal, hmx] at hset
      have hgb := getD_bnd hb (by omega) k.toNat
      have wk : IntKind.i64.wrap (1 + acc.getD k.toNat 0) = 1 + acc.getD k.toNat 0 := IntWalk.i64_in _ (by omega)
      repeat' (first | exact True.intro | (refine PW.seqA (E := ?_) (M := ?_) ?_ ?_; rotate_left 2) | exact mergeQ_mk _ _ | (refine PW.seqK ?_; intro K hK) | refine stp ?_ | refine seqK_n ‹_› ?_ | refine seqK_r ‹_› ?_ | refine seqK_e ‹_› ?_ | exact schedW_stop_i | refine schK_n ‹_› ?_ | (refine PW.cond rfl ?_ ?_ <;> intro hcond <;> (try contradiction) <;> try simp only [DD] at hcond) | (refine gd_i ?_; intro hg; try simp only [hg]) | (refine ari ?_; first | omega | (simp only [DD, LL] <;> omega) | (go_unwrap; omega)) | ((first | refine stq ?_ | show (_ : Post) _ _ _ | (refine schedW_alt_k ?_ ?_; intro K hK)); focus (simp only [hd2, hgn, wk, hmx, (hkg (PV.int .i64)).1, List.length_map, ha, hb', hlen, hset, SA, Nat.reduceAdd, reduceIte, Nat.reduceEqDiff, Nat.reduceBEq, reduceCtorEq]; (try go_unwrap; try simp only [hd2, hgn, wk, hmx, (hkg (PV.int .i64)).1, List.length_map, ha, hb', hlen, hset, RR, reduceCtorEq]))) | refine And.intro ?_ ?_ | exact Or.inr ⟨rfl, Nat.le_refl _⟩ | exact (fun h => Bool.noConfusion h))
      all_goals exact ⟨(j + 1, max m (acc.getD k.toNat 0)), rfl, rfl, ⟨h', by simp only; omega, by simp only; omega, hk⟩, by simp only; omega⟩
    · have hd2 : decide ((j : Int) < n.kids.length) = false := by simp only [decide_eq_false_iff_not]; omega
      rw [List.drop_eq_nil_of_le h', kidsMax] at hk
      repeat' (first | exact True.intro | (refine PW.seqK ?_; intro K hK) | refine stp ?_ | refine seqK_n ‹_› ?_ | refine seqK_r ‹_› ?_ | refine seqK_e ‹_› ?_ | exact schedW_stop_i | refine schK_n ‹_› ?_ | (refine PW.cond rfl ?_ ?_ <;> intro hcond <;> (try contradiction) <;> try simp only [DD] at hcond) | (refine gd_i ?_; intro hg; try simp only [hg]) | (refine ari ?_; first | omega | (simp only [DD, LL] <;> omega) | (go_unwrap; omega)) | ((first | refine stq ?_ | show (_ : Post) _ _ _ | (refine schedW_alt_k ?_ ?_; intro K hK)); focus (simp only [hd2, hgn, List.length_map, SA, Nat.reduceAdd, reduceIte, Nat.reduceEqDiff, Nat.reduceBEq, reduceCtorEq]; (try go_unwrap; try simp only [hd2, hgn, List.length_map, RR, reduceCtorEq]))) | refine And.intro ?_ ?_ | exact Or.inr ⟨rfl, Nat.le_refl _⟩ | exact (fun h => Bool.noConfusion h))
      all_goals exact ⟨(i + 1, acc ++ [m + 1]), rfl, by simp only [rowM_V], ⟨h, by simp [hal], fun x hx => by
        rcases List.mem_append.1 hx with hx | hx
        · have := hb x hx; simp only; omega
        · simp at hx; subst hx; simp only; omega, hwf, by rw [hr, hk]⟩, by simp only; omega⟩
  · have hd' : decide ((i : Int) ≤ (l.length : Int) - 1) = false := by simp only [decide_eq_false_iff_not]; omega
    rw [List.drop_eq_nil_of_le h, depthsM] at hr
    have hlast : (rowV acc l.length)[l.length - 1]? = some (.int .i64 (acc.getD (l.length - 1) 0)) := rowV_lt _ (by omega)
    have hti : ((l.length : Int) - 1).toNat = l.length - 1 := by omega
    have hvl := rowV_len (acc := acc) (N := l.length) (by omega)
    repeat' (first | exact True.intro | (refine PW.seqK ?_; intro K hK) | refine stp ?_ | refine seqK_n ‹_› ?_ | refine seqK_r ‹_› ?_ | refine seqK_e ‹_› ?_ | exact schedW_stop_i | refine schK_n ‹_› ?_ | (refine PW.cond rfl ?_ ?_ <;> intro hcond <;> (try contradiction) <;> try simp only [DD] at hcond) | (refine gd_i ?_; intro hg; try simp only [hg]) | (refine ari ?_; first | omega | (simp only [DD, LL] <;> omega) | (go_unwrap; omega)) | ((first | refine stq ?_ | show (_ : Post) _ _ _ | (refine schedW_alt_k ?_ ?_; intro K hK)); focus (simp only [hd', hti, hlast, hvl, List.length_map, SA, Nat.reduceAdd, reduceIte, Nat.reduceEqDiff, Nat.reduceBEq, reduceCtorEq]; (try go_unwrap; try simp only [hd', hti, hlast, hvl, List.length_map, RR, reduceCtorEq]))) | refine And.intro ?_ ?_ | exact Or.inr ⟨rfl, Nat.le_refl _⟩ | exact (fun h => Bool.noConfusion h))
    all_goals first | exact .inl ⟨rfl, rfl⟩ | (rw [depthM, hr])
end Go.Proofs.YthekpjhffciakaaDoor

