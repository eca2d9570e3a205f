import Derived.Lib.Mul64
import Derived.Test.YthjkmhfiffojeaaGreatDoorQ17
namespace Go.Proofs.YthjkmhfiffojeaaGreatDoor
open Go PG Go.Proofs
open Nat (reduceAdd reduceEqDiff)
set_option linter.unusedSimpArgs false
set_option linter.unusedVariables false
set_option maxRecDepth 100000
def rn (i : Nat) : List UInt8 := [114] ++ jIB i
def exW (k i : Nat) : Ex := if k % (i + 3) = i then .var [120] else if k % (i + 3) = i + 1 then .var [121] else if i < k % (i + 3) then .num (nmP (jIB (k % 7) ++ [46, 50, 53])) else .var (rn (k % (i + 3)))
def exT (m : Nat) (A B C : Ex) : Ex :=
 if m = 0 then .two 3 (.two 2 A B) C
 else if m = 1 then .two 4 (.two 4 A (.num (nmP [48, 46, 53]))) B
 else if m = 2 then .two 5 A (.two 3 B (.two 3 C (.num (nmP [49]))))
 else if m = 3 then .two 2 (.two 6 A B) C
 else if m = 4 then .thr (.two 8 A B) C A
 else if m = 5 then .two 4 (.two 3 A B) (.two 2 C (.num (nmP [50])))
 else .two 9 A B
def exF (r : Fr) (i : Nat) : Ex := exT (r.o % 7) (exW r.a i) (exW r.b i) (exW r.c i)
def Fm (lv : Nat) (s : List UInt8) (e : Ex) : Prop := ∃ w, lx s = some w ∧ D nmP lv w e ∧ e.ok
theorem Fm.fac {s e} (h : Fm 0 s e) : Fm 1 s e := by obtain ⟨w, h1, h2, h3⟩ := h; exact ⟨w, h1, .fac h2, h3⟩
theorem Fm.pro {s e} (h : Fm 1 s e) : Fm 2 s e := by obtain ⟨w, h1, h2, h3⟩ := h; exact ⟨w, h1, .pro h2, h3⟩
theorem Fm.par {s e} (h : Fm 2 s e) : Fm 0 ([40] ++ s ++ [41]) e := by
 obtain ⟨w, h1, h2, h3⟩ := h
 exact ⟨_, by have := kG4 h1 jWF; simpa using this, .par h2, h3⟩
theorem Fm.mul {s r a b} (h : Fm 1 s a) (k : Fm 0 r b) : Fm 1 (s ++ [42] ++ r) (.two 4 a b) := by
 obtain ⟨w, h1, h2, h3⟩ := h
 obtain ⟨v, k1, k2, k3⟩ := k
 exact ⟨_, jNN (by decide) jWE h1 k1, .mul h2 k2, by decide, by decide, by decide, h3, k3⟩
theorem Fm.add {s r a b} (h : Fm 2 s a) (k : Fm 1 r b) : Fm 2 (s ++ [43] ++ r) (.two 2 a b) := by
 obtain ⟨w, h1, h2, h3⟩ := h
 obtain ⟨v, k1, k2, k3⟩ := k
 exact ⟨_, jNN (by decide) kBZ h1 k1, .add h2 k2, by decide, by decide, by decide, h3, k3⟩
theorem Fm.sub {s r a b} (h : Fm 2 s a) (k : Fm 1 r b) : Fm 2 (s ++ [45] ++ r) (.two 3 a b) := by
 obtain ⟨w, h1, h2, h3⟩ := h
 obtain ⟨v, k1, k2, k3⟩ := k
 exact ⟨_, jNN (by decide) jWG h1 k1, .sub h2 k2, by decide, by decide, by decide, h3, k3⟩
theorem Fm.jS0 {x s r : List UInt8} {i : Nat} {a b : Ex} (hx : isName x = true) (hc : jGF x = some i) (hk : jMJ (i + 5) = 2) (hi : i <= 4) (h : Fm 2 s a) (k : Fm 2 r b) : Fm 0 (x ++ [40] ++ s ++ [44] ++ r ++ [41]) (.two (i + 5) a b) := by
 obtain ⟨w, h1, h2, h3⟩ := h
 obtain ⟨v, k1, k2, k3⟩ := k
 exact ⟨_, jWI hx h1 k1, .jS0 hc hk h2 k2, by omega, by omega, (fun e => by rw [e] at hk; cases hk), h3, k3⟩
theorem Fm.kDS {x s r t : List UInt8} {a b d : Ex} (hx : isName x = true) (hc : jGF x = some 2) (h : Fm 2 s a) (k : Fm 2 r b) (j : Fm 2 t d) : Fm 0 (x ++ [40] ++ s ++ [44] ++ r ++ [44] ++ t ++ [41]) (.thr a b d) := by
 obtain ⟨w, h1, h2, h3⟩ := h
 obtain ⟨v, k1, k2, k3⟩ := k
 obtain ⟨u, j1, j2, j3⟩ := j
 exact ⟨_, jWH hx h1 k1 j1, .kDS hc h2 k2 j2, h3, k3, j3⟩
theorem Fm.num {x : List UInt8} (v : Nat) (h0 : jAE (x.getD 0 0) = true) (h : jHE x = .ok (x.length, v)) (hv : nmP x = v) (hk : v <= 1000000000000000000) (h1 : v % 100 = 0) : Fm 0 x (.num (nmP x)) :=
 ⟨_, kB4 h0 h, .num, by omega, by omega, by rw [hv, Int.tmod_eq_emod_of_nonneg (by omega)]; omega⟩
theorem Fm.var {x : List UInt8} (h : isName x = true) : Fm 0 x (.var x) := ⟨_, jO6 h, .var, h⟩
theorem kEQ : ∀ i, i < 13 -> isName (rn i) = true := by decide
theorem jIP (k i : Nat) (hi : i <= 12) : Fm 0 (jJU k i) (exW k i) := by
 have hm := Nat.mod_lt k (show 0 < i + 3 by omega)
 unfold jJU exW
 split
 ·exact .var (by decide)
 split
 ·exact .var (by decide)
 split
 ·have h7 := Nat.mod_lt k (show 0 < 7 by omega)
  generalize k % 7 = d at *
  have : d = 0 ∨ d = 1 ∨ d = 2 ∨ d = 3 ∨ d = 4 ∨ d = 5 ∨ d = 6 := by omega
  rcases this with rfl | rfl | rfl | rfl | rfl | rfl | rfl
  ·exact .num 250000 (by kernel_rfl) (by kernel_rfl) (by kernel_rfl) (by decide) (by decide)
  ·exact .num 1250000 (by kernel_rfl) (by kernel_rfl) (by kernel_rfl) (by decide) (by decide)
  ·exact .num 2250000 (by kernel_rfl) (by kernel_rfl) (by kernel_rfl) (by decide) (by decide)
  ·exact .num 3250000 (by kernel_rfl) (by kernel_rfl) (by kernel_rfl) (by decide) (by decide)
  ·exact .num 4250000 (by kernel_rfl) (by kernel_rfl) (by kernel_rfl) (by decide) (by decide)
  ·exact .num 5250000 (by kernel_rfl) (by kernel_rfl) (by kernel_rfl) (by decide) (by decide)
  ·exact .num 6250000 (by kernel_rfl) (by kernel_rfl) (by kernel_rfl) (by decide) (by decide)
 ·exact .var (kEQ _ (by omega))
theorem kCP {m : Nat} {a b c : List UInt8} {A B C : Ex} (ha : Fm 0 a A) (hb : Fm 0 b B) (hc : Fm 0 c C) : Fm 2 (jY4 m a b c) (exT m A B C) := by
 have h05 : Fm 0 [48, 46, 53] (.num (nmP [48, 46, 53])) := .num 500000 (by kernel_rfl) (by kernel_rfl) (by kernel_rfl) (by decide) (by decide)
 have h1 : Fm 0 [49] (.num (nmP [49])) := .num 1000000 (by kernel_rfl) (by kernel_rfl) (by kernel_rfl) (by decide) (by decide)
 have h2 : Fm 0 [50] (.num (nmP [50])) := .num 2000000 (by kernel_rfl) (by kernel_rfl) (by kernel_rfl) (by decide) (by decide)
 have u : ∀ {s e}, Fm 0 s e -> Fm 2 s e := fun h => h.fac.pro
 unfold jY4 exT
 split
 ·exact ((u ha).add hb.fac).sub hc.fac
 split
 ·have := ((ha.fac.mul h05).mul hb).pro
  simpa using this
 split
 ·have := u (Fm.jS0 (x := [108, 101, 97, 115, 116]) (i := 0) (by decide) (by decide) (by decide) (by decide) (u ha) ((u hb).sub ((u hc).sub h1.fac).par.fac))
  simpa using this
 split
 ·have := (u (Fm.jS0 (x := [109, 111, 115, 116]) (i := 1) (by decide) (by decide) (by decide) (by decide) (u ha) (u hb))).add hc.fac
  simpa using this
 split
 ·have := u (Fm.kDS (x := [105, 102]) (by decide) (by decide) (u (Fm.jS0 (x := [108, 101, 115, 115]) (i := 3) (by decide) (by decide) (by decide) (by decide) (u ha) (u hb))) (u hc) (u ha))
  simpa using this
 split
 ·have := (((u ha).sub hb.fac).par.fac.mul ((u hc).add h2.fac).par).pro
  simpa using this
 ·have := u (Fm.jS0 (x := [101, 113, 117, 97, 108]) (i := 4) (by decide) (by decide) (by decide) (by decide) (u ha) (u hb))
  simpa using this
theorem jZJ (k i : Nat) : (exW k i).size = 1 ∧ (exW k i).deep = 1 := by
 unfold exW
 split
 ·exact ⟨rfl, rfl⟩
 split
 ·exact ⟨rfl, rfl⟩
 split <;> exact ⟨rfl, rfl⟩
theorem jWU (r : Fr) (i : Nat) : (exF r i).size <= 7 ∧ (exF r i).deep <= 5 := by
 obtain ⟨a1, a2⟩ := jZJ r.a i
 obtain ⟨b1, b2⟩ := jZJ r.b i
 obtain ⟨c1, c2⟩ := jZJ r.c i
 unfold exF exT
 split
 ·simp only [Ex.size, Ex.deep, a1, a2, b1, b2, c1, c2]; omega
 split
 ·simp only [Ex.size, Ex.deep, a1, a2, b1, b2, c1, c2]; omega
 split
 ·simp only [Ex.size, Ex.deep, a1, a2, b1, b2, c1, c2]; omega
 split
 ·simp only [Ex.size, Ex.deep, a1, a2, b1, b2, c1, c2]; omega
 split
 ·simp only [Ex.size, Ex.deep, a1, a2, b1, b2, c1, c2]; omega
 split
 ·simp only [Ex.size, Ex.deep, a1, a2, b1, b2, c1, c2]; omega
 ·simp only [Ex.size, Ex.deep, a1, a2, b1, b2, c1, c2]; omega
theorem jUH (o : Nat) : (jCX o).length <= 5 := by
 unfold jCX
 by_cases h : ((o : Int)).toNat < jP7.length
 ·have : ∀ x ∈ jP7, x.length <= 5 := by decide
  simp only [List.getD, List.getElem?_eq_getElem h, Option.getD_some]
  exact this _ (List.getElem_mem h)
 ·simp only [List.getD, List.getElem?_eq_none (Nat.le_of_not_lt h), Option.getD_none]
  simp
theorem jGL : ∀ (e : Ex) (z : Int), e.ok -> (textE e z).length <= 50 * e.size
 | .num v, z, h => by
  have := kBL (n := v.toNat) (by have := h.2.1; omega)
  simp only [textE, Ex.size]; omega
 | .var x, z, h => by
  have := jLM h
  simp only [textE, Ex.size]; omega
 | .two o a b, z, h => by
  have ha := fun z => jGL a z h.2.2.2.1
  have hb := fun z => jGL b z h.2.2.2.2
  have hw := jUH o
  simp only [textE, Ex.size]
  split
  ·have := ha 0; have := hb 0
   simp only [List.length_append, List.length_cons, List.length_nil]; omega
  ·have := ha (jAJ o); have := hb (jAJ o + 1)
   split <;> simp only [List.length_append, List.length_cons, List.length_nil] <;> omega
 | .thr a b d, z, h => by
  have ha := jGL a 0 h.1
  have hb := jGL b 0 h.2.1
  have hd := jGL d 0 h.2.2
  have hw := jUH 7
  simp only [textE, Ex.size, List.length_append, List.length_cons, List.length_nil]
  have hw : (jCX 7).length <= 5 := hw
  omega
structure Txt (r : Fr) (i : Nat) (nd : List Nd) (s : List UInt8) : Prop where
 one : jK6 (textF r i) = .ok nd
 again : jK6 s = .ok nd
 ok : jMH nd
 text : jDU nd 16 ((nd.length : Int) - 1) 0 = s
 fits : jHG nd 16 ((nd.length : Int) - 1)
 len : s.length <= 4096
theorem kGH (r : Fr) (i : Nat) (hi : i <= 12) : Txt r i ((exF r i).nds 0) (textE (exF r i) 0) := by
 obtain ⟨w, h1, h2, hok⟩ : Fm 2 (textF r i) (exF r i) := kCP (jIP _ _ hi) (jIP _ _ hi) (jIP _ _ hi)
 have hl : (textF r i).length <= 4096 := by
  have lA := jDZ r.a i
  have lB := jDZ r.b i
  have lC := jDZ r.c i
  unfold textF jY4
  repeat' split
  all_goals simp only [List.length_append, List.length_cons, List.length_nil]; omega
 obtain ⟨hs, hd⟩ := jWU r i
 generalize exF r i = e at *
 have hO : jMH (e.nds 0) := ⟨e, hok, rfl, by omega, by omega⟩
 have hT := jGL e 0 hok
 obtain ⟨t1, t2, t3, t4, t5⟩ := kHX hO.check
 refine ⟨?_, jYD hok (by omega) (by omega) (by omega), hO, ?_, t1, by omega⟩
 ·rw [jRC hl h1 h2]
  unfold kNI
  rw [if_neg (by omega), if_neg (by omega)]
 ·rw [jEY t2 0 t1, kC0 hok (by omega)]
def Ex.vs : Ex -> List (List UInt8)
 | .num _ => []
 | .var x => [x]
 | .two _ a b => a.vs ++ b.vs
 | .thr a b d => a.vs ++ (b.vs ++ d.vs)
theorem jRN (a b : List Nd) : jBL (a ++ b) = jBL a ++ jBL b := by simp [jBL]
theorem jE8 : ∀ (e : Ex) (c : Nat), e.ok -> jBL (e.nds c) = e.vs
 | .num _, _, _ => rfl
 | .var _, _, _ => rfl
 | .two o a b, c, h => by
  have : ¬ (o : Int) = 1 := by have := h.1; omega
  simp only [Ex.nds, Ex.vs, jRN, jE8 a _ h.2.2.2.1, jE8 b _ h.2.2.2.2]
  simp [jBL, this]
 | .thr a b d, c, h => by
  simp only [Ex.nds, Ex.vs, jRN, jE8 a _ h.1, jE8 b _ h.2.1, jE8 d _ h.2.2]
  simp [jBL]
def NmI (i : Nat) (s : List UInt8) : Prop := s = [120] ∨ s = [121] ∨ ∃ j, j < i ∧ s = rn j
theorem jS9 (k i : Nat) : ∀ s ∈ (exW k i).vs, NmI i s := by
 unfold exW
 split
 ·intro s h; simp [Ex.vs] at h; exact .inl h
 split
 ·intro s h; simp [Ex.vs] at h; exact .inr (.inl h)
 split
 ·intro s h; simp [Ex.vs] at h
 ·intro s h; simp only [Ex.vs, List.mem_singleton] at h; exact .inr (.inr ⟨_, by omega, h⟩)
theorem kPE (r : Fr) (i : Nat) : ∀ s ∈ (exF r i).vs, NmI i s := by
 have ha := jS9 r.a i
 have hb := jS9 r.b i
 have hc := jS9 r.c i
 have key : ∀ m (A B C : Ex), ∀ s ∈ (exT m A B C).vs, s ∈ A.vs ∨ s ∈ B.vs ∨ s ∈ C.vs := by
  intro m A B C s
  unfold exT
  repeat' split
  all_goals (simp only [Ex.vs, List.mem_append, List.append_nil]; intro h; grind)
 intro s h
 rcases key _ _ _ _ s h with h | h | h
 ·exact ha s h
 ·exact hb s h
 ·exact hc s h
theorem kLG : ∀ i, i < 13 -> ∀ j, j < 13 -> rn i = rn j -> i = j := by decide
theorem kLF : ∀ i, i < 13 -> rn i ≠ [120] ∧ rn i ≠ [121] := by decide
set_option maxHeartbeats 4000000
structure Rl where
 name : List UInt8
 tree : List Nd
 deriving Inhabited
def rlP (r : Rl) : PV := .agg [.str r.name, .list (some 4) (r.tree.map ndP)]
abbrev jU6 (rs : List Rl) : PV := .list (some 2) (rs.map rlP)
theorem jS7 (a b : PV) : cut (some 2) (some 1) (.agg [a, b]) 1 = .agg [b] := rfl
structure kSM (r : Rl) : Prop where
 len : r.tree.length <= 1048576
 sz : ∀ n ∈ r.tree, n.name.length <= 9223372036854775807 ∧ n.kids.length <= 9223372036854775807
 nm : r.name.length <= 9223372036854775807
section
theorem E56 : Ent Tryz.prog 56 := ⟨Tryz.f56, Tryz.func56, by kernel_rfl, by kernel_rfl⟩
theorem E57 : Ent Tryz.prog 57 := ⟨Tryz.f57, Tryz.func57, by kernel_rfl, by kernel_rfl⟩
theorem E91 : Ent Tryz.prog 91 := ⟨Tryz.f91, Tryz.func91, by kernel_rfl, by kernel_rfl⟩
theorem E92 : Ent Tryz.prog 92 := ⟨Tryz.f92, Tryz.func92, by kernel_rfl, by kernel_rfl⟩
theorem kNC : Ent Tryz.prog 109 := ⟨Tryz.f109, Tryz.func109, by kernel_rfl, by kernel_rfl⟩
theorem kD4 : Ent Tryz.prog 110 := ⟨Tryz.f110, Tryz.func110, by kernel_rfl, by kernel_rfl⟩
theorem kN6 : Ent Tryz.prog 111 := ⟨Tryz.f111, Tryz.func111, by kernel_rfl, by kernel_rfl⟩
theorem E88 : Ent Tryz.prog 88 := ⟨Tryz.f88, Tryz.func88, by kernel_rfl, by kernel_rfl⟩
theorem kR8 : Ent Tryz.prog 120 := ⟨Tryz.f120, Tryz.func120, by kernel_rfl, by kernel_rfl⟩
variable {G : jA3}
theorem V92 (b : Bool) : jAB Tryz.prog G 92 [.bool b] (.int .i64 (if b = true then 1000000 else 0)) := by
 refine jAB.jAT Tryz.func92 k92 mix (by simp [c92]) ?_
 simp only [c92, L92, CC, jBW]
 cases b
 ·repeat' (first | exact clo | (refine sqI ?_; intros) | refine stp ?_ | (refine cnd rfl ?_ ?_ <;> intro hcond <;> (try contradiction) <;> try simp only [DD] at hcond) | (refine jAG ?_; intro hg; try simp only [hg]) | (refine saI ?_ ?_; intros) | (refine ari ?_; first | omega | (simp only [DD, LL] <;> omega) | (go_unwrap; omega) | (simp only [DD] at hg; omega)) | (refine stq ?_; focus (simp only [SA, reduceAdd, reduceIte, reduceEqDiff, Nat.reduceBEq, reduceCtorEq]; (try go_unwrap; try simp only [RR, reduceCtorEq]))) | refine And.intro ?_ ?_)
 ·repeat' (first | exact clo | (refine sqI ?_; intros) | refine stp ?_ | (refine cnd rfl ?_ ?_ <;> intro hcond <;> (try contradiction) <;> try simp only [DD] at hcond) | (refine jAG ?_; intro hg; try simp only [hg]) | (refine saI ?_ ?_; intros) | (refine ari ?_; first | omega | (simp only [DD, LL] <;> omega) | (go_unwrap; omega) | (simp only [DD] at hg; omega)) | (refine stq ?_; focus (simp only [SA, reduceAdd, reduceIte, reduceEqDiff, Nat.reduceBEq, reduceCtorEq]; (try go_unwrap; try simp only [RR, reduceCtorEq]))) | refine And.intro ?_ ?_)
def jMQ (v : Int) : Bool := decide (-1000000000000000000 <= v) && decide (v <= 1000000000000000000)
theorem V57 (v : Int) : jAB Tryz.prog G 57 [.int .i64 v] (.bool (jMQ v)) := by
 refine jAB.jAT Tryz.func57 k57 mix (by simp [c57]) ?_
 simp only [c57, L57, CC, jBW]
 repeat' (first | exact clo | (refine sqI ?_; intros) | refine stp ?_ | (refine cnd rfl ?_ ?_ <;> intro hcond <;> (try contradiction) <;> try simp only [DD] at hcond) | (refine jAG ?_; intro hg; try simp only [hg]) | (refine saI ?_ ?_; intros) | (refine ari ?_; first | omega | (simp only [DD, LL] <;> omega) | (go_unwrap; omega) | (simp only [DD] at hg; omega)) | (refine stq ?_; focus (simp only [SA, reduceAdd, reduceIte, reduceEqDiff, Nat.reduceBEq, reduceCtorEq]; (try go_unwrap; try simp only [RR, reduceCtorEq]))) | refine And.intro ?_ ?_)
 simp [jMQ]
theorem kQ0 (v : Int) (h1 : -9223372036854775808 <= v) (h2 : v <= 9223372036854775807) : jAB Tryz.prog G 110 [.int .i64 v] (.int .u64 (v.natAbs : Int)) := by
 refine jAB.jAT Tryz.func110 kRH mix (by simp [kPT]) ?_
 simp only [kPT, kKO, CC, jBW]
 repeat' (first | exact clo | (refine sqI ?_; intros) | refine stp ?_ | (refine cnd rfl ?_ ?_ <;> intro hcond <;> (try contradiction) <;> try simp only [DD] at hcond) | (refine jAG ?_; intro hg; try simp only [hg]) | (refine saI ?_ ?_; intros) | (refine ari ?_; first | omega | (simp only [DD, LL] <;> omega) | (go_unwrap; omega) | (simp only [DD] at hg; omega)) | (refine stq ?_; focus (simp only [SA, reduceAdd, reduceIte, reduceEqDiff, Nat.reduceBEq, reduceCtorEq]; (try go_unwrap; try simp only [RR, reduceCtorEq]))) | refine And.intro ?_ ?_)
 all_goals (first | (congr 1; omega) | (simp only [IntKind.wrap_u64, IntKind.wrap_i64]; congr 1; omega))
theorem kK9 (a : Nat) : (a : Int).fdiv (2 ^ min (Int.toNat 32) IntKind.u64.bits) = ((a / 4294967296 : Nat) : Int) := by
 rw [show min (Int.toNat 32) IntKind.u64.bits = 32 from rfl, show (2 : Int) ^ 32 = 4294967296 from rfl, Int.fdiv_eq_ediv_of_nonneg _ (by omega)]
 omega
theorem wrapN {a : Nat} (ha : a < 18446744073709551616) : IntKind.u64.wrap (a : Int) = (a : Int) := by rw [IntKind.wrap_u64]; omega
theorem wrapM (a : Nat) : IntKind.u64.wrap (a : Int) = ((a % 18446744073709551616 : Nat) : Int) := by rw [IntKind.wrap_u64]; omega
theorem mask32 {a : Nat} (ha : a < 18446744073709551616) : IntKind.u64.wrap ((BitVec.ofInt IntKind.u64.bits (a : Int) &&& BitVec.ofInt IntKind.u64.bits 4294967295).toNat : Int) = ((a % 4294967296 : Nat) : Int) := by
 have h1 : (BitVec.ofInt IntKind.u64.bits (a : Int) &&& BitVec.ofInt IntKind.u64.bits 4294967295).toNat = a % 4294967296 := by
  show (BitVec.ofInt 64 (a : Int) &&& BitVec.ofNat 64 4294967295).toNat = _
  rw [BitVec.ofInt_natCast, BitVec.toNat_and, BitVec.toNat_ofNat, BitVec.toNat_ofNat]
  rw [Nat.mod_eq_of_lt (show a < 2 ^ 64 by omega), Nat.mod_eq_of_lt (show 4294967295 < 2 ^ 64 by omega)]
  have := Nat.and_two_pow_sub_one_eq_mod a 32
  simpa using this
 rw [h1, wrapN (by omega)]
theorem mulN (a b : Nat) : (a : Int) * (b : Int) = ((a * b : Nat) : Int) := (Int.natCast_mul a b).symm
theorem addN (a b : Nat) : (a : Int) + (b : Int) = ((a + b : Nat) : Int) := (Int.natCast_add a b).symm
theorem kR4 (x y : Nat) (hx : x < 18446744073709551616) (hy : y < 18446744073709551616) : jAB Tryz.prog G 109 [.int .u64 x, .int .u64 y] (.tup [.int .u64 ((x * y / 18446744073709551616 : Nat) : Int), .int .u64 ((x * y % 18446744073709551616 : Nat) : Int)]) := by
 refine jAB.jAT Tryz.func109 kRI mix (by simp [c109]) ?_
 simp only [c109, jXL, CC, jBW]
 obtain ⟨bd, bt, bw, hhi⟩ := Lib.mul64_hi x y hx hy
 have ba := Lib.half_mul_le (a := x / 4294967296) (b := y / 4294967296) (by omega) (by omega)
 have bb := Lib.half_mul_le (a := x / 4294967296) (b := y % 4294967296) (by omega) (by omega)
 have bc := Lib.half_mul_le (a := x % 4294967296) (b := y / 4294967296) (by omega) (by omega)
 have ba' : x / 4294967296 * (y / 4294967296) < 18446744073709551616 := by omega
 have bb' : x / 4294967296 * (y % 4294967296) < 18446744073709551616 := by omega
 have bc' : x % 4294967296 * (y / 4294967296) < 18446744073709551616 := by omega
 have bh1 : x / 4294967296 * (y / 4294967296) + (x / 4294967296 * (y % 4294967296) + x % 4294967296 * (y % 4294967296) / 4294967296) / 4294967296 < 18446744073709551616 := by omega
 have bh : x / 4294967296 * (y / 4294967296) + (x / 4294967296 * (y % 4294967296) + x % 4294967296 * (y % 4294967296) / 4294967296) / 4294967296 + ((x / 4294967296 * (y % 4294967296) + x % 4294967296 * (y % 4294967296) / 4294967296) % 4294967296 + x % 4294967296 * (y / 4294967296)) / 4294967296 < 18446744073709551616 := by omega
 repeat' (first | exact clo | (refine sqI ?_; intros) | refine stp ?_ | (refine cnd rfl ?_ ?_ <;> intro hcond <;> (try contradiction) <;> try simp only [DD] at hcond) | (refine jAG ?_; intro hg; try simp only [hg]) | (refine saI ?_ ?_; intros) | (refine ari ?_; first | omega | (simp only [DD, LL] <;> omega) | (go_unwrap; omega) | (simp only [DD] at hg; omega)) | (refine stq ?_; focus (simp only [SA, reduceAdd, reduceIte, reduceEqDiff, Nat.reduceBEq, reduceCtorEq]; (try go_unwrap; try simp only [RR, reduceCtorEq]))) | refine And.intro ?_ ?_)
 simp only [mask32 hx, mask32 hy, kK9, mulN, addN, wrapN bd, wrapN bb', wrapN bt, mask32 bt, wrapN bc', wrapN bw, wrapN ba', wrapN bh1, wrapN bh, wrapM (x * y)]
 rw [hhi]
theorem V88 : jAB Tryz.prog G 88 [.int .u64 1000000] (.int .i64 20) := by
 refine jAB.jAT Tryz.func88 k88 mix (by simp [c88]) ?_
 have hw : IntKind.u8.wrap (Int.fdiv 1000000 (2 ^ min (Int.toNat 16) IntKind.u64.bits)) = 15 := by decide
 simp only [c88, L88, CC, jBW]
 repeat' (first | exact clo | (refine sqI ?_; intros) | refine stp ?_ | (refine cnd rfl ?_ ?_ <;> intro hcond <;> (try contradiction) <;> try simp only [DD] at hcond) | (refine jAG ?_; intro hg; try simp only [hg]) | (refine saI ?_ ?_; intros) | (refine ari ?_; first | omega | (simp only [DD, LL] <;> omega) | (go_unwrap; omega) | (simp only [DD] at hg; omega)) | (refine stq ?_; focus (simp only [Int.reduceLE, Int.reduceLT, decide_true, decide_false, hw, SA, reduceAdd, reduceIte, reduceEqDiff, Nat.reduceBEq, reduceCtorEq]; (try go_unwrap; try simp only [Int.reduceLE, Int.reduceLT, decide_true, decide_false, hw, RR, reduceCtorEq]))) | refine And.intro ?_ ?_)
 rfl
theorem kR1 : jAB Tryz.prog G 120 [.int .u64 1000000] (.int .i64 44) := by
 refine jAB.jAT Tryz.func120 kRE mix (by simp [kPQ]) ?_
 simp only [kPQ, kN4, CC, jBW]
 repeat' (first | exact clo | (refine sqI ?_; intros) | refine stp ?_ | (refine cnd rfl ?_ ?_ <;> intro hcond <;> (try contradiction) <;> try simp only [DD] at hcond) | (refine jAG ?_; intro hg; try simp only [hg]) | refine jAA E88 (V88) ?_ ?_ ?_ ?_ | (refine saI ?_ ?_; intros) | (refine ari ?_; first | omega | (simp only [DD, LL] <;> omega) | (go_unwrap; omega) | (simp only [DD] at hg; omega)) | (refine stq ?_; focus (simp only [SA, reduceAdd, reduceIte, reduceEqDiff, Nat.reduceBEq, reduceCtorEq]; (try go_unwrap; try simp only [RR, reduceCtorEq]))) | refine And.intro ?_ ?_)
 rfl
end
section
variable {G : jA3}
theorem kIC (h l : Nat) (hl : l < 17592186044416) (hh : h < 1000000) : IntKind.u64.wrap ((BitVec.ofInt IntKind.u64.bits ((h * 17592186044416 : Nat) : Int) ||| BitVec.ofInt IntKind.u64.bits ((l : Nat) : Int)).toNat : Int) = ((h * 17592186044416 + l : Nat) : Int) := by
 have h1 : (BitVec.ofInt IntKind.u64.bits ((h * 17592186044416 : Nat) : Int) ||| BitVec.ofInt IntKind.u64.bits ((l : Nat) : Int)).toNat = h * 17592186044416 + l := by
  show (BitVec.ofInt 64 ((h * 17592186044416 : Nat) : Int) ||| BitVec.ofInt 64 ((l : Nat) : Int)).toNat = _
  rw [BitVec.ofInt_natCast, BitVec.ofInt_natCast, BitVec.toNat_or, BitVec.toNat_ofNat, BitVec.toNat_ofNat, Nat.mod_eq_of_lt (show h * 17592186044416 < 2 ^ 64 by omega), Nat.mod_eq_of_lt (show l < 2 ^ 64 by omega)]
  have := Nat.two_pow_add_eq_or_of_lt (i := 44) (show l < 2 ^ 44 by omega) h
  rw [Nat.mul_comm] at this
  exact this.symm
 rw [h1, wrapN (by omega)]
theorem kQY (U : Nat) (hU1 : U < 17592186044416000000) : ∃ q1 r1 : Nat, q1 * 4096000000 + r1 = U ∧ r1 < 4096000000 ∧ q1 < 4294967296 ∧ IntKind.u64.wrap ((U : Int).tdiv 4096000000) = (q1 : Int) ∧ IntKind.u64.wrap ((U : Int) - IntKind.u64.wrap ((q1 : Int) * 4096000000)) = (r1 : Int) := by
 have hqr : U / 4096000000 * 4096000000 + U % 4096000000 = U := Nat.div_add_mod' U 4096000000
 have hr : U % 4096000000 < 4096000000 := Nat.mod_lt _ (by omega)
 refine ⟨U / 4096000000, U % 4096000000, hqr, hr, by omega, ?_, ?_⟩
 ·rw [Int.tdiv_eq_ediv_of_nonneg (Int.natCast_nonneg _)]
  have : (U : Int) / 4096000000 = ((U / 4096000000 : Nat) : Int) := by omega
  rw [this]
  exact wrapN (by omega)
 ·generalize U / 4096000000 = q at *
  generalize U % 4096000000 = r at *
  have e1 : ((q : Int) * 4096000000) = ((q * 4096000000 : Nat) : Int) := by omega
  rw [e1, wrapN (a := q * 4096000000) (by omega)]
  have e2 : (U : Int) - ((q * 4096000000 : Nat) : Int) = (r : Int) := by omega
  rw [e2]
  exact wrapN (by omega)
theorem kM1 (U v q1 r1 : Nat) (hq : q1 * 4096000000 + r1 = U) (hr : r1 < 4096000000) (hv : v < 4294967296) :
  IntKind.u64.wrap (IntKind.u64.wrap (IntKind.u64.wrap ((U : Int) * 4294967296) + (v : Int)) - IntKind.u64.wrap ((q1 : Int) * 17592186044416000000)) = ((r1 * 4294967296 + v : Nat) : Int) := by
 subst hq
 simp only [IntKind.wrap_u64]
 omega
theorem kRU (hi lo q1 r1 q0 r0 : Nat) (hh : hi < 1000000) (hl : lo < 18446744073709551616)
  (h1 : q1 * 4096000000 + r1 = hi * 17592186044416 + lo / 1048576) (h1' : r1 < 4096000000)
  (h2 : q0 * 4096000000 + r0 = r1 * 4294967296 + (lo % 1048576 * 17592186044416) / 4294967296) (h2' : r0 < 4096000000) :
  (hi * 18446744073709551616 + lo) / 1000000 = q1 * 4294967296 + q0 ∧ (hi * 18446744073709551616 + lo) % 1000000 = (r0 * 4294967296 + (lo % 1048576 * 17592186044416) % 4294967296) / 17592186044416 := by
 have e1 : (lo % 1048576 * 17592186044416) / 4294967296 = lo % 1048576 * 4096 := by omega
 have e2 : (lo % 1048576 * 17592186044416) % 4294967296 = 0 := by omega
 rw [e1] at h2
 rw [e2]
 generalize hm : lo % 1048576 = m at *
 generalize hd : lo / 1048576 = d at *
 have hlo : lo = d * 1048576 + m := by rw [<- hm, <- hd]; exact (Nat.div_add_mod' lo 1048576).symm
 clear e1 e2 hm hd
 have hz : ∃ z : Int, (r0 : Int) * 4294967296 = z * 17592186044416 ∧ (hi : Int) * 18446744073709551616 + lo = ((q1 : Int) * 4294967296 + q0) * 1000000 + z := by
  refine ⟨(hi : Int) * 18446744073709551616 + lo - ((q1 : Int) * 4294967296 + q0) * 1000000, ?_, by omega⟩
  have a1 : (q1 : Int) * 4096000000 + r1 = hi * 17592186044416 + d := by omega
  have a2 : (q0 : Int) * 4096000000 + r0 = r1 * 4294967296 + m * 4096 := by omega
  have a3 : (lo : Int) = d * 1048576 + m := by omega
  rw [a3]
  omega
 obtain ⟨z, hz1, hz2⟩ := hz
 have hr : (r0 : Int) = z * 4096 := by omega
 obtain ⟨w, rfl⟩ : ∃ w : Nat, z = w := ⟨z.toNat, by omega⟩
 have hr' : r0 = w * 4096 := by omega
 obtain ⟨N, hN⟩ : ∃ N : Nat, hi * 18446744073709551616 + lo = N := ⟨_, rfl⟩
 have hNz : (N : Int) = ((q1 : Int) * 4294967296 + q0) * 1000000 + w := by rw [<- hz2, <- hN]; omega
 rw [hN, hr']
 clear hN hz1 hz2 h1 h2 hlo hr
 have hw : w < 1000000 := by omega
 have hq : N = (q1 * 4294967296 + q0) * 1000000 + w := by omega
 rw [hq]
 obtain ⟨Q, hQ⟩ : ∃ Q : Nat, q1 * 4294967296 + q0 = Q := ⟨_, rfl⟩
 rw [hQ]
 refine ⟨?_, ?_⟩
 ·omega
 ·have : (w * 4096 * 4294967296 + 0) / 17592186044416 = w := by
   rw [Nat.add_zero, Nat.mul_assoc]
   exact Nat.mul_div_cancel w (by omega)
  rw [this]; omega
theorem g0L (hi : Nat) (hh : hi < 1000000) : IntKind.u64.wrap ((hi : Int) * 2 ^ min (Int.toNat 44) IntKind.u64.bits) = ((hi * 17592186044416 : Nat) : Int) := by
 have hb : min (Int.toNat 44) IntKind.u64.bits = 44 := rfl
 rw [hb, IntKind.wrap_u64]; omega
theorem g0M (lo : Nat) : (lo : Int).fdiv (2 ^ min ((64 : Int) - 44).toNat IntKind.u64.bits) = ((lo / 1048576 : Nat) : Int) := by
 have hb2 : min ((64 : Int) - 44).toNat IntKind.u64.bits = 20 := rfl
 rw [hb2, show (2 : Int) ^ 20 = 1048576 from rfl, Int.fdiv_eq_ediv_of_nonneg _ (by omega)]; omega
theorem g2L (lo : Nat) (hl : lo < 18446744073709551616) : IntKind.u64.wrap ((lo : Int) * 2 ^ min (Int.toNat 44) IntKind.u64.bits) = ((lo % 1048576 * 17592186044416 : Nat) : Int) := by
 have hb : min (Int.toNat 44) IntKind.u64.bits = 44 := rfl
 rw [hb, IntKind.wrap_u64]; omega
theorem k8L (x : Nat) : ((x : Nat) : Int).fdiv (2 ^ min (Int.toNat 44) IntKind.u64.bits) = ((x / 17592186044416 : Nat) : Int) := by
 have s44 : min (Int.toNat 44) IntKind.u64.bits = 44 := rfl
 rw [s44, show (2 : Int) ^ 44 = 17592186044416 from rfl, Int.fdiv_eq_ediv_of_nonneg _ (by decide)]
 omega
theorem k9L (q1 q0 : Nat) (h1 : q1 < 4294967296) (h0 : q0 < 4294967296) : IntKind.u64.wrap (IntKind.u64.wrap ((q1 : Int) * 4294967296) + (q0 : Int)) = ((q1 * 4294967296 + q0 : Nat) : Int) := by
 simp only [IntKind.wrap_u64]; omega
theorem kFS (hi lo : Nat) (hh : hi < 1000000) (hl : lo < 18446744073709551616) : ∃ U V v1 v0 q1 r1 U2 q0 r0 : Nat,
  IntKind.u64.wrap ↑(BitVec.ofInt IntKind.u64.bits (IntKind.u64.wrap ((hi : Int) * 2 ^ min (Int.toNat 44) IntKind.u64.bits)) ||| BitVec.ofInt IntKind.u64.bits ((lo : Int).fdiv (2 ^ min ((64 : Int) - 44).toNat IntKind.u64.bits))).toNat = (U : Int) ∧
  IntKind.u64.wrap ((lo : Int) * 2 ^ min (Int.toNat 44) IntKind.u64.bits) = (V : Int) ∧
  (V : Int).fdiv (2 ^ min (Int.toNat 32) IntKind.u64.bits) = (v1 : Int) ∧
  IntKind.u64.wrap ((BitVec.ofInt IntKind.u64.bits (V : Int) &&& BitVec.ofInt IntKind.u64.bits 4294967295).toNat : Int) = (v0 : Int) ∧
  IntKind.u64.wrap ((U : Int).tdiv 4096000000) = (q1 : Int) ∧ IntKind.u64.wrap ((U : Int) - IntKind.u64.wrap ((q1 : Int) * 4096000000)) = (r1 : Int) ∧
  IntKind.u64.wrap (IntKind.u64.wrap (IntKind.u64.wrap ((U : Int) * 4294967296) + (v1 : Int)) - IntKind.u64.wrap ((q1 : Int) * 17592186044416000000)) = (U2 : Int) ∧
  IntKind.u64.wrap ((U2 : Int).tdiv 4096000000) = (q0 : Int) ∧ IntKind.u64.wrap ((U2 : Int) - IntKind.u64.wrap ((q0 : Int) * 4096000000)) = (r0 : Int) ∧
  (IntKind.u64.wrap (IntKind.u64.wrap (IntKind.u64.wrap ((U2 : Int) * 4294967296) + (v0 : Int)) - IntKind.u64.wrap ((q0 : Int) * 17592186044416000000))).fdiv (2 ^ min (Int.toNat 44) IntKind.u64.bits) = (((hi * 18446744073709551616 + lo) % 1000000 : Nat) : Int) ∧
  IntKind.u64.wrap (IntKind.u64.wrap ((q1 : Int) * 4294967296) + (q0 : Int)) = (((hi * 18446744073709551616 + lo) / 1000000 : Nat) : Int) ∧
  decide ((4294967296 : Int) <= (q1 : Int)) = false ∧ decide ((4294967296 : Int) <= (q0 : Int)) = false := by
 have hlo : lo / 1048576 < 17592186044416 := by omega
 have hU1 : hi * 17592186044416 + lo / 1048576 < 17592186044416000000 :=
  Nat.lt_of_lt_of_le (Nat.add_lt_add_of_le_of_lt (Nat.mul_le_mul_right 17592186044416 (show hi <= 999999 by omega)) hlo) (Nat.le_of_ble_eq_true rfl)
 have hV1 : lo % 1048576 * 17592186044416 < 18446744073709551616 :=
  Nat.lt_of_le_of_lt (Nat.mul_le_mul_right 17592186044416 (show lo % 1048576 <= 1048575 from Nat.le_of_lt_succ (Nat.mod_lt _ (by omega)))) (Nat.lt_of_succ_le (Nat.le_of_ble_eq_true rfl))
 have hv1 : (lo % 1048576 * 17592186044416) / 4294967296 < 4294967296 := by omega
 have hv0 : (lo % 1048576 * 17592186044416) % 4294967296 < 4294967296 := by omega
 obtain ⟨q1, r1, hqr, hr1', hq1', g5, g6⟩ := kQY _ hU1
 have hU2 : r1 * 4294967296 + (lo % 1048576 * 17592186044416) / 4294967296 < 17592186044416000000 :=
  Nat.lt_of_lt_of_le (Nat.add_lt_add_of_le_of_lt (Nat.mul_le_mul_right 4294967296 (show r1 <= 4095999999 from Nat.le_of_lt_succ hr1')) hv1) (Nat.le_of_ble_eq_true rfl)
 obtain ⟨q0, r0, kP7, kP6, kRL, k5, k6⟩ := kQY _ hU2
 have hfin := kRU hi lo q1 r1 q0 r0 hh hl hqr hr1' kP7 kP6
 have d3 : decide ((4294967296 : Int) <= (q1 : Int)) = false := by clear g5 g6 k5 k6 hfin; simp only [decide_eq_false_iff_not]; omega
 have d4 : decide ((4294967296 : Int) <= (q0 : Int)) = false := by clear g5 g6 k5 k6 hfin; simp only [decide_eq_false_iff_not]; omega
 refine ⟨_, _, _, _, q1, r1, _, q0, r0, ?_, g2L lo hl, kK9 _, mask32 hV1, g5, g6, kM1 _ _ q1 r1 hqr hr1' hv1, k5, k6, ?_, ?_, d3, d4⟩
 ·rw [g0L hi hh, g0M lo]; exact kIC hi _ hlo hh
 ·rw [kM1 _ _ q0 r0 kP7 kP6 hv0, hfin.2]; exact k8L _
 ·rw [hfin.1]; exact k9L q1 q0 hq1' kRL
theorem kR3 (hi lo : Nat) (hh : hi < 1000000) (hl : lo < 18446744073709551616) : jAB Tryz.prog G 111 [.int .u64 hi, .int .u64 lo, .int .u64 1000000]
  (.tup [.int .u64 (((hi * 18446744073709551616 + lo) / 1000000 : Nat) : Int), .int .u64 (((hi * 18446744073709551616 + lo) % 1000000 : Nat) : Int)]) := by
 refine jAB.jAT Tryz.func111 kRG mix (by simp [kPS]) ?_
 simp only [kPS, jHN, CC, jBW]
 have d0 : decide ((1000000 : Int) = 0) = false := by decide
 have d1 : decide ((1000000 : Int) <= (hi : Int)) = false := by simp only [decide_eq_false_iff_not]; omega
 have f2 : IntKind.u64.wrap (1000000 * 2 ^ min (Int.toNat 44) IntKind.u64.bits) = 17592186044416000000 := by decide
 have f3 : Int.fdiv 17592186044416000000 (2 ^ min (Int.toNat 32) IntKind.u64.bits) = 4096000000 := by decide
 have f4 : IntKind.u64.wrap ↑(BitVec.ofInt IntKind.u64.bits 17592186044416000000 &&& BitVec.ofInt IntKind.u64.bits 4294967295).toNat = 0 := by decide
 by_cases h0 : hi = 0
 ·have d2 : decide ((hi : Int) = 0) = true := by simp only [decide_eq_true_eq]; omega
  have t1 : IntKind.u64.wrap ((lo : Int).tdiv 1000000) = ((lo / 1000000 : Nat) : Int) := by
   rw [Int.tdiv_eq_ediv_of_nonneg (by omega), IntKind.wrap_u64]; omega
  have t2 : Int.tmod (lo : Int) 1000000 = ((lo % 1000000 : Nat) : Int) := by
   rw [Int.tmod_eq_emod_of_nonneg (by omega)]; omega
  repeat' (first | exact clo | (refine sqI ?_; intros) | refine stp ?_ | (refine cnd rfl ?_ ?_ <;> intro hcond <;> (try contradiction) <;> try simp only [DD] at hcond) | (refine jAG ?_; intro hg; try simp only [hg]) | (refine saI ?_ ?_; intros) | (refine ari ?_; first | omega | (simp only [DD, LL] <;> omega) | (go_unwrap; omega) | (simp only [DD] at hg; omega)) | (refine stq ?_; focus (simp only [d0, d1, d2, t1, t2, SA, reduceAdd, reduceIte, reduceEqDiff, Nat.reduceBEq, reduceCtorEq]; (try go_unwrap; try simp only [d0, d1, d2, t1, t2, RR, reduceCtorEq]))) | refine And.intro ?_ ?_)
  all_goals (first | exact absurd hcond (by decide) | (subst h0; simp only [Nat.zero_mul, Nat.zero_add]; done))
 ·have d2 : decide ((hi : Int) = 0) = false := by simp only [decide_eq_false_iff_not]; omega
  obtain ⟨U, V, v1, v0, q1, r1, U2, q0, r0, g1, g2, g3, g4, g5, g6, g7, k5, k6, k7, k9, d3, d4⟩ := kFS hi lo hh hl
  clear hh hl
  have w1 : ∀ x : Int, decide (IntKind.u64.wrap x < 0) = false := fun x => by simp only [decide_eq_false_iff_not, IntKind.wrap_u64]; omega
  have w0 : IntKind.u64.wrap 0 = 0 := by decide
  repeat' (first | exact clo | (refine sqI ?_; intros) | refine stp ?_ | (refine cnd rfl ?_ ?_ <;> intro hcond <;> (try contradiction) <;> try simp only [DD] at hcond) | (refine jAG ?_; intro hg; try simp only [hg]) | refine jAA kR8 (kR1) ?_ ?_ ?_ ?_ | (refine saI ?_ ?_; intros) | (refine ari ?_; first | omega | (simp only [DD, LL] <;> omega) | (go_unwrap; omega) | (simp only [DD] at hg; omega)) | (refine stq ?_; focus (simp only [d0, d1, d2, f2, f3, f4, g1, g2, g3, g4, g5, g6, SA, reduceAdd, reduceIte, reduceEqDiff, Nat.reduceBEq, reduceCtorEq]; (try go_unwrap; try simp only [d0, d1, d2, f2, f3, f4, g1, g2, g3, g4, g5, g6, RR, reduceCtorEq]))) | refine And.intro ?_ ?_)
  refine PW.loop (σ := Unit) [2, 8, 9, 10, 11, 13, 14, 15, 16] (fun _ => [.int .u64 17592186044416000000, .int .u64 44, .int .u64 4096000000, .int .u64 0, .int .u64 U, .int .u64 v1, .int .u64 v0, .int .u64 q1, .int .u64 r1]) (fun _ => []) (fun _ => True) (fun _ => 0) () ?_ rfl trivial ?_
  ·simp only [SA, reduceAdd, reduceIte, reduceEqDiff, Nat.reduceBEq, reduceCtorEq]; rfl
  rintro - -
  simp only [List.zip_cons_cons, List.zip_nil_left]
  repeat' (first | exact clo | (refine sqI ?_; intros) | refine stp ?_ | (refine cnd rfl ?_ ?_ <;> intro hcond <;> (try contradiction) <;> try simp only [DD] at hcond) | (refine jAG ?_; intro hg; try simp only [hg]) | (refine saI ?_ ?_; intros) | (refine ari ?_; first | omega | (simp only [DD, LL] <;> omega) | (go_unwrap; omega) | (simp only [DD] at hg; omega)) | (refine stq ?_; focus (simp only [d3, w1, w0, Int.mul_zero, g7, k5, k6, SA, reduceAdd, reduceIte, reduceEqDiff, Nat.reduceBEq, reduceCtorEq]; (try go_unwrap; try simp only [d3, w1, w0, Int.mul_zero, g7, k5, k6, RR, reduceCtorEq]))) | refine And.intro ?_ ?_)
  refine PW.loop (σ := Unit) [2, 8, 9, 10, 14, 15, 16, 17, 18] (fun _ => [.int .u64 17592186044416000000, .int .u64 44, .int .u64 4096000000, .int .u64 0, .int .u64 v0, .int .u64 q1, .int .u64 r0, .int .u64 U2, .int .u64 q0]) (fun _ => []) (fun _ => True) (fun _ => 0) () ?_ rfl trivial ?_
  ·simp only [SA, reduceAdd, reduceIte, reduceEqDiff, Nat.reduceBEq, reduceCtorEq]; rfl
  rintro - -
  simp only [List.zip_cons_cons, List.zip_nil_left]
  repeat' (first | exact clo | (refine sqI ?_; intros) | refine stp ?_ | (refine cnd rfl ?_ ?_ <;> intro hcond <;> (try contradiction) <;> try simp only [DD] at hcond) | (refine jAG ?_; intro hg; try simp only [hg]) | (refine saI ?_ ?_; intros) | (refine ari ?_; first | omega | (simp only [DD, LL] <;> omega) | (go_unwrap; omega) | (simp only [DD] at hg; omega)) | (refine stq ?_; focus (simp only [d4, w1, w0, Int.mul_zero, k7, k9, SA, reduceAdd, reduceIte, reduceEqDiff, Nat.reduceBEq, reduceCtorEq]; (try go_unwrap; try simp only [d4, w1, w0, Int.mul_zero, k7, k9, RR, reduceCtorEq]))) | refine And.intro ?_ ?_)
end
section
variable {G : jA3}
def jFY (p : Nat) : Nat := (p / 1000000 + (if 1000000 <= 2 * (p % 1000000) then 1 else 0)) % 18446744073709551616
def jM1 (a b : Int) : Int × Bool :=
 if 1000000 <= a.natAbs * b.natAbs / 18446744073709551616 then (0, false)
 else if 1000000000000000000 < jFY (a.natAbs * b.natAbs) then (0, false)
 else (if decide (a < 0) = decide (b < 0) then (jFY (a.natAbs * b.natAbs) : Int) else -(jFY (a.natAbs * b.natAbs) : Int), true)
theorem V91 (a b : Int) (ha : -9223372036854775808 <= a ∧ a <= 9223372036854775807) (hb : -9223372036854775808 <= b ∧ b <= 9223372036854775807) : jAB Tryz.prog G 91 [.int .i64 a, .int .i64 b] (.tup [.int .i64 (jM1 a b).1, .bool (jM1 a b).2]) := by
 refine jAB.jAT Tryz.func91 k91 mix (by simp [c91]) ?_
 have h95 := kR4 (G := G) a.natAbs b.natAbs (by omega) (by omega)
 have h1 := kQ0 (G := G) a ha.1 ha.2
 have h2 := kQ0 (G := G) b hb.1 hb.2
 obtain ⟨p, hp⟩ : ∃ p, a.natAbs * b.natAbs = p := ⟨_, rfl⟩
 rw [hp] at h95
 have hT : jM1 a b = if 1000000 <= p / 18446744073709551616 then (0, false)
  else if 1000000000000000000 < jFY p then (0, false)
  else (if decide (a < 0) = decide (b < 0) then (jFY p : Int) else -(jFY p : Int), true) := by rw [jM1, hp]
 simp only [c91, L91, CC, jBW]
 by_cases hh : 1000000 <= p / 18446744073709551616
 ·have d1 : decide ((1000000 : Int) <= ((p / 18446744073709551616 : Nat) : Int)) = true := by
   generalize p / 18446744073709551616 = x at *
   simp only [decide_eq_true_eq]; omega
  rw [hT, if_pos hh]
  repeat' (first | exact clo | (refine sqI ?_; intros) | refine stp ?_ | (refine cnd rfl ?_ ?_ <;> intro hcond <;> (try contradiction) <;> try simp only [DD] at hcond) | (apply jAO kD4; (case hV => (simp only [d1, SA, reduceAdd, reduceIte, reduceEqDiff, Nat.reduceBEq, reduceCtorEq]; (try go_unwrap; try simp only [d1, RR, reduceCtorEq]); exact h1)); (try (case hs => rfl)); (try (case hf => first | exact Or.inl rfl | exact Or.inr ⟨rfl, rfl⟩ | (refine Or.inl ?_; simp only [d1, SA, reduceAdd, reduceIte, reduceEqDiff, Nat.reduceBEq, reduceCtorEq]; done) | (refine Or.inr ⟨rfl, ?_⟩; simp only [d1, SA, reduceAdd, reduceIte, reduceEqDiff, Nat.reduceBEq, reduceCtorEq]; done))); all_goals (first | (simp only [d1, SA, reduceAdd, reduceIte, reduceEqDiff, Nat.reduceBEq, reduceCtorEq]; (try go_unwrap; try simp only [d1, RR, reduceCtorEq])) | (show Env; skip) | (show Mem; skip))) | (apply jAO kD4; (case hV => (simp only [d1, SA, reduceAdd, reduceIte, reduceEqDiff, Nat.reduceBEq, reduceCtorEq]; (try go_unwrap; try simp only [d1, RR, reduceCtorEq]); exact h2)); (try (case hs => rfl)); (try (case hf => first | exact Or.inl rfl | exact Or.inr ⟨rfl, rfl⟩ | (refine Or.inl ?_; simp only [d1, SA, reduceAdd, reduceIte, reduceEqDiff, Nat.reduceBEq, reduceCtorEq]; done) | (refine Or.inr ⟨rfl, ?_⟩; simp only [d1, SA, reduceAdd, reduceIte, reduceEqDiff, Nat.reduceBEq, reduceCtorEq]; done))); all_goals (first | (simp only [d1, SA, reduceAdd, reduceIte, reduceEqDiff, Nat.reduceBEq, reduceCtorEq]; (try go_unwrap; try simp only [d1, RR, reduceCtorEq])) | (show Env; skip) | (show Mem; skip))) | (refine jAG ?_; intro hg; try simp only [hg]) | refine jAA kNC (h95) ?_ ?_ ?_ ?_ | (refine saI ?_ ?_; intros) | (refine ari ?_; first | omega | (simp only [DD, LL] <;> omega) | (go_unwrap; omega) | (simp only [DD] at hg; omega)) | (refine stq ?_; focus (simp only [d1, SA, reduceAdd, reduceIte, reduceEqDiff, Nat.reduceBEq, reduceCtorEq]; (try go_unwrap; try simp only [d1, RR, reduceCtorEq]))) | refine And.intro ?_ ?_)
 ·have d1 : decide ((1000000 : Int) <= ((p / 18446744073709551616 : Nat) : Int)) = false := by
   generalize p / 18446744073709551616 = x at *
   simp only [decide_eq_false_iff_not]; omega
  have h97 := kR3 (G := G) (p / 18446744073709551616) (p % 18446744073709551616) (Nat.lt_of_not_le hh) (Nat.mod_lt _ (Nat.lt_of_succ_le (Nat.le_of_ble_eq_true rfl)))
  rw [Nat.div_add_mod'] at h97
  rw [hT, if_neg hh]
  have t2 : IntKind.u64.wrap (2 * ((p % 1000000 : Nat) : Int)) = ((2 * (p % 1000000) : Nat) : Int) := by
   have : p % 1000000 < 1000000 := Nat.mod_lt _ (by omega)
   generalize p % 1000000 = x at *
   rw [show (2 * (x : Int)) = ((2 * x : Nat) : Int) by omega]
   exact wrapN (by omega)
  have hp1 : p < 1000000 * 18446744073709551616 := (Nat.div_lt_iff_lt_mul (Nat.lt_of_succ_le (Nat.le_of_ble_eq_true rfl))).1 (Nat.lt_of_not_le hh)
  have hp2 : p / 1000000 < 18446744073709551616 := (Nat.div_lt_iff_lt_mul (by omega)).2 (by rw [Nat.mul_comm]; exact hp1)
  have t3 : IntKind.u64.wrap (((p / 1000000 : Nat) : Int) + 1) = (((p / 1000000 + 1) % 18446744073709551616 : Nat) : Int) := by
   generalize p / 1000000 = x at *
   rw [show ((x : Int) + 1) = ((x + 1 : Nat) : Int) by omega]
   exact wrapM _
  have hQ1 : 1000000 <= 2 * (p % 1000000) -> (p / 1000000 + 1) % 18446744073709551616 = jFY p := fun h => by rw [jFY, if_pos h]
  have hQ2 : ¬ 1000000 <= 2 * (p % 1000000) -> p / 1000000 = jFY p := fun h => by rw [jFY, if_neg h, Nat.add_zero, Nat.mod_eq_of_lt hp2]
  have hQ3 : jFY p < 18446744073709551616 := Nat.mod_lt _ (Nat.lt_of_succ_le (Nat.le_of_ble_eq_true rfl))
  obtain ⟨Q, hQ⟩ : ∃ Q, jFY p = Q := ⟨_, rfl⟩
  rw [hQ] at hQ1 hQ2 hQ3
  rw [hQ]
  clear hQ hp1 hp2 hT hh
  have ha' : decide (a < 0) = decide (a < 0) := rfl
  have fin : ∀ c : Bool, True := fun _ => trivial
  by_cases hQm : 1000000000000000000 < Q
  ·have d4 : decide ((1000000000000000000 : Int) < (Q : Int)) = true := by simp only [decide_eq_true_eq]; omega
   rw [if_pos hQm]
   by_cases hr : 1000000 <= 2 * (p % 1000000)
   ·have d3 : decide ((1000000 : Int) <= ((2 * (p % 1000000) : Nat) : Int)) = true := by
     generalize 2 * (p % 1000000) = x at *
     simp only [decide_eq_true_eq]; omega
    rw [hQ1 hr] at t3
    repeat' (first | exact clo | (refine sqI ?_; intros) | refine stp ?_ | (refine cnd rfl ?_ ?_ <;> intro hcond <;> (try contradiction) <;> try simp only [DD] at hcond) | (apply jAO kD4; (case hV => (simp only [d1, t2, d3, t3, d4, SA, reduceAdd, reduceIte, reduceEqDiff, Nat.reduceBEq, reduceCtorEq]; (try go_unwrap; try simp only [d1, t2, d3, t3, d4, RR, reduceCtorEq]); exact h1)); (try (case hs => rfl)); (try (case hf => first | exact Or.inl rfl | exact Or.inr ⟨rfl, rfl⟩ | (refine Or.inl ?_; simp only [d1, t2, d3, t3, d4, SA, reduceAdd, reduceIte, reduceEqDiff, Nat.reduceBEq, reduceCtorEq]; done) | (refine Or.inr ⟨rfl, ?_⟩; simp only [d1, t2, d3, t3, d4, SA, reduceAdd, reduceIte, reduceEqDiff, Nat.reduceBEq, reduceCtorEq]; done))); all_goals (first | (simp only [d1, t2, d3, t3, d4, SA, reduceAdd, reduceIte, reduceEqDiff, Nat.reduceBEq, reduceCtorEq]; (try go_unwrap; try simp only [d1, t2, d3, t3, d4, RR, reduceCtorEq])) | (show Env; skip) | (show Mem; skip))) | (apply jAO kD4; (case hV => (simp only [d1, t2, d3, t3, d4, SA, reduceAdd, reduceIte, reduceEqDiff, Nat.reduceBEq, reduceCtorEq]; (try go_unwrap; try simp only [d1, t2, d3, t3, d4, RR, reduceCtorEq]); exact h2)); (try (case hs => rfl)); (try (case hf => first | exact Or.inl rfl | exact Or.inr ⟨rfl, rfl⟩ | (refine Or.inl ?_; simp only [d1, t2, d3, t3, d4, SA, reduceAdd, reduceIte, reduceEqDiff, Nat.reduceBEq, reduceCtorEq]; done) | (refine Or.inr ⟨rfl, ?_⟩; simp only [d1, t2, d3, t3, d4, SA, reduceAdd, reduceIte, reduceEqDiff, Nat.reduceBEq, reduceCtorEq]; done))); all_goals (first | (simp only [d1, t2, d3, t3, d4, SA, reduceAdd, reduceIte, reduceEqDiff, Nat.reduceBEq, reduceCtorEq]; (try go_unwrap; try simp only [d1, t2, d3, t3, d4, RR, reduceCtorEq])) | (show Env; skip) | (show Mem; skip))) | (refine jAG ?_; intro hg; try simp only [hg]) | refine jAA kNC (h95) ?_ ?_ ?_ ?_ | refine jAA kN6 (h97) ?_ ?_ ?_ ?_ | (refine saI ?_ ?_; intros) | (refine ari ?_; first | omega | (simp only [DD, LL] <;> omega) | (go_unwrap; omega) | (simp only [DD] at hg; omega)) | (refine stq ?_; focus (simp only [d1, t2, d3, t3, d4, SA, reduceAdd, reduceIte, reduceEqDiff, Nat.reduceBEq, reduceCtorEq]; (try go_unwrap; try simp only [d1, t2, d3, t3, d4, RR, reduceCtorEq]))) | refine And.intro ?_ ?_)
   ·have d3 : decide ((1000000 : Int) <= ((2 * (p % 1000000) : Nat) : Int)) = false := by
     generalize 2 * (p % 1000000) = x at *
     simp only [decide_eq_false_iff_not]; omega
    rw [hQ2 hr] at h97
    repeat' (first | exact clo | (refine sqI ?_; intros) | refine stp ?_ | (refine cnd rfl ?_ ?_ <;> intro hcond <;> (try contradiction) <;> try simp only [DD] at hcond) | (apply jAO kD4; (case hV => (simp only [d1, t2, d3, d4, SA, reduceAdd, reduceIte, reduceEqDiff, Nat.reduceBEq, reduceCtorEq]; (try go_unwrap; try simp only [d1, t2, d3, d4, RR, reduceCtorEq]); exact h1)); (try (case hs => rfl)); (try (case hf => first | exact Or.inl rfl | exact Or.inr ⟨rfl, rfl⟩ | (refine Or.inl ?_; simp only [d1, t2, d3, d4, SA, reduceAdd, reduceIte, reduceEqDiff, Nat.reduceBEq, reduceCtorEq]; done) | (refine Or.inr ⟨rfl, ?_⟩; simp only [d1, t2, d3, d4, SA, reduceAdd, reduceIte, reduceEqDiff, Nat.reduceBEq, reduceCtorEq]; done))); all_goals (first | (simp only [d1, t2, d3, d4, SA, reduceAdd, reduceIte, reduceEqDiff, Nat.reduceBEq, reduceCtorEq]; (try go_unwrap; try simp only [d1, t2, d3, d4, RR, reduceCtorEq])) | (show Env; skip) | (show Mem; skip))) | (apply jAO kD4; (case hV => (simp only [d1, t2, d3, d4, SA, reduceAdd, reduceIte, reduceEqDiff, Nat.reduceBEq, reduceCtorEq]; (try go_unwrap; try simp only [d1, t2, d3, d4, RR, reduceCtorEq]); exact h2)); (try (case hs => rfl)); (try (case hf => first | exact Or.inl rfl | exact Or.inr ⟨rfl, rfl⟩ | (refine Or.inl ?_; simp only [d1, t2, d3, d4, SA, reduceAdd, reduceIte, reduceEqDiff, Nat.reduceBEq, reduceCtorEq]; done) | (refine Or.inr ⟨rfl, ?_⟩; simp only [d1, t2, d3, d4, SA, reduceAdd, reduceIte, reduceEqDiff, Nat.reduceBEq, reduceCtorEq]; done))); all_goals (first | (simp only [d1, t2, d3, d4, SA, reduceAdd, reduceIte, reduceEqDiff, Nat.reduceBEq, reduceCtorEq]; (try go_unwrap; try simp only [d1, t2, d3, d4, RR, reduceCtorEq])) | (show Env; skip) | (show Mem; skip))) | (refine jAG ?_; intro hg; try simp only [hg]) | refine jAA kNC (h95) ?_ ?_ ?_ ?_ | refine jAA kN6 (h97) ?_ ?_ ?_ ?_ | (refine saI ?_ ?_; intros) | (refine ari ?_; first | omega | (simp only [DD, LL] <;> omega) | (go_unwrap; omega) | (simp only [DD] at hg; omega)) | (refine stq ?_; focus (simp only [d1, t2, d3, d4, SA, reduceAdd, reduceIte, reduceEqDiff, Nat.reduceBEq, reduceCtorEq]; (try go_unwrap; try simp only [d1, t2, d3, d4, RR, reduceCtorEq]))) | refine And.intro ?_ ?_)
  ·have d4 : decide ((1000000000000000000 : Int) < (Q : Int)) = false := by simp only [decide_eq_false_iff_not]; omega
   rw [if_neg hQm]
   have t5 : IntKind.i64.wrap (Q : Int) = (Q : Int) := IntWalk.i64_in _ (by omega)
   have t6 : IntKind.i64.wrap (0 - (Q : Int)) = -(Q : Int) := by rw [IntWalk.i64_in _ (by omega)]; omega
   by_cases hr : 1000000 <= 2 * (p % 1000000)
   ·have d3 : decide ((1000000 : Int) <= ((2 * (p % 1000000) : Nat) : Int)) = true := by
     generalize 2 * (p % 1000000) = x at *
     simp only [decide_eq_true_eq]; omega
    rw [hQ1 hr] at t3
    repeat' (first | exact clo | (refine sqI ?_; intros) | refine stp ?_ | (refine cnd rfl ?_ ?_ <;> intro hcond <;> (try contradiction) <;> try simp only [DD] at hcond) | (apply jAO kD4; (case hV => (simp only [d1, t2, d3, t3, d4, t5, t6, SA, reduceAdd, reduceIte, reduceEqDiff, Nat.reduceBEq, reduceCtorEq]; (try go_unwrap; try simp only [d1, t2, d3, t3, d4, t5, t6, RR, reduceCtorEq]); exact h1)); (try (case hs => rfl)); (try (case hf => first | exact Or.inl rfl | exact Or.inr ⟨rfl, rfl⟩ | (refine Or.inl ?_; simp only [d1, t2, d3, t3, d4, t5, t6, SA, reduceAdd, reduceIte, reduceEqDiff, Nat.reduceBEq, reduceCtorEq]; done) | (refine Or.inr ⟨rfl, ?_⟩; simp only [d1, t2, d3, t3, d4, t5, t6, SA, reduceAdd, reduceIte, reduceEqDiff, Nat.reduceBEq, reduceCtorEq]; done))); all_goals (first | (simp only [d1, t2, d3, t3, d4, t5, t6, SA, reduceAdd, reduceIte, reduceEqDiff, Nat.reduceBEq, reduceCtorEq]; (try go_unwrap; try simp only [d1, t2, d3, t3, d4, t5, t6, RR, reduceCtorEq])) | (show Env; skip) | (show Mem; skip))) | (apply jAO kD4; (case hV => (simp only [d1, t2, d3, t3, d4, t5, t6, SA, reduceAdd, reduceIte, reduceEqDiff, Nat.reduceBEq, reduceCtorEq]; (try go_unwrap; try simp only [d1, t2, d3, t3, d4, t5, t6, RR, reduceCtorEq]); exact h2)); (try (case hs => rfl)); (try (case hf => first | exact Or.inl rfl | exact Or.inr ⟨rfl, rfl⟩ | (refine Or.inl ?_; simp only [d1, t2, d3, t3, d4, t5, t6, SA, reduceAdd, reduceIte, reduceEqDiff, Nat.reduceBEq, reduceCtorEq]; done) | (refine Or.inr ⟨rfl, ?_⟩; simp only [d1, t2, d3, t3, d4, t5, t6, SA, reduceAdd, reduceIte, reduceEqDiff, Nat.reduceBEq, reduceCtorEq]; done))); all_goals (first | (simp only [d1, t2, d3, t3, d4, t5, t6, SA, reduceAdd, reduceIte, reduceEqDiff, Nat.reduceBEq, reduceCtorEq]; (try go_unwrap; try simp only [d1, t2, d3, t3, d4, t5, t6, RR, reduceCtorEq])) | (show Env; skip) | (show Mem; skip))) | (refine jAG ?_; intro hg; try simp only [hg]) | refine jAA kNC (h95) ?_ ?_ ?_ ?_ | refine jAA kN6 (h97) ?_ ?_ ?_ ?_ | (refine saI ?_ ?_; intros) | (refine ari ?_; first | omega | (simp only [DD, LL] <;> omega) | (go_unwrap; omega) | (simp only [DD] at hg; omega)) | (refine stq ?_; focus (simp only [d1, t2, d3, t3, d4, t5, t6, SA, reduceAdd, reduceIte, reduceEqDiff, Nat.reduceBEq, reduceCtorEq]; (try go_unwrap; try simp only [d1, t2, d3, t3, d4, t5, t6, RR, reduceCtorEq]))) | refine And.intro ?_ ?_)
    all_goals (first | (rw [if_pos (by simpa using hcond)]; done) | (rw [if_neg (by simpa using hcond)]; done))
   ·have d3 : decide ((1000000 : Int) <= ((2 * (p % 1000000) : Nat) : Int)) = false := by
     generalize 2 * (p % 1000000) = x at *
     simp only [decide_eq_false_iff_not]; omega
    rw [hQ2 hr] at h97
    repeat' (first | exact clo | (refine sqI ?_; intros) | refine stp ?_ | (refine cnd rfl ?_ ?_ <;> intro hcond <;> (try contradiction) <;> try simp only [DD] at hcond) | (apply jAO kD4; (case hV => (simp only [d1, t2, d3, d4, t5, t6, SA, reduceAdd, reduceIte, reduceEqDiff, Nat.reduceBEq, reduceCtorEq]; (try go_unwrap; try simp only [d1, t2, d3, d4, t5, t6, RR, reduceCtorEq]); exact h1)); (try (case hs => rfl)); (try (case hf => first | exact Or.inl rfl | exact Or.inr ⟨rfl, rfl⟩ | (refine Or.inl ?_; simp only [d1, t2, d3, d4, t5, t6, SA, reduceAdd, reduceIte, reduceEqDiff, Nat.reduceBEq, reduceCtorEq]; done) | (refine Or.inr ⟨rfl, ?_⟩; simp only [d1, t2, d3, d4, t5, t6, SA, reduceAdd, reduceIte, reduceEqDiff, Nat.reduceBEq, reduceCtorEq]; done))); all_goals (first | (simp only [d1, t2, d3, d4, t5, t6, SA, reduceAdd, reduceIte, reduceEqDiff, Nat.reduceBEq, reduceCtorEq]; (try go_unwrap; try simp only [d1, t2, d3, d4, t5, t6, RR, reduceCtorEq])) | (show Env; skip) | (show Mem; skip))) | (apply jAO kD4; (case hV => (simp only [d1, t2, d3, d4, t5, t6, SA, reduceAdd, reduceIte, reduceEqDiff, Nat.reduceBEq, reduceCtorEq]; (try go_unwrap; try simp only [d1, t2, d3, d4, t5, t6, RR, reduceCtorEq]); exact h2)); (try (case hs => rfl)); (try (case hf => first | exact Or.inl rfl | exact Or.inr ⟨rfl, rfl⟩ | (refine Or.inl ?_; simp only [d1, t2, d3, d4, t5, t6, SA, reduceAdd, reduceIte, reduceEqDiff, Nat.reduceBEq, reduceCtorEq]; done) | (refine Or.inr ⟨rfl, ?_⟩; simp only [d1, t2, d3, d4, t5, t6, SA, reduceAdd, reduceIte, reduceEqDiff, Nat.reduceBEq, reduceCtorEq]; done))); all_goals (first | (simp only [d1, t2, d3, d4, t5, t6, SA, reduceAdd, reduceIte, reduceEqDiff, Nat.reduceBEq, reduceCtorEq]; (try go_unwrap; try simp only [d1, t2, d3, d4, t5, t6, RR, reduceCtorEq])) | (show Env; skip) | (show Mem; skip))) | (refine jAG ?_; intro hg; try simp only [hg]) | refine jAA kNC (h95) ?_ ?_ ?_ ?_ | refine jAA kN6 (h97) ?_ ?_ ?_ ?_ | (refine saI ?_ ?_; intros) | (refine ari ?_; first | omega | (simp only [DD, LL] <;> omega) | (go_unwrap; omega) | (simp only [DD] at hg; omega)) | (refine stq ?_; focus (simp only [d1, t2, d3, d4, t5, t6, SA, reduceAdd, reduceIte, reduceEqDiff, Nat.reduceBEq, reduceCtorEq]; (try go_unwrap; try simp only [d1, t2, d3, d4, t5, t6, RR, reduceCtorEq]))) | refine And.intro ?_ ?_)
    all_goals (first | (rw [if_pos (by simpa using hcond)]; done) | (rw [if_neg (by simpa using hcond)]; done))
end
end Go.Proofs.YthjkmhfiffojeaaGreatDoor
