import Derived.Sort.Walk0
import Derived.Test.YthjkmhfiffojeaaGreatDoorQ18
namespace Go.Proofs.YthjkmhfiffojeaaGreatDoor
open Go PG Go.Proofs
open Nat (reduceAdd reduceEqDiff)
set_option linter.unusedSimpArgs false
set_option linter.unusedVariables false
set_option maxHeartbeats 4000000
set_option maxRecDepth 100000
section
variable {G : jA3}
def jF6 (n : Nd) (vs : List Int) : Int × Bool :=
 if n.op = 0 then (n.num, true)
 else if n.op = 2 then (vs.getD 0 0 + vs.getD 1 0, true)
 else if n.op = 3 then (vs.getD 0 0 - vs.getD 1 0, true)
 else if n.op = 4 then jM1 (vs.getD 0 0) (vs.getD 1 0)
 else if n.op = 5 then (min (vs.getD 0 0) (vs.getD 1 0), true)
 else if n.op = 6 then (max (vs.getD 0 0) (vs.getD 1 0), true)
 else if n.op = 8 then (if vs.getD 0 0 < vs.getD 1 0 then 1000000 else 0, true)
 else if n.op = 9 then (if vs.getD 0 0 = vs.getD 1 0 then 1000000 else 0, true)
 else if vs.getD 0 0 ≠ 0 then (vs.getD 1 0, true) else (vs.getD 2 0, true)
theorem V56 (n : Nd) (vs : List Int) (ho : 0 <= n.op ∧ n.op <= 9 ∧ n.op ≠ 1) (hl : (vs.length : Int) = jA1.getD n.op.toNat 0) (hv : ∀ v ∈ vs, -1000000000000000000 <= v ∧ v <= 1000000000000000000) :
  jAB Tryz.prog G 56 [ndP n, .list none (vs.map (PV.int .i64))] (.tup [.int .i64 (jF6 n vs).1, .bool (jF6 n vs).2]) := by
 refine jAB.jAT Tryz.func56 k56 mix (by simp [c56]) ?_
 obtain ⟨op, num, name, kids⟩ := n
 simp only at ho hl
 have h10 : op = 0 ∨ op = 2 ∨ op = 3 ∨ op = 4 ∨ op = 5 ∨ op = 6 ∨ op = 7 ∨ op = 8 ∨ op = 9 := by omega
 have two : vs.length = 2 -> ∃ a b, vs = [a, b] := fun h => by
  match vs, h with
  | [a, b], _ => exact ⟨a, b, rfl⟩
 have three : vs.length = 3 -> ∃ a b c, vs = [a, b, c] := fun h => by
  match vs, h with
  | [a, b, c], _ => exact ⟨a, b, c, rfl⟩
 have z0 : (0 : Int).toNat = 0 := rfl
 have z1 : (1 : Int).toNat = 1 := rfl
 have z2 : (2 : Int).toNat = 2 := rfl
 have l2 : (((0 + 1 + 1 : Nat)) : Int) = 2 := rfl
 have l3 : (((0 + 1 + 1 + 1 : Nat)) : Int) = 3 := rfl
 have j0 : (0 : Int) < 2 := by decide
 have j1 : (1 : Int) < 2 := by decide
 have j2 : (0 : Int) < 3 := by decide
 have j3 : (1 : Int) < 3 := by decide
 have j4 : (2 : Int) < 3 := by decide
 have j5 : ∀ p : PV, partOf p 1 = partOf p 1 := fun _ => rfl
 simp only [c56, L56, CC, jBW, kG1]
 rcases h10 with h | h | h | h | h | h | h | h | h <;> subst h
 ·repeat' (first | exact clo | (refine sqI ?_; intros) | refine stp ?_ | (refine cnd rfl ?_ ?_ <;> intro hcond <;> (try contradiction) <;> try simp only [DD] at hcond) | (refine jAG ?_; intro hg; try simp only [hg]) | (refine saI ?_ ?_; intros) | (refine ari ?_; first | omega | (simp only [DD, LL] <;> omega) | (go_unwrap; omega) | (simp only [DD] at hg; omega)) | (refine stq ?_; focus (simp only [decide_true, decide_false, Int.reduceEq, SA, reduceAdd, reduceIte, reduceEqDiff, Nat.reduceBEq, reduceCtorEq]; (try go_unwrap; try simp only [decide_true, decide_false, Int.reduceEq, RR, reduceCtorEq]))) | refine And.intro ?_ ?_)
  all_goals rfl
 ·obtain ⟨a, b, rfl⟩ := two (by have : jA1.getD (2 : Int).toNat 0 = 2 := rfl
                                rw [this] at hl; omega)
  have ha := hv a (by simp)
  have hb := hv b (by simp)
  have hm : jF6 ⟨2, num, name, kids⟩ [a, b] = (a + b, true) := rfl
  rw [hm]
  clear hm two three hv
  repeat' (first | exact clo | (refine sqI ?_; intros) | refine stp ?_ | (refine cnd rfl ?_ ?_ <;> intro hcond <;> (try contradiction) <;> try simp only [DD] at hcond) | (refine jAG ?_; intro hg; try simp only [hg]) | (refine saI ?_ ?_; intros) | (refine ari ?_; first | omega | (simp only [DD, LL] <;> omega) | (go_unwrap; omega) | (simp only [DD] at hg; omega)) | (refine stq ?_; focus (simp only [decide_true, decide_false, Int.reduceEq, List.map_cons, List.map_nil, List.length_cons, List.length_nil, z0, z1, z2, l2, l3, j0, j1, j2, j3, j4, SA, reduceAdd, reduceIte, reduceEqDiff, Nat.reduceBEq, reduceCtorEq]; (try go_unwrap; try simp only [decide_true, decide_false, Int.reduceEq, List.map_cons, List.map_nil, List.length_cons, List.length_nil, z0, z1, z2, l2, l3, j0, j1, j2, j3, j4, RR, reduceCtorEq]))) | refine And.intro ?_ ?_)
 ·obtain ⟨a, b, rfl⟩ := two (by have : jA1.getD (3 : Int).toNat 0 = 2 := rfl
                                rw [this] at hl; omega)
  have ha := hv a (by simp)
  have hb := hv b (by simp)
  have hm : jF6 ⟨3, num, name, kids⟩ [a, b] = (a - b, true) := rfl
  rw [hm]
  clear hm two three hv
  repeat' (first | exact clo | (refine sqI ?_; intros) | refine stp ?_ | (refine cnd rfl ?_ ?_ <;> intro hcond <;> (try contradiction) <;> try simp only [DD] at hcond) | (refine jAG ?_; intro hg; try simp only [hg]) | (refine saI ?_ ?_; intros) | (refine ari ?_; first | omega | (simp only [DD, LL] <;> omega) | (go_unwrap; omega) | (simp only [DD] at hg; omega)) | (refine stq ?_; focus (simp only [decide_true, decide_false, Int.reduceEq, List.map_cons, List.map_nil, List.length_cons, List.length_nil, z0, z1, z2, l2, l3, j0, j1, j2, j3, j4, SA, reduceAdd, reduceIte, reduceEqDiff, Nat.reduceBEq, reduceCtorEq]; (try go_unwrap; try simp only [decide_true, decide_false, Int.reduceEq, List.map_cons, List.map_nil, List.length_cons, List.length_nil, z0, z1, z2, l2, l3, j0, j1, j2, j3, j4, RR, reduceCtorEq]))) | refine And.intro ?_ ?_)
 ·obtain ⟨a, b, rfl⟩ := two (by have : jA1.getD (4 : Int).toNat 0 = 2 := rfl
                                rw [this] at hl; omega)
  have ha := hv a (by simp)
  have hb := hv b (by simp)
  have hm : jF6 ⟨4, num, name, kids⟩ [a, b] = jM1 a b := rfl
  rw [hm]
  clear hm two three hv
  have h69 := V91 (G := G) a b (by omega) (by omega)
  repeat' (first | exact clo | (refine sqI ?_; intros) | refine stp ?_ | (refine cnd rfl ?_ ?_ <;> intro hcond <;> (try contradiction) <;> try simp only [DD] at hcond) | (refine jAG ?_; intro hg; try simp only [hg]) | refine jAA E91 (h69) ?_ ?_ ?_ ?_ | (refine saI ?_ ?_; intros) | (refine ari ?_; first | omega | (simp only [DD, LL] <;> omega) | (go_unwrap; omega) | (simp only [DD] at hg; omega)) | (refine stq ?_; focus (simp only [decide_true, decide_false, Int.reduceEq, List.map_cons, List.map_nil, List.length_cons, List.length_nil, z0, z1, z2, l2, l3, j0, j1, j2, j3, j4, SA, reduceAdd, reduceIte, reduceEqDiff, Nat.reduceBEq, reduceCtorEq]; (try go_unwrap; try simp only [decide_true, decide_false, Int.reduceEq, List.map_cons, List.map_nil, List.length_cons, List.length_nil, z0, z1, z2, l2, l3, j0, j1, j2, j3, j4, RR, reduceCtorEq]))) | refine And.intro ?_ ?_)
 ·obtain ⟨a, b, rfl⟩ := two (by have : jA1.getD (5 : Int).toNat 0 = 2 := rfl
                                rw [this] at hl; omega)
  have ha := hv a (by simp)
  have hb := hv b (by simp)
  have hm : jF6 ⟨5, num, name, kids⟩ [a, b] = (min a b, true) := rfl
  rw [hm]
  clear hm two three hv
  repeat' (first | exact clo | (refine sqI ?_; intros) | refine stp ?_ | (refine cnd rfl ?_ ?_ <;> intro hcond <;> (try contradiction) <;> try simp only [DD] at hcond) | (refine jAG ?_; intro hg; try simp only [hg]) | (refine saI ?_ ?_; intros) | (refine ari ?_; first | omega | (simp only [DD, LL] <;> omega) | (go_unwrap; omega) | (simp only [DD] at hg; omega)) | (refine stq ?_; focus (simp only [decide_true, decide_false, Int.reduceEq, List.map_cons, List.map_nil, List.length_cons, List.length_nil, z0, z1, z2, l2, l3, j0, j1, j2, j3, j4, SA, reduceAdd, reduceIte, reduceEqDiff, Nat.reduceBEq, reduceCtorEq]; (try go_unwrap; try simp only [decide_true, decide_false, Int.reduceEq, List.map_cons, List.map_nil, List.length_cons, List.length_nil, z0, z1, z2, l2, l3, j0, j1, j2, j3, j4, RR, reduceCtorEq]))) | refine And.intro ?_ ?_)
 ·obtain ⟨a, b, rfl⟩ := two (by have : jA1.getD (6 : Int).toNat 0 = 2 := rfl
                                rw [this] at hl; omega)
  have ha := hv a (by simp)
  have hb := hv b (by simp)
  have hm : jF6 ⟨6, num, name, kids⟩ [a, b] = (max a b, true) := rfl
  rw [hm]
  clear hm two three hv
  repeat' (first | exact clo | (refine sqI ?_; intros) | refine stp ?_ | (refine cnd rfl ?_ ?_ <;> intro hcond <;> (try contradiction) <;> try simp only [DD] at hcond) | (refine jAG ?_; intro hg; try simp only [hg]) | (refine saI ?_ ?_; intros) | (refine ari ?_; first | omega | (simp only [DD, LL] <;> omega) | (go_unwrap; omega) | (simp only [DD] at hg; omega)) | (refine stq ?_; focus (simp only [decide_true, decide_false, Int.reduceEq, List.map_cons, List.map_nil, List.length_cons, List.length_nil, z0, z1, z2, l2, l3, j0, j1, j2, j3, j4, SA, reduceAdd, reduceIte, reduceEqDiff, Nat.reduceBEq, reduceCtorEq]; (try go_unwrap; try simp only [decide_true, decide_false, Int.reduceEq, List.map_cons, List.map_nil, List.length_cons, List.length_nil, z0, z1, z2, l2, l3, j0, j1, j2, j3, j4, RR, reduceCtorEq]))) | refine And.intro ?_ ?_)
 ·obtain ⟨a, b, c, rfl⟩ := three (by have : jA1.getD (7 : Int).toNat 0 = 3 := rfl
                                     rw [this] at hl; omega)
  have hm : jF6 ⟨7, num, name, kids⟩ [a, b, c] = if a ≠ 0 then (b, true) else (c, true) := rfl
  rw [hm]
  clear hm two three hv
  repeat' (first | exact clo | (refine sqI ?_; intros) | refine stp ?_ | (refine cnd rfl ?_ ?_ <;> intro hcond <;> (try contradiction) <;> try simp only [DD] at hcond) | (refine jAG ?_; intro hg; try simp only [hg]) | (refine saI ?_ ?_; intros) | (refine ari ?_; first | omega | (simp only [DD, LL] <;> omega) | (go_unwrap; omega) | (simp only [DD] at hg; omega)) | (refine stq ?_; focus (simp only [decide_true, decide_false, Int.reduceEq, List.map_cons, List.map_nil, List.length_cons, List.length_nil, z0, z1, z2, l2, l3, j0, j1, j2, j3, j4, SA, reduceAdd, reduceIte, reduceEqDiff, Nat.reduceBEq, reduceCtorEq]; (try go_unwrap; try simp only [decide_true, decide_false, Int.reduceEq, List.map_cons, List.map_nil, List.length_cons, List.length_nil, z0, z1, z2, l2, l3, j0, j1, j2, j3, j4, RR, reduceCtorEq]))) | refine And.intro ?_ ?_)
  all_goals (first | (rw [if_pos (by simpa using hcond)]; done) | (rw [if_neg (by simpa using hcond)]; done))
 ·obtain ⟨a, b, rfl⟩ := two (by have : jA1.getD (8 : Int).toNat 0 = 2 := rfl
                                rw [this] at hl; omega)
  have ha := hv a (by simp)
  have hb := hv b (by simp)
  have hm : jF6 ⟨8, num, name, kids⟩ [a, b] = (if a < b then 1000000 else 0, true) := rfl
  rw [hm]
  clear hm two three hv
  have h70 := V92 (G := G) (decide (a < b))
  repeat' (first | exact clo | (refine sqI ?_; intros) | refine stp ?_ | (refine cnd rfl ?_ ?_ <;> intro hcond <;> (try contradiction) <;> try simp only [DD] at hcond) | (refine jAG ?_; intro hg; try simp only [hg]) | refine jAA E92 (h70) ?_ ?_ ?_ ?_ | (refine saI ?_ ?_; intros) | (refine ari ?_; first | omega | (simp only [DD, LL] <;> omega) | (go_unwrap; omega) | (simp only [DD] at hg; omega)) | (refine stq ?_; focus (simp only [decide_true, decide_false, Int.reduceEq, List.map_cons, List.map_nil, List.length_cons, List.length_nil, z0, z1, z2, l2, l3, j0, j1, j2, j3, j4, SA, reduceAdd, reduceIte, reduceEqDiff, Nat.reduceBEq, reduceCtorEq]; (try go_unwrap; try simp only [decide_true, decide_false, Int.reduceEq, List.map_cons, List.map_nil, List.length_cons, List.length_nil, z0, z1, z2, l2, l3, j0, j1, j2, j3, j4, RR, reduceCtorEq]))) | refine And.intro ?_ ?_)
  all_goals (simp only [decide_eq_true_eq]; done)
 ·obtain ⟨a, b, rfl⟩ := two (by have : jA1.getD (9 : Int).toNat 0 = 2 := rfl
                                rw [this] at hl; omega)
  have ha := hv a (by simp)
  have hb := hv b (by simp)
  have hm : jF6 ⟨9, num, name, kids⟩ [a, b] = (if a = b then 1000000 else 0, true) := rfl
  rw [hm]
  clear hm two three hv
  have h70 := V92 (G := G) (decide (a = b))
  repeat' (first | exact clo | (refine sqI ?_; intros) | refine stp ?_ | (refine cnd rfl ?_ ?_ <;> intro hcond <;> (try contradiction) <;> try simp only [DD] at hcond) | (refine jAG ?_; intro hg; try simp only [hg]) | refine jAA E92 (h70) ?_ ?_ ?_ ?_ | (refine saI ?_ ?_; intros) | (refine ari ?_; first | omega | (simp only [DD, LL] <;> omega) | (go_unwrap; omega) | (simp only [DD] at hg; omega)) | (refine stq ?_; focus (simp only [decide_true, decide_false, Int.reduceEq, List.map_cons, List.map_nil, List.length_cons, List.length_nil, z0, z1, z2, l2, l3, j0, j1, j2, j3, j4, SA, reduceAdd, reduceIte, reduceEqDiff, Nat.reduceBEq, reduceCtorEq]; (try go_unwrap; try simp only [decide_true, decide_false, Int.reduceEq, List.map_cons, List.map_nil, List.length_cons, List.length_nil, z0, z1, z2, l2, l3, j0, j1, j2, j3, j4, RR, reduceCtorEq]))) | refine And.intro ?_ ?_)
  all_goals (simp only [decide_eq_true_eq]; done)
end
section
variable {G : jA3}
theorem E31 : Ent Tryz.prog 31 := ⟨Tryz.f31, Tryz.func31, by kernel_rfl, by kernel_rfl⟩
abbrev jHO := List UInt8 -> Option Int
def jB9 (env : jHO) (n : Nd) (acc : List Int) : Except Int Int :=
 if n.op = 1 then
  match env n.name with
  | none => .error 21
  | some v => if jMQ v = true then .ok v else .error 9
 else if (jF6 n (n.kids.map fun k => acc.getD k.toNat 0)).2 = true ∧ jMQ (jF6 n (n.kids.map fun k => acc.getD k.toNat 0)).1 = true then .ok (jF6 n (n.kids.map fun k => acc.getD k.toNat 0)).1 else .error 9
def jFG (env : jHO) : List Nd -> List Int -> Except Int (List Int)
 | [], acc => .ok acc
 | n :: ns, acc =>
  match jB9 env n acc with
  | .error e => .error e
  | .ok v => jFG env ns (acc ++ [v])
def jFF (env : jHO) (l : List Nd) : Int × Int :=
 if jBP l ≠ 0 then (0, jBP l) else
 match jFG env l [] with
 | .error e => (0, e)
 | .ok acc => (acc.getD (l.length - 1) 0, 0)
theorem jID {env : jHO} {n : Nd} {acc : List Int} {v : Int} (h : jB9 env n acc = .ok v) : -1000000000000000000 <= v ∧ v <= 1000000000000000000 := by
 have key : ∀ v, jMQ v = true -> -1000000000000000000 <= v ∧ v <= 1000000000000000000 := fun v h => by
  simpa [jMQ] using h
 unfold jB9 at h
 split at h
 ·split at h
  ·cases h
  ·split at h
   ·cases h; exact key _ ‹_›
   ·cases h
 ·split at h
  ·cases h; exact key _ (And.right ‹_›)
  ·cases h
theorem V31 (hG : jJD G) (env : jHO) (es : List (PV × PV)) (hes : ∀ s, jFK es (.str s) = (env s).map (PV.int .i64)) (l : List Nd) (hl : l.length <= 9223372036854775807) (hs : ∀ n ∈ l, n.name.length <= 9223372036854775807 ∧ n.kids.length <= 9223372036854775807) :
  jAB Tryz.prog G 31 [jFL l, .jC9 .str es] (.tup [.int .i64 (jFF env l).1, .int .i64 (jFF env l).2]) := by
 refine jAB.jAT Tryz.func31 k31 mix (by simp [c31]) ?_
 have h29 := V20 hG l hl hs
 simp only [jFL] at h29
 simp only [c31, L31, CC, jBW, jFL]
 by_cases hc : jBP l = 0
 ·obtain ⟨kRR, hne, hwf, hall, -⟩ := jGD hc
  have hl0 : 0 < l.length := List.length_pos_iff.2 hne
  have hM : jFF env l = (match jFG env l [] with
   | .error e => (0, e)
   | .ok acc => (acc.getD (l.length - 1) 0, 0)) := by rw [jFF, if_neg (by omega)]
  rw [hc] at h29
  have hd0 : decide ((0 : Int) = 0) = true := rfl
  have hm1 : ((8 : Nat) : Int) * (l.length : Int) <= 281474976710656 := by omega
  have hm2 : (l.length : Int) <= 9223372036854775807 := by omega
  have hm3 : 0 <= (l.length : Int) := by omega
  repeat' (first | exact clo | (refine sqI ?_; intros) | refine stp ?_ | (refine cnd rfl ?_ ?_ <;> intro hcond <;> (try contradiction) <;> try simp only [DD] at hcond) | (refine jAG ?_; intro hg; try simp only [hg]) | refine jAA E20 (h29) ?_ ?_ ?_ ?_ | (refine saI ?_ ?_; intros) | (refine ari ?_; first | omega | (simp only [DD, LL] <;> omega) | (go_unwrap; omega) | (simp only [DD] at hg; omega)) | (refine stq ?_; focus (simp only [hd0, List.length_map, hm1, hm2, hm3, Int.le_refl, SA, reduceAdd, reduceIte, reduceEqDiff, Nat.reduceBEq, reduceCtorEq]; (try go_unwrap; try simp only [hd0, List.length_map, hm1, hm2, hm3, Int.le_refl, RR, reduceCtorEq]))) | refine And.intro ?_ ?_)
  refine PW.jDV (σ := Nat × List Int) 2 (fun _ _ => rfl) [1, 7, 25, 26, 27] (fun s => [.jC9 .str es, .sl none 1 l.length, .list (some 4) (l.map ndP), .int .i64 l.length, .int .i64 s.1])
   (fun s => [some (.var (some 1) (.agg [.list (some 4) (l.map ndP)])), some (.row none (jQP s.2 l.length))])
   (fun s => s.1 <= l.length ∧ s.2.length = s.1 ∧ (∀ x ∈ s.2, -1000000000000000000 <= x ∧ x <= 1000000000000000000) ∧ wfK (l.drop s.1) s.1 ∧ jFG env l [] = jFG env (l.drop s.1) s.2) (fun s => l.length - s.1) (0, []) ?_ ?_ ⟨by simp, by simp, by simp, by simpa using hwf, by simp⟩ ?_
  ·simp only [SA, reduceAdd, reduceIte, reduceEqDiff, Nat.reduceBEq, reduceCtorEq, List.length_map, Int.toNat_natCast]; rfl
  ·simp [jQP]
  rintro ⟨i, acc⟩ ⟨hi, hal, hb, hwf, hr⟩
  simp only at hi hal hb hwf hr
  simp only [List.zip_cons_cons, List.zip_nil_left]
  rcases Nat.lt_or_ge i l.length with h | h
  ·obtain ⟨n, hd, hn, hg⟩ := drop_at h
   rw [hd] at hr hwf
   rw [jFG] at hr
   obtain ⟨hwk, hwf⟩ := hwf
   have hd' : decide ((i : Int) < l.length) = true := by simp only [decide_eq_true_eq]; omega
   have hgn := ((hg ndP).1).trans (kG1 n)
   obtain ⟨hf, -⟩ := hall n (List.mem_of_getElem? hn)
   obtain ⟨hop1, hop2, hkl, hk3⟩ := jPG hf
   repeat' (first | exact clo | (refine sqI ?_; intros) | refine stp ?_ | (refine cnd rfl ?_ ?_ <;> intro hcond <;> (try contradiction) <;> try simp only [DD] at hcond) | (refine jAG ?_; intro hg; try simp only [hg]) | (refine saI ?_ ?_; intros) | (refine ari ?_; first | omega | (simp only [DD, LL] <;> omega) | (go_unwrap; omega) | (simp only [DD] at hg; omega)) | (refine stq ?_; focus (simp only [hd', hgn, List.length_map, SA, reduceAdd, reduceIte, reduceEqDiff, Nat.reduceBEq, reduceCtorEq]; (try go_unwrap; try simp only [hd', hgn, List.length_map, RR, reduceCtorEq]))) | refine And.intro ?_ ?_)
   refine PW.own none 10 rfl ?_
   refine PW.loop (σ := Nat) [1, 7, 8, 9, 10, 25, 26, 27, 33, 34, 35] (fun j => [.jC9 .str es, .sl none 1 l.length, .int .i64 i, .ref 2 0, .sl none 3 j, .list (some 4) (l.map ndP), .int .i64 l.length, .int .i64 i, .list none (n.kids.map (PV.int .i64)), .int .i64 n.kids.length, .int .i64 j])
    (fun j => [some (.var (some 1) (.agg [.list (some 4) (l.map ndP)])), some (.row none (jQP acc l.length)), some (.var (some 4) (.agg [.int .i64 n.op, .int .i64 n.num, .str n.name, .list none (n.kids.map (PV.int .i64))])), some (.row none (((n.kids.take j).map fun k => acc.getD k.toNat 0).map (PV.int .i64)))])
    (fun j => j <= n.kids.length) (fun j => n.kids.length - j) 0 ?_ ?_ (by simp) ?_
   ·simp only [SA, reduceAdd, reduceIte, reduceEqDiff, Nat.reduceBEq, reduceCtorEq, List.length_map]; rfl
   ·simp
   rintro j hj
   simp only [List.zip_cons_cons, List.zip_nil_left]
   have hll : ((List.take j n.kids).map (fun k => acc.getD k.toNat 0)).length = j := by simp; omega
   have htl : (((List.take j n.kids).map (fun k => acc.getD k.toNat 0)).map (PV.int .i64)).length = j := by simp; omega
   have htk : List.take j (((List.take j n.kids).map (fun k => acc.getD k.toNat 0)).map (PV.int .i64)) = ((List.take j n.kids).map (fun k => acc.getD k.toNat 0)).map (PV.int .i64) := List.take_of_length_le (by omega)
   rcases Nat.lt_or_ge j n.kids.length with h' | h'
   ·obtain ⟨k, hkd, hkn', hkg⟩ := drop_at h'
    have hd2 : decide ((j : Int) < n.kids.length) = true := by simp only [decide_eq_true_eq]; omega
    obtain ⟨hk0, hki⟩ := hwk k (List.mem_of_getElem? hkn')
    have ha := jTH (acc := acc) l.length (show k.toNat < acc.length by omega)
    have hlen := jU1 (acc := acc) (N := l.length) (by omega)
    repeat' (first | exact clo | (refine sqI ?_; intros) | refine stp ?_ | (refine cnd rfl ?_ ?_ <;> intro hcond <;> (try contradiction) <;> try simp only [DD] at hcond) | (refine jAG ?_; intro hg; try simp only [hg]) | (refine saI ?_ ?_; intros) | (refine ari ?_; first | omega | (simp only [DD, LL] <;> omega) | (go_unwrap; omega) | (simp only [DD] at hg; omega)) | (refine stq ?_; focus (simp only [hd2, (hkg (PV.int .i64)).1, ha, hlen, htl, htk, SA, reduceAdd, reduceIte, reduceEqDiff, Nat.reduceBEq, reduceCtorEq]; (try go_unwrap; try simp only [hd2, (hkg (PV.int .i64)).1, ha, hlen, htl, htk, RR, reduceCtorEq]))) | refine And.intro ?_ ?_)
    have hts : List.take (j + 1) n.kids = List.take j n.kids ++ [k] := by rw [List.take_add_one, hkn']; rfl
    exact ⟨j + 1, rfl, by rw [hts, List.map_append, List.map_append]; rfl, h', by omega⟩
   ·have hjk : j = n.kids.length := by omega
    subst hjk
    have hd2 : decide (((n.kids.length : Nat) : Int) < n.kids.length) = false := by simp
    rw [List.take_length] at hll htl htk
    rw [List.take_length]
    have h38 := V56 (G := G) n (n.kids.map fun k => acc.getD k.toNat 0)
    have hfix : ∀ v ∈ n.kids.map (fun k => acc.getD k.toNat 0), -1000000000000000000 <= v ∧ v <= 1000000000000000000 := by
     intro v hv
     obtain ⟨k, hk, rfl⟩ := List.mem_map.1 hv
     rw [List.getD_eq_getElem?_getD]
     cases hx : acc[k.toNat]? with
     | none => simp
     | some x => simpa using hb x (List.mem_of_getElem? hx)
    rw [kG1] at h38
    have hset : ∀ v : Int, (jQP acc l.length).set i (.int .i64 v) = jQP (acc ++ [v]) l.length := by
     intro v
     rw [kGT (by omega), <- hal, jOT, kGV]
    have hlen := jU1 (acc := acc) (N := l.length) (by omega)
    have hgo : ∀ v : Int, jFG env l [] = jFG env (l.drop (i + 1)) (acc ++ [v]) -> (∀ x ∈ acc ++ [v], -1000000000000000000 <= x ∧ x <= 1000000000000000000) -> True := fun _ _ _ => trivial
    by_cases hop : n.op = 1
    ·have d1 : decide (n.op = 1) = true := by simpa using hop
     cases henv : env n.name with
     | none =>
      have hm := hes n.name
      rw [henv, Option.map_none] at hm
      have hst : jB9 env n acc = .error 21 := by rw [jB9, if_pos hop, henv]
      rw [hst] at hr
      repeat' (first | exact clo | (refine sqI ?_; intros) | refine stp ?_ | (refine cnd rfl ?_ ?_ <;> intro hcond <;> (try contradiction) <;> try simp only [DD] at hcond) | (refine jAG ?_; intro hg; try simp only [hg]) | (refine saI ?_ ?_; intros) | (refine ari ?_; first | omega | (simp only [DD, LL] <;> omega) | (go_unwrap; omega) | (simp only [DD] at hg; omega)) | (refine stq ?_; focus (simp only [hd2, hm, d1, Option.getD_none, Option.isSome_none, List.length_map, SA, reduceAdd, reduceIte, reduceEqDiff, Nat.reduceBEq, reduceCtorEq]; (try go_unwrap; try simp only [hd2, hm, d1, Option.getD_none, Option.isSome_none, List.length_map, RR, reduceCtorEq]))) | refine And.intro ?_ ?_)
      all_goals first | rfl | (rw [hM, hr]; done) | (rw [hM, hr]; rfl)
     | some v =>
      have hm := hes n.name
      rw [henv, Option.map_some] at hm
      cases hfv : jMQ v with
      | true =>
       have hst : jB9 env n acc = .ok v := by rw [jB9, if_pos hop, henv]; simp [hfv]
       have hft := jID hst
       rw [hst] at hr
       repeat' (first | exact clo | (refine sqI ?_; intros) | refine stp ?_ | (refine cnd rfl ?_ ?_ <;> intro hcond <;> (try contradiction) <;> try simp only [DD] at hcond) | (refine jAG ?_; intro hg; try simp only [hg]) | refine jAY E57 (V57 v) ?_ ?_ ?_ ?_ ?_ | (refine saI ?_ ?_; intros) | (refine ari ?_; first | omega | (simp only [DD, LL] <;> omega) | (go_unwrap; omega) | (simp only [DD] at hg; omega)) | (refine stq ?_; focus (simp only [hd2, hm, d1, Option.getD_some, Option.isSome_some, List.length_map, hfv, hset, hlen, SA, reduceAdd, reduceIte, reduceEqDiff, Nat.reduceBEq, reduceCtorEq]; (try go_unwrap; try simp only [hd2, hm, d1, Option.getD_some, Option.isSome_some, List.length_map, hfv, hset, hlen, RR, reduceCtorEq]))) | refine And.intro ?_ ?_)
       refine ⟨(i + 1, acc ++ [v]), (by first | rfl | (simp only [TT, jAF.kill, PV.kill, Nat.reduceLeDiff, reduceIte, Nat.le_refl, Nat.zero_le, Nat.not_le, Nat.lt_irrefl]; done) | (simp [jBE, jAZ, jAF.kill, PV.kill]; done)), (by first | rfl | (simp only [TT, jAF.kill, PV.kill, Nat.reduceLeDiff, reduceIte, Nat.le_refl, Nat.zero_le, Nat.not_le, Nat.lt_irrefl]; done) | (simp [jBE, jAZ, jAF.kill, PV.kill]; done)), ⟨h, by simp [hal], ?_, hwf, hr⟩, by simp only; omega⟩
       intro x hx
       rcases List.mem_append.1 hx with hx | hx
       ·exact hb x hx
       ·simp at hx; subst hx; exact hft
      | false =>
       have hst : jB9 env n acc = .error 9 := by rw [jB9, if_pos hop, henv]; simp [hfv]
       rw [hst] at hr
       repeat' (first | exact clo | (refine sqI ?_; intros) | refine stp ?_ | (refine cnd rfl ?_ ?_ <;> intro hcond <;> (try contradiction) <;> try simp only [DD] at hcond) | (refine jAG ?_; intro hg; try simp only [hg]) | refine jAY E57 (V57 v) ?_ ?_ ?_ ?_ ?_ | (refine saI ?_ ?_; intros) | (refine ari ?_; first | omega | (simp only [DD, LL] <;> omega) | (go_unwrap; omega) | (simp only [DD] at hg; omega)) | (refine stq ?_; focus (simp only [hd2, hm, d1, Option.getD_some, Option.isSome_some, List.length_map, hfv, SA, reduceAdd, reduceIte, reduceEqDiff, Nat.reduceBEq, reduceCtorEq]; (try go_unwrap; try simp only [hd2, hm, d1, Option.getD_some, Option.isSome_some, List.length_map, hfv, RR, reduceCtorEq]))) | refine And.intro ?_ ?_)
       all_goals first | rfl | (rw [hM, hr]; done) | (rw [hM, hr]; rfl)
    ·have d1 : decide (n.op = 1) = false := by simpa using hop
     have h38 := h38 ⟨hop1, hop2, hop⟩ (by rw [List.length_map]; exact hkl) hfix
     have hst : jB9 env n acc = if (jF6 n (n.kids.map fun k => acc.getD k.toNat 0)).2 = true ∧ jMQ (jF6 n (n.kids.map fun k => acc.getD k.toNat 0)).1 = true then .ok (jF6 n (n.kids.map fun k => acc.getD k.toNat 0)).1 else .error 9 := by rw [jB9, if_neg hop]
     generalize jF6 n (n.kids.map fun k => acc.getD k.toNat 0) = r at *
     obtain ⟨v, b⟩ := r
     simp only at h38 hst
     have hm := hes n.name
     generalize jFK es (.str n.name) = o at *
     by_cases hfv : b = true ∧ jMQ v = true
     ·rw [if_pos hfv] at hst
      have hft := jID hst
      rw [hst] at hr
      obtain ⟨rfl, hfv⟩ := hfv
      repeat' (first | exact clo | (refine sqI ?_; intros) | refine stp ?_ | (refine cnd rfl ?_ ?_ <;> intro hcond <;> (try contradiction) <;> try simp only [DD] at hcond) | (refine jAG ?_; intro hg; try simp only [hg]) | refine jAA E56 (h38) ?_ ?_ ?_ ?_ | refine jAY E57 (V57 v) ?_ ?_ ?_ ?_ ?_ | (refine saI ?_ ?_; intros) | (refine ari ?_; first | omega | (simp only [DD, LL] <;> omega) | (go_unwrap; omega) | (simp only [DD] at hg; omega)) | (refine stq ?_; focus (simp only [hd2, d1, List.length_map, hfv, hset, hlen, htl, htk, Nat.le_refl, SA, reduceAdd, reduceIte, reduceEqDiff, Nat.reduceBEq, reduceCtorEq]; (try go_unwrap; try simp only [hd2, d1, List.length_map, hfv, hset, hlen, htl, htk, Nat.le_refl, RR, reduceCtorEq]))) | refine And.intro ?_ ?_)
      refine ⟨(i + 1, acc ++ [v]), (by first | rfl | (simp only [TT, jAF.kill, PV.kill, Nat.reduceLeDiff, reduceIte, Nat.le_refl, Nat.zero_le, Nat.not_le, Nat.lt_irrefl]; done) | (simp [jBE, jAZ, jAF.kill, PV.kill]; done)), (by first | rfl | (simp only [TT, jAF.kill, PV.kill, Nat.reduceLeDiff, reduceIte, Nat.le_refl, Nat.zero_le, Nat.not_le, Nat.lt_irrefl]; done) | (simp [jBE, jAZ, jAF.kill, PV.kill]; done)), ⟨h, by simp [hal], ?_, hwf, hr⟩, by simp only; omega⟩
      intro x hx
      rcases List.mem_append.1 hx with hx | hx
      ·exact hb x hx
      ·simp at hx; subst hx; exact hft
     ·rw [if_neg hfv] at hst
      rw [hst] at hr
      cases b with
      | false =>
       repeat' (first | exact clo | (refine sqI ?_; intros) | refine stp ?_ | (refine cnd rfl ?_ ?_ <;> intro hcond <;> (try contradiction) <;> try simp only [DD] at hcond) | (refine jCL rfl ?_; simp only [hd2, d1, List.length_map, htl, htk, Nat.le_refl, SA, reduceAdd, reduceIte, reduceEqDiff, Nat.reduceBEq, reduceCtorEq]; (try go_unwrap; try simp only [hd2, d1, List.length_map, htl, htk, Nat.le_refl, RR, reduceCtorEq])) | (refine jAG ?_; intro hg; try simp only [hg]) | refine jAA E56 (h38) ?_ ?_ ?_ ?_ | (refine saI ?_ ?_; intros) | (refine ari ?_; first | omega | (simp only [DD, LL] <;> omega) | (go_unwrap; omega) | (simp only [DD] at hg; omega)) | (refine stq ?_; focus (simp only [hd2, d1, List.length_map, htl, htk, Nat.le_refl, SA, reduceAdd, reduceIte, reduceEqDiff, Nat.reduceBEq, reduceCtorEq]; (try go_unwrap; try simp only [hd2, d1, List.length_map, htl, htk, Nat.le_refl, RR, reduceCtorEq]))) | refine And.intro ?_ ?_)
       all_goals first | rfl | (rw [hM, hr]; done) | (rw [hM, hr]; rfl)
      | true =>
       have hfw : jMQ v = false := by simpa using hfv
       repeat' (first | exact clo | (refine sqI ?_; intros) | refine stp ?_ | (refine cnd rfl ?_ ?_ <;> intro hcond <;> (try contradiction) <;> try simp only [DD] at hcond) | (refine jAG ?_; intro hg; try simp only [hg]) | refine jAA E56 (h38) ?_ ?_ ?_ ?_ | refine jAY E57 (V57 v) ?_ ?_ ?_ ?_ ?_ | (refine saI ?_ ?_; intros) | (refine ari ?_; first | omega | (simp only [DD, LL] <;> omega) | (go_unwrap; omega) | (simp only [DD] at hg; omega)) | (refine stq ?_; focus (simp only [hd2, d1, List.length_map, hfw, htl, htk, Nat.le_refl, SA, reduceAdd, reduceIte, reduceEqDiff, Nat.reduceBEq, reduceCtorEq]; (try go_unwrap; try simp only [hd2, d1, List.length_map, hfw, htl, htk, Nat.le_refl, RR, reduceCtorEq]))) | refine And.intro ?_ ?_)
       all_goals first | rfl | (rw [hM, hr]; done) | (rw [hM, hr]; rfl)
  ·have hd' : decide ((i : Int) < l.length) = false := by simp only [decide_eq_false_iff_not]; omega
   rw [List.drop_eq_nil_of_le h, jFG] at hr
   have hlast : (jQP acc l.length)[l.length - 1]? = some (.int .i64 (acc.getD (l.length - 1) 0)) := jTH _ (by omega)
   have hti : ((l.length : Int) - 1).toNat = l.length - 1 := by omega
   repeat' (first | exact clo | (refine sqI ?_; intros) | refine stp ?_ | (refine cnd rfl ?_ ?_ <;> intro hcond <;> (try contradiction) <;> try simp only [DD] at hcond) | (refine jAG ?_; intro hg; try simp only [hg]) | (refine saI ?_ ?_; intros) | (refine ari ?_; first | omega | (simp only [DD, LL] <;> omega) | (go_unwrap; omega) | (simp only [DD] at hg; omega)) | (refine stq ?_; focus (simp only [hd', hti, hlast, List.length_map, SA, reduceAdd, reduceIte, reduceEqDiff, Nat.reduceBEq, reduceCtorEq]; (try go_unwrap; try simp only [hd', hti, hlast, List.length_map, RR, reduceCtorEq]))) | refine And.intro ?_ ?_)
   all_goals first | (exact .inl ⟨rfl, rfl⟩) | rfl | (rw [hM, hr]; done) | (rw [hM, hr]; rfl)
 ·have hd0 : decide (jBP l = 0) = false := by simpa using hc
  repeat' (first | exact clo | (refine sqI ?_; intros) | refine stp ?_ | (refine cnd rfl ?_ ?_ <;> intro hcond <;> (try contradiction) <;> try simp only [DD] at hcond) | (refine jAG ?_; intro hg; try simp only [hg]) | refine jAA E20 (h29) ?_ ?_ ?_ ?_ | (refine saI ?_ ?_; intros) | (refine ari ?_; first | omega | (simp only [DD, LL] <;> omega) | (go_unwrap; omega) | (simp only [DD] at hg; omega)) | (refine stq ?_; focus (simp only [hd0, SA, reduceAdd, reduceIte, reduceEqDiff, Nat.reduceBEq, reduceCtorEq]; (try go_unwrap; try simp only [hd0, RR, reduceCtorEq]))) | refine And.intro ?_ ?_)
  rw [jFF, if_pos hc]
end
section
variable {G : jA3}
abbrev Pr := List UInt8 × Int
abbrev jJM : Int -> PV := PV.int .i64
end
open Go PG
abbrev St := List UInt8
abbrev kHO (L : List St) : Prop := L.Pairwise (· < ·)
theorem kJ9 {a b : St} (h : ¬ a < b) : b <= a := h
theorem kHQ {a b : St} (h : a <= b) (hn : a ≠ b) : a < b := by
 by_cases h1 : a < b
 ·exact h1
 ·exact absurd (List.le_antisymm h h1) hn
theorem kOU {a b : St} (h : ¬ a < b) (hn : a ≠ b) : b < a := kHQ (kJ9 h) (Ne.symm hn)
theorem kNA {a b c : St} (h : a < b) (k : b < c) : a < c := List.lt_trans h k
theorem kG5 (a : St) : ¬ a < a := List.lt_irrefl a
theorem kHO.nodup {L : List St} (h : kHO L) : L.Nodup := h.imp fun h e => by subst e; exact kG5 _ h
theorem kBA {A B : List St} (ha : kHO A) (hb : kHO B) (h : ∀ x, x ∈ A ↔ x ∈ B) : A = B := by
 refine List.Perm.eq_of_pairwise (le := (· < ·)) (fun x y _ _ h1 h2 => absurd (kNA h1 h2) (kG5 _)) ha hb ?_
 exact (List.perm_ext_iff_of_nodup ha.nodup hb.nodup).2 h
theorem kKA (a b : St) : Op.bytesLess a b = true ↔ a < b := by rw [Go.Proofs.bytesLess_eq]; simp
theorem jE6 : ∀ {a b : List St}, a.Nodup -> (∀ x ∈ a, x ∈ b) -> a.length <= b.length
 | [], b, _, _ => by simp
 | x :: a, b, hn, h => by
  have hx := h x (by simp)
  rw [List.nodup_cons] at hn
  have := jE6 (a := a) (b := b.erase x) hn.2 (fun y hy => by
   have hne : y ≠ x := fun e => hn.1 (e ▸ hy)
   exact (List.mem_erase_of_ne hne).2 (h y (by simp [hy])))
  rw [List.length_erase_of_mem hx] at this
  have : 0 < b.length := List.length_pos_of_mem hx
  simp only [List.length_cons]; omega
section
variable (N : List St) (nd : St -> List St)
inductive Rw (to : St) : Nat -> St -> Prop
 | one (s : St) (h : s ∈ N) (hl : ¬ s < to) (hx : to ∈ nd s) : Rw to 1 s
 | more (k : Nat) (s x : St) (h : s ∈ N) (hl : ¬ s < to) (hx : x ∈ nd s) (hge : ¬ x < to) (hne : x ≠ to) (hr : Rw to (k + 1) x) : Rw to (k + 2) s
def kFO (to : St) (D : St -> Nat) (n : Nat) (s : St) : Bool :=
 !(decide (0 < D s) || decide (s < to)) && (nd s).any fun x => (decide (n = 1) && decide (x = to)) || (decide (1 < n) && (!decide (x < to) && (!decide (x = to) && decide (D x = n - 1))))
def jC8 (to : St) : Nat -> St -> Nat
 | 0, _ => 0
 | n + 1, s => if s ∈ N ∧ kFO nd to (jC8 to n) (n + 1) s = true then n + 1 else jC8 to n s
variable {N nd}
theorem jWR {to : St} {D : St -> Nat} {n : Nat} {s : St} : kFO nd to D n s = true ↔ (D s = 0 ∧ ¬ s < to) ∧ ∃ x ∈ nd s, (n = 1 ∧ x = to) ∨ (1 < n ∧ ¬ x < to ∧ x ≠ to ∧ D x = n - 1) := by
 unfold kFO
 simp only [Bool.and_eq_true, Bool.not_eq_true', Bool.or_eq_false_iff, decide_eq_false_iff_not, List.any_eq_true, Bool.or_eq_true, decide_eq_true_eq]
 constructor
 ·rintro ⟨⟨h1, h2⟩, x, hx, h⟩
  exact ⟨⟨by omega, h2⟩, x, hx, h.imp id (fun ⟨a, b, c, d⟩ => ⟨a, b, c, d⟩)⟩
 ·rintro ⟨⟨h1, h2⟩, x, hx, h⟩
  exact ⟨⟨by omega, h2⟩, x, hx, h.imp id (fun ⟨a, b, c, d⟩ => ⟨a, b, c, d⟩)⟩
theorem kCX (to : St) : ∀ (n : Nat) (s : St), jC8 N nd to n s <= n
 | 0, s => by simp [jC8]
 | n + 1, s => by
  have := kCX to n s
  unfold jC8; split <;> omega
theorem kFM {to : St} {n : Nat} {s : St} (h : 0 < jC8 N nd to n s) : jC8 N nd to (n + 1) s = jC8 N nd to n s := by
 conv => lhs; unfold jC8
 rw [if_neg]
 rintro ⟨_, h2⟩
 have := (jWR.1 h2).1.1
 omega
theorem kCW {to : St} {n : Nat} {s : St} (h : 0 < jC8 N nd to n s) : ∀ m, n <= m -> jC8 N nd to m s = jC8 N nd to n s := by
 intro m hm
 induction m with
 | zero => obtain rfl : n = 0 := by omega
           rfl
 | succ m ih =>
  rcases Nat.lt_or_ge m n with h1 | h1
  ·obtain rfl : n = m + 1 := by omega
   rfl
  ·have := ih h1
   rw [kFM (by omega), this]
theorem jWQ {to : St} : ∀ {n j : Nat} {s : St}, jC8 N nd to n s = j -> 0 < j -> jC8 N nd to j s = j
 | 0, j, s, h, hj => by simp [jC8] at h; omega
 | n + 1, j, s, h, hj => by
  by_cases hc : s ∈ N ∧ kFO nd to (jC8 N nd to n) (n + 1) s = true
  ·have h' := h
   unfold jC8 at h; rw [if_pos hc] at h
   subst h; exact h'
  ·unfold jC8 at h; rw [if_neg hc] at h
   exact jWQ h hj
theorem jT3 {to : St} {n : Nat} {s : St} (h : jC8 N nd to (n + 1) s = n + 1) : s ∈ N ∧ ¬ s < to ∧ ∃ x ∈ nd s, (n + 1 = 1 ∧ x = to) ∨ (1 < n + 1 ∧ ¬ x < to ∧ x ≠ to ∧ jC8 N nd to n x = n) := by
 by_cases hc : s ∈ N ∧ kFO nd to (jC8 N nd to n) (n + 1) s = true
 ·obtain ⟨⟨_, h2⟩, x, hx, h3⟩ := jWR.1 hc.2
  exact ⟨hc.1, h2, x, hx, h3⟩
 ·unfold jC8 at h; rw [if_neg hc] at h
  have := kCX (N := N) (nd := nd) to n s
  omega
theorem kCV {to : St} : ∀ {n : Nat} {s : St}, 0 < jC8 N nd to n s -> Rw N nd to (jC8 N nd to n s) s := by
 have key : ∀ (j : Nat) (n : Nat) (s : St), jC8 N nd to n s = j -> 0 < j -> Rw N nd to j s := by
  intro j
  induction j with
  | zero => intro n s _ h; omega
  | succ j ih =>
   intro n s h _
   obtain ⟨h1, h2, x, hx, h3⟩ := jT3 (jWQ h (by omega))
   rcases h3 with ⟨h3, rfl⟩ | ⟨h3, h4, h5, h6⟩
   ·obtain rfl : j = 0 := by omega
    exact .one s h1 h2 hx
   ·obtain ⟨k, rfl⟩ : ∃ k, j = k + 1 := ⟨j - 1, by omega⟩
    exact .more k s x h1 h2 hx h4 h5 (ih _ x h6 (by omega))
 intro n s h
 exact key _ n s rfl h
theorem kHI {to : St} {n : Nat} {s : St} (h : 0 < jC8 N nd to n s) : s ∈ N ∧ ¬ s < to := by
 have hr := kCV h
 generalize jC8 N nd to n s = k at hr
 cases hr <;> exact ⟨by assumption, by assumption⟩
theorem kFL {to : St} {m n : Nat} {s : St} (h : jC8 N nd to m s = n + 2) : ∃ x ∈ nd s, to < x ∧ jC8 N nd to m x = n + 1 := by
 obtain ⟨h1, h2, x, hx, h3⟩ := jT3 (jWQ h (by omega))
 rcases h3 with ⟨h3, -⟩ | ⟨h3, h4, h5, h6⟩
 ·omega
 ·refine ⟨x, hx, kOU h4 h5, ?_⟩
  have := kCX (N := N) (nd := nd) to m s
  rw [h] at this
  rw [kCW (n := n + 1) (by omega) m (by omega), h6]
theorem kFN {to : St} {m : Nat} {s : St} (h : jC8 N nd to m s = 1) : to ∈ nd s := by
 obtain ⟨h1, h2, x, hx, h3⟩ := jT3 (jWQ h (by omega))
 rcases h3 with ⟨h3, rfl⟩ | ⟨h3, -⟩
 ·exact hx
 ·omega
variable (nd)
def Path (to : St) : St -> List St -> Prop
 | s, [] => to ∈ nd s
 | s, y :: l => y ∈ nd s ∧ Path to y l
def jBY (L : List St) : List St := L.mergeSort (fun x y => decide (x <= y))
def jKW (to : St) (D : St -> Nat) : Nat -> St -> List St
 | 0, _ => []
 | 1, _ => []
 | n + 2, s => match (jBY (nd s)).find? (fun x => decide (to < x) && decide (D x = n + 1)) with
   | some x => x :: jKW to D (n + 1) x
   | none => []
variable {nd}
theorem jGI {L : List St} {x : St} : x ∈ jBY L ↔ x ∈ L := (List.mergeSort_perm L _).mem_iff
theorem kDZ (a b c : St) : decide (a <= b) = true -> decide (b <= c) = true -> decide (a <= c) = true := by
 simp only [decide_eq_true_eq]; exact List.le_trans
theorem kDY (a b : St) : (decide (a <= b) || decide (b <= a)) = true := by
 simp only [Bool.or_eq_true, decide_eq_true_eq]; exact List.le_total a b
theorem jKP {L : List St} (h : L.Nodup) : kHO (jBY L) := by
 have h1 := List.pairwise_mergeSort kDZ kDY L
 have h2 : (jBY L).Nodup := (List.mergeSort_perm L _).nodup_iff.2 h
 have := h1.and h2
 refine this.imp fun ⟨a, b⟩ => ?_
 simp only [decide_eq_true_eq] at a
 exact kHQ a b
theorem jX4 {to : St} {D : St -> Nat} {n : Nat} {s : St} (h : ∃ x ∈ nd s, to < x ∧ D x = n + 1) : ∃ x, x ∈ nd s ∧ to < x ∧ D x = n + 1 ∧ (jBY (nd s)).find? (fun x => decide (to < x) && decide (D x = n + 1)) = some x ∧ jKW nd to D (n + 2) s = x :: jKW nd to D (n + 1) x := by
 cases hf : (jBY (nd s)).find? (fun x => decide (to < x) && decide (D x = n + 1)) with
 | none =>
  obtain ⟨x, hx, h1, h2⟩ := h
  have := List.find?_eq_none.1 hf x (jGI.2 hx)
  simp [h1, h2] at this
 | some x =>
  have h1 := List.find?_some hf
  simp only [Bool.and_eq_true, decide_eq_true_eq] at h1
  refine ⟨x, jGI.1 (List.mem_of_find?_eq_some hf), h1.1, h1.2, rfl, ?_⟩
  conv => lhs; unfold jKW
  rw [hf]
theorem jNA {to : St} {m : Nat} : ∀ {n : Nat} {s : St}, jC8 N nd to m s = n + 1 -> Path nd to s (jKW nd to (jC8 N nd to m) (n + 1) s) ∧ (jKW nd to (jC8 N nd to m) (n + 1) s).length = n ∧
  (∀ y ∈ jKW nd to (jC8 N nd to m) (n + 1) s, to < y ∧ y ∈ N ∧ 0 < jC8 N nd to m y ∧ jC8 N nd to m y < n + 1) ∧ (jKW nd to (jC8 N nd to m) (n + 1) s).Nodup
 | 0, s, h => by
  simp only [jKW]
  exact ⟨kFN h, rfl, (fun y hy => by cases hy), List.nodup_nil⟩
 | n + 1, s, h => by
  obtain ⟨x, h1, h2, h3, -, h4⟩ := jX4 (nd := nd) (kFL h)
  obtain ⟨i1, i2, i3, i4⟩ := jNA h3
  rw [h4]
  refine ⟨⟨h1, i1⟩, by simp [i2], fun y hy => ?_, List.nodup_cons.2 ⟨fun hx => ?_, i4⟩⟩
  ·rcases List.mem_cons.1 hy with rfl | hy
   ·exact ⟨h2, (kHI (N := N) (nd := nd) (to := to) (n := m) (by omega)).1, by omega, by omega⟩
   ·obtain ⟨a, b, c, d⟩ := i3 y hy; exact ⟨a, b, c, by omega⟩
  ·have := (i3 x hx).2.2.2; omega
variable (N nd)
def jF5 (out : List St) (s : St) : Bool := !decide (s ∈ out) && (nd s).all fun x => !(decide (x ∈ N)) || decide (x ∈ out)
def jF0 : Nat -> List St -> Option (List St)
 | 0, out => some out
 | n + 1, out => match N.find? (jF5 N nd out) with
   | none => none
   | some s => jF0 n (out ++ [s])
def kF2 (out : List St) : Prop := ∀ a s b, out = a ++ s :: b -> ∀ x ∈ nd s, x ∈ N -> x ∈ a
variable {N nd}
theorem jHX {out : List St} {s : St} : jF5 N nd out s = true ↔ s ∉ out ∧ ∀ x ∈ nd s, x ∈ N -> x ∈ out := by
 unfold jF5
 simp only [Bool.and_eq_true, Bool.not_eq_true', decide_eq_false_iff_not, List.all_eq_true, Bool.or_eq_true, decide_eq_true_eq]
 exact ⟨fun ⟨a, b⟩ => ⟨a, fun x hx hn => (b x hx).resolve_left (fun h => h hn)⟩, fun ⟨a, b⟩ => ⟨a, fun x hx => (Decidable.em (x ∈ N)).elim (fun h => .inr (b x hx h)) .inl⟩⟩
theorem kF2.snoc {out : List St} {s : St} (h : kF2 N nd out) (hs : ∀ x ∈ nd s, x ∈ N -> x ∈ out) : kF2 N nd (out ++ [s]) := by
 intro a t b he x hx hn
 rcases List.append_eq_append_iff.1 he with ⟨c, h1, h2⟩ | ⟨c, h1, h2⟩
 ·cases c with
  | nil => simp at h1 h2; obtain ⟨rfl, rfl⟩ := h2; rw [h1]; exact hs x hx hn
  | cons y c => simp at h2
 ·cases c with
  | nil => simp at h1 h2; obtain ⟨rfl, rfl⟩ := h2; rw [<- h1]; exact hs x hx hn
  | cons y c =>
   simp only [List.cons_append, List.cons.injEq] at h2
   obtain ⟨rfl, h2⟩ := h2
   exact h a t c h1 x hx hn
theorem jM2 : ∀ {n : Nat} {out out' : List St}, jF0 N nd n out = some out' -> kF2 N nd out -> out.Nodup -> (∀ s ∈ out, s ∈ N) -> kF2 N nd out' ∧ out'.Nodup ∧ (∀ s ∈ out', s ∈ N) ∧ out'.length = out.length + n
 | 0, out, out', h, h1, h2, h3 => by cases h; exact ⟨h1, h2, h3, rfl⟩
 | n + 1, out, out', h, h1, h2, h3 => by
  unfold jF0 at h
  split at h
  ·cases h
  ·rename_i s hf
   have hr := jHX.1 (List.find?_some hf)
   have hm := List.mem_of_find?_eq_some hf
   obtain ⟨a, b, c, d⟩ := jM2 h (h1.snoc hr.2) (by
    rw [List.nodup_append]
    refine ⟨h2, by simp, fun x hx y hy e => ?_⟩
    simp at hy; subst hy; subst e; exact hr.1 hx) (fun x hx => by
    rcases List.mem_append.1 hx with hx | hx
    ·exact h3 x hx
    ·simp at hx; subst hx; exact hm)
   exact ⟨a, b, c, by rw [d]; simp; omega⟩
theorem jM4 : ∀ {n : Nat} {out : List St}, jF0 N nd n out = none -> ∃ out' : List St, out.length <= out'.length ∧ out'.length < out.length + n ∧ (out.Nodup -> out'.Nodup) ∧ ∀ s ∈ N, s ∉ out' -> ∃ x ∈ nd s, x ∈ N ∧ x ∉ out'
 | 0, out, h => by cases h
 | n + 1, out, h => by
  unfold jF0 at h
  split at h
  ·rename_i hf
   refine ⟨out, Nat.le_refl _, by omega, id, fun s hs hn => ?_⟩
   have := List.find?_eq_none.1 hf s hs
   rw [jHX] at this
   by_cases hx : ∃ x ∈ nd s, x ∈ N ∧ x ∉ out
   ·exact hx
   ·exact absurd ⟨hn, fun x hx' hN => Decidable.byContradiction fun hno => hx ⟨x, hx', hN, hno⟩⟩ this
  ·rename_i s hf
   have hr := jHX.1 (List.find?_some hf)
   obtain ⟨o, h1, h2, h3, h4⟩ := jM4 h
   simp only [List.length_append, List.length_singleton] at h1 h2
   refine ⟨o, by omega, by omega, fun hn => h3 ?_, h4⟩
   rw [List.nodup_append]
   refine ⟨hn, by simp, fun x hx y hy e => ?_⟩
   simp at hy; subst hy; subst e; exact hr.1 hx
theorem full_of {out : List St} (hN : N.Nodup) (h2 : out.Nodup) (h3 : ∀ s ∈ out, s ∈ N) (hl : out.length = N.length) : out.Perm N := by
 refine (List.perm_ext_iff_of_nodup h2 hN).2 fun s => ⟨h3 s, fun hs => ?_⟩
 refine Decidable.byContradiction fun hno => ?_
 have := jE6 (a := s :: out) (b := N) (List.nodup_cons.2 ⟨hno, h2⟩) (fun x hx => by
  rcases List.mem_cons.1 hx with rfl | hx
  ·exact hs
  ·exact h3 x hx)
 simp at this; omega
theorem jTO {out : List St} (h : kF2 N nd out) {s x : St} (hs : s ∈ out) (hx : x ∈ nd s) (hn : x ∈ N) : out.idxOf x < out.idxOf s := by
 obtain ⟨a, b, e, hna⟩ := List.eq_append_cons_of_mem hs
 have hxa := h a s b e x hx hn
 subst e
 have h1 : (a ++ s :: b).idxOf s = a.length := by rw [List.idxOf_append, if_neg hna]; simp
 have h2 : (a ++ s :: b).idxOf x = a.idxOf x := by rw [List.idxOf_append, if_pos hxa]
 rw [h1, h2]
 exact List.idxOf_lt_length_of_mem hxa
end
end Go.Proofs.YthjkmhfiffojeaaGreatDoor
