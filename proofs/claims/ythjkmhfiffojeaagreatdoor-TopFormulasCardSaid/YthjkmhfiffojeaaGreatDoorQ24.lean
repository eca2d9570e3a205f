import Derived.Test.YthjkmhfiffojeaaGreatDoorQ23
namespace Go.Proofs.YthjkmhfiffojeaaGreatDoor
open Go PG Go.Proofs
open Nat (reduceAdd reduceEqDiff)
set_option linter.unusedSimpArgs false
set_option linter.unusedVariables false
set_option maxHeartbeats 4000000
set_option maxRecDepth 100000
theorem E62 : Ent Tryz.prog 62 := ⟨Tryz.f62, Tryz.func62, by kernel_rfl, by kernel_rfl⟩
theorem E43 : Ent Tryz.prog 43 := ⟨Tryz.f43, Tryz.func43, by kernel_rfl, by kernel_rfl⟩
abbrev cpI (m : List (St × Int)) : PV := .jC2 none (.jC9 .str (jB4 jDE m)) 0
abbrev cpN (n : Int) : PV := .jC2 none (.int .i64 n) 0
abbrev cpS (s : St) : PV := .jC2 none (.str s) 0
theorem jO9 (m : List (St × Int)) (s : St) : (jFK (jB4 jDE m) (.str s)).getD (.int .i64 0) = .int .i64 ((jCA m s).getD 0) := by rw [jCR]; exact getD_map jDE _ 0
def jKO (to : St) (m : List (St × Int)) (n : Nat) (x : St) : Bool := (decide (n = 1) && decide (x = to)) || (decide (1 < n) && (!decide (x < to) && (!decide (x = to) && decide ((jCA m x).getD 0 = (n : Int) - 1))))
theorem kHN (a b : St) : Op.bytesLess a b = decide (a < b) := by rw [Bool.eq_iff_iff, kKA, decide_eq_true_eq]
theorem V62 (to : St) (m : List (St × Int)) (n : Nat) (hn : n <= 1000000) (x : St) : jAB Tryz.prog G0 62 [.str x, cpN n, cpS to, cpI m] (.bool (jKO to m n x)) := by
 refine jAB.jAT Tryz.func62 k62 mix (by simp [c62]) ?_
 simp only [c62, L62, CC, jBW, cpN, cpS, cpI]
 have h1 := jO9 m x
 have hb := kHN x to
 have hw : IntKind.i64.wrap ((n : Int) - 1) = (n : Int) - 1 := IntWalk.i64_in _ (by omega)
 unfold jKO
 generalize (jCA m x).getD 0 = v at h1
 by_cases c1 : n = 1
 ·have d1 : decide ((n : Int) = 1) = true := by simp only [decide_eq_true_eq]; omega
  have d2 : decide ((1 : Int) < n) = false := by simp only [decide_eq_false_iff_not]; omega
  have e1 : decide (n = 1) = true := by simpa using c1
  have e2 : decide (1 < n) = false := by simp only [decide_eq_false_iff_not]; omega
  cases d3 : decide (x = to)
  ·repeat' (first | exact clo | (refine sqI ?_; intros) | refine stp ?_ | (refine cnd rfl ?_ ?_ <;> intro hcond <;> (try contradiction) <;> try simp only [DD] at hcond) | (refine jAG ?_; intro hg; try simp only [hg]) | (refine saI ?_ ?_; intros) | (refine ari ?_; first | omega | (simp only [DD, LL] <;> omega) | (go_unwrap; omega) | (simp only [DD] at hg; omega)) | (refine stq ?_; focus (simp only [d1, d2, d3, cut, SA, reduceAdd, reduceIte, reduceEqDiff, Nat.reduceBEq, reduceCtorEq]; (try go_unwrap; try simp only [d1, d2, d3, cut, RR, reduceCtorEq]))) | refine And.intro ?_ ?_)
   all_goals (rw [e1, e2]; rfl)
  ·repeat' (first | exact clo | (refine sqI ?_; intros) | refine stp ?_ | (refine cnd rfl ?_ ?_ <;> intro hcond <;> (try contradiction) <;> try simp only [DD] at hcond) | (refine jAG ?_; intro hg; try simp only [hg]) | (refine saI ?_ ?_; intros) | (refine ari ?_; first | omega | (simp only [DD, LL] <;> omega) | (go_unwrap; omega) | (simp only [DD] at hg; omega)) | (refine stq ?_; focus (simp only [d1, d2, d3, cut, SA, reduceAdd, reduceIte, reduceEqDiff, Nat.reduceBEq, reduceCtorEq]; (try go_unwrap; try simp only [d1, d2, d3, cut, RR, reduceCtorEq]))) | refine And.intro ?_ ?_)
   all_goals (rw [e1]; rfl)
 ·have d1 : decide ((n : Int) = 1) = false := by simp only [decide_eq_false_iff_not]; omega
  have e1 : decide (n = 1) = false := by simpa using c1
  by_cases c2 : 1 < n
  ·have d2 : decide ((1 : Int) < n) = true := by simp only [decide_eq_true_eq]; omega
   have e2 : decide (1 < n) = true := by simpa using c2
   cases d4 : decide (x < to)
   ·rw [d4] at hb
    cases d3 : decide (x = to)
    ·repeat' (first | exact clo | (refine sqI ?_; intros) | refine stp ?_ | (refine cnd rfl ?_ ?_ <;> intro hcond <;> (try contradiction) <;> try simp only [DD] at hcond) | (refine jAG ?_; intro hg; try simp only [hg]) | (refine saI ?_ ?_; intros) | (refine ari ?_; first | omega | (simp only [DD, LL] <;> omega) | (go_unwrap; omega) | (simp only [DD] at hg; omega)) | (refine stq ?_; focus (simp only [d1, d2, d3, hb, h1, hw, cut, SA, reduceAdd, reduceIte, reduceEqDiff, Nat.reduceBEq, reduceCtorEq]; (try go_unwrap; try simp only [d1, d2, d3, hb, h1, hw, cut, RR, reduceCtorEq]))) | refine And.intro ?_ ?_)
     all_goals (rw [e1, e2]; rfl)
    ·repeat' (first | exact clo | (refine sqI ?_; intros) | refine stp ?_ | (refine cnd rfl ?_ ?_ <;> intro hcond <;> (try contradiction) <;> try simp only [DD] at hcond) | (refine jAG ?_; intro hg; try simp only [hg]) | (refine saI ?_ ?_; intros) | (refine ari ?_; first | omega | (simp only [DD, LL] <;> omega) | (go_unwrap; omega) | (simp only [DD] at hg; omega)) | (refine stq ?_; focus (simp only [d1, d2, d3, hb, h1, hw, cut, SA, reduceAdd, reduceIte, reduceEqDiff, Nat.reduceBEq, reduceCtorEq]; (try go_unwrap; try simp only [d1, d2, d3, hb, h1, hw, cut, RR, reduceCtorEq]))) | refine And.intro ?_ ?_)
     all_goals (rw [e1, e2]; rfl)
   ·rw [d4] at hb
    repeat' (first | exact clo | (refine sqI ?_; intros) | refine stp ?_ | (refine cnd rfl ?_ ?_ <;> intro hcond <;> (try contradiction) <;> try simp only [DD] at hcond) | (refine jAG ?_; intro hg; try simp only [hg]) | (refine saI ?_ ?_; intros) | (refine ari ?_; first | omega | (simp only [DD, LL] <;> omega) | (go_unwrap; omega) | (simp only [DD] at hg; omega)) | (refine stq ?_; focus (simp only [d1, d2, hb, h1, hw, cut, SA, reduceAdd, reduceIte, reduceEqDiff, Nat.reduceBEq, reduceCtorEq]; (try go_unwrap; try simp only [d1, d2, hb, h1, hw, cut, RR, reduceCtorEq]))) | refine And.intro ?_ ?_)
    all_goals (rw [e1, e2]; rfl)
  ·have d2 : decide ((1 : Int) < n) = false := by simp only [decide_eq_false_iff_not]; omega
   have e2 : decide (1 < n) = false := by simpa using c2
   repeat' (first | exact clo | (refine sqI ?_; intros) | refine stp ?_ | (refine cnd rfl ?_ ?_ <;> intro hcond <;> (try contradiction) <;> try simp only [DD] at hcond) | (refine jAG ?_; intro hg; try simp only [hg]) | (refine saI ?_ ?_; intros) | (refine ari ?_; first | omega | (simp only [DD, LL] <;> omega) | (go_unwrap; omega) | (simp only [DD] at hg; omega)) | (refine stq ?_; focus (simp only [d1, d2, cut, SA, reduceAdd, reduceIte, reduceEqDiff, Nat.reduceBEq, reduceCtorEq]; (try go_unwrap; try simp only [d1, d2, cut, RR, reduceCtorEq]))) | refine And.intro ?_ ?_)
   all_goals (rw [e1, e2]; rfl)
theorem kM3 (to : St) (m : List (St × Int)) (n : Int) : Cl [cpN n, cpS to, cpI m] := ⟨fun μ => by simp [PV.view], fun μ => by simp [PV.seen]⟩
def jHJ (nd : St -> List St) (to : St) (m : List (St × Int)) (n : Nat) (s : St) : Bool := !(decide (0 < (jCA m s).getD 0) || decide (s < to)) && (nd s).any (jKO to m n)
def jEF (m : List (St × Int)) (n : Nat) (l : List St) : List (St × Int) := l.foldl (fun m s => jIN m s n) m
theorem jTJ (m : List (St × Int)) (n : Nat) (l : List St) (s : St) : jEF m n (l ++ [s]) = jIN (jEF m n l) s n := by simp [jEF]
theorem jND (n : Nat) (s : St) : ∀ (l : List St) (m : List (St × Int)), jCA (jEF m n l) s = if s ∈ l then some (n : Int) else jCA m s
 | [], m => by simp [jEF]
 | x :: l, m => by
  have : jEF m n (x :: l) = jEF (jIN m x n) n l := rfl
  rw [this, jND n s l, jDT]
  by_cases h1 : s ∈ l
  ·simp [h1]
  ·by_cases h2 : s = x <;> simp [h1, h2]
def jWT (N : List St) (nd : St -> List St) (to : St) : Nat -> List (St × Int)
 | 0 => []
 | n + 1 => jEF (jWT N nd to n) (n + 1) (N.filter (jHJ nd to (jWT N nd to n) (n + 1)))
theorem jWS (N : List St) (nd : St -> List St) (to : St) : ∀ n s, (jCA (jWT N nd to n) s).getD 0 = (jC8 N nd to n s : Int)
 | 0, s => rfl
 | n + 1, s => by
  have ih := jWS N nd to n
  have hc : jHJ nd to (jWT N nd to n) (n + 1) s = kFO nd to (jC8 N nd to n) (n + 1) s := by
   unfold jHJ kFO
   rw [ih s]
   congr 1
   ·congr 2
    rw [decide_eq_decide]; omega
   ·congr 1
    funext x
    unfold jKO
    rw [ih x]
    have : decide ((jC8 N nd to n x : Int) = ((n + 1 : Nat) : Int) - 1) = decide (jC8 N nd to n x = n + 1 - 1) := by rw [decide_eq_decide]; omega
    rw [this]
  rw [jWT, jND]
  unfold jC8
  have hm : s ∈ N.filter (jHJ nd to (jWT N nd to n) (n + 1)) ↔ s ∈ N ∧ kFO nd to (jC8 N nd to n) (n + 1) s = true := by rw [List.mem_filter, hc]
  by_cases h : s ∈ N ∧ kFO nd to (jC8 N nd to n) (n + 1) s = true
  ·rw [if_pos (hm.2 h), if_pos h]; rfl
  ·rw [if_neg (fun h' => h (hm.1 h')), if_neg h]; exact ih s
theorem V43 (T : List (St × List St)) (N : List St) (nd : St -> List St) (to : St) (hT : ∀ s, (jCA T s).getD [] = nd s) (hN : N.length <= 100000) (hnd : ∀ s, (nd s).length <= 1000000) :
  jAB Tryz.prog G0 43 [.jC9 .str (jB4 jH7 T), txL N, .str to] (.jC9 .str (jB4 jDE (jWT N nd to N.length))) := by
 refine jAB.jAT Tryz.func43 k43 mix (by simp [c43]) ?_
 simp only [c43, L43, CC, jBW]
 have hNl : ((N.map PV.str).length : Nat) = N.length := by simp
 repeat' (first | exact clo | (refine sqI ?_; intros) | refine stp ?_ | (refine cnd rfl ?_ ?_ <;> intro hcond <;> (try contradiction) <;> try simp only [DD] at hcond) | (refine jAG ?_; intro hg; try simp only [hg]) | (refine saI ?_ ?_; intros) | (refine ari ?_; first | omega | (simp only [DD, LL] <;> omega) | (go_unwrap; omega) | (simp only [DD] at hg; omega)) | (refine stq ?_; focus (simp only [SA, reduceAdd, reduceIte, reduceEqDiff, Nat.reduceBEq, reduceCtorEq]; (try go_unwrap; try simp only [RR, reduceCtorEq]))) | refine And.intro ?_ ?_)
 refine PW.jDV (σ := Nat) 4 (fun _ _ => rfl) [0, 1, 5, 7, 8] (fun n => [.jC9 .str (jB4 jH7 T), txL N, .ref 0 0, .ref 2 0, .ref 3 0]) (fun n => [some (.var none (.str to)), some (.mp .str (jB4 jDE (jWT N nd to n))), some (.var none (.mref 1)), some (.var none (.int .i64 ((n + 1 : Nat) : Int)))])
  (fun n => n <= N.length) (fun n => N.length - n) 0 ?_ rfl (by omega) ?_
 ·simp only [SA, reduceAdd, reduceIte, reduceEqDiff, Nat.reduceBEq, reduceCtorEq]; rfl
 rintro n hn
 simp only [List.zip_cons_cons, List.zip_nil_left]
 rcases Nat.lt_or_ge n N.length with h | h
 case inr =>
  have hd : decide (((n + 1 : Nat) : Int) <= N.length) = false := by simp only [decide_eq_false_iff_not]; omega
  have hn' : n = N.length := by omega
  subst hn'
  repeat' (first | exact clo | (refine sqI ?_; intros) | refine stp ?_ | (refine cnd rfl ?_ ?_ <;> intro hcond <;> (try contradiction) <;> try simp only [DD] at hcond) | (refine jAG ?_; intro hg; try simp only [hg]) | (refine saI ?_ ?_; intros) | (refine ari ?_; first | omega | (simp only [DD, LL] <;> omega) | (go_unwrap; omega) | (simp only [DD] at hg; omega)) | (refine stq ?_; focus (simp only [hd, hNl, cut, SA, reduceAdd, reduceIte, reduceEqDiff, Nat.reduceBEq, reduceCtorEq]; (try go_unwrap; try simp only [hd, hNl, cut, RR, reduceCtorEq]))) | refine And.intro ?_ ?_)
  all_goals skip
 have hd : decide (((n + 1 : Nat) : Int) <= N.length) = true := by simp only [decide_eq_true_eq]; omega
 have hfn : jWT N nd to (n + 1) = jEF (jWT N nd to n) (n + 1) (N.filter (jHJ nd to (jWT N nd to n) (n + 1))) := rfl
 have hw1 : IntKind.i64.wrap (((n + 1 : Nat) : Int) + 1) = ((n + 1 + 1 : Nat) : Int) := by rw [IntWalk.i64_in _ (by omega)]; omega
 generalize jWT N nd to n = m at *
 obtain ⟨q, hq⟩ : ∃ q, n + 1 = q := ⟨_, rfl⟩
 simp only [hq] at hfn hd ⊢
 rw [hq] at hw1
 repeat' (first | exact clo | (refine sqI ?_; intros) | refine stp ?_ | (refine cnd rfl ?_ ?_ <;> intro hcond <;> (try contradiction) <;> try simp only [DD] at hcond) | (refine jAG ?_; intro hg; try simp only [hg]) | (refine saI ?_ ?_; intros) | (refine ari ?_; first | omega | (simp only [DD, LL] <;> omega) | (go_unwrap; omega) | (simp only [DD] at hg; omega)) | (refine stq ?_; focus (simp only [hd, hNl, cut, SA, reduceAdd, reduceIte, reduceEqDiff, Nat.reduceBEq, reduceCtorEq]; (try go_unwrap; try simp only [hd, hNl, cut, RR, reduceCtorEq]))) | refine And.intro ?_ ?_)
 refine PW.own none 9 rfl ?_
 refine PW.jDV (σ := Nat) 5 (fun _ _ => rfl) [0, 1, 5, 7, 8, 9, 21, 22, 23] (fun i => [.jC9 .str (jB4 jH7 T), txL N, .ref 0 0, .ref 2 0, .ref 3 0, .sl none 4 ((N.take i).filter (jHJ nd to m q)).length, txL N, .int .i64 N.length, .int .i64 i])
  (fun i => [some (.var none (.str to)), some (.mp .str (jB4 jDE m)), some (.var none (.mref 1)), some (.var none (.int .i64 q)), some (.row none (((N.take i).filter (jHJ nd to m q)).map PV.str))])
  (fun i => i <= N.length) (fun i => N.length - i) 0 ?_ (by simp) (by omega) ?_
 ·simp only [SA, reduceAdd, reduceIte, reduceEqDiff, Nat.reduceBEq, reduceCtorEq]; rfl
 rintro i hi
 simp only [List.zip_cons_cons, List.zip_nil_left]
 rcases Nat.lt_or_ge i N.length with h' | h'
 ·have hd' : decide ((i : Int) < N.length) = true := by simp only [decide_eq_true_eq]; omega
  have hg := jD9 N i h'
  have ht : (N.take (i + 1)).filter (jHJ nd to m q) = (N.take i).filter (jHJ nd to m q) ++ if jHJ nd to m q N[i] = true then [N[i]] else [] := by
   rw [List.take_succ_eq_append_getElem h', List.filter_append]; simp [List.filter_cons]
  have hle : ((N.take i).filter (jHJ nd to m q)).length <= 100000 := Nat.le_trans (List.length_filter_le _ _) (by simp; omega)
  generalize N[i] = s at hg ht
  generalize (N.take i).filter (jHJ nd to m q) = F at ht hle
  have l1 := jO9 m s
  have hb := kHN s to
  have hls := jJ4 T s
  have hdef : jHJ nd to m q s = (!(decide (0 < (jCA m s).getD 0) || decide (s < to)) && (nd s).any (jKO to m q)) := rfl
  rw [hdef] at ht
  clear hdef
  have hFL : ((F.map PV.str).length : Nat) = F.length := by simp
  have htk : (F.map PV.str).take F.length = F.map PV.str := List.take_of_length_le (by simp)
  have b1 : (F.length + 1) * 16 <= 140737488355328 := by omega
  have hno : ∀ b : Bool, ((!(true || b)) && (nd s).any (jKO to m q)) = false := fun b => by simp
  have kON : ((!(false || true)) && (nd s).any (jKO to m q)) = false := by simp
  generalize (jCA m s).getD 0 = v at l1 ht
  cases d1 : decide (0 < v) with
  | true =>
   rw [d1, hno, if_neg (by simp), List.append_nil] at ht
   repeat' (first | exact clo | (refine sqI ?_; intros) | refine stp ?_ | (refine cnd rfl ?_ ?_ <;> intro hcond <;> (try contradiction) <;> try simp only [DD] at hcond) | (refine jAG ?_; intro hg; try simp only [hg]) | (refine saI ?_ ?_; intros) | (refine ari ?_; first | omega | (simp only [DD, LL] <;> omega) | (go_unwrap; omega) | (simp only [DD] at hg; omega)) | (refine stq ?_; focus (simp only [hd', hg, hNl, l1, d1, cut, SA, reduceAdd, reduceIte, reduceEqDiff, Nat.reduceBEq, reduceCtorEq]; (try go_unwrap; try simp only [hd', hg, hNl, l1, d1, cut, RR, reduceCtorEq]))) | refine And.intro ?_ ?_)
   all_goals first | rfl | exact ⟨i + 1, (by rw [ht]; exact (by first | rfl | (simp only [TT, jAF.kill, PV.kill, Nat.reduceLeDiff, reduceIte, Nat.le_refl, Nat.zero_le, Nat.not_le, Nat.lt_irrefl]; done) | (simp [jBE, jAZ, jAF.kill, PV.kill]; done))), (by rw [ht]; simp [jAZ, jAF.kill, PV.kill]), by omega, by omega⟩
  | false =>
  cases d2 : decide (s < to) with
  | true =>
   rw [d1, d2, kON, if_neg (by simp), List.append_nil] at ht
   rw [d2] at hb
   repeat' (first | exact clo | (refine sqI ?_; intros) | refine stp ?_ | (refine cnd rfl ?_ ?_ <;> intro hcond <;> (try contradiction) <;> try simp only [DD] at hcond) | (refine jAG ?_; intro hg; try simp only [hg]) | (refine saI ?_ ?_; intros) | (refine ari ?_; first | omega | (simp only [DD, LL] <;> omega) | (go_unwrap; omega) | (simp only [DD] at hg; omega)) | (refine stq ?_; focus (simp only [hd', hg, hNl, l1, d1, hb, cut, SA, reduceAdd, reduceIte, reduceEqDiff, Nat.reduceBEq, reduceCtorEq]; (try go_unwrap; try simp only [hd', hg, hNl, l1, d1, hb, cut, RR, reduceCtorEq]))) | refine And.intro ?_ ?_)
   all_goals first | rfl | exact ⟨i + 1, (by rw [ht]; exact (by first | rfl | (simp only [TT, jAF.kill, PV.kill, Nat.reduceLeDiff, reduceIte, Nat.le_refl, Nat.zero_le, Nat.not_le, Nat.lt_irrefl]; done) | (simp [jBE, jAZ, jAF.kill, PV.kill]; done))), (by rw [ht]; simp [jAZ, jAF.kill, PV.kill]), by omega, by omega⟩
  | false =>
  rw [d1, d2] at ht
  rw [d2] at hb
  have h43 := V39 (nd s) (jKO to m q) 62 _ E62 (kM3 to m q) (by have := hnd s; omega) (fun x _ => V62 to m q (by omega) x)
  have hTs := hT s
  simp only [cpN, cpS, cpI] at h43
  rcases hq' : jCA T s with _ | ns
  ·rw [hq'] at hls hTs
   have hx : nd s = [] := hTs.symm
   rw [hx] at ht
   rw [hx] at h43
   simp only at hls
   have hF : (!(false || false) && ([] : List St).any (jKO to m q)) = false := rfl
   rw [hF, if_neg (by simp), List.append_nil] at ht
   have h43 := jAB.sub h43 (jF1.cons (p := .jAH) (Sub.nil none) (jF1.refl _))
   have hF2 : ([] : List St).any (jKO to m q) = false := rfl
   rw [hF2] at h43
   repeat' (first | exact clo | (refine sqI ?_; intros) | refine stp ?_ | (refine cnd rfl ?_ ?_ <;> intro hcond <;> (try contradiction) <;> try simp only [DD] at hcond) | (refine jAG ?_; intro hg; try simp only [hg]) | refine jBB 6 E39 h43 (by simp [PV.lend, PV.view, Mem.get]) (by simp [PV.jBU, PV.lend, PV.view, PV.seen, jHH, PV.scalar, Mem.get, Sh.size]) (by simp [PV.flat]) ?_ | (refine saI ?_ ?_; intros) | (refine ari ?_; first | omega | (simp only [DD, LL] <;> omega) | (go_unwrap; omega) | (simp only [DD] at hg; omega)) | (refine stq ?_; focus (simp only [hd', hg, hNl, l1, d1, hb, hls, cut, SA, reduceAdd, reduceIte, reduceEqDiff, Nat.reduceBEq, reduceCtorEq]; (try go_unwrap; try simp only [hd', hg, hNl, l1, d1, hb, hls, cut, RR, reduceCtorEq]))) | refine And.intro ?_ ?_)
   all_goals first | rfl | exact ⟨i + 1, (by rw [ht]; exact (by first | rfl | (simp only [TT, jAF.kill, PV.kill, Nat.reduceLeDiff, reduceIte, Nat.le_refl, Nat.zero_le, Nat.not_le, Nat.lt_irrefl]; done) | (simp [jBE, jAZ, jAF.kill, PV.kill]; done))), (by rw [ht]; simp [jAZ, jAF.kill, PV.kill]), by omega, by omega⟩
  ·rw [hq'] at hls hTs
   have hx : ns = nd s := hTs
   subst hx
   simp only at hls
   have hF : ∀ b : Bool, (!(false || false) && b) = b := fun b => rfl
   rw [hF] at ht
   cases hbb : (nd s).any (jKO to m q) with
   | false =>
    rw [hbb] at h43 ht
    rw [if_neg (by simp), List.append_nil] at ht
    repeat' (first | exact clo | (refine sqI ?_; intros) | refine stp ?_ | (refine cnd rfl ?_ ?_ <;> intro hcond <;> (try contradiction) <;> try simp only [DD] at hcond) | (refine jAG ?_; intro hg; try simp only [hg]) | refine jBB 6 E39 h43 (by simp [PV.lend, PV.view, Mem.get]) (by simp [PV.jBU, PV.lend, PV.view, PV.seen, jHH, PV.scalar, Mem.get, Sh.size]) (by simp [PV.flat]) ?_ | (refine saI ?_ ?_; intros) | (refine ari ?_; first | omega | (simp only [DD, LL] <;> omega) | (go_unwrap; omega) | (simp only [DD] at hg; omega)) | (refine stq ?_; focus (simp only [hd', hg, hNl, l1, d1, hb, hls, cut, SA, reduceAdd, reduceIte, reduceEqDiff, Nat.reduceBEq, reduceCtorEq]; (try go_unwrap; try simp only [hd', hg, hNl, l1, d1, hb, hls, cut, RR, reduceCtorEq]))) | refine And.intro ?_ ?_)
    all_goals first | rfl | exact ⟨i + 1, (by rw [ht]; exact (by first | rfl | (simp only [TT, jAF.kill, PV.kill, Nat.reduceLeDiff, reduceIte, Nat.le_refl, Nat.zero_le, Nat.not_le, Nat.lt_irrefl]; done) | (simp [jBE, jAZ, jAF.kill, PV.kill]; done))), (by rw [ht]; simp [jAZ, jAF.kill, PV.kill]), by omega, by omega⟩
   | true =>
    rw [hbb] at h43 ht
    rw [if_pos rfl] at ht
    repeat' (first | exact clo | (refine sqI ?_; intros) | refine stp ?_ | (refine cnd rfl ?_ ?_ <;> intro hcond <;> (try contradiction) <;> try simp only [DD] at hcond) | (refine jAG ?_; intro hg; try simp only [hg]) | refine jBB 6 E39 h43 (by simp [PV.lend, PV.view, Mem.get]) (by simp [PV.jBU, PV.lend, PV.view, PV.seen, jHH, PV.scalar, Mem.get, Sh.size]) (by simp [PV.flat]) ?_ | (refine saI ?_ ?_; intros) | (refine ari ?_; first | omega | (simp only [DD, LL] <;> omega) | (go_unwrap; omega) | (simp only [DD] at hg; omega)) | (refine stq ?_; focus (simp only [hd', hg, hNl, l1, d1, hb, hls, hFL, htk, cut, SA, reduceAdd, reduceIte, reduceEqDiff, Nat.reduceBEq, reduceCtorEq]; (try go_unwrap; try simp only [hd', hg, hNl, l1, d1, hb, hls, hFL, htk, cut, RR, reduceCtorEq]))) | refine And.intro ?_ ?_)
    all_goals first | rfl | exact ⟨i + 1, (by rw [ht]; simp only [List.length_append, List.length_cons, List.length_nil]; exact (by first | rfl | (simp only [TT, jAF.kill, PV.kill, Nat.reduceLeDiff, reduceIte, Nat.le_refl, Nat.zero_le, Nat.not_le, Nat.lt_irrefl]; done) | (simp [jBE, jAZ, jAF.kill, PV.kill]; done))), (by rw [ht]; simp [jAZ, jAF.kill, PV.kill]), by omega, by omega⟩
 ·have hd' : decide ((i : Int) < N.length) = false := by simp only [decide_eq_false_iff_not]; omega
  have hi' : i = N.length := by omega
  subst hi'
  rw [List.take_length]
  have hle : (N.filter (jHJ nd to m q)).length <= 100000 := Nat.le_trans (List.length_filter_le _ _) hN
  generalize N.filter (jHJ nd to m q) = F at hfn hle
  have hFL : ((F.map PV.str).length : Nat) = F.length := by simp
  repeat' (first | exact clo | (refine sqI ?_; intros) | refine stp ?_ | (refine cnd rfl ?_ ?_ <;> intro hcond <;> (try contradiction) <;> try simp only [DD] at hcond) | (refine jAG ?_; intro hg; try simp only [hg]) | (refine saI ?_ ?_; intros) | (refine ari ?_; first | omega | (simp only [DD, LL] <;> omega) | (go_unwrap; omega) | (simp only [DD] at hg; omega)) | (refine stq ?_; focus (simp only [hd', hNl, SA, reduceAdd, reduceIte, reduceEqDiff, Nat.reduceBEq, reduceCtorEq]; (try go_unwrap; try simp only [hd', hNl, RR, reduceCtorEq]))) | refine And.intro ?_ ?_)
  refine PW.jDV (σ := Nat) 5 (fun _ _ => rfl) [0, 1, 5, 7, 8, 46, 47, 48] (fun j => [.jC9 .str (jB4 jH7 T), txL N, .ref 0 0, .ref 2 0, .ref 3 0, .sl none 4 F.length, .int .i64 F.length, .int .i64 j])
   (fun j => [some (.var none (.str to)), some (.mp .str (jB4 jDE (jEF m q (F.take j)))), some (.var none (.mref 1)), some (.var none (.int .i64 q)), some (.row none (F.map PV.str))])
   (fun j => j <= F.length) (fun j => F.length - j) 0 ?_ (by simp [jEF]) (by omega) ?_
  ·simp only [SA, reduceAdd, reduceIte, reduceEqDiff, Nat.reduceBEq, reduceCtorEq]; rfl
  rintro j hj
  simp only [List.zip_cons_cons, List.zip_nil_left]
  rcases Nat.lt_or_ge j F.length with hjl | hjl
  ·have hdj : decide ((j : Int) < F.length) = true := by simp only [decide_eq_true_eq]; omega
   have hgj : (F.map PV.str)[j]? = some (.str F[j]) := by simp [hjl]
   have hp : jEF m q (F.take (j + 1)) = jIN (jEF m q (F.take j)) F[j] q := by rw [List.take_succ_eq_append_getElem hjl, jTJ]
   generalize F[j] = s at hgj hp
   have s1 : jF7 (jB4 jDE (jEF m q (F.take j))) (.str s) (.int .i64 q) = jB4 jDE (jEF m q (F.take (j + 1))) := by rw [hp]; exact jD2 jDE _ _ _
   repeat' (first | exact clo | (refine sqI ?_; intros) | refine stp ?_ | (refine cnd rfl ?_ ?_ <;> intro hcond <;> (try contradiction) <;> try simp only [DD] at hcond) | (refine jAG ?_; intro hg; try simp only [hg]) | (refine saI ?_ ?_; intros) | (refine ari ?_; first | omega | (simp only [DD, LL] <;> omega) | (go_unwrap; omega) | (simp only [DD] at hg; omega)) | (refine stq ?_; focus (simp only [hdj, hgj, hFL, s1, cut, SA, reduceAdd, reduceIte, reduceEqDiff, Nat.reduceBEq, reduceCtorEq]; (try go_unwrap; try simp only [hdj, hgj, hFL, s1, cut, RR, reduceCtorEq]))) | refine And.intro ?_ ?_)
   all_goals first | rfl | exact ⟨j + 1, (by first | rfl | (simp only [TT, jAF.kill, PV.kill, Nat.reduceLeDiff, reduceIte, Nat.le_refl, Nat.zero_le, Nat.not_le, Nat.lt_irrefl]; done) | (simp [jBE, jAZ, jAF.kill, PV.kill]; done)), (by simp [jAZ, jAF.kill, PV.kill]), by omega, by omega⟩
  ·have hdj : decide ((j : Int) < F.length) = false := by simp only [decide_eq_false_iff_not]; omega
   have hj' : j = F.length := by omega
   subst hj'
   rw [List.take_length, <- hfn]
   repeat' (first | exact clo | (refine PW.stop (x := .region false (⟨some 19, none, .rd (.load none) [.tmp 8]⟩ :: _) _) ?_) | (refine sqI ?_; intros) | refine stp ?_ | (refine cnd rfl ?_ ?_ <;> intro hcond <;> (try contradiction) <;> try simp only [DD] at hcond) | (refine jAG ?_; intro hg; try simp only [hg]) | (refine saI ?_ ?_; intros) | (refine ari ?_; first | omega | (simp only [DD, LL] <;> omega) | (go_unwrap; omega) | (simp only [DD] at hg; omega)) | (refine stq ?_; focus (simp only [hdj, cut, SA, reduceAdd, reduceIte, reduceEqDiff, Nat.reduceBEq, reduceCtorEq]; (try go_unwrap; try simp only [hdj, cut, RR, reduceCtorEq]))) | refine And.intro ?_ ?_)
   refine ⟨?_⟩
   refine PW.sw 3 5 (by simp) (by simp) rfl rfl ?_
   simp only [swE, swM, swL, swp, PV.ren, jAF.ren, List.map_cons, List.map_nil, Option.map_some, Option.map_none, List.set_cons_succ, List.set_cons_zero, List.getD_cons_succ, List.getD_cons_zero, reduceEqDiff, if_false, if_true, reduceIte, SA, reduceAdd, reduceIte, reduceEqDiff, Nat.reduceBEq, reduceCtorEq]
   have hpp : ∀ a b, jBZ none none (.int .i64 a) 0 (.int .i64 b) = .int .i64 b := fun _ _ => rfl
   repeat' (first | exact clo | (refine sqI ?_; intros) | refine stp ?_ | (refine cnd rfl ?_ ?_ <;> intro hcond <;> (try contradiction) <;> try simp only [DD] at hcond) | (refine jAG ?_; intro hg; try simp only [hg]) | (refine saI ?_ ?_; intros) | (refine ari ?_; first | omega | (simp only [DD, LL] <;> omega) | (go_unwrap; omega) | (simp only [DD] at hg; omega)) | (refine stq ?_; focus (simp only [hw1, hpp, cut, SA, reduceAdd, reduceIte, reduceEqDiff, Nat.reduceBEq, reduceCtorEq]; (try go_unwrap; try simp only [hw1, hpp, cut, RR, reduceCtorEq]))) | refine And.intro ?_ ?_)
   all_goals first | rfl | exact Or.inl ⟨rfl, rfl⟩ | (subst hq; exact ⟨n + 1, (by first | rfl | (simp only [TT, jAF.kill, PV.kill, Nat.reduceLeDiff, reduceIte, Nat.le_refl, Nat.zero_le, Nat.not_le, Nat.lt_irrefl]; done) | (simp [jBE, jAZ, jAF.kill, PV.kill]; done)), (by simp [jAZ, jAF.kill, PV.kill]), by omega, by omega⟩)
theorem V14 (l : List Ed) (hl : l.length <= 1000000000) (hnl : ∀ e ∈ l, e.needs.length <= 9223372036854775807) (hw : jAN l = 0) (h0 : ∀ s ∈ nsM l, jC8 (nsM l) (ndM l) s (nsM l).length s = 0) : jAB Tryz.prog G0 14 [edL l] .jAH := by
 refine jAB.jAT Tryz.func14 k14 mix (by simp [c14]) ?_
 simp only [c14, L14, CC, jBW]
 have h27 := V33 l (by omega) hnl
 have h28 := V32 l (by omega)
 have h29 := V35 l hl
 rw [hw] at h27
 have hT := jZW hw
 have hnd := jUD hw
 have hN : (nsM l).length <= 64 := by rw [jVP]; exact (jBX.1 hw).1
 generalize jGM l = T at h28 hT
 generalize nsM l = N at h29 h0 hN
 generalize ndM l = nd at h0 hT hnd
 have hNl : ((N.map PV.str).length : Nat) = N.length := by simp
 repeat' (first | exact clo | (refine sqI ?_; intros) | refine stp ?_ | (refine cnd rfl ?_ ?_ <;> intro hcond <;> (try contradiction) <;> try simp only [DD] at hcond) | (refine jAG ?_; intro hg; try simp only [hg]) | refine jAA E33 (h27) ?_ ?_ ?_ ?_ | refine jAA E32 (h28) ?_ ?_ ?_ ?_ | refine jAA E35 (h29) ?_ ?_ ?_ ?_ | (refine saI ?_ ?_; intros) | (refine ari ?_; first | omega | (simp only [DD, LL] <;> omega) | (go_unwrap; omega) | (simp only [DD] at hg; omega)) | (refine stq ?_; focus (simp only [hNl, SA, reduceAdd, reduceIte, reduceEqDiff, Nat.reduceBEq, reduceCtorEq]; (try go_unwrap; try simp only [hNl, RR, reduceCtorEq]))) | refine And.intro ?_ ?_)
 refine PW.jDV (σ := Nat) 0 (fun _ _ => rfl) [2, 3, 4, 5, 17, 18, 19] (fun i => [.jAH, .jC9 .str (jB4 jH7 T), txL N, .jAH, txL N, .int .i64 N.length, .int .i64 i]) (fun _ => [])
  (fun i => i <= N.length) (fun i => N.length - i) 0 ?_ rfl (by omega) ?_
 ·simp only [SA, reduceAdd, reduceIte, reduceEqDiff, Nat.reduceBEq, reduceCtorEq]; rfl
 rintro i hi
 simp only [List.zip_cons_cons, List.zip_nil_left]
 rcases Nat.lt_or_ge i N.length with h | h
 case inr =>
  have hd : decide ((i : Int) < N.length) = false := by simp only [decide_eq_false_iff_not]; omega
  repeat' (first | exact clo | (refine sqI ?_; intros) | refine stp ?_ | (refine cnd rfl ?_ ?_ <;> intro hcond <;> (try contradiction) <;> try simp only [DD] at hcond) | (refine jAG ?_; intro hg; try simp only [hg]) | (refine saI ?_ ?_; intros) | (refine ari ?_; first | omega | (simp only [DD, LL] <;> omega) | (go_unwrap; omega) | (simp only [DD] at hg; omega)) | (refine stq ?_; focus (simp only [hd, hNl, SA, reduceAdd, reduceIte, reduceEqDiff, Nat.reduceBEq, reduceCtorEq]; (try go_unwrap; try simp only [hd, hNl, RR, reduceCtorEq]))) | refine And.intro ?_ ?_)
  all_goals skip
 have hd : decide ((i : Int) < N.length) = true := by simp only [decide_eq_true_eq]; omega
 have hg := jD9 N i h
 have h0 := h0 N[i] (List.getElem_mem h)
 generalize N[i] = s at hg h0
 have h30 := V43 T N nd s hT (by omega) hnd
 have hlk := jO9 (jWT N nd s N.length) s
 rw [jWS, h0] at hlk
 generalize jWT N nd s N.length = m at h30 hlk
 have d1 : decide ((0 : Int) < ((0 : Nat) : Int)) = false := by decide
 repeat' (first | exact clo | (refine sqI ?_; intros) | refine stp ?_ | (refine cnd rfl ?_ ?_ <;> intro hcond <;> (try contradiction) <;> try simp only [DD] at hcond) | (refine jAG ?_; intro hg; try simp only [hg]) | refine jAA E43 (h30) ?_ ?_ ?_ ?_ | (refine saI ?_ ?_; intros) | (refine ari ?_; first | omega | (simp only [DD, LL] <;> omega) | (go_unwrap; omega) | (simp only [DD] at hg; omega)) | (refine stq ?_; focus (simp only [hd, hg, hNl, hlk, d1, SA, reduceAdd, reduceIte, reduceEqDiff, Nat.reduceBEq, reduceCtorEq]; (try go_unwrap; try simp only [hd, hg, hNl, hlk, d1, RR, reduceCtorEq]))) | refine And.intro ?_ ?_)
 all_goals first | rfl | exact ⟨i + 1, (by first | rfl | (simp only [TT, jAF.kill, PV.kill, Nat.reduceLeDiff, reduceIte, Nat.le_refl, Nat.zero_le, Nat.not_le, Nat.lt_irrefl]; done) | (simp [jBE, jAZ, jAF.kill, PV.kill]; done)), (by first | rfl | (simp only [TT, jAF.kill, PV.kill, Nat.reduceLeDiff, reduceIte, Nat.le_refl, Nat.zero_le, Nat.not_le, Nat.lt_irrefl]; done) | (simp [jBE, jAZ, jAF.kill, PV.kill]; done)), by omega, by omega⟩
section
variable {G : jA3}
theorem E10 : Ent Tryz.prog 10 := ⟨Tryz.f10, Tryz.func10, by kernel_rfl, by kernel_rfl⟩
theorem kE1 {α : Type} {xs ys : List (St × α)} (hx : (xs.map (·.1)).Nodup) (hy : (ys.map (·.1)).Nodup) (h : ∀ s, jCA xs s = jCA ys s) : xs.length = ys.length := by
 have hm : ∀ (l : List (St × α)), (l.map (·.1)).Nodup -> ∀ s, s ∈ l.map (·.1) ↔ (jCA l s).isSome = true := fun l hl s => by
  constructor
  ·intro hs
   obtain ⟨⟨k, v⟩, hq, rfl⟩ := List.mem_map.1 hs
   rw [jKE hl hq]; rfl
  ·intro hs
   obtain ⟨v, hv⟩ := Option.isSome_iff_exists.1 hs
   exact List.mem_map.2 ⟨(s, v), jHF hv, rfl⟩
 have hp : (xs.map (·.1)).Perm (ys.map (·.1)) := (List.perm_ext_iff_of_nodup hx hy).2 fun s => by rw [hm xs hx, hm ys hy, h]
 simpa using hp.length_eq
theorem V10 (xs ys : List Pr) (hx : (xs.map (·.1)).Nodup) (hy : (ys.map (·.1)).Nodup) (h : ∀ s, jCA xs s = jCA ys s) : jAB Tryz.prog G 10 [.jC9 .str (jB4 jJM xs), .jC9 .str (jB4 jJM ys)] (.bool true) := by
 refine jAB.jAT Tryz.func10 k10 mix (by simp [c10]) ?_
 simp only [c10, L10, CC, jBW]
 have l1 : ((jB4 jJM xs).length : Nat) = xs.length := by simp [jB4, jS6]
 have l2 : ((jB4 jJM ys).length : Nat) = xs.length := by rw [kE1 hx hy h]; simp [jB4, jS6]
 have q0 : decide ((xs.length : Int) = xs.length) = true := by simp
 repeat' (first | exact clo | (refine sqI ?_; intros) | refine stp ?_ | (refine cnd rfl ?_ ?_ <;> intro hcond <;> (try contradiction) <;> try simp only [DD] at hcond) | (refine jAG ?_; intro hg; try simp only [hg]) | (refine saI ?_ ?_; intros) | (refine ari ?_; first | omega | (simp only [DD, LL] <;> omega) | (go_unwrap; omega) | (simp only [DD] at hg; omega)) | (refine stq ?_; focus (simp only [l1, l2, q0, SA, reduceAdd, reduceIte, reduceEqDiff, Nat.reduceBEq, reduceCtorEq]; (try go_unwrap; try simp only [l1, l2, q0, RR, reduceCtorEq]))) | refine And.intro ?_ ?_)
 refine PW.jDV (σ := List Nat) 1 (fun _ _ => rfl) [0, 1, 15] (fun _ => [.jC9 .str (jB4 jJM xs), .jC9 .str (jB4 jJM ys), .ref 0 0])
  (fun s => [some (.iter .str (jB4 jJM xs) s)]) (fun s => True) (fun s => jYT xs.length s) [] ?_ rfl trivial ?_
 ·simp only [SA, reduceAdd, reduceIte, reduceEqDiff, Nat.reduceBEq, reduceCtorEq]; rfl
 rintro seen -
 simp only [List.zip_cons_cons, List.zip_nil_left]
 repeat' (first | exact clo | (refine sqI ?_; intros) | refine stp ?_ | (refine cnd rfl ?_ ?_ <;> intro hcond <;> (try contradiction) <;> try simp only [DD] at hcond) | (refine jAG ?_; intro hg; try simp only [hg]) | (refine saI ?_ ?_; intros) | (refine ari ?_; first | omega | (simp only [DD, LL] <;> omega) | (go_unwrap; omega) | (simp only [DD] at hg; omega)) | (refine stq ?_; focus (simp only [jC3, SA, reduceAdd, reduceIte, reduceEqDiff, Nat.reduceBEq, reduceCtorEq]; (try go_unwrap; try simp only [jC3, RR, reduceCtorEq]))) | refine And.intro ?_ ?_)
 ·intro k hk hks
  refine ⟨by simp, ?_⟩
  obtain ⟨s', v', hx', hmem, he1, he2⟩ := jT5 PV.str jJM xs hk
  have m1 : jFK (jB4 jJM ys) (.str s') = some (.int .i64 v') := by rw [jCR, <- h, jKE hx hmem]; rfl
  have q1 : decide (v' = v') = true := by simp
  repeat' (first | exact clo | exact (rfl : KK.str = KK.str) | (refine sqI ?_; intros) | refine stp ?_ | (refine cnd rfl ?_ ?_ <;> intro hcond <;> (try contradiction) <;> try simp only [DD] at hcond) | (refine jAG ?_; intro hg; try simp only [hg]) | (refine saI ?_ ?_; intros) | (refine ari ?_; first | omega | (simp only [DD, LL] <;> omega) | (go_unwrap; omega) | (simp only [DD] at hg; omega)) | (refine stq ?_; focus (simp only [he1, he2, jC3, hk, m1, q1, Option.getD_some, Option.isSome_some, SA, reduceAdd, reduceIte, reduceEqDiff, Nat.reduceBEq, reduceCtorEq]; (try go_unwrap; try simp only [he1, he2, jC3, hk, m1, q1, Option.getD_some, Option.isSome_some, RR, reduceCtorEq]))) | refine And.intro ?_ ?_)
  all_goals first | exact ⟨seen ++ [k], (by first | rfl | (simp only [TT, jAF.kill, PV.kill, Nat.reduceLeDiff, reduceIte, Nat.le_refl, Nat.zero_le, Nat.not_le, Nat.lt_irrefl]; done) | (simp [jBE, jAZ, jAF.kill, PV.kill]; done)), (by first | rfl | (simp only [TT, jAF.kill, PV.kill, Nat.reduceLeDiff, reduceIte, Nat.le_refl, Nat.zero_le, Nat.not_le, Nat.lt_irrefl]; done) | (simp [jBE, jAZ, jAF.kill, PV.kill]; done)), jJ5 hk hks⟩ | exact ⟨seen ++ [k], (by first | rfl | (simp only [TT, jAF.kill, PV.kill, Nat.reduceLeDiff, reduceIte, Nat.le_refl, Nat.zero_le, Nat.not_le, Nat.lt_irrefl]; done) | (simp [jBE, jAZ, jAF.kill, PV.kill]; done)), (by first | rfl | (simp only [TT, jAF.kill, PV.kill, Nat.reduceLeDiff, reduceIte, Nat.le_refl, Nat.zero_le, Nat.not_le, Nat.lt_irrefl]; done) | (simp [jBE, jAZ, jAF.kill, PV.kill]; done)), trivial, jJ5 hk hks⟩
 ·intro hall
  refine ⟨by simp, ?_⟩
  repeat' (first | exact clo | (refine sqI ?_; intros) | refine stp ?_ | (refine cnd rfl ?_ ?_ <;> intro hcond <;> (try contradiction) <;> try simp only [DD] at hcond) | (refine jAG ?_; intro hg; try simp only [hg]) | (refine saI ?_ ?_; intros) | (refine ari ?_; first | omega | (simp only [DD, LL] <;> omega) | (go_unwrap; omega) | (simp only [DD] at hg; omega)) | (refine stq ?_; focus (simp only [SA, reduceAdd, reduceIte, reduceEqDiff, Nat.reduceBEq, reduceCtorEq]; (try go_unwrap; try simp only [RR, reduceCtorEq]))) | refine And.intro ?_ ?_)
end
end Go.Proofs.YthjkmhfiffojeaaGreatDoor
