import Derived.Test.YthjkmhfiffojeaaGreatDoorQ12
namespace Go.Proofs.YthjkmhfiffojeaaGreatDoor
open Go PG Go.Proofs
open Nat (reduceAdd reduceEqDiff)
set_option linter.unusedSimpArgs false
set_option linter.unusedVariables false
set_option maxHeartbeats 4000000
set_option maxRecDepth 100000
theorem jA2.kPY {P : Program} {G : jA3} {f : Nat} {a p q : PV} {μ : Mem} {mv : Nat -> Bool} {R : PV -> Mem -> Prop} (h : jA2 P G f [a, q] μ mv R) (hp : p.jA5 = true) (hs : Sub p q) : jA2 P G f [a, p] μ mv R := by
 intro w κ vs hS hG hr
 refine h w κ vs hS hG ⟨hr.1, fun i v x hv hx => ?_⟩
 match i, hx with
 | 0, hx => exact hr.2 0 v x hv hx
 | 1, hx =>
  simp only [List.getElem?_cons_succ, List.getElem?_cons_zero, Option.some.injEq] at hx
  subst hx
  exact .closed ((jDB (hr.2 1 v p hv rfl) hp).sub hs)
abbrev nmP (t : List UInt8) : Int := (numOf t).1
abbrev kGJ (l : List Tok) (i : Nat) : PV := .agg [.int .i64 (jB8 l i).1, .str (jB8 l i).2.1, .int .i64 (jB8 l i).2.2]
theorem V48 (l : List Tok) (hl : l.length <= 100000) (htx : ∀ i, (jB8 l i).2.1.length <= 100000) (sum : PS -> Int × PS) (m : Nat) (hsum : ∀ s, Inv l s -> l.length - s.at_ <= m -> ∀ ν : Mem, ν.map (Option.map (jAF.kill (jAR 1))) = ν -> RdC l 16 [.ref 0 0] ν s (sum s)) (hgood : jG2 l sum m)
  (hcall : ∀ s, Inv l s -> Inv l (adv s 2) -> l.length - s.at_ <= m + 1 -> RdC l 72 [.ref 0 0] [] s (jIK l sum s)) (s : PS) (hI : Inv l s) (hm : l.length - s.at_ <= m + 1) :
  RdC l 48 [.ref 0 0] [] s (jBR nmP l true sum s) := by
 refine jA2.moves (mv := fun t => t == 1 || decide (2 <= t)) (fun t ht h => ?_) ?_
 ·simp only [List.length_cons, List.length_nil] at ht
  simp only [Bool.or_eq_true, beq_iff_eq, decide_eq_true_eq] at h
  simp only [jAR, beq_iff_eq]; omega
 refine jA2.jAT Tryz.func48 k48 mix (by simp [c48]) ?_
 simp only [c48, L48, CC, jBW, rdP, jEC]
 obtain ⟨hlt, hle, he, h0⟩ := hI
 have hsc : ∀ (a b : Int) (t : List UInt8), ∀ c ∈ [PV.int IntKind.i64 a, PV.str t, PV.int IntKind.i64 b], c.scalar = true := by
  intro a b t c hc; simp at hc; rcases hc with rfl | rfl | rfl <;> rfl
 have hg := jP8 l s.at_ hlt
 have hlen := jOJ l
 have htk : (s.out.map ndP).take s.out.length = s.out.map ndP := List.take_of_length_le (by simp)
 have wa : IntKind.i64.wrap ((s.at_ : Int) + 1) = ((s.at_ + 1 : Nat) : Int) := by rw [IntWalk.i64_in _ (by omega)]; simp
 by_cases k2 : (jB8 l s.at_).1 = 2
 ·have hF : jBR nmP l true sum s = jEE (adv s 1) ⟨0, nmP (jB8 l s.at_).2.1, [], []⟩ := by unfold jBR; rw [if_pos k2]
  rw [hF]
  have d2 : decide (((jB8 l s.at_).1 : Int) = 2) = true := by simp only [decide_eq_true_eq]; omega
  have h20 := V71 (G := G0) (jB8 l s.at_).2.1 (by have := htx s.at_; omega)
  have hpt := (V70 l (adv s 1) ⟨0, nmP (jB8 l s.at_).2.1, [], []⟩ (by simp [adv]; omega)).frame [some (.var (some 3) (kGJ l s.at_))] (by simp [jAF.kill, PV.kill]) (by simp [PV.kill, ndP, ndC, jG1])
  simp only [ndP, ndC, jG1, List.map_nil] at hpt
  generalize jEE (adv s 1) ⟨0, nmP (jB8 l s.at_).2.1, [], []⟩ = r at hpt
  simp only [RdC, rdP, jEC, adv] at hpt
  have hpt := jA2.kPY (p := .agg [.int .i64 0, .int .i64 (numOf (jB8 l s.at_).2.1).1, .str [], .jAH]) hpt (by simp [PV.jA5]) (.agg (.cons (.refl _) (.cons (.refl _) (.cons (.refl _) (.cons (.nil none) .nil)))))
  repeat' (first | exact clo | (refine PW.jP0 (E := ?_) (M := ?_) ?_ ?_; rotate_left 2) | exact jBH _ _ | exact hsc _ _ _ | exact (rfl : (some 3 : Sh) = some 3) | (exact Or.inr ⟨rfl, by decide⟩) | (refine PW.stop (x := .ret) ?_) | (refine sqI ?_; intros) | refine stp ?_ | (refine cnd rfl ?_ ?_ <;> intro hcond <;> (try contradiction) <;> try simp only [DD] at hcond) | (refine jAQ 1 E70 hpt rfl ?_; rintro p μ' ⟨rfl, rfl⟩; simp only [hg, hlen, d2, wa, q2, SA, reduceAdd, reduceIte, reduceEqDiff, Nat.reduceBEq, reduceCtorEq]) | (refine jAG ?_; intro hg; try simp only [hg]) | refine jAA E71 (h20) ?_ ?_ ?_ ?_ | (refine saI ?_ ?_; intros) | (refine ari ?_; first | omega | (simp only [DD, LL] <;> omega) | (go_unwrap; omega) | (simp only [DD] at hg; omega)) | (refine stq ?_; focus (simp only [hg, hlen, d2, wa, q2, SA, reduceAdd, reduceIte, reduceEqDiff, Nat.reduceBEq, reduceCtorEq]; (try go_unwrap; try simp only [hg, hlen, d2, wa, q2, RR, reduceCtorEq]))) | refine And.intro ?_ ?_)
  refine ⟨?_⟩
  refine PW.trim 2 (fun t h => by simp [h]) ?_
  simp only [rdP, jEC, TT, jAF.kill, PV.kill, Nat.reduceLeDiff, reduceIte]
  repeat' (first | exact clo | (refine sqI ?_; intros) | refine stp ?_ | (refine cnd rfl ?_ ?_ <;> intro hcond <;> (try contradiction) <;> try simp only [DD] at hcond) | (refine jAG ?_; intro hg; try simp only [hg]) | (refine saI ?_ ?_; intros) | (refine ari ?_; first | omega | (simp only [DD, LL] <;> omega) | (go_unwrap; omega) | (simp only [DD] at hg; omega)) | (refine stq ?_; focus (simp only [SA, reduceAdd, reduceIte, reduceEqDiff, Nat.reduceBEq, reduceCtorEq]; (try go_unwrap; try simp only [RR, reduceCtorEq]))) | refine And.intro ?_ ?_)
  all_goals rfl
 have d2 : decide (((jB8 l s.at_).1 : Int) = 2) = false := by simp only [decide_eq_false_iff_not]; omega
 by_cases k1 : (jB8 l s.at_).1 = 1
 ·have d1 : decide (((jB8 l s.at_).1 : Int) = 1) = true := by simp only [decide_eq_true_eq]; omega
  have h1 := kEJ h0 hlt (by omega)
  have hg1 := jP8 l (s.at_ + 1) h1
  have ht1 : ((s.at_ : Int) + 1).toNat = s.at_ + 1 := by omega
  have hF : jBR nmP l true sum s = if sgn l (adv s 1) [40] then jIK l sum s else jEE (adv s 1) ⟨1, 0, (jB8 l s.at_).2.1, []⟩ := by unfold jBR; rw [if_neg k2, if_pos k1]
  have d3 : decide (((jB8 l (s.at_ + 1)).1 : Int) = 3) = decide ((jB8 l (s.at_ + 1)).1 = 3) := by rw [Bool.eq_iff_iff, decide_eq_true_eq, decide_eq_true_eq]; omega
  rw [hF]
  by_cases hs : sgn l (adv s 1) [40] = true
  ·rw [if_pos hs]
   have h3 := jE3 (s := adv s 1) h0 (by simpa [adv] using h1) hs
   have hs2 := hs
   simp only [sgn, adv, Bool.and_eq_true] at hs2
   have d4 : decide ((jB8 l (s.at_ + 1)).2.1 = [40]) = true := hs2.2
   have d5 : decide ((jB8 l (s.at_ + 1)).1 = 3) = true := hs2.1
   have hc := (hcall s ⟨hlt, hle, he, h0⟩ ⟨by simpa [adv] using h3, by simp [adv]; omega, he, h0⟩ hm).frame [some (.var (some 3) (kGJ l s.at_)), some (.var (some 3) (kGJ l (s.at_ + 1)))] (by simp [jAF.kill, PV.kill]) (by simp [PV.kill])
   generalize jIK l sum s = r at hc
   simp only [RdC, rdP, jEC] at hc
   repeat' (first | exact clo | (refine PW.jP0 (E := ?_) (M := ?_) ?_ ?_; rotate_left 2) | exact jBH _ _ | exact hsc _ _ _ | exact (rfl : (some 3 : Sh) = some 3) | (exact Or.inr ⟨rfl, by decide⟩) | (refine PW.stop (x := .ret) ?_) | (refine sqI ?_; intros) | refine stp ?_ | (refine cnd rfl ?_ ?_ <;> intro hcond <;> (try contradiction) <;> try simp only [DD] at hcond) | (refine jAQ 1 E72 hc rfl ?_; rintro p μ' ⟨rfl, rfl⟩; simp only [hg, hg1, hlen, d2, d1, d3, d4, d5, ht1, wa, q2, SA, reduceAdd, reduceIte, reduceEqDiff, Nat.reduceBEq, reduceCtorEq]) | (refine jAG ?_; intro hg; try simp only [hg]) | (refine saI ?_ ?_; intros) | (refine ari ?_; first | omega | (simp only [DD, LL] <;> omega) | (go_unwrap; omega) | (simp only [DD] at hg; omega)) | (refine stq ?_; focus (simp only [hg, hg1, hlen, d2, d1, d3, d4, d5, ht1, wa, q2, SA, reduceAdd, reduceIte, reduceEqDiff, Nat.reduceBEq, reduceCtorEq]; (try go_unwrap; try simp only [hg, hg1, hlen, d2, d1, d3, d4, d5, ht1, wa, q2, RR, reduceCtorEq]))) | refine And.intro ?_ ?_)
   refine ⟨?_⟩
   refine PW.trim 2 (fun t h => by simp [h]) ?_
   simp only [rdP, jEC, TT, jAF.kill, PV.kill, Nat.reduceLeDiff, reduceIte]
   repeat' (first | exact clo | (refine sqI ?_; intros) | refine stp ?_ | (refine cnd rfl ?_ ?_ <;> intro hcond <;> (try contradiction) <;> try simp only [DD] at hcond) | (refine jAG ?_; intro hg; try simp only [hg]) | (refine saI ?_ ?_; intros) | (refine ari ?_; first | omega | (simp only [DD, LL] <;> omega) | (go_unwrap; omega) | (simp only [DD] at hg; omega)) | (refine stq ?_; focus (simp only [SA, reduceAdd, reduceIte, reduceEqDiff, Nat.reduceBEq, reduceCtorEq]; (try go_unwrap; try simp only [RR, reduceCtorEq]))) | refine And.intro ?_ ?_)
   all_goals rfl
  ·rw [if_neg hs]
   have d4 : (decide ((jB8 l (s.at_ + 1)).1 = 3) && decide ((jB8 l (s.at_ + 1)).2.1 = [40])) = false := by
    have : sgn l (adv s 1) [40] = false := by simpa using hs
    exact this
   have hpt := (V70 l (adv s 1) ⟨1, 0, (jB8 l s.at_).2.1, []⟩ (by simp [adv]; omega)).frame [some (.var (some 3) (kGJ l s.at_)), some (.var (some 3) (kGJ l (s.at_ + 1)))] (by simp [jAF.kill, PV.kill]) (by simp [PV.kill, ndP, ndC, jG1])
   simp only [ndP, ndC, jG1, List.map_nil] at hpt
   generalize jEE (adv s 1) ⟨1, 0, (jB8 l s.at_).2.1, []⟩ = r at hpt
   simp only [RdC, rdP, jEC, adv] at hpt
   have hpt := jA2.kPY (p := .agg [.int .i64 1, .int .i64 0, .str (jB8 l s.at_).2.1, .jAH]) hpt (by simp [PV.jA5]) (.agg (.cons (.refl _) (.cons (.refl _) (.cons (.refl _) (.cons (.nil none) .nil)))))
   repeat' (first | exact clo | (refine PW.jP0 (E := ?_) (M := ?_) ?_ ?_; rotate_left 2) | exact jBH _ _ | exact hsc _ _ _ | exact (rfl : (some 3 : Sh) = some 3) | (exact Or.inr ⟨rfl, by decide⟩) | (refine PW.stop (x := .ret) ?_) | (refine sqI ?_; intros) | refine stp ?_ | (refine cnd rfl ?_ ?_ <;> intro hcond <;> (try contradiction) <;> try simp only [DD] at hcond) | (refine jAQ 1 E70 hpt rfl ?_; rintro p μ' ⟨rfl, rfl⟩; simp only [hg, hg1, hlen, d2, d1, d3, d4, ht1, wa, q2, SA, reduceAdd, reduceIte, reduceEqDiff, Nat.reduceBEq, reduceCtorEq]) | (refine jAG ?_; intro hg; try simp only [hg]) | (refine saI ?_ ?_; intros) | (refine ari ?_; first | omega | (simp only [DD, LL] <;> omega) | (go_unwrap; omega) | (simp only [DD] at hg; omega)) | (refine stq ?_; focus (simp only [hg, hg1, hlen, d2, d1, d3, d4, ht1, wa, q2, SA, reduceAdd, reduceIte, reduceEqDiff, Nat.reduceBEq, reduceCtorEq]; (try go_unwrap; try simp only [hg, hg1, hlen, d2, d1, d3, d4, ht1, wa, q2, RR, reduceCtorEq]))) | refine And.intro ?_ ?_)
   refine ⟨?_⟩
   refine PW.trim 2 (fun t h => by simp [h]) ?_
   simp only [rdP, jEC, TT, jAF.kill, PV.kill, Nat.reduceLeDiff, reduceIte]
   repeat' (first | exact clo | (refine sqI ?_; intros) | refine stp ?_ | (refine cnd rfl ?_ ?_ <;> intro hcond <;> (try contradiction) <;> try simp only [DD] at hcond) | (refine jAG ?_; intro hg; try simp only [hg]) | (refine saI ?_ ?_; intros) | (refine ari ?_; first | omega | (simp only [DD, LL] <;> omega) | (go_unwrap; omega) | (simp only [DD] at hg; omega)) | (refine stq ?_; focus (simp only [SA, reduceAdd, reduceIte, reduceEqDiff, Nat.reduceBEq, reduceCtorEq]; (try go_unwrap; try simp only [RR, reduceCtorEq]))) | refine And.intro ?_ ?_)
   all_goals rfl
 have d1 : decide (((jB8 l s.at_).1 : Int) = 1) = false := by simp only [decide_eq_false_iff_not]; omega
 have hv := V69 l s [40] hlt hl
 by_cases hs : sgn l s [40] = true
 case neg =>
  have hs' : sgn l s [40] = false := by simpa using hs
  have hF : jBR nmP l true sum s = jEI s 3 := by unfold jBR; rw [if_neg k2, if_neg k1, if_pos hs']
  rw [hF]
  rw [hs'] at hv
  have hf := (V17 l s 3).frame [some (.var (some 3) (kGJ l s.at_))] (by simp [jAF.kill, PV.kill]) (by simp [PV.kill])
  generalize jEI s 3 = r at hf
  simp only [RdC, rdP, jEC] at hf
  repeat' (first | exact clo | (refine PW.jP0 (E := ?_) (M := ?_) ?_ ?_; rotate_left 2) | exact jBH _ _ | exact hsc _ _ _ | exact (rfl : (some 3 : Sh) = some 3) | (exact Or.inr ⟨rfl, by decide⟩) | (refine PW.stop (x := .ret) ?_) | (refine sqI ?_; intros) | refine stp ?_ | (refine cnd rfl ?_ ?_ <;> intro hcond <;> (try contradiction) <;> try simp only [DD] at hcond) | (refine jAQ 1 E17 hf rfl ?_; rintro p μ' ⟨rfl, rfl⟩; simp only [hg, hlen, d2, d1, SA, reduceAdd, reduceIte, reduceEqDiff, Nat.reduceBEq, reduceCtorEq]) | (refine jAG ?_; intro hg; try simp only [hg]) | refine jBB 1 E69 hv (by simp [PV.lend, PV.view, Mem.get, htk]) (by simp [PV.jBU, PV.lend, PV.view, PV.seen, jHH, PV.scalar, Mem.get, Sh.size, htk]) (by simp [PV.flat]) ?_ | (refine saI ?_ ?_; intros) | (refine ari ?_; first | omega | (simp only [DD, LL] <;> omega) | (go_unwrap; omega) | (simp only [DD] at hg; omega)) | (refine stq ?_; focus (simp only [hg, hlen, d2, d1, SA, reduceAdd, reduceIte, reduceEqDiff, Nat.reduceBEq, reduceCtorEq]; (try go_unwrap; try simp only [hg, hlen, d2, d1, RR, reduceCtorEq]))) | refine And.intro ?_ ?_)
  refine ⟨?_⟩
  refine PW.trim 2 (fun t h => by simp [h]) ?_
  simp only [rdP, jEC, TT, jAF.kill, PV.kill, Nat.reduceLeDiff, reduceIte]
  repeat' (first | exact clo | (refine sqI ?_; intros) | refine stp ?_ | (refine cnd rfl ?_ ?_ <;> intro hcond <;> (try contradiction) <;> try simp only [DD] at hcond) | (refine jAG ?_; intro hg; try simp only [hg]) | (refine saI ?_ ?_; intros) | (refine ari ?_; first | omega | (simp only [DD, LL] <;> omega) | (go_unwrap; omega) | (simp only [DD] at hg; omega)) | (refine stq ?_; focus (simp only [SA, reduceAdd, reduceIte, reduceEqDiff, Nat.reduceBEq, reduceCtorEq]; (try go_unwrap; try simp only [RR, reduceCtorEq]))) | refine And.intro ?_ ?_)
  all_goals rfl
 rw [hs] at hv
 have h3 := jE3 h0 hlt hs
 have hIa : Inv l (adv s 1) := ⟨by simpa [adv] using h3, by simp [adv]; omega, he, h0⟩
 have hsm := hsum (adv s 1) hIa (by simp [adv]; omega) [some (.var (some 3) (kGJ l s.at_))] (by simp [jAF.kill, PV.kill])
 have hga := hgood (adv s 1) hIa (by simp [adv]; omega)
 have hF : jBR nmP l true sum s = if (sum (adv s 1)).2.e ≠ 0 then ((sum (adv s 1)).1, (sum (adv s 1)).2) else if sgn l (sum (adv s 1)).2 [41] then ((sum (adv s 1)).1, adv (sum (adv s 1)).2 1) else jEI (sum (adv s 1)).2 3 := by
  unfold jBR; rw [if_neg k2, if_neg k1, if_neg (by simp [hs])]; simp
 rw [hF]
 generalize sum (adv s 1) = r at hsm hga
 obtain ⟨n, r⟩ := r
 have hrl := hga.lt
 have hro := hga.out
 have kOK := hga.le
 simp only [adv] at hrl hro kOK ⊢
 have hrk : (r.out.map ndP).take r.out.length = r.out.map ndP := List.take_of_length_le (by simp)
 have wr : IntKind.i64.wrap ((r.at_ : Int) + 1) = ((r.at_ + 1 : Nat) : Int) := by rw [IntWalk.i64_in _ (by omega)]; simp
 simp only [RdC, rdP, jEC, adv] at hsm
 by_cases hre : r.e = 0
 case neg =>
  have d6 : decide (r.e = 0) = false := by simp only [decide_eq_false_iff_not]; exact hre
  rw [if_pos hre]
  repeat' (first | exact clo | (refine PW.jP0 (E := ?_) (M := ?_) ?_ ?_; rotate_left 2) | exact jBH _ _ | exact hsc _ _ _ | exact (rfl : (some 3 : Sh) = some 3) | (exact Or.inr ⟨rfl, by decide⟩) | (refine PW.stop (x := .ret) ?_) | (refine sqI ?_; intros) | refine stp ?_ | (refine cnd rfl ?_ ?_ <;> intro hcond <;> (try contradiction) <;> try simp only [DD] at hcond) | (refine jAQ 1 E16 hsm rfl ?_; rintro p μ' ⟨rfl, rfl⟩; simp only [hg, hlen, d2, d1, wa, q2, d6, SA, reduceAdd, reduceIte, reduceEqDiff, Nat.reduceBEq, reduceCtorEq]) | (refine jCL rfl ?_; simp only [hg, hlen, d2, d1, wa, q2, d6, SA, reduceAdd, reduceIte, reduceEqDiff, Nat.reduceBEq, reduceCtorEq]; (try go_unwrap; try simp only [hg, hlen, d2, d1, wa, q2, d6, RR, reduceCtorEq])) | (refine jAG ?_; intro hg; try simp only [hg]) | refine jBB 1 E69 hv (by simp [PV.lend, PV.view, Mem.get, htk]) (by simp [PV.jBU, PV.lend, PV.view, PV.seen, jHH, PV.scalar, Mem.get, Sh.size, htk]) (by simp [PV.flat]) ?_ | (refine saI ?_ ?_; intros) | (refine ari ?_; first | omega | (simp only [DD, LL] <;> omega) | (go_unwrap; omega) | (simp only [DD] at hg; omega)) | (refine stq ?_; focus (simp only [hg, hlen, d2, d1, wa, q2, d6, SA, reduceAdd, reduceIte, reduceEqDiff, Nat.reduceBEq, reduceCtorEq]; (try go_unwrap; try simp only [hg, hlen, d2, d1, wa, q2, d6, RR, reduceCtorEq]))) | refine And.intro ?_ ?_)
  refine ⟨?_⟩
  refine PW.trim 2 (fun t h => by simp [h]) ?_
  simp only [rdP, jEC, TT, jAF.kill, PV.kill, Nat.reduceLeDiff, reduceIte]
  repeat' (first | exact clo | (refine sqI ?_; intros) | refine stp ?_ | (refine cnd rfl ?_ ?_ <;> intro hcond <;> (try contradiction) <;> try simp only [DD] at hcond) | (refine jAG ?_; intro hg; try simp only [hg]) | (refine saI ?_ ?_; intros) | (refine ari ?_; first | omega | (simp only [DD, LL] <;> omega) | (go_unwrap; omega) | (simp only [DD] at hg; omega)) | (refine stq ?_; focus (simp only [SA, reduceAdd, reduceIte, reduceEqDiff, Nat.reduceBEq, reduceCtorEq]; (try go_unwrap; try simp only [RR, reduceCtorEq]))) | refine And.intro ?_ ?_)
  all_goals rfl
 have d6 : decide (r.e = 0) = true := by simp only [decide_eq_true_eq]; exact hre
 have hv2 := V69 l r [41] hrl hl
 rw [if_neg (by simp [hre])]
 by_cases hs2 : sgn l r [41] = true
 ·rw [hs2] at hv2
  rw [if_pos hs2]
  repeat' (first | exact clo | (refine PW.jP0 (E := ?_) (M := ?_) ?_ ?_; rotate_left 2) | exact jBH _ _ | exact hsc _ _ _ | exact (rfl : (some 3 : Sh) = some 3) | (exact Or.inr ⟨rfl, by decide⟩) | (refine PW.stop (x := .ret) ?_) | (refine sqI ?_; intros) | refine stp ?_ | (refine cnd rfl ?_ ?_ <;> intro hcond <;> (try contradiction) <;> try simp only [DD] at hcond) | (refine jAQ 1 E16 hsm rfl ?_; rintro p μ' ⟨rfl, rfl⟩; simp only [hg, hlen, d2, d1, wa, q2, d6, wr, SA, reduceAdd, reduceIte, reduceEqDiff, Nat.reduceBEq, reduceCtorEq]) | (refine jR8 1 E69 hv2 (by simp [jCQ, PV.jBM]) (by simp [PV.under, PV.lend, PV.view, Mem.get, hrk]) (by simp [PV.under, PV.jBU, PV.lend, PV.view, PV.seen, jHH, PV.scalar, Mem.get, Sh.size, hrk]) (by simp [PV.flat]) ?_; simp only [hg, hlen, d2, d1, wa, q2, d6, wr, SA, reduceAdd, reduceIte, reduceEqDiff, Nat.reduceBEq, reduceCtorEq]) | (refine jAG ?_; intro hg; try simp only [hg]) | refine jBB 1 E69 hv (by simp [PV.lend, PV.view, Mem.get, htk]) (by simp [PV.jBU, PV.lend, PV.view, PV.seen, jHH, PV.scalar, Mem.get, Sh.size, htk]) (by simp [PV.flat]) ?_ | (refine saI ?_ ?_; intros) | (refine ari ?_; first | omega | (simp only [DD, LL] <;> omega) | (go_unwrap; omega) | (simp only [DD] at hg; omega)) | (refine stq ?_; focus (simp only [hg, hlen, d2, d1, wa, q2, d6, wr, SA, reduceAdd, reduceIte, reduceEqDiff, Nat.reduceBEq, reduceCtorEq]; (try go_unwrap; try simp only [hg, hlen, d2, d1, wa, q2, d6, wr, RR, reduceCtorEq]))) | refine And.intro ?_ ?_)
  refine ⟨?_⟩
  refine PW.trim 2 (fun t h => by simp [h]) ?_
  simp only [rdP, jEC, TT, jAF.kill, PV.kill, Nat.reduceLeDiff, reduceIte]
  repeat' (first | exact clo | (refine sqI ?_; intros) | refine stp ?_ | (refine cnd rfl ?_ ?_ <;> intro hcond <;> (try contradiction) <;> try simp only [DD] at hcond) | (refine jAG ?_; intro hg; try simp only [hg]) | (refine saI ?_ ?_; intros) | (refine ari ?_; first | omega | (simp only [DD, LL] <;> omega) | (go_unwrap; omega) | (simp only [DD] at hg; omega)) | (refine stq ?_; focus (simp only [SA, reduceAdd, reduceIte, reduceEqDiff, Nat.reduceBEq, reduceCtorEq]; (try go_unwrap; try simp only [RR, reduceCtorEq]))) | refine And.intro ?_ ?_)
  all_goals rfl
 ·have hs2' : sgn l r [41] = false := by simpa using hs2
  rw [hs2'] at hv2
  rw [if_neg hs2]
  have hf := (V17 l r 3).frame [some (.var (some 3) (kGJ l s.at_))] (by simp [jAF.kill, PV.kill]) (by simp [PV.kill])
  generalize jEI r 3 = q at hf
  simp only [RdC, rdP, jEC] at hf
  repeat' (first | exact clo | (refine PW.jP0 (E := ?_) (M := ?_) ?_ ?_; rotate_left 2) | exact jBH _ _ | exact hsc _ _ _ | exact (rfl : (some 3 : Sh) = some 3) | (exact Or.inr ⟨rfl, by decide⟩) | (refine PW.stop (x := .ret) ?_) | (refine sqI ?_; intros) | refine stp ?_ | (refine cnd rfl ?_ ?_ <;> intro hcond <;> (try contradiction) <;> try simp only [DD] at hcond) | (refine jAQ 1 E16 hsm rfl ?_; rintro p μ' ⟨rfl, rfl⟩; simp only [hg, hlen, d2, d1, wa, q2, d6, SA, reduceAdd, reduceIte, reduceEqDiff, Nat.reduceBEq, reduceCtorEq]) | (refine jR8 1 E69 hv2 (by simp [jCQ, PV.jBM]) (by simp [PV.under, PV.lend, PV.view, Mem.get, hrk]) (by simp [PV.under, PV.jBU, PV.lend, PV.view, PV.seen, jHH, PV.scalar, Mem.get, Sh.size, hrk]) (by simp [PV.flat]) ?_; simp only [hg, hlen, d2, d1, wa, q2, d6, SA, reduceAdd, reduceIte, reduceEqDiff, Nat.reduceBEq, reduceCtorEq]) | (refine jAQ 1 E17 hf rfl ?_; rintro p μ' ⟨rfl, rfl⟩; simp only [hg, hlen, d2, d1, wa, q2, d6, SA, reduceAdd, reduceIte, reduceEqDiff, Nat.reduceBEq, reduceCtorEq]) | (refine jAG ?_; intro hg; try simp only [hg]) | refine jBB 1 E69 hv (by simp [PV.lend, PV.view, Mem.get, htk]) (by simp [PV.jBU, PV.lend, PV.view, PV.seen, jHH, PV.scalar, Mem.get, Sh.size, htk]) (by simp [PV.flat]) ?_ | (refine saI ?_ ?_; intros) | (refine ari ?_; first | omega | (simp only [DD, LL] <;> omega) | (go_unwrap; omega) | (simp only [DD] at hg; omega)) | (refine stq ?_; focus (simp only [hg, hlen, d2, d1, wa, q2, d6, SA, reduceAdd, reduceIte, reduceEqDiff, Nat.reduceBEq, reduceCtorEq]; (try go_unwrap; try simp only [hg, hlen, d2, d1, wa, q2, d6, RR, reduceCtorEq]))) | refine And.intro ?_ ?_)
  refine ⟨?_⟩
  refine PW.trim 2 (fun t h => by simp [h]) ?_
  simp only [rdP, jEC, TT, jAF.kill, PV.kill, Nat.reduceLeDiff, reduceIte]
  repeat' (first | exact clo | (refine sqI ?_; intros) | refine stp ?_ | (refine cnd rfl ?_ ?_ <;> intro hcond <;> (try contradiction) <;> try simp only [DD] at hcond) | (refine jAG ?_; intro hg; try simp only [hg]) | (refine saI ?_ ?_; intros) | (refine ari ?_; first | omega | (simp only [DD, LL] <;> omega) | (go_unwrap; omega) | (simp only [DD] at hg; omega)) | (refine stq ?_; focus (simp only [SA, reduceAdd, reduceIte, reduceEqDiff, Nat.reduceBEq, reduceCtorEq]; (try go_unwrap; try simp only [RR, reduceCtorEq]))) | refine And.intro ?_ ?_)
  all_goals rfl
end Go.Proofs.YthjkmhfiffojeaaGreatDoor
namespace PG
open Go
set_option linter.unusedSimpArgs false
set_option linter.unusedVariables false
section
variable {P : Program} {G : jA3} {N : Nat} {w : World} {κ : Kap} {env : Env} {μ : Mem} {mv : Nat -> Bool} {Q : Post}
theorem PW.kQ7 {x : jB1} (i : Nat) (sh : Sh) (hi : env.get i = .jAH) (h : PW P G N mv x ((i, .sl sh μ.length 0) :: env) (μ ++ [some (jAF.row sh [])]) Q) : PW P G N mv x env μ Q := by
 intro ow L code hc jD8 C a w κ hmv hR
 obtain ⟨hG, hS'⟩ := hR.sim.jCE sh
 refine h ow L code hc jD8 C a w _ hmv ⟨hR.size, hR.defers, fun j => ?_, hS', jBV hR.globs hG, hR.goes.trans (hG.weak fun _ h => h.elim)⟩
 have hj := hR.regs j
 by_cases e : i = j
 ·subst e
  rw [hi] at hj
  rw [jJ7, if_pos rfl, jDC hj]
  exact .slnil sh μ.length (by simp)
 ·rw [jJ7, if_neg e]
  exact hj.still hG
theorem PW.kQ6 {x : jB1} (t i : Nat) (sh : Sh) (n : Nat) (cs : List PV) (hm : μ.get t = some (.var (some n) (.agg cs))) (hi : cs[i]? = some .jAH)
  (h : PW P G N mv x env ((μ ++ [some (jAF.row sh [])]).set t (some (jAF.var (some n) (.agg (cs.set i (.sl sh μ.length 0)))))) Q) : PW P G N mv x env μ Q := by
 intro ow L code hc jD8 C a w κ hmv hR
 obtain ⟨hG, hS'⟩ := hR.sim.jCE sh
 have hlt : t < μ.length := by
  rcases Nat.lt_or_ge t μ.length with h | h
  ·exact h
  ·simp [Mem.get, List.getElem?_eq_none h] at hm
 have hm' : Mem.get (μ ++ [some (jAF.row sh [])]) t = some (jAF.var (some n) (.agg cs)) := by
  unfold Mem.get at hm ⊢
  rw [List.getElem?_append_left hlt]; exact hm
 have kOS := hS'.swap hm' (o' := jAF.var (some n) (.agg (cs.set i (.sl sh μ.length 0)))) (fun c hO => by
  cases hO with
  | var b arr E _ _ hb hs hsh hr =>
   obtain ⟨cs', e, hl⟩ := hsh
   cases e
   refine .var b arr E (some n) _ hb hs ⟨_, rfl, by simpa using hl⟩ (fun j p v hj hv => ?_)
   simp only [PV.cells] at hj hr
   by_cases e : i = j
   ·subst e
    have hil : i < cs.length := (List.getElem?_eq_some_iff.1 hi).1
    rw [List.getElem?_set_self hil] at hj
    cases hj
    have := hr i .jAH v hi hv
    rw [jDC this]
    exact .slnil sh μ.length (by simp)
   ·rw [List.getElem?_set_ne e] at hj
    exact hr j p v hj hv)
 exact h ow L code hc jD8 C a w _ hmv ⟨hR.size, hR.defers, fun j => (hR.regs j).still hG, kOS, jBV hR.globs hG, hR.goes.trans (hG.weak fun _ h => h.elim)⟩
end
end PG
namespace Go.Proofs.YthjkmhfiffojeaaGreatDoor
open Go PG Go.Proofs
open Nat (reduceAdd reduceEqDiff)
set_option linter.unusedSimpArgs false
set_option linter.unusedVariables false
set_option maxHeartbeats 4000000
set_option maxRecDepth 100000
theorem gW' : G0 0 = some (some 10, jFX) := rfl
theorem gK' : G0 1 = some (some 10, jAS) := rfl
theorem jE2 : jFX.cells.drop (Int.toNat 5) = jGE.map PV.str := rfl
theorem kE0 {op : Nat} (h5 : 5 <= op) (h9 : op <= 9) : jA1.getD op 0 = (jMJ op : Int) := by
 have : op = 5 ∨ op = 6 ∨ op = 7 ∨ op = 8 ∨ op = 9 := by omega
 rcases this with rfl | rfl | rfl | rfl | rfl <;> rfl
theorem V72 (l : List Tok) (hl : l.length <= 100000) (sum : PS -> Int × PS) (m : Nat) (hsum : ∀ s, Inv l s -> l.length - s.at_ <= m -> ∀ ν : Mem, ν.map (Option.map (jAF.kill (jAR 1))) = ν -> RdC l 16 [.ref 0 0] ν s (sum s)) (hgood : jG2 l sum m)
  (s : PS) (hI : Inv l s) (hI2 : Inv l (adv s 2)) (hm : l.length - s.at_ <= m + 1) : RdC l 72 [.ref 0 0] [] s (jIK l sum s) := by
 refine jA2.moves (mv := fun t => t == 1 || decide (2 <= t)) (fun t ht h => ?_) ?_
 ·simp only [List.length_cons, List.length_nil] at ht
  simp only [Bool.or_eq_true, beq_iff_eq, decide_eq_true_eq] at h
  simp only [jAR, beq_iff_eq]; omega
 refine jA2.jAT Tryz.func72 k72 mix (by simp [c72]) ?_
 simp only [c72, L72, CC, jBW, rdP, jEC]
 obtain ⟨hlt, hle, he, h0⟩ := hI
 have hg := jP8 l s.at_ hlt
 have hlen := jOJ l
 have kIV := V98 jGE (jB8 l s.at_).2.1 (by decide)
 rw [kE5] at kIV
 have wa : IntKind.i64.wrap ((s.at_ : Int) + 2) = ((s.at_ + 2 : Nat) : Int) := by rw [IntWalk.i64_in _ (by omega)]; simp
 cases hc : jGF (jB8 l s.at_).2.1 with
 | none =>
  have hF : jIK l sum s = jEI s 21 := by unfold jIK; rw [hc]
  rw [hF]
  rw [hc] at kIV
  have hf := V17 l s 21
  generalize jEI s 21 = q at hf
  simp only [RdC, rdP, jEC] at hf
  repeat' (first | exact clo | (refine PW.jP0 (E := ?_) (M := ?_) ?_ ?_; rotate_left 2) | exact jBH _ _ | (exact Or.inr ⟨rfl, by decide⟩) | (exact Or.inr (by decide)) | exact (Nat.le_of_ble_eq_true rfl : 10 <= maxLen) | (refine PW.stop (x := .ret) ?_) | (refine sqI ?_; intros) | refine stp ?_ | (refine cnd rfl ?_ ?_ <;> intro hcond <;> (try contradiction) <;> try simp only [DD] at hcond) | (refine jAQ 1 E17 hf rfl ?_; rintro p μ' ⟨rfl, rfl⟩; simp only [hg, hlen, gW', jAM, jE2, SA, reduceAdd, reduceIte, reduceEqDiff, Nat.reduceBEq, reduceCtorEq]) | (refine jAG ?_; intro hg; try simp only [hg]) | refine jAA E98 (kIV) ?_ ?_ ?_ ?_ | (refine saI ?_ ?_; intros) | (refine ari ?_; first | omega | (simp only [DD, LL] <;> omega) | (go_unwrap; omega) | (simp only [DD] at hg; omega)) | (refine stq ?_; focus (simp only [hg, hlen, gW', jAM, jE2, SA, reduceAdd, reduceIte, reduceEqDiff, Nat.reduceBEq, reduceCtorEq]; (try go_unwrap; try simp only [hg, hlen, gW', jAM, jE2, RR, reduceCtorEq]))) | refine And.intro ?_ ?_)
  refine ⟨?_⟩
  refine PW.trim 2 (fun t h => by simp [h]) ?_
  simp only [rdP, jEC, TT, jAF.kill, PV.kill, Nat.reduceLeDiff, reduceIte]
  repeat' (first | exact clo | (refine sqI ?_; intros) | refine stp ?_ | (refine cnd rfl ?_ ?_ <;> intro hcond <;> (try contradiction) <;> try simp only [DD] at hcond) | (refine jAG ?_; intro hg; try simp only [hg]) | (refine saI ?_ ?_; intros) | (refine ari ?_; first | omega | (simp only [DD, LL] <;> omega) | (go_unwrap; omega) | (simp only [DD] at hg; omega)) | (refine stq ?_; focus (simp only [SA, reduceAdd, reduceIte, reduceEqDiff, Nat.reduceBEq, reduceCtorEq]; (try go_unwrap; try simp only [RR, reduceCtorEq]))) | refine And.intro ?_ ?_)
  all_goals rfl
 | some i =>
  have hi := kDQ hc
  have hF : jIK l sum s = jGG l sum (i + 5) (jMJ (i + 5)) [] (adv s 2) := by unfold jIK; rw [hc]
  rw [hF]
  rw [hc] at kIV
  simp only at kIV
  have w5 : IntKind.i64.wrap ((i : Int) + 5) = ((i + 5 : Nat) : Int) := by rw [IntWalk.i64_in _ (by omega)]; simp
  have d5 : decide (((i + 5 : Nat) : Int) < 5) = false := by simp only [decide_eq_false_iff_not]; omega
  have hkn := kE0 (op := i + 5) (by omega) (by omega)
  have jLN := jJA (op := i + 5) hgood h0 (jMJ (i + 5)) [] s (adv s 2) (by unfold jMJ; split <;> omega) (by simp [adv]) hle hI2 (by simp [adv]) (by simp [adv]; omega)
  generalize hop : i + 5 = op at *
  generalize hR : jGG l sum op (jMJ op) [] (adv s 2) = R at *
  repeat' (first | exact clo | (refine PW.jP0 (E := ?_) (M := ?_) ?_ ?_; rotate_left 2) | exact jBH _ _ | (exact Or.inr ⟨rfl, by decide⟩) | (exact Or.inr (by decide)) | exact (Nat.le_of_ble_eq_true rfl : 10 <= maxLen) | (refine sqI ?_; intros) | refine stp ?_ | (refine cnd rfl ?_ ?_ <;> intro hcond <;> (try contradiction) <;> try simp only [DD] at hcond) | (refine jAG ?_; intro hg; try simp only [hg]) | refine jAA E98 (kIV) ?_ ?_ ?_ ?_ | (refine saI ?_ ?_; intros) | (refine ari ?_; first | omega | (simp only [DD, LL] <;> omega) | (go_unwrap; omega) | (simp only [DD] at hg; omega)) | (refine stq ?_; focus (simp only [hg, hlen, gW', jAM, jE2, w5, d5, wa, q2, SA, reduceAdd, reduceIte, reduceEqDiff, Nat.reduceBEq, reduceCtorEq]; (try go_unwrap; try simp only [hg, hlen, gW', jAM, jE2, w5, d5, wa, q2, RR, reduceCtorEq]))) | refine And.intro ?_ ?_)
  refine PW.kQ7 4 none rfl ?_
  simp only [List.cons_append, List.nil_append, List.length_cons, List.length_nil]
  refine PW.loop (σ := List Int × PS) [0, 3, 4] (fun q => [.ref 0 0, .int .i64 op, .sl none 2 q.1.length]) (fun q => [some (rdP l q.2), some (jEC q.2), some (.row none (q.1.map (PV.int .i64)))])
   (fun q => ∃ k, 0 < k ∧ q.1.length + k = jMJ op ∧ Inv l q.2 ∧ l.length - q.2.at_ <= m ∧ jGG l sum op k q.1 q.2 = R) (fun q => l.length - q.2.at_) ([], adv s 2) ?_ ?_ ⟨jMJ op, by unfold jMJ; split <;> omega, by simp, hI2, by simp [adv]; omega, hR⟩ ?_
  ·simp only [SA, reduceAdd, reduceIte, reduceEqDiff, Nat.reduceBEq, reduceCtorEq]; rfl
  ·simp [rdP, jEC, adv]
  clear hR jLN hg wa kIV hF hm hlt hle he
  rintro ⟨ks, s1⟩ ⟨k, hk0, hkl, hI1, hm1, hR⟩
  simp only at hkl hI1 hm1 hR
  simp only [List.zip_cons_cons, List.zip_nil_left, rdP, jEC]
  obtain ⟨k, rfl⟩ : ∃ k', k = k' + 1 := ⟨k - 1, by omega⟩
  have kSH : jMJ op <= 3 := by unfold jMJ; split <;> omega
  have hsm := hsum s1 hI1 hm1 [some (.row none (ks.map (PV.int .i64)))] rfl
  have hga := hgood s1 hI1 hm1
  unfold jGG at hR
  generalize sum s1 = r at hsm hga hR
  obtain ⟨n, r⟩ := r
  simp only at hR
  have hrl := hga.lt
  have hro := hga.out
  have kOK := hga.le
  simp only at hrl hro kOK
  have hile := hI1.le
  have hrk : (r.out.map ndP).take r.out.length = r.out.map ndP := List.take_of_length_le (by simp)
  have wr : IntKind.i64.wrap ((r.at_ : Int) + 1) = ((r.at_ + 1 : Nat) : Int) := by rw [IntWalk.i64_in _ (by omega)]; simp
  have hk1 : (ks.map (PV.int .i64)).take ks.length = ks.map (PV.int .i64) := List.take_of_length_le (by simp)
  have jJ6 : ((ks.map (PV.int .i64)).length : Nat) = ks.length := by simp
  have hka : ks.map (PV.int .i64) ++ [.int .i64 n] = (ks ++ [n]).map (PV.int .i64) := by simp
  have hk2 : (((ks ++ [n]).map (PV.int .i64)).length : Nat) = ks.length + 1 := by simp
  have hk3 : ((ks ++ [n]).map (PV.int .i64)).take (ks.length + 1) = (ks ++ [n]).map (PV.int .i64) := List.take_of_length_le (by simp)
  have b1 : (ks.length + 1) * 8 <= 140737488355328 := by omega
  obtain ⟨hget, kRQ⟩ := jLK (op := (op : Int)) (by omega) (by omega)
  have hto : ((op : Int)).toNat = op := by omega
  rw [hto, hkn] at hget
  have hi3 : (0 + op * 1 + 1 <= (List.map (PV.int IntKind.i64) jA1).length) := by
   have : (List.map (PV.int IntKind.i64) jA1).length = 10 := rfl
   omega
  have jEP := hget
  rw [Nat.zero_add] at jEP
  have hi4 := hi3
  rw [Nat.zero_add] at hi4
  simp only [RdC, rdP, jEC] at hsm
  by_cases hre : r.e = 0
  case neg =>
   have d6 : decide (r.e = 0) = false := by simp only [decide_eq_false_iff_not]; exact hre
   rw [if_pos hre] at hR
   subst hR
   repeat' (first | exact clo | (exact Or.inr ⟨rfl, by decide⟩) | (exact Or.inr (by decide)) | exact (Nat.le_of_ble_eq_true rfl : 10 <= maxLen) | (refine PW.stop (x := .ret) ?_) | (refine sqI ?_; intros) | refine stp ?_ | (refine cnd rfl ?_ ?_ <;> intro hcond <;> (try contradiction) <;> try simp only [DD] at hcond) | (refine jAQ 1 E16 hsm rfl ?_; rintro p μ' ⟨rfl, rfl⟩; simp only [hk1, jJ6, hka, d6, Nat.zero_add, List.length_cons, List.length_nil, SA, reduceAdd, reduceIte, reduceEqDiff, Nat.reduceBEq, reduceCtorEq]) | (refine jAG ?_; intro hg; try simp only [hg]) | (refine saI ?_ ?_; intros) | (refine ari ?_; first | omega | (simp only [DD, LL] <;> omega) | (go_unwrap; omega) | (simp only [DD] at hg; omega)) | (refine stq ?_; focus (simp only [hk1, jJ6, hka, d6, Nat.zero_add, List.length_cons, List.length_nil, SA, reduceAdd, reduceIte, reduceEqDiff, Nat.reduceBEq, reduceCtorEq]; (try go_unwrap; try simp only [hk1, jJ6, hka, d6, Nat.zero_add, List.length_cons, List.length_nil, RR, reduceCtorEq]))) | refine And.intro ?_ ?_)
   refine ⟨?_⟩
   refine PW.trim 2 (fun t h => by simp [h]) ?_
   simp only [rdP, jEC, TT, jAF.kill, PV.kill, Nat.reduceLeDiff, reduceIte]
   repeat' (first | exact clo | (refine sqI ?_; intros) | refine stp ?_ | (refine cnd rfl ?_ ?_ <;> intro hcond <;> (try contradiction) <;> try simp only [DD] at hcond) | (refine jAG ?_; intro hg; try simp only [hg]) | (refine saI ?_ ?_; intros) | (refine ari ?_; first | omega | (simp only [DD, LL] <;> omega) | (go_unwrap; omega) | (simp only [DD] at hg; omega)) | (refine stq ?_; focus (simp only [SA, reduceAdd, reduceIte, reduceEqDiff, Nat.reduceBEq, reduceCtorEq]; (try go_unwrap; try simp only [RR, reduceCtorEq]))) | refine And.intro ?_ ?_)
   all_goals rfl
  have d6 : decide (r.e = 0) = true := by simp only [decide_eq_true_eq]; exact hre
  rw [if_neg (by simp [hre])] at hR
  have hva := V69 l r [44] hrl hl
  have hvb := V69 l r [41] hrl hl
  by_cases hk : k = 0
  ·rw [if_pos hk] at hR
   have dlt : decide (((ks.length + 1 : Nat) : Int) < (jMJ op : Int)) = false := by simp only [decide_eq_false_iff_not]; omega
   have deq : decide (((ks.length + 1 : Nat) : Int) = (jMJ op : Int)) = true := by simp only [decide_eq_true_eq]; omega
   by_cases hs2 : sgn l r [41] = true
   ·rw [hs2] at hvb
    rw [if_pos hs2] at hR
    have h1 := jE3 h0 hrl hs2
    have hpt := (V70 l (adv r 1) ⟨op, 0, [], ks ++ [n]⟩ (by simp [adv]; omega)).frame [none] rfl (by simp [PV.kill, ndP, ndC, jG1])
    rw [hR] at hpt
    simp only [ndP, ndC, jG1] at hpt
    simp only [RdC, rdP, jEC, adv] at hpt
    repeat' (first | exact clo | (exact Or.inr ⟨rfl, by decide⟩) | (refine PW.stop (x := .seq (.region false (⟨some 79, none, .rd .mov [.tmp 0]⟩ :: _) _) _) ?_) | (refine sqI ?_; intros) | refine stp ?_ | (refine cnd rfl ?_ ?_ <;> intro hcond <;> (try contradiction) <;> try simp only [DD] at hcond) | (refine jAQ 1 E16 hsm rfl ?_; rintro p μ' ⟨rfl, rfl⟩; simp only [hk1, jJ6, hka, d6, gK', jAM, jAS, hget, hto, hi3, jEP, hi4, Bool.and_false, Bool.false_and, Bool.and_true, dlt, deq, wr, q2, Nat.zero_add, List.length_cons, List.length_nil, SA, reduceAdd, reduceIte, reduceEqDiff, Nat.reduceBEq, reduceCtorEq]) | (refine jBB 1 E69 hva ?_ ?_ ?_ ?_; (focus (simp [PV.lend, PV.view, Mem.get, hrk]; done)); (focus (simp [PV.jBU, PV.lend, PV.view, PV.seen, jHH, PV.scalar, Mem.get, Sh.size, hrk]; done)); (focus (simp [PV.flat]; done)); simp only [hk1, jJ6, hka, d6, gK', jAM, jAS, hget, hto, hi3, jEP, hi4, Bool.and_false, Bool.false_and, Bool.and_true, dlt, deq, wr, q2, Nat.zero_add, List.length_cons, List.length_nil, SA, reduceAdd, reduceIte, reduceEqDiff, Nat.reduceBEq, reduceCtorEq]) | (refine jBB 1 E69 hvb ?_ ?_ ?_ ?_; (focus (simp [PV.lend, PV.view, Mem.get, hrk]; done)); (focus (simp [PV.jBU, PV.lend, PV.view, PV.seen, jHH, PV.scalar, Mem.get, Sh.size, hrk]; done)); (focus (simp [PV.flat]; done)); simp only [hk1, jJ6, hka, d6, gK', jAM, jAS, hget, hto, hi3, jEP, hi4, Bool.and_false, Bool.false_and, Bool.and_true, dlt, deq, wr, q2, Nat.zero_add, List.length_cons, List.length_nil, SA, reduceAdd, reduceIte, reduceEqDiff, Nat.reduceBEq, reduceCtorEq]) | (refine jAG ?_; intro hg; try simp only [hg]) | (refine saI ?_ ?_; intros) | (refine ari ?_; first | omega | (simp only [DD, LL] <;> omega) | (go_unwrap; omega) | (simp only [DD] at hg; omega)) | (refine stq ?_; focus (simp only [hk1, jJ6, hka, d6, gK', jAM, jAS, hget, hto, hi3, jEP, hi4, Bool.and_false, Bool.false_and, Bool.and_true, dlt, deq, wr, q2, Nat.zero_add, List.length_cons, List.length_nil, SA, reduceAdd, reduceIte, reduceEqDiff, Nat.reduceBEq, reduceCtorEq]; (try go_unwrap; try simp only [hk1, jJ6, hka, d6, gK', jAM, jAS, hget, hto, hi3, jEP, hi4, Bool.and_false, Bool.false_and, Bool.and_true, dlt, deq, wr, q2, Nat.zero_add, List.length_cons, List.length_nil, RR, reduceCtorEq]))) | refine And.intro ?_ ?_)
    refine ⟨?_⟩
    refine PW.frz 2 (.row none ((ks ++ [n]).map (PV.int .i64))) ?_ ?_ ?_
    ·rfl
    ·rfl
    simp only [SA, reduceAdd, reduceIte, reduceEqDiff, Nat.reduceBEq, reduceCtorEq, PV.frz, jAF.frz, jPF, jFC, hk2, hk3, Nat.le_refl, and_self, if_true]
    repeat' (first | exact clo | (exact Or.inr ⟨rfl, by decide⟩) | (exact Or.inr (by decide)) | exact (Nat.le_of_ble_eq_true rfl : 10 <= maxLen) | (refine PW.stop (x := .ret) ?_) | (refine sqI ?_; intros) | refine stp ?_ | (refine cnd rfl ?_ ?_ <;> intro hcond <;> (try contradiction) <;> try simp only [DD] at hcond) | (refine jAQ 1 E70 hpt rfl ?_; rintro p μ' ⟨rfl, rfl⟩; simp only [List.length_cons, List.length_nil, SA, reduceAdd, reduceIte, reduceEqDiff, Nat.reduceBEq, reduceCtorEq]) | (refine jAG ?_; intro hg; try simp only [hg]) | (refine saI ?_ ?_; intros) | (refine ari ?_; first | omega | (simp only [DD, LL] <;> omega) | (go_unwrap; omega) | (simp only [DD] at hg; omega)) | (refine stq ?_; focus (simp only [List.length_cons, List.length_nil, SA, reduceAdd, reduceIte, reduceEqDiff, Nat.reduceBEq, reduceCtorEq]; (try go_unwrap; try simp only [List.length_cons, List.length_nil, RR, reduceCtorEq]))) | refine And.intro ?_ ?_)
    refine ⟨?_⟩
    refine PW.trim 2 (fun t h => by simp [h]) ?_
    simp only [rdP, jEC, TT, jAF.kill, PV.kill, Nat.reduceLeDiff, reduceIte]
    repeat' (first | exact clo | (refine sqI ?_; intros) | refine stp ?_ | (refine cnd rfl ?_ ?_ <;> intro hcond <;> (try contradiction) <;> try simp only [DD] at hcond) | (refine jAG ?_; intro hg; try simp only [hg]) | (refine saI ?_ ?_; intros) | (refine ari ?_; first | omega | (simp only [DD, LL] <;> omega) | (go_unwrap; omega) | (simp only [DD] at hg; omega)) | (refine stq ?_; focus (simp only [SA, reduceAdd, reduceIte, reduceEqDiff, Nat.reduceBEq, reduceCtorEq]; (try go_unwrap; try simp only [RR, reduceCtorEq]))) | refine And.intro ?_ ?_)
    all_goals rfl
   ·have hs2' : sgn l r [41] = false := by simpa using hs2
    rw [hs2'] at hvb
    rw [if_neg hs2] at hR
    have hf := (V17 l r 3).frame [some (.row none ((ks ++ [n]).map (PV.int .i64)))] rfl (by simp [PV.kill])
    rw [hR] at hf
    simp only [RdC, rdP, jEC] at hf
    repeat' (first | exact clo | (exact Or.inr ⟨rfl, by decide⟩) | (exact Or.inr (by decide)) | exact (Nat.le_of_ble_eq_true rfl : 10 <= maxLen) | (refine PW.stop (x := .ret) ?_) | (refine sqI ?_; intros) | refine stp ?_ | (refine cnd rfl ?_ ?_ <;> intro hcond <;> (try contradiction) <;> try simp only [DD] at hcond) | (refine jAQ 1 E16 hsm rfl ?_; rintro p μ' ⟨rfl, rfl⟩; simp only [hk1, jJ6, hka, d6, gK', jAM, jAS, hget, hto, hi3, jEP, hi4, Bool.and_false, Bool.false_and, Bool.and_true, dlt, deq, wr, q2, Nat.zero_add, List.length_cons, List.length_nil, SA, reduceAdd, reduceIte, reduceEqDiff, Nat.reduceBEq, reduceCtorEq]) | (refine jBB 1 E69 hva ?_ ?_ ?_ ?_; (focus (simp [PV.lend, PV.view, Mem.get, hrk]; done)); (focus (simp [PV.jBU, PV.lend, PV.view, PV.seen, jHH, PV.scalar, Mem.get, Sh.size, hrk]; done)); (focus (simp [PV.flat]; done)); simp only [hk1, jJ6, hka, d6, gK', jAM, jAS, hget, hto, hi3, jEP, hi4, Bool.and_false, Bool.false_and, Bool.and_true, dlt, deq, wr, q2, Nat.zero_add, List.length_cons, List.length_nil, SA, reduceAdd, reduceIte, reduceEqDiff, Nat.reduceBEq, reduceCtorEq]) | (refine jBB 1 E69 hvb ?_ ?_ ?_ ?_; (focus (simp [PV.lend, PV.view, Mem.get, hrk]; done)); (focus (simp [PV.jBU, PV.lend, PV.view, PV.seen, jHH, PV.scalar, Mem.get, Sh.size, hrk]; done)); (focus (simp [PV.flat]; done)); simp only [hk1, jJ6, hka, d6, gK', jAM, jAS, hget, hto, hi3, jEP, hi4, Bool.and_false, Bool.false_and, Bool.and_true, dlt, deq, wr, q2, Nat.zero_add, List.length_cons, List.length_nil, SA, reduceAdd, reduceIte, reduceEqDiff, Nat.reduceBEq, reduceCtorEq]) | (refine jAQ 1 E17 hf rfl ?_; rintro p μ' ⟨rfl, rfl⟩; simp only [hk1, jJ6, hka, d6, gK', jAM, jAS, hget, hto, hi3, jEP, hi4, Bool.and_false, Bool.false_and, Bool.and_true, dlt, deq, wr, q2, Nat.zero_add, List.length_cons, List.length_nil, SA, reduceAdd, reduceIte, reduceEqDiff, Nat.reduceBEq, reduceCtorEq]) | (refine jAG ?_; intro hg; try simp only [hg]) | (refine saI ?_ ?_; intros) | (refine ari ?_; first | omega | (simp only [DD, LL] <;> omega) | (go_unwrap; omega) | (simp only [DD] at hg; omega)) | (refine stq ?_; focus (simp only [hk1, jJ6, hka, d6, gK', jAM, jAS, hget, hto, hi3, jEP, hi4, Bool.and_false, Bool.false_and, Bool.and_true, dlt, deq, wr, q2, Nat.zero_add, List.length_cons, List.length_nil, SA, reduceAdd, reduceIte, reduceEqDiff, Nat.reduceBEq, reduceCtorEq]; (try go_unwrap; try simp only [hk1, jJ6, hka, d6, gK', jAM, jAS, hget, hto, hi3, jEP, hi4, Bool.and_false, Bool.false_and, Bool.and_true, dlt, deq, wr, q2, Nat.zero_add, List.length_cons, List.length_nil, RR, reduceCtorEq]))) | refine And.intro ?_ ?_)
    refine ⟨?_⟩
    refine PW.trim 2 (fun t h => by simp [h]) ?_
    simp only [rdP, jEC, TT, jAF.kill, PV.kill, Nat.reduceLeDiff, reduceIte]
    repeat' (first | exact clo | (refine sqI ?_; intros) | refine stp ?_ | (refine cnd rfl ?_ ?_ <;> intro hcond <;> (try contradiction) <;> try simp only [DD] at hcond) | (refine jAG ?_; intro hg; try simp only [hg]) | (refine saI ?_ ?_; intros) | (refine ari ?_; first | omega | (simp only [DD, LL] <;> omega) | (go_unwrap; omega) | (simp only [DD] at hg; omega)) | (refine stq ?_; focus (simp only [SA, reduceAdd, reduceIte, reduceEqDiff, Nat.reduceBEq, reduceCtorEq]; (try go_unwrap; try simp only [RR, reduceCtorEq]))) | refine And.intro ?_ ?_)
    all_goals rfl
  ·rw [if_neg hk] at hR
   have dlt : decide (((ks.length + 1 : Nat) : Int) < (jMJ op : Int)) = true := by simp only [decide_eq_true_eq]; omega
   have deq : decide (((ks.length + 1 : Nat) : Int) = (jMJ op : Int)) = false := by simp only [decide_eq_false_iff_not]; omega
   by_cases hs1 : sgn l r [44] = true
   ·rw [hs1] at hva
    rw [if_pos hs1] at hR
    have h1 := jE3 h0 hrl hs1
    have hgo := hga.go hre
    simp only at hgo
    repeat' (first | exact clo | (exact Or.inr ⟨rfl, by decide⟩) | (refine sqI ?_; intros) | refine stp ?_ | (refine cnd rfl ?_ ?_ <;> intro hcond <;> (try contradiction) <;> try simp only [DD] at hcond) | (refine jAQ 1 E16 hsm rfl ?_; rintro p μ' ⟨rfl, rfl⟩; simp only [hk1, jJ6, hka, d6, gK', jAM, jAS, hget, hto, hi3, jEP, hi4, Bool.and_false, Bool.false_and, Bool.and_true, dlt, deq, wr, q2, Nat.zero_add, List.length_cons, List.length_nil, SA, reduceAdd, reduceIte, reduceEqDiff, Nat.reduceBEq, reduceCtorEq]) | (refine jBB 1 E69 hva ?_ ?_ ?_ ?_; (focus (simp [PV.lend, PV.view, Mem.get, hrk]; done)); (focus (simp [PV.jBU, PV.lend, PV.view, PV.seen, jHH, PV.scalar, Mem.get, Sh.size, hrk]; done)); (focus (simp [PV.flat]; done)); simp only [hk1, jJ6, hka, d6, gK', jAM, jAS, hget, hto, hi3, jEP, hi4, Bool.and_false, Bool.false_and, Bool.and_true, dlt, deq, wr, q2, Nat.zero_add, List.length_cons, List.length_nil, SA, reduceAdd, reduceIte, reduceEqDiff, Nat.reduceBEq, reduceCtorEq]) | (refine jAG ?_; intro hg; try simp only [hg]) | (refine saI ?_ ?_; intros) | (refine ari ?_; first | omega | (simp only [DD, LL] <;> omega) | (go_unwrap; omega) | (simp only [DD] at hg; omega)) | (refine stq ?_; focus (simp only [hk1, jJ6, hka, d6, gK', jAM, jAS, hget, hto, hi3, jEP, hi4, Bool.and_false, Bool.false_and, Bool.and_true, dlt, deq, wr, q2, Nat.zero_add, List.length_cons, List.length_nil, SA, reduceAdd, reduceIte, reduceEqDiff, Nat.reduceBEq, reduceCtorEq]; (try go_unwrap; try simp only [hk1, jJ6, hka, d6, gK', jAM, jAS, hget, hto, hi3, jEP, hi4, Bool.and_false, Bool.false_and, Bool.and_true, dlt, deq, wr, q2, Nat.zero_add, List.length_cons, List.length_nil, RR, reduceCtorEq]))) | refine And.intro ?_ ?_)
    all_goals exact ⟨(ks ++ [n], adv r 1), by simp, rfl, ⟨k, by omega, by simp; omega, ⟨by simpa [adv] using h1, by simp [adv]; omega, hre, h0⟩, by simp [adv]; omega, hR⟩, by simp [adv]; omega⟩
   ·have hs1' : sgn l r [44] = false := by simpa using hs1
    rw [hs1'] at hva
    rw [if_neg hs1] at hR
    have hf := (V17 l r 3).frame [some (.row none ((ks ++ [n]).map (PV.int .i64)))] rfl (by simp [PV.kill])
    rw [hR] at hf
    simp only [RdC, rdP, jEC] at hf
    repeat' (first | exact clo | (exact Or.inr ⟨rfl, by decide⟩) | (exact Or.inr (by decide)) | exact (Nat.le_of_ble_eq_true rfl : 10 <= maxLen) | (refine PW.stop (x := .ret) ?_) | (refine sqI ?_; intros) | refine stp ?_ | (refine cnd rfl ?_ ?_ <;> intro hcond <;> (try contradiction) <;> try simp only [DD] at hcond) | (refine jAQ 1 E16 hsm rfl ?_; rintro p μ' ⟨rfl, rfl⟩; simp only [hk1, jJ6, hka, d6, gK', jAM, jAS, hget, hto, hi3, jEP, hi4, Bool.and_false, Bool.false_and, Bool.and_true, dlt, deq, wr, q2, Nat.zero_add, List.length_cons, List.length_nil, SA, reduceAdd, reduceIte, reduceEqDiff, Nat.reduceBEq, reduceCtorEq]) | (refine jBB 1 E69 hva ?_ ?_ ?_ ?_; (focus (simp [PV.lend, PV.view, Mem.get, hrk]; done)); (focus (simp [PV.jBU, PV.lend, PV.view, PV.seen, jHH, PV.scalar, Mem.get, Sh.size, hrk]; done)); (focus (simp [PV.flat]; done)); simp only [hk1, jJ6, hka, d6, gK', jAM, jAS, hget, hto, hi3, jEP, hi4, Bool.and_false, Bool.false_and, Bool.and_true, dlt, deq, wr, q2, Nat.zero_add, List.length_cons, List.length_nil, SA, reduceAdd, reduceIte, reduceEqDiff, Nat.reduceBEq, reduceCtorEq]) | (refine jBB 1 E69 hvb ?_ ?_ ?_ ?_; (focus (simp [PV.lend, PV.view, Mem.get, hrk]; done)); (focus (simp [PV.jBU, PV.lend, PV.view, PV.seen, jHH, PV.scalar, Mem.get, Sh.size, hrk]; done)); (focus (simp [PV.flat]; done)); simp only [hk1, jJ6, hka, d6, gK', jAM, jAS, hget, hto, hi3, jEP, hi4, Bool.and_false, Bool.false_and, Bool.and_true, dlt, deq, wr, q2, Nat.zero_add, List.length_cons, List.length_nil, SA, reduceAdd, reduceIte, reduceEqDiff, Nat.reduceBEq, reduceCtorEq]) | (refine jAQ 1 E17 hf rfl ?_; rintro p μ' ⟨rfl, rfl⟩; simp only [hk1, jJ6, hka, d6, gK', jAM, jAS, hget, hto, hi3, jEP, hi4, Bool.and_false, Bool.false_and, Bool.and_true, dlt, deq, wr, q2, Nat.zero_add, List.length_cons, List.length_nil, SA, reduceAdd, reduceIte, reduceEqDiff, Nat.reduceBEq, reduceCtorEq]) | (refine jAG ?_; intro hg; try simp only [hg]) | (refine saI ?_ ?_; intros) | (refine ari ?_; first | omega | (simp only [DD, LL] <;> omega) | (go_unwrap; omega) | (simp only [DD] at hg; omega)) | (refine stq ?_; focus (simp only [hk1, jJ6, hka, d6, gK', jAM, jAS, hget, hto, hi3, jEP, hi4, Bool.and_false, Bool.false_and, Bool.and_true, dlt, deq, wr, q2, Nat.zero_add, List.length_cons, List.length_nil, SA, reduceAdd, reduceIte, reduceEqDiff, Nat.reduceBEq, reduceCtorEq]; (try go_unwrap; try simp only [hk1, jJ6, hka, d6, gK', jAM, jAS, hget, hto, hi3, jEP, hi4, Bool.and_false, Bool.false_and, Bool.and_true, dlt, deq, wr, q2, Nat.zero_add, List.length_cons, List.length_nil, RR, reduceCtorEq]))) | refine And.intro ?_ ?_)
    refine ⟨?_⟩
    refine PW.trim 2 (fun t h => by simp [h]) ?_
    simp only [rdP, jEC, TT, jAF.kill, PV.kill, Nat.reduceLeDiff, reduceIte]
    repeat' (first | exact clo | (refine sqI ?_; intros) | refine stp ?_ | (refine cnd rfl ?_ ?_ <;> intro hcond <;> (try contradiction) <;> try simp only [DD] at hcond) | (refine jAG ?_; intro hg; try simp only [hg]) | (refine saI ?_ ?_; intros) | (refine ari ?_; first | omega | (simp only [DD, LL] <;> omega) | (go_unwrap; omega) | (simp only [DD] at hg; omega)) | (refine stq ?_; focus (simp only [SA, reduceAdd, reduceIte, reduceEqDiff, Nat.reduceBEq, reduceCtorEq]; (try go_unwrap; try simp only [RR, reduceCtorEq]))) | refine And.intro ?_ ?_)
    all_goals rfl
end Go.Proofs.YthjkmhfiffojeaaGreatDoor
