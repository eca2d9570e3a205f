import Derived.Test.YthjkmhfiffojeaaGreatDoorQ13
namespace Go.Proofs.YthjkmhfiffojeaaGreatDoor
open Go PG Go.Proofs
open Nat (reduceAdd reduceEqDiff)
set_option linter.unusedSimpArgs false
set_option linter.unusedVariables false
set_option maxHeartbeats 4000000
set_option maxRecDepth 100000
theorem jVE (l : List Tok) (hl : l.length <= 100000) (htx : ∀ i, (jB8 l i).2.1.length <= 100000) : ∀ (k : Nat) (s : PS), Inv l s -> l.length - s.at_ <= k -> ∀ ν : Mem, ν.map (Option.map (jAF.kill (jAR 1))) = ν -> RdC l 16 [.ref 0 0] ν s (sumP nmP l true k s)
 | 0, s, hI, hm => absurd hI.lt (by omega)
 | k + 1, s, hI, hm => fun ν hν => by
  have ih := jVE l hl htx k
  have hgood := jKL (nm := nmP) (l := l) (jk := true) k
  refine (V16 l hl (jBR nmP l true (sumP nmP l true k)) (k + 1) (fun s hI hm => ?_) (jLT hgood) s hI hm).frame ν hν (by simp [PV.kill])
  exact (V48 l hl htx _ k ih hgood (fun s h1 h2 h3 => V72 l hl _ k ih hgood s h1 h2 h3) s hI hm).frame jZL (by simp [jZL, jAF.kill, PV.kill, jAR]) (by simp [PV.kill])
def jK6 (s : List UInt8) : Except (Nat × Int) (List Nd) :=
 match jS8 s with
 | .error (o, e) => .error (o, e)
 | .ok l => jVJ nmP l true
def kBI : Except (Nat × Int) (List Nd) -> PV
 | .error (a, e) => .tup [jFL [], .int .i64 a, .int .i64 e]
 | .ok nd => .tup [jFL nd, .int .i64 0, .int .i64 0]
theorem E4 : Ent Tryz.prog 4 := ⟨Tryz.f4, Tryz.func4, by kernel_rfl, by kernel_rfl⟩
theorem V4 (s : List UInt8) (hs : s.length <= 9223372036854775800) : jAB Tryz.prog G0 4 [.str s] (kBI (jK6 s)) := by
 have h19 := V15 (G := G0) s hs
 unfold jK6
 cases hA : jS8 s with
 | error p =>
  obtain ⟨o, e⟩ := p
  have he := (kFZ hA).2
  rw [hA] at h19
  simp only [kKM] at h19
  have d1 : decide ((e : Int) = 0) = false := by simp only [decide_eq_false_iff_not]; omega
  refine jAB.jAT Tryz.func4 k4 mix (by simp [c4]) ?_
  simp only [c4, L4, CC, jBW]
  repeat' (first | exact clo | (exact Or.inr ⟨rfl, by decide⟩) | (refine PW.stop (x := .ret) ?_) | (refine sqI ?_; intros) | refine stp ?_ | (refine cnd rfl ?_ ?_ <;> intro hcond <;> (try contradiction) <;> try simp only [DD] at hcond) | (refine jAG ?_; intro hg; try simp only [hg]) | refine jAA E15 (h19) ?_ ?_ ?_ ?_ | (refine saI ?_ ?_; intros) | (refine ari ?_; first | omega | (simp only [DD, LL] <;> omega) | (go_unwrap; omega) | (simp only [DD] at hg; omega)) | (refine stq ?_; focus (simp only [d1, SA, reduceAdd, reduceIte, reduceEqDiff, Nat.reduceBEq, reduceCtorEq]; (try go_unwrap; try simp only [d1, RR, reduceCtorEq]))) | refine And.intro ?_ ?_)
  refine ⟨?_⟩
  refine PW.kKT 0 1 _ [.list (some 4) []] (.jMN (some 4) .nil) rfl ?_
  simp only [List.set_cons_zero]
  repeat' (first | exact clo | (refine sqI ?_; intros) | refine stp ?_ | (refine cnd rfl ?_ ?_ <;> intro hcond <;> (try contradiction) <;> try simp only [DD] at hcond) | (refine jAG ?_; intro hg; try simp only [hg]) | (refine saI ?_ ?_; intros) | (refine ari ?_; first | omega | (simp only [DD, LL] <;> omega) | (go_unwrap; omega) | (simp only [DD] at hg; omega)) | (refine stq ?_; focus (simp only [SA, reduceAdd, reduceIte, reduceEqDiff, Nat.reduceBEq, reduceCtorEq]; (try go_unwrap; try simp only [RR, reduceCtorEq]))) | refine And.intro ?_ ?_)
  all_goals rfl
 | ok l =>
  rw [hA] at h19
  simp only [kKM] at h19
  obtain ⟨l', hl', hll, hsl, -⟩ := jTC hA
  have hI := inv_start hA
  have htx := kN9 hA
  have hlen := jOJ l
  have hsm := jVE l (by omega) htx l.length ⟨0, 0, []⟩ hI (by simp) [some (.var (some 1) (.agg [.jAH]))] (by simp [jAF.kill, PV.kill])
  have hgd := jKL (nm := nmP) (l := l) (jk := true) l.length ⟨0, 0, []⟩ hI (by simp)
  have hwf := jZ1 (nm := nmP) (l := l) (jk := true) l.length ⟨0, 0, []⟩ rfl trivial
  refine jAB.jAT Tryz.func4 k4 mix (by simp [c4]) ?_
  simp only [c4, L4, CC, jBW]
  have d1 : decide ((0 : Int) = 0) = true := rfl
  repeat' (first | exact clo | (refine PW.stop (x := .seq (.region false (⟨some 24, none, .rd .mov [.tmp 8]⟩ :: _) _) _) ?_) | (refine sqI ?_; intros) | refine stp ?_ | (refine cnd rfl ?_ ?_ <;> intro hcond <;> (try contradiction) <;> try simp only [DD] at hcond) | (refine jAG ?_; intro hg; try simp only [hg]) | refine jAA E15 (h19) ?_ ?_ ?_ ?_ | (refine saI ?_ ?_; intros) | (refine ari ?_; first | omega | (simp only [DD, LL] <;> omega) | (go_unwrap; omega) | (simp only [DD] at hg; omega)) | (refine stq ?_; focus (simp only [d1, SA, reduceAdd, reduceIte, reduceEqDiff, Nat.reduceBEq, reduceCtorEq]; (try go_unwrap; try simp only [d1, RR, reduceCtorEq]))) | refine And.intro ?_ ?_)
  refine ⟨?_⟩
  refine PW.kQ6 1 1 (some 4) 4 _ rfl rfl ?_
  simp only [List.cons_append, List.nil_append, List.set_cons_zero, List.set_cons_succ, List.length_cons, List.length_nil]
  refine PW.sw 0 1 (by simp) (by simp) rfl rfl ?_
  simp only [swE, swM, swL, List.map_cons, List.map_nil, Option.map_some, Option.map_none, jAF.ren, PV.ren, swp, List.set_cons_zero, List.set_cons_succ, List.getD_cons_zero, List.getD_cons_succ, reduceEqDiff, if_true, if_false, reduceIte]
  refine PW.sw 1 2 (by simp) (by simp) rfl rfl ?_
  simp only [swE, swM, swL, List.map_cons, List.map_nil, Option.map_some, Option.map_none, jAF.ren, PV.ren, swp, List.set_cons_zero, List.set_cons_succ, List.getD_cons_zero, List.getD_cons_succ, reduceEqDiff, if_true, if_false, reduceIte]
  unfold jVJ
  generalize hsr : sumP nmP l true l.length ⟨0, 0, []⟩ = r at hsm hgd hwf
  obtain ⟨v, r⟩ := r
  have hrl := hgd.lt
  have hro := hgd.out
  simp only at hrl hro ⊢
  have hg := jP8 l r.at_ hrl
  have hok : (r.out.map ndP).take r.out.length = r.out.map ndP := List.take_of_length_le (by simp)
  have hol := kG0 r.out
  simp only [RdC, rdP, jEC, List.map_nil, List.length_nil] at hsm
  have d6 : decide (r.e = 0) = decide (r.e = 0) := rfl
  by_cases hre : r.e = 0
  case neg =>
   have d6 : decide (r.e = 0) = false := by simp only [decide_eq_false_iff_not]; exact hre
   rw [if_pos hre]
   repeat' (first | exact clo | (refine PW.stop (x := .seq (.region false (⟨some 47, none, .rd .mov [.tmp 8]⟩ :: _) _) _) ?_) | (refine sqI ?_; intros) | refine stp ?_ | (refine cnd rfl ?_ ?_ <;> intro hcond <;> (try contradiction) <;> try simp only [DD] at hcond) | (refine jAQ 1 E16 hsm rfl ?_; rintro p μ' ⟨rfl, rfl⟩; simp only [PV.bin, PV.jAI, jBC, decide_eq_false hre, hlen, hg, Bool.false_and, Bool.and_false, Bool.true_and, Bool.and_true, Bool.not_true, Bool.not_false, SA, reduceAdd, reduceIte, reduceEqDiff, Nat.reduceBEq, reduceCtorEq]) | (refine jAG ?_; intro hg; try simp only [hg]) | (refine saI ?_ ?_; intros) | (refine ari ?_; first | omega | (simp only [DD, LL] <;> omega) | (go_unwrap; omega) | (simp only [DD] at hg; omega)) | (refine stq ?_; focus (simp only [PV.bin, PV.jAI, jBC, decide_eq_false hre, hlen, hg, Bool.false_and, Bool.and_false, Bool.true_and, Bool.and_true, Bool.not_true, Bool.not_false, SA, reduceAdd, reduceIte, reduceEqDiff, Nat.reduceBEq, reduceCtorEq]; (try go_unwrap; try simp only [PV.bin, PV.jAI, jBC, decide_eq_false hre, hlen, hg, Bool.false_and, Bool.and_false, Bool.true_and, Bool.and_true, Bool.not_true, Bool.not_false, RR, reduceCtorEq]))) | refine And.intro ?_ ?_)
   refine ⟨?_⟩
   refine PW.frz 1 (.row (some 4) (r.out.map ndP)) ?_ ?_ ?_
   ·rfl
   ·rfl
   simp only [SA, reduceAdd, reduceIte, reduceEqDiff, Nat.reduceBEq, reduceCtorEq, PV.frz, jAF.frz, jPF, jFC, hol, hok, Nat.le_refl, and_self, if_true]
   repeat' (first | exact clo | (refine PW.jP0 (E := ?_) (M := ?_) ?_ ?_; rotate_left 2) | exact jBH _ _ | (exact Or.inr ⟨rfl, by decide⟩) | (refine PW.stop (x := .ret) ?_) | (refine sqI ?_; intros) | refine stp ?_ | (refine cnd rfl ?_ ?_ <;> intro hcond <;> (try contradiction) <;> try simp only [DD] at hcond) | (refine jAG ?_; intro hg; try simp only [hg]) | (refine saI ?_ ?_; intros) | (refine ari ?_; first | omega | (simp only [DD, LL] <;> omega) | (go_unwrap; omega) | (simp only [DD] at hg; omega)) | (refine stq ?_; focus (simp only [PV.bin, PV.jAI, jBC, decide_eq_false hre, hlen, hg, hol, SA, reduceAdd, reduceIte, reduceEqDiff, Nat.reduceBEq, reduceCtorEq]; (try go_unwrap; try simp only [PV.bin, PV.jAI, jBC, decide_eq_false hre, hlen, hg, hol, RR, reduceCtorEq]))) | refine And.intro ?_ ?_)
   refine ⟨?_⟩
   refine PW.kKT 2 1 _ [.list (some 4) []] (.jMN (some 4) .nil) rfl ?_
   simp only [List.set_cons_zero, List.set_cons_succ]
   repeat' (first | exact clo | (refine sqI ?_; intros) | refine stp ?_ | (refine cnd rfl ?_ ?_ <;> intro hcond <;> (try contradiction) <;> try simp only [DD] at hcond) | (refine jAG ?_; intro hg; try simp only [hg]) | (refine saI ?_ ?_; intros) | (refine ari ?_; first | omega | (simp only [DD, LL] <;> omega) | (go_unwrap; omega) | (simp only [DD] at hg; omega)) | (refine stq ?_; focus (simp only [SA, reduceAdd, reduceIte, reduceEqDiff, Nat.reduceBEq, reduceCtorEq]; (try go_unwrap; try simp only [RR, reduceCtorEq]))) | refine And.intro ?_ ?_)
   all_goals rfl
  have d6 : decide (r.e = 0) = true := decide_eq_true hre
  rw [if_neg (by simp [hre])]
  by_cases hk : (jB8 l r.at_).1 = 0
  case neg =>
   have d7 : decide (((jB8 l r.at_).1 : Int) = 0) = false := by simp only [decide_eq_false_iff_not]; omega
   have hf := (V17 l r 3).frame [some (.var (some 1) (.agg [.jAH]))] (by simp [jAF.kill, PV.kill]) (by simp [PV.kill])
   have hF : jEI r 3 = (0, ⟨r.at_, 3, r.out⟩) := by simp [jEI, hre]
   rw [hF] at hf
   simp only [RdC, rdP, jEC] at hf
   rw [if_pos hk]
   repeat' (first | exact clo | (refine PW.stop (x := .seq (.region false (⟨some 47, none, .rd .mov [.tmp 8]⟩ :: _) _) _) ?_) | (refine sqI ?_; intros) | refine stp ?_ | (refine cnd rfl ?_ ?_ <;> intro hcond <;> (try contradiction) <;> try simp only [DD] at hcond) | (refine jAQ 1 E16 hsm rfl ?_; rintro p μ' ⟨rfl, rfl⟩; simp only [PV.bin, PV.jAI, jBC, decide_eq_true hre, d7, hlen, hg, Bool.false_and, Bool.and_false, Bool.true_and, Bool.and_true, Bool.not_true, Bool.not_false, SA, reduceAdd, reduceIte, reduceEqDiff, Nat.reduceBEq, reduceCtorEq]) | (refine jAQ 1 E17 hf rfl ?_; rintro p μ' ⟨rfl, rfl⟩; simp only [PV.bin, PV.jAI, jBC, decide_eq_true hre, d7, hlen, hg, Bool.false_and, Bool.and_false, Bool.true_and, Bool.and_true, Bool.not_true, Bool.not_false, SA, reduceAdd, reduceIte, reduceEqDiff, Nat.reduceBEq, reduceCtorEq]) | (refine jAG ?_; intro hg; try simp only [hg]) | (refine saI ?_ ?_; intros) | (refine ari ?_; first | omega | (simp only [DD, LL] <;> omega) | (go_unwrap; omega) | (simp only [DD] at hg; omega)) | (refine stq ?_; focus (simp only [PV.bin, PV.jAI, jBC, decide_eq_true hre, d7, hlen, hg, Bool.false_and, Bool.and_false, Bool.true_and, Bool.and_true, Bool.not_true, Bool.not_false, SA, reduceAdd, reduceIte, reduceEqDiff, Nat.reduceBEq, reduceCtorEq]; (try go_unwrap; try simp only [PV.bin, PV.jAI, jBC, decide_eq_true hre, d7, hlen, hg, Bool.false_and, Bool.and_false, Bool.true_and, Bool.and_true, Bool.not_true, Bool.not_false, RR, reduceCtorEq]))) | refine And.intro ?_ ?_)
   refine ⟨?_⟩
   refine PW.frz 1 (.row (some 4) (r.out.map ndP)) ?_ ?_ ?_
   ·rfl
   ·rfl
   simp only [SA, reduceAdd, reduceIte, reduceEqDiff, Nat.reduceBEq, reduceCtorEq, PV.frz, jAF.frz, jPF, jFC, hol, hok, Nat.le_refl, and_self, if_true]
   repeat' (first | exact clo | (refine PW.jP0 (E := ?_) (M := ?_) ?_ ?_; rotate_left 2) | exact jBH _ _ | (exact Or.inr ⟨rfl, by decide⟩) | (refine PW.stop (x := .ret) ?_) | (refine sqI ?_; intros) | refine stp ?_ | (refine cnd rfl ?_ ?_ <;> intro hcond <;> (try contradiction) <;> try simp only [DD] at hcond) | (refine jAG ?_; intro hg; try simp only [hg]) | (refine saI ?_ ?_; intros) | (refine ari ?_; first | omega | (simp only [DD, LL] <;> omega) | (go_unwrap; omega) | (simp only [DD] at hg; omega)) | (refine stq ?_; focus (simp only [PV.bin, PV.jAI, jBC, hlen, hg, hol, SA, reduceAdd, reduceIte, reduceEqDiff, Nat.reduceBEq, reduceCtorEq]; (try go_unwrap; try simp only [PV.bin, PV.jAI, jBC, hlen, hg, hol, RR, reduceCtorEq]))) | refine And.intro ?_ ?_)
   refine ⟨?_⟩
   refine PW.kKT 2 1 _ [.list (some 4) []] (.jMN (some 4) .nil) rfl ?_
   simp only [List.set_cons_zero, List.set_cons_succ]
   repeat' (first | exact clo | (refine sqI ?_; intros) | refine stp ?_ | (refine cnd rfl ?_ ?_ <;> intro hcond <;> (try contradiction) <;> try simp only [DD] at hcond) | (refine jAG ?_; intro hg; try simp only [hg]) | (refine saI ?_ ?_; intros) | (refine ari ?_; first | omega | (simp only [DD, LL] <;> omega) | (go_unwrap; omega) | (simp only [DD] at hg; omega)) | (refine stq ?_; focus (simp only [SA, reduceAdd, reduceIte, reduceEqDiff, Nat.reduceBEq, reduceCtorEq]; (try go_unwrap; try simp only [RR, reduceCtorEq]))) | refine And.intro ?_ ?_)
   all_goals rfl
  have d7 : decide (((jB8 l r.at_).1 : Int) = 0) = true := by simp only [decide_eq_true_eq]; omega
  rw [if_neg (by simp [hk])]
  obtain ⟨hw1, hw2, hw3, -⟩ := hwf hre
  simp only at hw1 hw2 hw3
  have hK := kGL (nm := nmP) (l := l) (jk := true) l.length ⟨0, 0, []⟩ (by intro x hx; simp at hx)
  rw [hsr] at hK
  simp only at hK
  by_cases h256 : 256 < r.out.length
  ·have d8 : decide ((256 : Int) < r.out.length) = true := by simp only [decide_eq_true_eq]; omega
   rw [if_pos h256]
   repeat' (first | exact clo | (refine PW.stop (x := .seq (.region false (⟨some 47, none, .rd .mov [.tmp 8]⟩ :: _) _) _) ?_) | (refine sqI ?_; intros) | refine stp ?_ | (refine cnd rfl ?_ ?_ <;> intro hcond <;> (try contradiction) <;> try simp only [DD] at hcond) | (refine jAQ 1 E16 hsm rfl ?_; rintro p μ' ⟨rfl, rfl⟩; simp only [PV.bin, PV.jAI, jBC, decide_eq_true hre, d7, hlen, hg, Bool.false_and, Bool.and_false, Bool.true_and, Bool.and_true, Bool.not_true, Bool.not_false, SA, reduceAdd, reduceIte, reduceEqDiff, Nat.reduceBEq, reduceCtorEq]) | (refine jAG ?_; intro hg; try simp only [hg]) | (refine saI ?_ ?_; intros) | (refine ari ?_; first | omega | (simp only [DD, LL] <;> omega) | (go_unwrap; omega) | (simp only [DD] at hg; omega)) | (refine stq ?_; focus (simp only [PV.bin, PV.jAI, jBC, decide_eq_true hre, d7, hlen, hg, Bool.false_and, Bool.and_false, Bool.true_and, Bool.and_true, Bool.not_true, Bool.not_false, SA, reduceAdd, reduceIte, reduceEqDiff, Nat.reduceBEq, reduceCtorEq]; (try go_unwrap; try simp only [PV.bin, PV.jAI, jBC, decide_eq_true hre, d7, hlen, hg, Bool.false_and, Bool.and_false, Bool.true_and, Bool.and_true, Bool.not_true, Bool.not_false, RR, reduceCtorEq]))) | refine And.intro ?_ ?_)
   refine ⟨?_⟩
   refine PW.frz 1 (.row (some 4) (r.out.map ndP)) ?_ ?_ ?_
   ·rfl
   ·rfl
   simp only [SA, reduceAdd, reduceIte, reduceEqDiff, Nat.reduceBEq, reduceCtorEq, PV.frz, jAF.frz, jPF, jFC, hol, hok, Nat.le_refl, and_self, if_true]
   repeat' (first | exact clo | (refine PW.jP0 (E := ?_) (M := ?_) ?_ ?_; rotate_left 2) | exact jBH _ _ | (exact Or.inr ⟨rfl, by decide⟩) | (refine PW.stop (x := .ret) ?_) | (refine sqI ?_; intros) | refine stp ?_ | (refine cnd rfl ?_ ?_ <;> intro hcond <;> (try contradiction) <;> try simp only [DD] at hcond) | (refine jAG ?_; intro hg; try simp only [hg]) | (refine saI ?_ ?_; intros) | (refine ari ?_; first | omega | (simp only [DD, LL] <;> omega) | (go_unwrap; omega) | (simp only [DD] at hg; omega)) | (refine stq ?_; focus (simp only [PV.bin, PV.jAI, jBC, decide_eq_true hre, d8, hlen, hg, hol, SA, reduceAdd, reduceIte, reduceEqDiff, Nat.reduceBEq, reduceCtorEq]; (try go_unwrap; try simp only [PV.bin, PV.jAI, jBC, decide_eq_true hre, d8, hlen, hg, hol, RR, reduceCtorEq]))) | refine And.intro ?_ ?_)
   refine ⟨?_⟩
   refine PW.kKT 2 1 _ [.list (some 4) []] (.jMN (some 4) .nil) rfl ?_
   simp only [List.set_cons_zero, List.set_cons_succ]
   repeat' (first | exact clo | (refine sqI ?_; intros) | refine stp ?_ | (refine cnd rfl ?_ ?_ <;> intro hcond <;> (try contradiction) <;> try simp only [DD] at hcond) | (refine jAG ?_; intro hg; try simp only [hg]) | (refine saI ?_ ?_; intros) | (refine ari ?_; first | omega | (simp only [DD, LL] <;> omega) | (go_unwrap; omega) | (simp only [DD] at hg; omega)) | (refine stq ?_; focus (simp only [SA, reduceAdd, reduceIte, reduceEqDiff, Nat.reduceBEq, reduceCtorEq]; (try go_unwrap; try simp only [RR, reduceCtorEq]))) | refine And.intro ?_ ?_)
   all_goals rfl
  have d8 : decide ((256 : Int) < r.out.length) = false := by simp only [decide_eq_false_iff_not]; omega
  rw [if_neg h256]
  have h42 := V18 (G := G0) r.out (by omega) (by intro h; rw [h] at hw3; simp at hw3; omega) hw1 (fun n hn => by have := hK n hn; omega)
  simp only [jFL] at h42
  by_cases h16 : 16 < jER r.out
  ·have d9 : decide ((16 : Int) < jER r.out) = true := by simp only [decide_eq_true_eq]; exact h16
   rw [if_pos h16]
   repeat' (first | exact clo | (refine PW.stop (x := .seq (.region false (⟨some 47, none, .rd .mov [.tmp 8]⟩ :: _) _) _) ?_) | (refine sqI ?_; intros) | refine stp ?_ | (refine cnd rfl ?_ ?_ <;> intro hcond <;> (try contradiction) <;> try simp only [DD] at hcond) | (refine jAQ 1 E16 hsm rfl ?_; rintro p μ' ⟨rfl, rfl⟩; simp only [PV.bin, PV.jAI, jBC, decide_eq_true hre, d7, hlen, hg, Bool.false_and, Bool.and_false, Bool.true_and, Bool.and_true, Bool.not_true, Bool.not_false, SA, reduceAdd, reduceIte, reduceEqDiff, Nat.reduceBEq, reduceCtorEq]) | (refine jAG ?_; intro hg; try simp only [hg]) | (refine saI ?_ ?_; intros) | (refine ari ?_; first | omega | (simp only [DD, LL] <;> omega) | (go_unwrap; omega) | (simp only [DD] at hg; omega)) | (refine stq ?_; focus (simp only [PV.bin, PV.jAI, jBC, decide_eq_true hre, d7, hlen, hg, Bool.false_and, Bool.and_false, Bool.true_and, Bool.and_true, Bool.not_true, Bool.not_false, SA, reduceAdd, reduceIte, reduceEqDiff, Nat.reduceBEq, reduceCtorEq]; (try go_unwrap; try simp only [PV.bin, PV.jAI, jBC, decide_eq_true hre, d7, hlen, hg, Bool.false_and, Bool.and_false, Bool.true_and, Bool.and_true, Bool.not_true, Bool.not_false, RR, reduceCtorEq]))) | refine And.intro ?_ ?_)
   refine ⟨?_⟩
   refine PW.frz 1 (.row (some 4) (r.out.map ndP)) ?_ ?_ ?_
   ·rfl
   ·rfl
   simp only [SA, reduceAdd, reduceIte, reduceEqDiff, Nat.reduceBEq, reduceCtorEq, PV.frz, jAF.frz, jPF, jFC, hol, hok, Nat.le_refl, and_self, if_true]
   repeat' (first | exact clo | (refine PW.jP0 (E := ?_) (M := ?_) ?_ ?_; rotate_left 2) | exact jBH _ _ | (exact Or.inr ⟨rfl, by decide⟩) | (refine PW.stop (x := .ret) ?_) | (refine sqI ?_; intros) | refine stp ?_ | (refine cnd rfl ?_ ?_ <;> intro hcond <;> (try contradiction) <;> try simp only [DD] at hcond) | (refine jAG ?_; intro hg; try simp only [hg]) | refine jAA E18 (h42) ?_ ?_ ?_ ?_ | (refine saI ?_ ?_; intros) | (refine ari ?_; first | omega | (simp only [DD, LL] <;> omega) | (go_unwrap; omega) | (simp only [DD] at hg; omega)) | (refine stq ?_; focus (simp only [PV.bin, PV.jAI, jBC, decide_eq_true hre, d8, d9, hlen, hg, hol, SA, reduceAdd, reduceIte, reduceEqDiff, Nat.reduceBEq, reduceCtorEq]; (try go_unwrap; try simp only [PV.bin, PV.jAI, jBC, decide_eq_true hre, d8, d9, hlen, hg, hol, RR, reduceCtorEq]))) | refine And.intro ?_ ?_)
   refine ⟨?_⟩
   refine PW.kKT 2 1 _ [.list (some 4) []] (.jMN (some 4) .nil) rfl ?_
   simp only [List.set_cons_zero, List.set_cons_succ]
   repeat' (first | exact clo | (refine sqI ?_; intros) | refine stp ?_ | (refine cnd rfl ?_ ?_ <;> intro hcond <;> (try contradiction) <;> try simp only [DD] at hcond) | (refine jAG ?_; intro hg; try simp only [hg]) | (refine saI ?_ ?_; intros) | (refine ari ?_; first | omega | (simp only [DD, LL] <;> omega) | (go_unwrap; omega) | (simp only [DD] at hg; omega)) | (refine stq ?_; focus (simp only [SA, reduceAdd, reduceIte, reduceEqDiff, Nat.reduceBEq, reduceCtorEq]; (try go_unwrap; try simp only [RR, reduceCtorEq]))) | refine And.intro ?_ ?_)
   all_goals rfl
  have d9 : decide ((16 : Int) < jER r.out) = false := by simp only [decide_eq_false_iff_not]; exact h16
  rw [if_neg h16]
  repeat' (first | exact clo | (refine PW.stop (x := .seq (.region false (⟨some 47, none, .rd .mov [.tmp 8]⟩ :: _) _) _) ?_) | (refine sqI ?_; intros) | refine stp ?_ | (refine cnd rfl ?_ ?_ <;> intro hcond <;> (try contradiction) <;> try simp only [DD] at hcond) | (refine jAQ 1 E16 hsm rfl ?_; rintro p μ' ⟨rfl, rfl⟩; simp only [PV.bin, PV.jAI, jBC, decide_eq_true hre, d7, hlen, hg, Bool.false_and, Bool.and_false, Bool.true_and, Bool.and_true, Bool.not_true, Bool.not_false, SA, reduceAdd, reduceIte, reduceEqDiff, Nat.reduceBEq, reduceCtorEq]) | (refine jAG ?_; intro hg; try simp only [hg]) | (refine saI ?_ ?_; intros) | (refine ari ?_; first | omega | (simp only [DD, LL] <;> omega) | (go_unwrap; omega) | (simp only [DD] at hg; omega)) | (refine stq ?_; focus (simp only [PV.bin, PV.jAI, jBC, decide_eq_true hre, d7, hlen, hg, Bool.false_and, Bool.and_false, Bool.true_and, Bool.and_true, Bool.not_true, Bool.not_false, SA, reduceAdd, reduceIte, reduceEqDiff, Nat.reduceBEq, reduceCtorEq]; (try go_unwrap; try simp only [PV.bin, PV.jAI, jBC, decide_eq_true hre, d7, hlen, hg, Bool.false_and, Bool.and_false, Bool.true_and, Bool.and_true, Bool.not_true, Bool.not_false, RR, reduceCtorEq]))) | refine And.intro ?_ ?_)
  refine ⟨?_⟩
  refine PW.frz 1 (.row (some 4) (r.out.map ndP)) ?_ ?_ ?_
  ·rfl
  ·rfl
  simp only [SA, reduceAdd, reduceIte, reduceEqDiff, Nat.reduceBEq, reduceCtorEq, PV.frz, jAF.frz, jPF, jFC, hol, hok, Nat.le_refl, and_self, if_true]
  repeat' (first | exact clo | (refine PW.jP0 (E := ?_) (M := ?_) ?_ ?_; rotate_left 2) | exact jBH _ _ | (exact Or.inr ⟨rfl, by decide⟩) | (refine PW.stop (x := .ret) ?_) | (refine sqI ?_; intros) | refine stp ?_ | (refine cnd rfl ?_ ?_ <;> intro hcond <;> (try contradiction) <;> try simp only [DD] at hcond) | (refine jAG ?_; intro hg; try simp only [hg]) | refine jAA E18 (h42) ?_ ?_ ?_ ?_ | (refine saI ?_ ?_; intros) | (refine ari ?_; first | omega | (simp only [DD, LL] <;> omega) | (go_unwrap; omega) | (simp only [DD] at hg; omega)) | (refine stq ?_; focus (simp only [PV.bin, PV.jAI, jBC, decide_eq_true hre, d8, d9, hlen, hg, hol, SA, reduceAdd, reduceIte, reduceEqDiff, Nat.reduceBEq, reduceCtorEq]; (try go_unwrap; try simp only [PV.bin, PV.jAI, jBC, decide_eq_true hre, d8, d9, hlen, hg, hol, RR, reduceCtorEq]))) | refine And.intro ?_ ?_)
  refine ⟨?_⟩
  repeat' (first | exact clo | (refine sqI ?_; intros) | refine stp ?_ | (refine cnd rfl ?_ ?_ <;> intro hcond <;> (try contradiction) <;> try simp only [DD] at hcond) | (refine jAG ?_; intro hg; try simp only [hg]) | (refine saI ?_ ?_; intros) | (refine ari ?_; first | omega | (simp only [DD, LL] <;> omega) | (go_unwrap; omega) | (simp only [DD] at hg; omega)) | (refine stq ?_; focus (simp only [SA, reduceAdd, reduceIte, reduceEqDiff, Nat.reduceBEq, reduceCtorEq]; (try go_unwrap; try simp only [RR, reduceCtorEq]))) | refine And.intro ?_ ?_)
  all_goals rfl
theorem Ex.jCU : ∀ e : Ex, 1 <= e.deep
 | .num _ => by simp [Ex.deep]
 | .var _ => by simp [Ex.deep]
 | .two _ a b => by have := a.jCU; have := b.jCU; simp only [Ex.deep]; omega
 | .thr a b d => by have := a.jCU; have := b.jCU; have := d.jCU; simp only [Ex.deep]; omega
def Ex.deps : Ex -> List Int
 | .num _ => [1]
 | .var _ => [1]
 | .two o a b => a.deps ++ (b.deps ++ [(Ex.two o a b).deep])
 | .thr a b d => a.deps ++ (b.deps ++ (d.deps ++ [(Ex.thr a b d).deep]))
theorem Ex.jBS : ∀ e : Ex, e.deps.length = e.size
 | .num _ => rfl
 | .var _ => rfl
 | .two _ a b => by simp only [Ex.deps, Ex.size, List.length_append, List.length_cons, List.length_nil, a.jBS, b.jBS]; omega
 | .thr a b d => by simp only [Ex.deps, Ex.size, List.length_append, List.length_cons, List.length_nil, a.jBS, b.jBS, d.jBS]; omega
theorem Ex.jSW : ∀ e : Ex, ∃ p, e.deps = p ++ [e.deep] ∧ p.length + 1 = e.size
 | .num _ => ⟨[], rfl, rfl⟩
 | .var _ => ⟨[], rfl, rfl⟩
 | .two o a b => ⟨a.deps ++ b.deps, by simp [Ex.deps], by simp [Ex.size, a.jBS, b.jBS]⟩
 | .thr a b d => ⟨a.deps ++ (b.deps ++ d.deps), by simp [Ex.deps], by simp [Ex.size, a.jBS, b.jBS, d.jBS]; omega⟩
theorem jGA {acc r : List Int} {e : Ex} {c : Nat} (h : acc.length = c) : (acc ++ (e.deps ++ r)).getD (e.root c).toNat 0 = e.deep := by
 obtain ⟨p, h1, h2⟩ := e.jSW
 have : (e.root c).toNat = acc.length + p.length := by unfold Ex.root; omega
 rw [this, h1]
 simp [List.getD, List.getElem?_append_right]
theorem jGX : ∀ (e : Ex) (c : Nat) (r : List Nd) (acc : List Int), acc.length = c -> jA6 (e.nds c ++ r) acc = jA6 r (acc ++ e.deps)
 | .num _, c, r, acc, h => by simp [Ex.nds, jA6, jCK, Ex.deps]
 | .var _, c, r, acc, h => by simp [Ex.nds, jA6, jCK, Ex.deps]
 | .two o a b, c, r, acc, h => by
  simp only [Ex.nds, List.append_assoc]
  rw [jGX a c _ acc h, jGX b _ _ _ (by simp [a.jBS, h])]
  simp only [List.cons_append, List.nil_append, jA6, jCK]
  have e1 := jGA (r := b.deps) (e := a) h
  have e2 := jGA (acc := acc ++ a.deps) (r := []) (e := b) (c := c + a.size) (by simp [a.jBS, h])
  rw [List.append_nil] at e2
  have := a.jCU
  have e3 : max (max 0 a.deep) b.deep = max a.deep b.deep := by omega
  simp only [List.append_assoc] at e1 e2 ⊢
  rw [e1, e2, e3]
  simp only [Ex.deps, Ex.deep, List.append_assoc]
 | .thr a b d, c, r, acc, h => by
  simp only [Ex.nds, List.append_assoc]
  rw [jGX a c _ acc h, jGX b _ _ _ (by simp [a.jBS, h]), jGX d _ _ _ (by simp [a.jBS, b.jBS, h]; omega)]
  simp only [List.cons_append, List.nil_append, jA6, jCK]
  have e1 := jGA (r := b.deps ++ d.deps) (e := a) h
  have e2 := jGA (acc := acc ++ a.deps) (r := d.deps) (e := b) (c := c + a.size) (by simp [a.jBS, h])
  have e3 := jGA (acc := acc ++ (a.deps ++ b.deps)) (r := []) (e := d) (c := c + a.size + b.size) (by simp [a.jBS, b.jBS, h]; omega)
  rw [List.append_nil] at e3
  have := a.jCU
  have e4 : max (max (max 0 a.deep) b.deep) d.deep = max (max a.deep b.deep) d.deep := by omega
  simp only [List.append_assoc] at e1 e2 e3 ⊢
  rw [e1, e2, e3, e4]
  simp only [Ex.deps, Ex.deep, List.append_assoc]
theorem jL7 (e : Ex) : jER (e.nds 0) = e.deep := by
 obtain ⟨p, h1, h2⟩ := e.jSW
 have := jGX e 0 [] [] rfl
 rw [List.append_nil] at this
 unfold jER
 rw [this, Ex.jB7, jA6, List.nil_append, h1]
 have : e.size - 1 = p.length := by omega
 rw [this]
 simp [List.getD]
def kNI (e : Ex) : Except (Nat × Int) (List Nd) := if 256 < e.size then .error (0, 5) else if 16 < e.deep then .error (0, 14) else .ok (e.nds 0)
theorem kBS : ∀ (l : List Tok) (p : List Tok) (r : List Tok), Mt (p ++ (l ++ r)) p.length (kt l)
 | [], p, r => trivial
 | t :: l, p, r => by
  have h := kBS l (p ++ [t]) r
  simp only [List.append_assoc, List.cons_append, List.nil_append, List.length_append, List.length_cons, List.length_nil] at h
  refine ⟨by simp [jB8, List.getD], by simp [jB8, List.getD], ?_⟩
  simpa [kt] using h
theorem jZT (l' : List Tok) (n : Nat) : jB8 (l' ++ [(0, [], n)]) l'.length = (0, [], n) := by simp [jB8, List.getD]
theorem jMM {nm : List UInt8 -> Int} {jk : Bool} {l' : List Tok} {n : Nat} {e : Ex} (h : D nm 2 (kt l') e) : jVJ nm (l' ++ [(0, [], n)]) jk = kNI e := by
 have hl : (kt l').length = l'.length := by simp [kt]
 have hN : ∀ x, Nx (l' ++ [(0, [], n)]) (0 + (kt l').length) x := fun x => by
  rw [hl, Nat.zero_add]
  intro h
  rw [jZT] at h
  exact absurd (show (0 : Nat) = 3 from h.1) (by decide)
 have hm := kBS l' [] [(0, [], n)]
 have hs := jUQ (jk := jk) (complete (l := l' ++ [(0, [], n)]) h) (k := (l' ++ [(0, [], n)]).length) (by simp [kt]) ⟨0, 0, []⟩ (by simpa using hm) rfl (by simp [kt]) (fun x _ => hN x)
 unfold jVJ
 simp only
 rw [hs]
 simp only [af, List.nil_append, List.length_nil, Nat.zero_add, hl, jZT, ne_eq, not_true, if_false, Ex.jB7, jL7]
 rfl
theorem jRC {s : List UInt8} {w : List KT} {e : Ex} (hs : s.length <= 4096) (hw : lx s = some w) (h : D nmP 2 w e) : jK6 s = kNI e := by
 obtain ⟨l, h1, h2⟩ := kM8 hs hw
 unfold jK6
 rw [h2]
 simp only
 subst h1
 exact jMM h
section
variable {G : jA3}
theorem E22 : Ent Tryz.prog 22 := ⟨Tryz.f22, Tryz.func22, by kernel_rfl, by kernel_rfl⟩
theorem E23 : Ent Tryz.prog 23 := ⟨Tryz.f23, Tryz.func23, by kernel_rfl, by kernel_rfl⟩
theorem E51 : Ent Tryz.prog 51 := ⟨Tryz.f51, Tryz.func51, by kernel_rfl, by kernel_rfl⟩
def jDY (n : Nat) : List UInt8 := if n <= 9 then [UInt8.ofNat (48 + n)] else jDY (n / 10) ++ [UInt8.ofNat (48 + n % 10)]
termination_by n
decreasing_by omega
theorem jPV {d : Nat} (h : d <= 9) : (Utf8.encode (48 + (d : Int))).data.toList = [UInt8.ofNat (48 + d)] := by
 have : d = 0 ∨ d = 1 ∨ d = 2 ∨ d = 3 ∨ d = 4 ∨ d = 5 ∨ d = 6 ∨ d = 7 ∨ d = 8 ∨ d = 9 := by omega
 rcases this with rfl | rfl | rfl | rfl | rfl | rfl | rfl | rfl | rfl | rfl <;> decide
def jAJ (op : Int) : Int := if op = 2 ∨ op = 3 then 1 else if op = 4 then 2 else 3
theorem V22 (op : Int) : jAB Tryz.prog G 22 [.int .i64 op] (.int .i64 (jAJ op)) := by
 refine jAB.jAT Tryz.func22 k22 mix (by simp [c22]) ?_
 simp only [c22, L22, CC, jBW]
 unfold jAJ
 by_cases h2 : op = 2
 ·subst h2; repeat' (first | exact clo | (refine sqI ?_; intros) | refine stp ?_ | (refine cnd rfl ?_ ?_ <;> intro hcond <;> (try contradiction) <;> try simp only [DD] at hcond) | (refine jAG ?_; intro hg; try simp only [hg]) | (refine saI ?_ ?_; intros) | (refine ari ?_; first | omega | (simp only [DD, LL] <;> omega) | (go_unwrap; omega) | (simp only [DD] at hg; omega)) | (refine stq ?_; focus (simp only [SA, reduceAdd, reduceIte, reduceEqDiff, Nat.reduceBEq, reduceCtorEq]; (try go_unwrap; try simp only [RR, reduceCtorEq]))) | refine And.intro ?_ ?_)
  all_goals simp
 by_cases h3 : op = 3
 ·subst h3; repeat' (first | exact clo | (refine sqI ?_; intros) | refine stp ?_ | (refine cnd rfl ?_ ?_ <;> intro hcond <;> (try contradiction) <;> try simp only [DD] at hcond) | (refine jAG ?_; intro hg; try simp only [hg]) | (refine saI ?_ ?_; intros) | (refine ari ?_; first | omega | (simp only [DD, LL] <;> omega) | (go_unwrap; omega) | (simp only [DD] at hg; omega)) | (refine stq ?_; focus (simp only [SA, reduceAdd, reduceIte, reduceEqDiff, Nat.reduceBEq, reduceCtorEq]; (try go_unwrap; try simp only [RR, reduceCtorEq]))) | refine And.intro ?_ ?_)
  all_goals simp
 by_cases h4 : op = 4
 ·subst h4; repeat' (first | exact clo | (refine sqI ?_; intros) | refine stp ?_ | (refine cnd rfl ?_ ?_ <;> intro hcond <;> (try contradiction) <;> try simp only [DD] at hcond) | (refine jAG ?_; intro hg; try simp only [hg]) | (refine saI ?_ ?_; intros) | (refine ari ?_; first | omega | (simp only [DD, LL] <;> omega) | (go_unwrap; omega) | (simp only [DD] at hg; omega)) | (refine stq ?_; focus (simp only [SA, reduceAdd, reduceIte, reduceEqDiff, Nat.reduceBEq, reduceCtorEq]; (try go_unwrap; try simp only [RR, reduceCtorEq]))) | refine And.intro ?_ ?_)
  all_goals simp
 repeat' (first | exact clo | (refine sqI ?_; intros) | refine stp ?_ | (refine cnd rfl ?_ ?_ <;> intro hcond <;> (try contradiction) <;> try simp only [DD] at hcond) | (refine jAG ?_; intro hg; try simp only [hg]) | (refine saI ?_ ?_; intros) | (refine ari ?_; first | omega | (simp only [DD, LL] <;> omega) | (go_unwrap; omega) | (simp only [DD] at hg; omega)) | (refine stq ?_; focus (simp only [decide_eq_false h2, decide_eq_false h3, decide_eq_false h4, SA, reduceAdd, reduceIte, reduceEqDiff, Nat.reduceBEq, reduceCtorEq]; (try go_unwrap; try simp only [decide_eq_false h2, decide_eq_false h3, decide_eq_false h4, RR, reduceCtorEq]))) | refine And.intro ?_ ?_)
 all_goals simp [h2, h3, h4]
theorem V51 (n : Nat) (hn : n <= 2000000000000000000) : jAB Tryz.prog G 51 [.int .i64 n] (.str (jDY n)) := by
 refine jAB.jAT Tryz.func51 k51 mix (by simp [c51]) ?_
 simp only [c51, L51, CC, jBW]
 repeat' (first | exact clo | (refine sqI ?_; intros) | refine stp ?_ | (refine cnd rfl ?_ ?_ <;> intro hcond <;> (try contradiction) <;> try simp only [DD] at hcond) | (refine jAG ?_; intro hg; try simp only [hg]) | (refine saI ?_ ?_; intros) | (refine ari ?_; first | omega | (simp only [DD, LL] <;> omega) | (go_unwrap; omega) | (simp only [DD] at hg; omega)) | (refine stq ?_; focus (simp only [SA, reduceAdd, reduceIte, reduceEqDiff, Nat.reduceBEq, reduceCtorEq]; (try go_unwrap; try simp only [RR, reduceCtorEq]))) | refine And.intro ?_ ?_)
 refine PW.loop (σ := Nat × List UInt8) [0, 3] (fun q => [.int .i64 q.1, .str q.2]) (fun _ => []) (fun q => q.1 + q.2.length <= n ∧ jDY n = jDY q.1 ++ q.2) (fun q => q.1) (n, []) ?_ rfl ⟨by simp, by simp⟩ ?_
 ·simp only [SA, reduceAdd, reduceIte, reduceEqDiff, Nat.reduceBEq, reduceCtorEq]; rfl
 rintro ⟨m, s⟩ ⟨hm, hd⟩
 simp only at hm hd
 simp only [List.zip_cons_cons, List.zip_nil_left]
 rcases Nat.lt_or_ge 9 m with h | h
 ·have d1 : decide ((9 : Int) < m) = true := by simp only [decide_eq_true_eq]; omega
  have q1 : (m : Int).tmod 10 = ((m % 10 : Nat) : Int) := by rw [Int.tmod_eq_emod_of_nonneg (by omega)]; simp
  have q2 : (m : Int).tdiv 10 = ((m / 10 : Nat) : Int) := by rw [Int.tdiv_eq_ediv_of_nonneg (by omega)]; simp
  have hln : ([UInt8.ofNat (48 + m % 10)].length + s.length <= 9223372036854775807) := by simp; omega
  have w1 : IntKind.i32.wrap (48 + ((m % 10 : Nat) : Int)) = 48 + ((m % 10 : Nat) : Int) := IntWalk.i32_in _ (by omega)
  have w2 : IntKind.i64.wrap (48 + ((m % 10 : Nat) : Int)) = 48 + ((m % 10 : Nat) : Int) := IntWalk.i64_in _ (by omega)
  have w3 : IntKind.i64.wrap ((m % 10 : Nat) : Int) = ((m % 10 : Nat) : Int) := IntWalk.i64_in _ (by omega)
  have w4 : IntKind.i64.wrap ((m / 10 : Nat) : Int) = ((m / 10 : Nat) : Int) := IntWalk.i64_in _ (by omega)
  have hu : jDY m = jDY (m / 10) ++ [UInt8.ofNat (48 + m % 10)] := by rw [jDY]; rw [if_neg (by omega)]
  rw [hu, List.append_assoc] at hd
  repeat' (first | exact clo | exact hln | (refine sqI ?_; intros) | refine stp ?_ | (refine cnd rfl ?_ ?_ <;> intro hcond <;> (try contradiction) <;> try simp only [DD] at hcond) | (refine jAG ?_; intro hg; try simp only [hg]) | (refine saI ?_ ?_; intros) | (refine ari ?_; first | omega | (simp only [DD, LL] <;> omega) | (go_unwrap; omega) | (simp only [DD] at hg; omega)) | (refine stq ?_; focus (simp only [PV.bin, PV.jAI, jBC, d1, q1, q2, w1, w2, w3, w4, jPV (show m % 10 <= 9 by omega), SA, reduceAdd, reduceIte, reduceEqDiff, Nat.reduceBEq, reduceCtorEq]; (try go_unwrap; try simp only [PV.bin, PV.jAI, jBC, d1, q1, q2, w1, w2, w3, w4, jPV (show m % 10 <= 9 by omega), RR, reduceCtorEq]))) | refine And.intro ?_ ?_)
  all_goals exact ⟨(m / 10, [UInt8.ofNat (48 + m % 10)] ++ s), rfl, ⟨by simp; omega, hd⟩, by simp only; omega⟩
 ·have d1 : decide ((9 : Int) < m) = false := by simp only [decide_eq_false_iff_not]; omega
  have hln : ([UInt8.ofNat (48 + m)].length + s.length <= 9223372036854775807) := by simp; omega
  have w1 : IntKind.i32.wrap (48 + (m : Int)) = 48 + (m : Int) := IntWalk.i32_in _ (by omega)
  have w2 : IntKind.i64.wrap (48 + (m : Int)) = 48 + (m : Int) := IntWalk.i64_in _ (by omega)
  have hu : jDY m = [UInt8.ofNat (48 + m)] := by rw [jDY]; rw [if_pos h]
  rw [hu] at hd
  repeat' (first | exact clo | exact hln | (refine sqI ?_; intros) | refine stp ?_ | (refine cnd rfl ?_ ?_ <;> intro hcond <;> (try contradiction) <;> try simp only [DD] at hcond) | (refine jAG ?_; intro hg; try simp only [hg]) | (refine saI ?_ ?_; intros) | (refine ari ?_; first | omega | (simp only [DD, LL] <;> omega) | (go_unwrap; omega) | (simp only [DD] at hg; omega)) | (refine stq ?_; focus (simp only [PV.bin, PV.jAI, jBC, d1, w1, w2, jPV h, SA, reduceAdd, reduceIte, reduceEqDiff, Nat.reduceBEq, reduceCtorEq]; (try go_unwrap; try simp only [PV.bin, PV.jAI, jBC, d1, w1, w2, jPV h, RR, reduceCtorEq]))) | refine And.intro ?_ ?_)
  all_goals rw [hd]
end
section
variable {G : jA3}
def jEA (l : List UInt8) : List UInt8 := (l.reverse.dropWhile (fun b => b == 48)).reverse
theorem jKM (l : List UInt8) (b : UInt8) : jEA (l ++ [b]) = if b = 48 then jEA l else l ++ [b] := by
 unfold jEA
 rw [List.reverse_append]
 by_cases h : b = 48
 ·subst h; simp
 ·rw [if_neg h]; simp [h]
def jO5 (n : Nat) : List UInt8 := if n % 1000000 / 100 = 0 then jDY (n / 1000000) else (jDY (n / 1000000) ++ [46]) ++ jEA ((jDY (10000 + n % 1000000 / 100)).drop 1)
theorem jPN : ∀ (k n : Nat), n < 10 ^ (k + 1) -> (jDY n).length <= k + 1
 | 0, n, h => by rw [jDY, if_pos (by omega)]; simp
 | k + 1, n, h => by
  rw [jDY]
  split
  ·simp
  ·have := jPN k (n / 10) (by rw [Nat.pow_succ] at h; omega)
   simp; omega
theorem kPL (r : Nat) (h : r <= 9999) : jDY (10000 + r) = [UInt8.ofNat (48 + 1), UInt8.ofNat (48 + r / 1000), UInt8.ofNat (48 + r / 100 % 10), UInt8.ofNat (48 + r / 10 % 10), UInt8.ofNat (48 + r % 10)] := by
 rw [jDY, if_neg (by omega), jDY, if_neg (by omega), jDY, if_neg (by omega), jDY, if_neg (by omega), jDY, if_pos (by omega)]
 have e1 : (10000 + r) / 10 / 10 / 10 / 10 = 1 := by omega
 have e2 : (10000 + r) / 10 / 10 / 10 % 10 = r / 1000 := by omega
 have e3 : (10000 + r) / 10 / 10 % 10 = r / 100 % 10 := by omega
 have e4 : (10000 + r) / 10 % 10 = r / 10 % 10 := by omega
 have e5 : (10000 + r) % 10 = r % 10 := by omega
 rw [e1, e2, e3, e4, e5]
 rfl
theorem kIE {d : Nat} (h : d <= 9) : (UInt8.ofNat (48 + d)).toNat = 48 + d := by
 simp [UInt8.toNat_ofNat]; omega
theorem V23 (n : Nat) (hn : n <= 1000000000000000000) : jAB Tryz.prog G 23 [.int .i64 n] (.str (jO5 n)) := by
 refine jAB.jAT Tryz.func23 k23 mix (by simp [c23]) ?_
 simp only [c23, L23, CC, jBW]
 have q1 : (n : Int).tdiv 1000000 = ((n / 1000000 : Nat) : Int) := by rw [Int.tdiv_eq_ediv_of_nonneg (by omega)]; simp
 have q2 : (n : Int).tmod 1000000 = ((n % 1000000 : Nat) : Int) := by rw [Int.tmod_eq_emod_of_nonneg (by omega)]; simp
 have q3 : ((n % 1000000 : Nat) : Int).tdiv 100 = ((n % 1000000 / 100 : Nat) : Int) := by rw [Int.tdiv_eq_ediv_of_nonneg (by omega)]; simp
 have h1 := V51 (G := G) (n / 1000000) (by omega)
 have h2 := V51 (G := G) (10000 + n % 1000000 / 100) (by omega)
 have hl1 := jPN 18 (n / 1000000) (by have : (10 : Nat) ^ 19 = 10000000000000000000 := rfl; omega)
 have hr : n % 1000000 / 100 <= 9999 := by omega
 have h5 := kPL _ hr
 unfold jO5
 generalize n % 1000000 / 100 = r at *
 have w1 : IntKind.i64.wrap ((n / 1000000 : Nat) : Int) = ((n / 1000000 : Nat) : Int) := IntWalk.i64_in _ (by omega)
 have w2 : IntKind.i64.wrap ((n % 1000000 : Nat) : Int) = ((n % 1000000 : Nat) : Int) := IntWalk.i64_in _ (by omega)
 have w3 : IntKind.i64.wrap (r : Int) = (r : Int) := IntWalk.i64_in _ (by omega)
 have w4 : IntKind.i64.wrap (10000 + (r : Int)) = ((10000 + r : Nat) : Int) := by rw [IntWalk.i64_in _ (by omega)]; simp
 generalize jDY (n / 1000000) = S at *
 by_cases hz : r = 0
 ·have d1 : decide ((r : Int) = 0) = true := by simp only [decide_eq_true_eq]; omega
  repeat' (first | exact clo | (refine sqI ?_; intros) | refine stp ?_ | (refine cnd rfl ?_ ?_ <;> intro hcond <;> (try contradiction) <;> try simp only [DD] at hcond) | (refine jAG ?_; intro hg; try simp only [hg]) | refine jAA E51 (h1) ?_ ?_ ?_ ?_ | (refine saI ?_ ?_; intros) | (refine ari ?_; first | omega | (simp only [DD, LL] <;> omega) | (go_unwrap; omega) | (simp only [DD] at hg; omega)) | (refine stq ?_; focus (simp only [PV.bin, PV.jAI, jBC, q1, q2, q3, w1, w2, w3, d1, SA, reduceAdd, reduceIte, reduceEqDiff, Nat.reduceBEq, reduceCtorEq]; (try go_unwrap; try simp only [PV.bin, PV.jAI, jBC, q1, q2, q3, w1, w2, w3, d1, RR, reduceCtorEq]))) | refine And.intro ?_ ?_)
  all_goals rw [if_pos hz]
 ·have d1 : decide ((r : Int) = 0) = false := by simp only [decide_eq_false_iff_not]; omega
  rw [if_neg hz]
  have hL : ((jDY (10000 + r)).length : Nat) = 5 := by rw [h5]; rfl
  have hNZ : ∃ c ∈ (jDY (10000 + r)).drop (Int.toNat 1), c ≠ 48 := by
   rw [h5]
   have key : ∀ d, d <= 9 -> d ≠ 0 -> UInt8.ofNat (48 + d) ≠ 48 := fun d hd hd0 e => by
    have := congrArg UInt8.toNat e
    rw [kIE hd] at this
    have : (48 : UInt8).toNat = 48 := rfl
    omega
   by_cases c1 : r / 1000 = 0
   ·by_cases c2 : r / 100 % 10 = 0
    ·by_cases c3 : r / 10 % 10 = 0
     ·exact ⟨_, by simp, key (r % 10) (by omega) (by omega)⟩
     ·exact ⟨_, by simp, key (r / 10 % 10) (by omega) c3⟩
    ·exact ⟨_, by simp, key (r / 100 % 10) (by omega) c2⟩
   ·exact ⟨_, by simp, key (r / 1000) (by omega) c1⟩
  have hdr : (jDY (10000 + r)).drop 1 = (jDY (10000 + r)).drop (Int.toNat 1) := rfl
  rw [hdr]
  have hdl : ((jDY (10000 + r)).drop (Int.toNat 1)).length <= 4 := by rw [List.length_drop, hL]; decide
  clear h5 hdr
  repeat' (first | exact clo | (refine sqI ?_; intros) | refine stp ?_ | (refine cnd rfl ?_ ?_ <;> intro hcond <;> (try contradiction) <;> try simp only [DD] at hcond) | (apply jAO E51; (case hV => (simp only [PV.bin, PV.jAI, jBC, q1, q2, q3, w1, w2, w3, w4, d1, hL, SA, reduceAdd, reduceIte, reduceEqDiff, Nat.reduceBEq, reduceCtorEq]; (try go_unwrap; try simp only [PV.bin, PV.jAI, jBC, q1, q2, q3, w1, w2, w3, w4, d1, hL, RR, reduceCtorEq]); exact h1)); (try (case hs => rfl)); (try (case hf => first | exact Or.inl rfl | exact Or.inr ⟨rfl, rfl⟩ | (refine Or.inl ?_; simp only [PV.bin, PV.jAI, jBC, q1, q2, q3, w1, w2, w3, w4, d1, hL, SA, reduceAdd, reduceIte, reduceEqDiff, Nat.reduceBEq, reduceCtorEq]; done) | (refine Or.inr ⟨rfl, ?_⟩; simp only [PV.bin, PV.jAI, jBC, q1, q2, q3, w1, w2, w3, w4, d1, hL, SA, reduceAdd, reduceIte, reduceEqDiff, Nat.reduceBEq, reduceCtorEq]; done))); all_goals (first | (simp only [PV.bin, PV.jAI, jBC, q1, q2, q3, w1, w2, w3, w4, d1, hL, SA, reduceAdd, reduceIte, reduceEqDiff, Nat.reduceBEq, reduceCtorEq]; (try go_unwrap; try simp only [PV.bin, PV.jAI, jBC, q1, q2, q3, w1, w2, w3, w4, d1, hL, RR, reduceCtorEq])) | (show Env; skip) | (show Mem; skip))) | (apply jAO E51; (case hV => (simp only [PV.bin, PV.jAI, jBC, q1, q2, q3, w1, w2, w3, w4, d1, hL, SA, reduceAdd, reduceIte, reduceEqDiff, Nat.reduceBEq, reduceCtorEq]; (try go_unwrap; try simp only [PV.bin, PV.jAI, jBC, q1, q2, q3, w1, w2, w3, w4, d1, hL, RR, reduceCtorEq]); exact h2)); (try (case hs => rfl)); (try (case hf => first | exact Or.inl rfl | exact Or.inr ⟨rfl, rfl⟩ | (refine Or.inl ?_; simp only [PV.bin, PV.jAI, jBC, q1, q2, q3, w1, w2, w3, w4, d1, hL, SA, reduceAdd, reduceIte, reduceEqDiff, Nat.reduceBEq, reduceCtorEq]; done) | (refine Or.inr ⟨rfl, ?_⟩; simp only [PV.bin, PV.jAI, jBC, q1, q2, q3, w1, w2, w3, w4, d1, hL, SA, reduceAdd, reduceIte, reduceEqDiff, Nat.reduceBEq, reduceCtorEq]; done))); all_goals (first | (simp only [PV.bin, PV.jAI, jBC, q1, q2, q3, w1, w2, w3, w4, d1, hL, SA, reduceAdd, reduceIte, reduceEqDiff, Nat.reduceBEq, reduceCtorEq]; (try go_unwrap; try simp only [PV.bin, PV.jAI, jBC, q1, q2, q3, w1, w2, w3, w4, d1, hL, RR, reduceCtorEq])) | (show Env; skip) | (show Mem; skip))) | (refine jAG ?_; intro hg; try simp only [hg]) | (refine saI ?_ ?_; intros) | (refine ari ?_; first | omega | (simp only [DD, LL] <;> omega) | (go_unwrap; omega) | (simp only [DD] at hg; omega)) | (refine stq ?_; focus (simp only [PV.bin, PV.jAI, jBC, q1, q2, q3, w1, w2, w3, w4, d1, hL, SA, reduceAdd, reduceIte, reduceEqDiff, Nat.reduceBEq, reduceCtorEq]; (try go_unwrap; try simp only [PV.bin, PV.jAI, jBC, q1, q2, q3, w1, w2, w3, w4, d1, hL, RR, reduceCtorEq]))) | refine And.intro ?_ ?_)
  generalize (jDY (10000 + r)).drop (Int.toNat 1) = b0 at *
  refine PW.loop (σ := List UInt8) [3, 5] (fun b => [.str S, .str b]) (fun _ => []) (fun b => jEA b0 = jEA b ∧ (∃ c ∈ b, c ≠ 48) ∧ b.length <= 4) (fun b => b.length) b0 ?_ rfl ⟨rfl, hNZ, hdl⟩ ?_
  ·simp only [SA, reduceAdd, reduceIte, reduceEqDiff, Nat.reduceBEq, reduceCtorEq]; rfl
  rintro b ⟨hb1, hb2, hb3⟩
  simp only [List.zip_cons_cons, List.zip_nil_left]
  rcases List.eq_nil_or_concat b with rfl | ⟨b', c, rfl⟩
  ·obtain ⟨c, hc, -⟩ := hb2; simp at hc
  rw [List.concat_eq_append] at *
  have hlen : ((b' ++ [c]).length : Nat) = b'.length + 1 := by simp
  have hg : (b' ++ [c]).getD b'.length 0 = c := by simp [List.getD]
  have hti : (((b'.length + 1 : Nat) : Int) - 1).toNat = b'.length := by omega
  have htk : (b' ++ [c]).take b'.length = b' := by simp
  rw [jKM] at hb1
  by_cases h48 : c = 48
  ·subst h48
   rw [if_pos rfl] at hb1
   have d2 : decide (((48 : UInt8).toNat : Int) = 48) = true := rfl
   repeat' (first | exact clo | (refine sqI ?_; intros) | refine stp ?_ | (refine cnd rfl ?_ ?_ <;> intro hcond <;> (try contradiction) <;> try simp only [DD] at hcond) | (refine jAG ?_; intro hg; try simp only [hg]) | (refine saI ?_ ?_; intros) | (refine ari ?_; first | omega | (simp only [DD, LL] <;> omega) | (go_unwrap; omega) | (simp only [DD] at hg; omega)) | (refine stq ?_; focus (simp only [PV.bin, PV.jAI, jBC, hlen, hti, hg, htk, d2, SA, reduceAdd, reduceIte, reduceEqDiff, Nat.reduceBEq, reduceCtorEq]; (try go_unwrap; try simp only [PV.bin, PV.jAI, jBC, hlen, hti, hg, htk, d2, RR, reduceCtorEq]))) | refine And.intro ?_ ?_)
   all_goals first | exact ⟨b', rfl, ⟨hb1, by
    obtain ⟨x, hx, hx2⟩ := hb2
    rcases List.mem_append.1 hx with hx | hx
    ·exact ⟨x, hx, hx2⟩
    ·simp at hx; exact absurd hx hx2, by simp at hb3; omega⟩, by simp⟩ | omega
  ·rw [if_neg h48] at hb1
   have d2 : decide ((c.toNat : Int) = 48) = false := by
    rw [decide_eq_false_iff_not]; exact fun h => h48 (UInt8.toNat_inj.1 (Int.ofNat.inj h))
   have hl2 : (b' ++ [c]).length <= 4 := hb3
   repeat' (first | exact clo | (refine sqI ?_; intros) | refine stp ?_ | (refine cnd rfl ?_ ?_ <;> intro hcond <;> (try contradiction) <;> try simp only [DD] at hcond) | (refine jAG ?_; intro hg; try simp only [hg]) | (refine saI ?_ ?_; intros) | (refine ari ?_; first | omega | (simp only [DD, LL] <;> omega) | (go_unwrap; omega) | (simp only [DD] at hg; omega)) | (refine stq ?_; focus (simp only [PV.bin, PV.jAI, jBC, hlen, hti, hg, htk, d2, SA, reduceAdd, reduceIte, reduceEqDiff, Nat.reduceBEq, reduceCtorEq]; (try go_unwrap; try simp only [PV.bin, PV.jAI, jBC, hlen, hti, hg, htk, d2, RR, reduceCtorEq]))) | refine And.intro ?_ ?_)
   all_goals first | (rw [hb1]; done) | (simp at hb3 ⊢; omega)
end
end Go.Proofs.YthjkmhfiffojeaaGreatDoor
