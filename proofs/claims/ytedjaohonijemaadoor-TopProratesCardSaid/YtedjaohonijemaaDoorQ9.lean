import Derived.Test.YtedjaohonijemaaDoorQ8
namespace Go.Proofs.YtedjaohonijemaaDoor
open Go PG Go.Proofs
set_option linter.unusedSimpArgs false
set_option linter.unusedVariables false
set_option maxHeartbeats 4000000
set_option maxRecDepth 100000
variable {G : Globs}
/-! Spans joined -/
theorem pp1 (a b : PV) (x : Int) : putPart (some 2) none (.agg [a, b]) 1 (.int .i64 x) = .agg [a, .int .i64 x] := rfl
theorem v27a (s : Sp) (hs : s.1 < s.2) : PCalls Tryd.prog G 27 [.sl (some 2) 0 0, spP s] [some (.row (some 2) [])] (killTag 0) (fun p μ' => p = .sl (some 2) 0 1 ∧ μ' = [some (.row (some 2) [spP s])]) := by
  refine PCalls.moves (mv := fun t => t == 0 || decide (1 ≤ t)) (fun t ht h => ?_) ?_
  · simp only [List.length_cons, List.length_nil] at ht
    simp only [Bool.or_eq_true, beq_iff_eq, decide_eq_true_eq] at h
    simp only [killTag, beq_iff_eq]; omega
  refine PCalls.of_PW Tryd.func27 k27 mix (by simp [c27]) ?_
  have h30 := v30 (G := G) s.1 s.2
  rw [decide_eq_false (by omega)] at h30
  simp only [c27, L27, CC, argE, spP]
  have c0 : ((0 : Nat) : Int) = 0 := rfl
  have w1 : IntKind.i64.wrap (0 - 1) = -1 := rfl
  have w0 : IntKind.i64.wrap (-1) = -1 := rfl
  have d1 : decide ((0 : Int) ≤ -1) = false := rfl
  have hsc : ∀ (a b : Int), ∀ x ∈ [PV.int .i64 a, PV.int .i64 b], x.scalar = true := by
    intro a b x hc; simp at hc; rcases hc with rfl | rfl <;> rfl
  repeat' (first | exact True.intro | exact hsc _ _ | (exact Or.inr ⟨rfl, by decide⟩) | (refine PW.stop (x := .ret) ?_) | (refine PW.seqK ?_; intro K hK) | refine stp ?_ | refine seqK_n ‹_› ?_ | refine seqK_r ‹_› ?_ | refine seqK_e ‹_› ?_ | exact schedW_stop_i | refine schK_n ‹_› ?_ | (refine PW.cond rfl ?_ ?_ <;> intro hcond <;> (try contradiction) <;> try simp only [DD] at hcond) | (refine gd_i ?_; intro hg; try simp only [hg]) | refine goCall_W e30 (h30) ?_ ?_ ?_ ?_ | (refine ari ?_; first | omega | (simp only [DD, LL] <;> omega) | (go_unwrap; omega)) | ((first | refine stq ?_ | show (_ : Post) _ _ _ | (refine schedW_alt_k ?_ ?_; intro K hK)); focus (simp only [PV.bin, PV.binOk, binI, c0, Int.reduceSub, Int.reduceNeg, w0, w1, d1, cut, List.length_cons, List.length_nil, Nat.zero_add, SA, Nat.reduceAdd, reduceIte, Nat.reduceEqDiff, Nat.reduceBEq, reduceCtorEq]; (try go_unwrap; try simp only [PV.bin, PV.binOk, binI, c0, Int.reduceSub, Int.reduceNeg, w0, w1, d1, cut, List.length_cons, List.length_nil, Nat.zero_add, RR, reduceCtorEq]))) | refine And.intro ?_ ?_ | exact Or.inr ⟨rfl, Nat.le_refl _⟩ | exact (fun h => Bool.noConfusion h))
  all_goals first | (exact ⟨_, rfl, rfl, hsc _ _⟩) | skip
  refine ⟨?_⟩
  refine PW.trim 1 (fun t h => by simp; omega) ?_
  simp only [TT, MObj.kill, PV.kill, Nat.reduceLeDiff, reduceIte]
  repeat' (first | exact True.intro | (refine PW.seqK ?_; intro K hK) | refine stp ?_ | refine seqK_n ‹_› ?_ | refine seqK_r ‹_› ?_ | refine seqK_e ‹_› ?_ | exact schedW_stop_i | refine schK_n ‹_› ?_ | (refine PW.cond rfl ?_ ?_ <;> intro hcond <;> (try contradiction) <;> try simp only [DD] at hcond) | (refine gd_i ?_; intro hg; try simp only [hg]) | (refine ari ?_; first | omega | (simp only [DD, LL] <;> omega) | (go_unwrap; omega)) | ((first | refine stq ?_ | show (_ : Post) _ _ _ | (refine schedW_alt_k ?_ ?_; intro K hK)); focus (simp only [SA, Nat.reduceAdd, reduceIte, Nat.reduceEqDiff, Nat.reduceBEq, reduceCtorEq]; (try go_unwrap; try simp only [RR, reduceCtorEq]))) | refine And.intro ?_ ?_ | exact Or.inr ⟨rfl, Nat.le_refl _⟩ | exact (fun h => Bool.noConfusion h))
  all_goals rfl
theorem v27b (l s : Sp) (hs : s.1 < s.2) (hl : s.1 ≤ l.2) : PCalls Tryd.prog G 27 [.sl (some 2) 0 1, spP s] [some (.row (some 2) [spP l])] (killTag 0) (fun p μ' => p = .sl (some 2) 0 1 ∧ μ' = [some (.row (some 2) [spP (l.1, max l.2 s.2)])]) := by
  refine PCalls.moves (mv := fun t => t == 0 || decide (1 ≤ t)) (fun t ht h => ?_) ?_
  · simp only [List.length_cons, List.length_nil] at ht
    simp only [Bool.or_eq_true, beq_iff_eq, decide_eq_true_eq] at h
    simp only [killTag, beq_iff_eq]; omega
  refine PCalls.of_PW Tryd.func27 k27 mix (by simp [c27]) ?_
  have h30 := v30 (G := G) s.1 s.2
  rw [decide_eq_false (by omega)] at h30
  simp only [c27, L27, CC, argE, spP]
  have c1 : ((1 : Nat) : Int) = 1 := rfl
  have z0 : Int.toNat 0 = 0 := rfl
  have mx : ∀ a b : Int, rdV [some (.row (some 2) [.agg [.int .i64 l.1, .int .i64 l.2]]), some (.var (some 2) (.agg [.int .i64 s.1, .int .i64 s.2]))] .max [.int .i64 a, .int .i64 b] = .int .i64 (max a b) := fun a b => rfl
  have w1 : IntKind.i64.wrap (1 - 1) = 0 := rfl
  have w2 : IntKind.i64.wrap 0 = 0 := rfl
  have d1 : decide ((0 : Int) ≤ 0) = true := rfl
  have d2 : decide (s.1 ≤ l.2) = true := decide_eq_true hl
  repeat' (first | exact True.intro | (refine PW.seqA (E := ?_) (M := ?_) ?_ ?_; rotate_left 2) | exact mergeQ_mk _ _ | (exact Or.inr ⟨rfl, by decide⟩) | (refine PW.stop (x := .ret) ?_) | (refine PW.seqK ?_; intro K hK) | refine stp ?_ | refine seqK_n ‹_› ?_ | refine seqK_r ‹_› ?_ | refine seqK_e ‹_› ?_ | exact schedW_stop_i | refine schK_n ‹_› ?_ | (refine PW.cond rfl ?_ ?_ <;> intro hcond <;> (try contradiction) <;> try simp only [DD] at hcond) | (refine gd_i ?_; intro hg; try simp only [hg]) | refine goCall_W e30 (h30) ?_ ?_ ?_ ?_ | (refine ari ?_; first | omega | (simp only [DD, LL] <;> omega) | (go_unwrap; omega)) | ((first | refine stq ?_ | show (_ : Post) _ _ _ | (refine schedW_alt_k ?_ ?_; intro K hK)); focus (simp only [PV.bin, PV.binOk, binI, c1, z0, List.getElem?_cons_zero, Option.map_some, List.getD_cons_zero, List.set_cons_zero, mx, w1, w2, Int.reduceSub, d1, d2, cut, sub20, sub21, cut20, cut21, cells2, List.length_cons, List.length_nil, Nat.zero_add, SA, Nat.reduceAdd, reduceIte, Nat.reduceEqDiff, Nat.reduceBEq, reduceCtorEq]; (try go_unwrap; try simp only [PV.bin, PV.binOk, binI, c1, z0, List.getElem?_cons_zero, Option.map_some, List.getD_cons_zero, List.set_cons_zero, mx, w1, w2, Int.reduceSub, d1, d2, cut, sub20, sub21, cut20, cut21, cells2, List.length_cons, List.length_nil, Nat.zero_add, RR, reduceCtorEq]))) | refine And.intro ?_ ?_ | exact Or.inr ⟨rfl, Nat.le_refl _⟩ | exact (fun h => Bool.noConfusion h))
  all_goals
    refine ⟨?_⟩
    refine PW.trim 1 (fun t h => by simp; omega) ?_
    simp only [pp1, TT, MObj.kill, PV.kill, Nat.reduceLeDiff, reduceIte]
    repeat' (first | exact True.intro | (refine PW.seqK ?_; intro K hK) | refine stp ?_ | refine seqK_n ‹_› ?_ | refine seqK_r ‹_› ?_ | refine seqK_e ‹_› ?_ | exact schedW_stop_i | refine schK_n ‹_› ?_ | (refine PW.cond rfl ?_ ?_ <;> intro hcond <;> (try contradiction) <;> try simp only [DD] at hcond) | (refine gd_i ?_; intro hg; try simp only [hg]) | (refine ari ?_; first | omega | (simp only [DD, LL] <;> omega) | (go_unwrap; omega)) | ((first | refine stq ?_ | show (_ : Post) _ _ _ | (refine schedW_alt_k ?_ ?_; intro K hK)); focus (simp only [SA, Nat.reduceAdd, reduceIte, Nat.reduceEqDiff, Nat.reduceBEq, reduceCtorEq]; (try go_unwrap; try simp only [RR, reduceCtorEq]))) | refine And.intro ?_ ?_ | exact Or.inr ⟨rfl, Nat.le_refl _⟩ | exact (fun h => Bool.noConfusion h))
    all_goals rfl
theorem frm {f : Nat} {as_ : List PV} {r : PV} {o o' : Option MObj} (h : PCalls Tryd.prog G f as_ [o] (killTag 0) (fun p μ' => p = r ∧ μ' = [o'])) (ν : Mem) (ha : as_.map (PV.kill fun t => decide (1 ≤ t)) = as_) (ho : [o].map (Option.map (MObj.kill fun t => decide (1 ≤ t))) = [o]) (hν : ν.map (Option.map (MObj.kill (killTag 0))) = ν) :
    PCalls Tryd.prog G f as_ (o :: ν) (killTag 0) (fun p μ' => p = r ∧ μ' = o' :: ν) := by
  have := PCalls.frame h ν (by rintro p μ' ⟨-, rfl⟩; rfl) ha ho hν
  intro w κ vs hS hG hr
  refine (this w κ vs hS hG hr).mono ?_
  rintro e w' ⟨v, p, μ', κ', rfl, ⟨μ1, ⟨rfl, rfl⟩, rfl⟩, hS', hv, hg⟩
  exact ⟨v, _, _, κ', rfl, ⟨rfl, rfl⟩, hS', hv, hg⟩
theorem f23 (s : Sp) : FCalls Tryd.prog G 23 [.list (some 2) [spP s]] (fun p ν => p = .sl (some 2) 0 1 ∧ ν = [some (.row (some 2) [spP s])]) := by
  refine FCalls.of_PW Tryd.func23 k23 mix (by simp [c23]) ?_
  simp only [c23, L23, CC, argE, spP]
  repeat' (first | exact True.intro | (exact Or.inr ⟨rfl, by decide⟩) | (refine PW.seqK ?_; intro K hK) | refine stp ?_ | refine seqK_n ‹_› ?_ | refine seqK_r ‹_› ?_ | refine seqK_e ‹_› ?_ | exact schedW_stop_i | refine schK_n ‹_› ?_ | (refine PW.cond rfl ?_ ?_ <;> intro hcond <;> (try contradiction) <;> try simp only [DD] at hcond) | (refine gd_i ?_; intro hg; try simp only [hg]) | (refine ari ?_; first | omega | (simp only [DD, LL] <;> omega) | (go_unwrap; omega)) | ((first | refine stq ?_ | show (_ : Post) _ _ _ | (refine schedW_alt_k ?_ ?_; intro K hK)); focus (simp only [List.length_cons, List.length_nil, Nat.zero_add, List.nil_append, SA, Nat.reduceAdd, reduceIte, Nat.reduceEqDiff, Nat.reduceBEq, reduceCtorEq]; (try go_unwrap; try simp only [List.length_cons, List.length_nil, Nat.zero_add, List.nil_append, RR, reduceCtorEq]))) | refine And.intro ?_ ?_ | exact Or.inr ⟨rfl, Nat.le_refl _⟩ | exact (fun h => Bool.noConfusion h))
  all_goals rfl
theorem v10 (s : Sp) (hs : s.1 < s.2) : VCalls Tryd.prog G 10 [spL [s]] (setP [s]) := by
  refine VCalls.of_PW Tryd.func10 k10 mix (by simp [c10]) ?_
  have h23 := f23 (G := G) s
  have h24 := v24 (G := G) (spP s)
  have h27 := frm (v27a (G := G) s hs) [none, some (.var (some 1) (.agg [.nilSl])), some (.var (some 2) (spP s))] (by simp [PV.kill, spP]) (by simp [MObj.kill, PV.kill]) (by simp [MObj.kill, PV.kill, spP])
  simp only [c10, L10, CC, argE, spL, setP, List.map_cons, List.map_nil, spP] at h23 h24 h27 ⊢
  have c1 : ((1 : Nat) : Int) = 1 := rfl
  have l01 : decide ((0 : Int) < 1) = true := rfl
  have l11 : decide ((1 : Int) < 1) = false := rfl
  have z0 : Int.toNat 0 = 0 := rfl
  have hsc : ∀ (a b : Int), ∀ x ∈ [PV.int .i64 a, PV.int .i64 b], x.scalar = true := by
    intro a b x hc; simp at hc; rcases hc with rfl | rfl <;> rfl
  repeat' (first | exact True.intro | (refine PW.stop (x := .seq (.region false (⟨some 9, none, .rd .mov [.tmp 3]⟩ :: _) _) _) ?_) | (refine PW.seqK ?_; intro K hK) | refine stp ?_ | refine seqK_n ‹_› ?_ | refine seqK_r ‹_› ?_ | refine seqK_e ‹_› ?_ | exact schedW_stop_i | refine schK_n ‹_› ?_ | (refine PW.cond rfl ?_ ?_ <;> intro hcond <;> (try contradiction) <;> try simp only [DD] at hcond) | (refine goCall_F e23 (h23) (by simp [List.length_cons, List.length_nil, Nat.zero_add, c1, PV.noOwn]) ?_; simp only [List.length_cons, List.length_nil, Nat.zero_add, c1, SA, Nat.reduceAdd, reduceIte, Nat.reduceEqDiff, Nat.reduceBEq, reduceCtorEq]; (try go_unwrap; try simp only [List.length_cons, List.length_nil, Nat.zero_add, c1, RR, reduceCtorEq])) | (refine gd_i ?_; intro hg; try simp only [hg]) | (refine ari ?_; first | omega | (simp only [DD, LL] <;> omega) | (go_unwrap; omega)) | ((first | refine stq ?_ | show (_ : Post) _ _ _ | (refine schedW_alt_k ?_ ?_; intro K hK)); focus (simp only [List.length_cons, List.length_nil, Nat.zero_add, c1, SA, Nat.reduceAdd, reduceIte, Nat.reduceEqDiff, Nat.reduceBEq, reduceCtorEq]; (try go_unwrap; try simp only [List.length_cons, List.length_nil, Nat.zero_add, c1, RR, reduceCtorEq]))) | refine And.intro ?_ ?_ | exact Or.inr ⟨rfl, Nat.le_refl _⟩ | exact (fun h => Bool.noConfusion h))
  refine ⟨?_⟩
  refine PW.frz 1 (.row (some 2) [.agg [.int .i64 s.1, .int .i64 s.2]]) ?_ ?_ ?_
  · rfl
  · rfl
  simp only [SA, Nat.reduceAdd, reduceIte, Nat.reduceEqDiff, Nat.reduceBEq, reduceCtorEq, PV.frz, MObj.frz, frzM, frzSl, List.length_cons, List.length_nil, Nat.zero_add, Nat.le_refl, and_self, if_true, List.take_succ_cons, List.take_zero]
  repeat' (first | exact True.intro | (refine PW.seqK ?_; intro K hK) | refine stp ?_ | refine seqK_n ‹_› ?_ | refine seqK_r ‹_› ?_ | refine seqK_e ‹_› ?_ | exact schedW_stop_i | refine schK_n ‹_› ?_ | (refine PW.cond rfl ?_ ?_ <;> intro hcond <;> (try contradiction) <;> try simp only [DD] at hcond) | (refine gd_i ?_; intro hg; try simp only [hg]) | refine goCall_W e24 (h24) ?_ ?_ ?_ ?_ | (refine ari ?_; first | omega | (simp only [DD, LL] <;> omega) | (go_unwrap; omega)) | ((first | refine stq ?_ | show (_ : Post) _ _ _ | (refine schedW_alt_k ?_ ?_; intro K hK)); focus (simp only [List.length_cons, List.length_nil, Nat.zero_add, c1, SA, Nat.reduceAdd, reduceIte, Nat.reduceEqDiff, Nat.reduceBEq, reduceCtorEq]; (try go_unwrap; try simp only [List.length_cons, List.length_nil, Nat.zero_add, c1, RR, reduceCtorEq]))) | refine And.intro ?_ ?_ | exact Or.inr ⟨rfl, Nat.le_refl _⟩ | exact (fun h => Bool.noConfusion h))
  refine PW.own (some 2) 4 rfl ?_
  refine PW.sw 0 2 (by simp) (by simp) rfl rfl ?_
  simp only [swE, swM, swL, List.map_cons, List.map_nil, List.cons_append, List.nil_append, Option.map_some, Option.map_none, MObj.ren, PV.ren, swp, List.set_cons_zero, List.set_cons_succ, List.getD_cons_zero, List.getD_cons_succ, List.length_cons, List.length_nil, Nat.reduceAdd, Nat.reduceEqDiff, if_true, if_false, reduceIte]
  refine PW.loopG (σ := Bool) 3 (fun _ _ => rfl) [2, 4, 11, 12, 13] (fun b => [.ref 2 0, .sl (some 2) 0 (if b = true then 1 else 0), .list (some 2) [.agg [.int .i64 s.1, .int .i64 s.2]], .int .i64 1, .int .i64 (if b = true then 1 else 0)])
    (fun b => [some (.row (some 2) (if b = true then [.agg [.int .i64 s.1, .int .i64 s.2]] else [])), none, some (.var (some 1) (.agg [.nilSl]))]) (fun _ => True) (fun b => if b = true then 0 else 1) false ?_ rfl trivial ?_
  · simp only [SA, Nat.reduceAdd, reduceIte, Nat.reduceEqDiff, Nat.reduceBEq, reduceCtorEq]; rfl
  rintro b -
  simp only [List.zip_cons_cons, List.zip_nil_left]
  cases b
  · repeat' (first | exact True.intro | exact hsc _ _ | (exact Or.inr ⟨rfl, by decide⟩) | (refine PW.seqK ?_; intro K hK) | refine stp ?_ | refine seqK_n ‹_› ?_ | refine seqK_r ‹_› ?_ | refine seqK_e ‹_› ?_ | exact schedW_stop_i | refine schK_n ‹_› ?_ | (refine PW.cond rfl ?_ ?_ <;> intro hcond <;> (try contradiction) <;> try simp only [DD] at hcond) | (refine goCall_K 0 e27 h27 rfl ?_; rintro p μ' ⟨rfl, rfl⟩; simp only [l01, z0, cut, c1, List.getD_cons_zero, List.length_cons, List.length_nil, Nat.zero_add, SA, Nat.reduceAdd, reduceIte, Nat.reduceEqDiff, Nat.reduceBEq, reduceCtorEq]) | (refine gd_i ?_; intro hg; try simp only [hg]) | (refine ari ?_; first | omega | (simp only [DD, LL] <;> omega) | (go_unwrap; omega)) | ((first | refine stq ?_ | show (_ : Post) _ _ _ | (refine schedW_alt_k ?_ ?_; intro K hK)); focus (simp only [l01, z0, cut, c1, List.getD_cons_zero, List.length_cons, List.length_nil, Nat.zero_add, SA, Nat.reduceAdd, reduceIte, Nat.reduceEqDiff, Nat.reduceBEq, reduceCtorEq]; (try go_unwrap; try simp only [l01, z0, cut, c1, List.getD_cons_zero, List.length_cons, List.length_nil, Nat.zero_add, RR, reduceCtorEq]))) | refine And.intro ?_ ?_ | exact Or.inr ⟨rfl, Nat.le_refl _⟩ | exact (fun h => Bool.noConfusion h))
    all_goals first | exact ⟨true, (by first | rfl | (simp only [TT, MObj.kill, PV.kill, Nat.reduceLeDiff, reduceIte, Nat.le_refl, Nat.zero_le, Nat.not_le, Nat.lt_irrefl]; done) | (simp [trimE, trimM, MObj.kill, PV.kill]; done)), (by first | rfl | (simp only [TT, MObj.kill, PV.kill, Nat.reduceLeDiff, reduceIte, Nat.le_refl, Nat.zero_le, Nat.not_le, Nat.lt_irrefl]; done) | (simp [trimE, trimM, MObj.kill, PV.kill]; done)), trivial, by decide⟩ | exact ⟨true, (by first | rfl | (simp only [TT, MObj.kill, PV.kill, Nat.reduceLeDiff, reduceIte, Nat.le_refl, Nat.zero_le, Nat.not_le, Nat.lt_irrefl]; done) | (simp [trimE, trimM, MObj.kill, PV.kill]; done)), (by first | rfl | (simp only [TT, MObj.kill, PV.kill, Nat.reduceLeDiff, reduceIte, Nat.le_refl, Nat.zero_le, Nat.not_le, Nat.lt_irrefl]; done) | (simp [trimE, trimM, MObj.kill, PV.kill]; done)), by decide⟩
  · repeat' (first | exact True.intro | (refine PW.stop (x := .seq (.region false (⟨some 21, none, .rd .mov [.tmp 4]⟩ :: _) _) _) ?_) | (refine PW.seqK ?_; intro K hK) | refine stp ?_ | refine seqK_n ‹_› ?_ | refine seqK_r ‹_› ?_ | refine seqK_e ‹_› ?_ | exact schedW_stop_i | refine schK_n ‹_› ?_ | (refine PW.cond rfl ?_ ?_ <;> intro hcond <;> (try contradiction) <;> try simp only [DD] at hcond) | (refine gd_i ?_; intro hg; try simp only [hg]) | (refine ari ?_; first | omega | (simp only [DD, LL] <;> omega) | (go_unwrap; omega)) | ((first | refine stq ?_ | show (_ : Post) _ _ _ | (refine schedW_alt_k ?_ ?_; intro K hK)); focus (simp only [l11, SA, Nat.reduceAdd, reduceIte, Nat.reduceEqDiff, Nat.reduceBEq, reduceCtorEq]; (try go_unwrap; try simp only [l11, RR, reduceCtorEq]))) | refine And.intro ?_ ?_ | exact Or.inr ⟨rfl, Nat.le_refl _⟩ | exact (fun h => Bool.noConfusion h))
    refine ⟨?_⟩
    refine PW.frz 0 (.row (some 2) [.agg [.int .i64 s.1, .int .i64 s.2]]) ?_ ?_ ?_
    · rfl
    · rfl
    simp only [SA, Nat.reduceAdd, reduceIte, Nat.reduceEqDiff, Nat.reduceBEq, reduceCtorEq, PV.frz, MObj.frz, frzM, frzSl, List.length_cons, List.length_nil, Nat.zero_add, Nat.le_refl, and_self, if_true, List.take_succ_cons, List.take_zero]
    repeat' (first | exact True.intro | (exact Or.inr ⟨rfl, by decide⟩) | (refine PW.seqK ?_; intro K hK) | refine stp ?_ | refine seqK_n ‹_› ?_ | refine seqK_r ‹_› ?_ | refine seqK_e ‹_› ?_ | exact schedW_stop_i | refine schK_n ‹_› ?_ | (refine PW.cond rfl ?_ ?_ <;> intro hcond <;> (try contradiction) <;> try simp only [DD] at hcond) | (refine gd_i ?_; intro hg; try simp only [hg]) | (refine ari ?_; first | omega | (simp only [DD, LL] <;> omega) | (go_unwrap; omega)) | ((first | refine stq ?_ | show (_ : Post) _ _ _ | (refine schedW_alt_k ?_ ?_; intro K hK)); focus (simp only [SA, Nat.reduceAdd, reduceIte, Nat.reduceEqDiff, Nat.reduceBEq, reduceCtorEq]; (try go_unwrap; try simp only [RR, reduceCtorEq]))) | refine And.intro ?_ ?_ | exact Or.inr ⟨rfl, Nat.le_refl _⟩ | exact (fun h => Bool.noConfusion h))
end Go.Proofs.YtedjaohonijemaaDoor

namespace Go.Proofs.YtedjaohonijemaaDoor
open Go PG Go.Proofs
set_option linter.unusedSimpArgs false
set_option linter.unusedVariables false
set_option maxHeartbeats 4000000
set_option maxRecDepth 100000
variable {G : Globs}
/-! Two sets walked along -/
theorem drop_at {α : Type} {l : List α} {i : Nat} (h : i < l.length) : ∃ a, l.drop i = a :: l.drop (i + 1) ∧ l[i]? = some a ∧ ∀ pv : α → PV, (l.map pv).getD i .junk = pv a ∧ (l.map pv)[i]? = some (pv a) := by
  refine ⟨l[i], List.drop_eq_getElem_cons h, List.getElem?_eq_getElem h, fun pv => ⟨by simp [List.getD, h], by simp [h]⟩⟩
def endsL (l : List Sp) : List Int := l.flatMap fun s => [s.1, s.2]
theorem sa1 (x y : Int) : setAll [PV.int .i64 x, PV.int .i64 0] 1 ((partOf (PV.int .i64 y) 1).getD []) = [PV.int .i64 x, PV.int .i64 y] := rfl
theorem endsL_snoc (l : List Sp) (s : Sp) : endsL (l ++ [s]) = endsL l ++ [s.1, s.2] := by simp [endsL]
theorem endsL_len (l : List Sp) : (endsL l).length = 2 * l.length := by
  induction l with
  | nil => rfl
  | cons s l ih => simp only [endsL, List.flatMap_cons, List.length_append, List.length_cons, List.length_nil] at ih ⊢; omega
abbrev intL (l : List Int) : List PV := l.map (PV.int .i64)
theorem cmp_take (ds : List Int) : (intL (cmpR ds)).take (Lib.compact ds).length = intL (Lib.compact ds) := by
  unfold cmpR intL
  rw [List.map_append, List.take_append_of_le_length (by simp), List.take_of_length_le (by simp)]
theorem v28 (A B : List Sp) (hA : A.length ≤ 1) (hB : B.length ≤ 1) (g : Nat) (eg : Ent Tryd.prog g) (KP : Bool → Bool → Bool) (hg : ∀ x y, VCalls Tryd.prog G g [.bool x, .bool y] (.bool (KP x y)))
    (cs : List Int) (hcs : Lib.compact (endsL A ++ endsL B) = cs) (hs : Srt (endsL A ++ endsL B)) (h0 : 0 < cs.length) (O : Nat → List Sp) (hO0 : O 0 = [])
    (hO : ∀ i (h : i + 1 < cs.length), if KP (hasM A cs[i]) (hasM B cs[i]) = true then PCalls Tryd.prog G 27 [.sl (some 2) 0 (O i).length, spP (cs[i], cs[i + 1])] [some (.row (some 2) ((O i).map spP))] (killTag 0) (fun p μ' => p = .sl (some 2) 0 (O (i + 1)).length ∧ μ' = [some (.row (some 2) ((O (i + 1)).map spP))]) else O (i + 1) = O i) :
    VCalls Tryd.prog G 28 [setP A, setP B, .fn g [] []] (setP (O (cs.length - 1))) := by
  refine VCalls.of_PW Tryd.func28 k28 mix (by simp [c28]) ?_
  simp only [c28, L28, CC, argE, setP]
  have hcl : cs.length ≤ 4 := by
    have h1 := compact_len (endsL A ++ endsL B)
    rw [hcs, List.length_append, endsL_len, endsL_len] at h1
    omega
  repeat' (first | exact True.intro | (exact Or.inr ⟨rfl, by decide⟩) | (refine PW.stop (x := .seq (.region false (⟨some 14, none, .rd (.fldAddr 0) [.tmp 3]⟩ :: _) _) _) ?_) | (refine PW.seqK ?_; intro K hK) | refine stp ?_ | refine seqK_n ‹_› ?_ | refine seqK_r ‹_› ?_ | refine seqK_e ‹_› ?_ | exact schedW_stop_i | refine schK_n ‹_› ?_ | (refine PW.cond rfl ?_ ?_ <;> intro hcond <;> (try contradiction) <;> try simp only [DD] at hcond) | (refine gd_i ?_; intro hg; try simp only [hg]) | (refine ari ?_; first | omega | (simp only [DD, LL] <;> omega) | (go_unwrap; omega)) | ((first | refine stq ?_ | show (_ : Post) _ _ _ | (refine schedW_alt_k ?_ ?_; intro K hK)); focus (simp only [sub10, cut, SA, Nat.reduceAdd, reduceIte, Nat.reduceEqDiff, Nat.reduceBEq, reduceCtorEq]; (try go_unwrap; try simp only [sub10, cut, RR, reduceCtorEq]))) | refine And.intro ?_ ?_ | exact Or.inr ⟨rfl, Nat.le_refl _⟩ | exact (fun h => Bool.noConfusion h))
  refine ⟨?_⟩
  refine PW.own none 7 rfl ?_
  simp only [List.cons_append, List.nil_append, List.length_cons, List.length_nil]
  have hsl : ∀ x ∈ [spL A, spL B], x.scalar = true := by intro x hx; simp at hx; rcases hx with rfl | rfl <;> rfl
  repeat' (first | exact True.intro | (exact Or.inr ⟨rfl, by decide⟩) | exact hsl | (refine PW.seqK ?_; intro K hK) | refine stp ?_ | refine seqK_n ‹_› ?_ | refine seqK_r ‹_› ?_ | refine seqK_e ‹_› ?_ | exact schedW_stop_i | refine schK_n ‹_› ?_ | (refine PW.cond rfl ?_ ?_ <;> intro hcond <;> (try contradiction) <;> try simp only [DD] at hcond) | (refine gd_i ?_; intro hg; try simp only [hg]) | (refine ari ?_; first | omega | (simp only [DD, LL] <;> omega) | (go_unwrap; omega)) | ((first | refine stq ?_ | show (_ : Post) _ _ _ | (refine schedW_alt_k ?_ ?_; intro K hK)); focus (simp only [sub10, cut, List.length_cons, List.length_nil, Nat.zero_add, SA, Nat.reduceAdd, reduceIte, Nat.reduceEqDiff, Nat.reduceBEq, reduceCtorEq]; (try go_unwrap; try simp only [sub10, cut, List.length_cons, List.length_nil, Nat.zero_add, RR, reduceCtorEq]))) | refine And.intro ?_ ?_ | exact Or.inr ⟨rfl, Nat.le_refl _⟩ | exact (fun h => Bool.noConfusion h))
  have c2 : ((2 : Nat) : Int) = 2 := rfl
  have tl : ∀ i, (endsL (([A, B].take i).flatten)).length ≤ 4 := by
    intro i
    rw [endsL_len]
    match i with
    | 0 => simp
    | 1 => simp; omega
    | i + 2 => simp; omega
  refine PW.loopG (σ := Nat) 4 (fun _ _ => rfl) [2, 3, 4, 6, 7, 18, 19, 20] (fun i => [.fn g [] [], .ref 0 0, .ref 1 0, .ref 2 0, .sl none 3 (endsL (([A, B].take i).flatten)).length, .list none [spL A, spL B], .int .i64 2, .int .i64 i])
    (fun i => [some (.var (some 1) (.agg [spL A])), some (.var (some 1) (.agg [spL B])), some (.var (some 1) (.agg [.nilSl])), some (.row none (intL (endsL (([A, B].take i).flatten))))]) (fun i => i ≤ 2) (fun i => 2 - i) 0 ?_ rfl (by omega) ?_
  · simp only [SA, Nat.reduceAdd, reduceIte, Nat.reduceEqDiff, Nat.reduceBEq, reduceCtorEq, c2]; rfl
  intro i hi
  simp only [List.zip_cons_cons, List.zip_nil_left]
  rcases Nat.lt_or_ge i 2 with h | h
  · have hd : decide ((i : Int) < 2) = true := by simp only [decide_eq_true_eq]; omega
    obtain ⟨C, hC, hCl, hCt⟩ : ∃ C : List Sp, [spL A, spL B].getD i .junk = spL C ∧ C.length ≤ 1 ∧ ([A, B].take (i + 1)).flatten = ([A, B].take i).flatten ++ C := by
      match i, h with
      | 0, _ => exact ⟨A, rfl, hA, by simp⟩
      | 1, _ => exact ⟨B, rfl, hB, by simp⟩
    generalize hD : ([A, B].take i).flatten = D at *
    have hDl : (endsL D).length ≤ 4 := by have := tl i; rw [hD] at this; exact this
    have hll : ((C.map spP).length : Nat) = C.length := by simp
    repeat' (first | exact True.intro | (refine PW.seqK ?_; intro K hK) | refine stp ?_ | refine seqK_n ‹_› ?_ | refine seqK_r ‹_› ?_ | refine seqK_e ‹_› ?_ | exact schedW_stop_i | refine schK_n ‹_› ?_ | (refine PW.cond rfl ?_ ?_ <;> intro hcond <;> (try contradiction) <;> try simp only [DD] at hcond) | (refine gd_i ?_; intro hg; try simp only [hg]) | (refine ari ?_; first | omega | (simp only [DD, LL] <;> omega) | (go_unwrap; omega)) | ((first | refine stq ?_ | show (_ : Post) _ _ _ | (refine schedW_alt_k ?_ ?_; intro K hK)); focus (simp only [hd, hC, hll, SA, Nat.reduceAdd, reduceIte, Nat.reduceEqDiff, Nat.reduceBEq, reduceCtorEq]; (try go_unwrap; try simp only [hd, hC, hll, RR, reduceCtorEq]))) | refine And.intro ?_ ?_ | exact Or.inr ⟨rfl, Nat.le_refl _⟩ | exact (fun h => Bool.noConfusion h))
    refine PW.loopG (σ := Nat) 4 (fun _ _ => rfl) [2, 3, 4, 6, 7, 18, 19, 20, 24, 25, 26] (fun j => [.fn g [] [], .ref 0 0, .ref 1 0, .ref 2 0, .sl none 3 (endsL (D ++ C.take j)).length, .list none [spL A, spL B], .int .i64 2, .int .i64 i, spL C, .int .i64 C.length, .int .i64 j])
      (fun j => [some (.var (some 1) (.agg [spL A])), some (.var (some 1) (.agg [spL B])), some (.var (some 1) (.agg [.nilSl])), some (.row none (intL (endsL (D ++ C.take j))))]) (fun j => j ≤ C.length) (fun j => C.length - j) 0 ?_ (by simp) (by omega) ?_
    · simp only [SA, Nat.reduceAdd, reduceIte, Nat.reduceEqDiff, Nat.reduceBEq, reduceCtorEq, hll, List.take_zero, List.append_nil]; rfl
    intro j hj
    simp only [List.zip_cons_cons, List.zip_nil_left]
    rcases Nat.lt_or_ge j C.length with h' | h'
    · have hd2 : decide ((j : Int) < C.length) = true := by simp only [decide_eq_true_eq]; omega
      obtain ⟨s, -, hn, hg'⟩ := drop_at h'
      have hgs : (C.map spP).getD j .junk = .agg [.int .i64 s.1, .int .i64 s.2] := (hg' spP).1
      have hni : C[j] = s := by rw [List.getElem?_eq_getElem h'] at hn; exact Option.some.inj hn
      have hst : endsL (D ++ C.take (j + 1)) = endsL (D ++ C.take j) ++ [s.1, s.2] := by
        rw [List.take_succ_eq_append_getElem h', hni, ← List.append_assoc, endsL_snoc]
      have hlb : (endsL (D ++ C.take j)).length ≤ 6 := by
        rw [endsL_len] at hDl ⊢; simp only [List.length_append, List.length_take]; omega
      generalize endsL (D ++ C.take j) = E at *
      have hEl : ((intL E).length : Nat) = E.length := by simp
      have hEt : (intL E).take E.length = intL E := List.take_of_length_le (by simp)
      have hsc : ∀ (a b : Int), ∀ x ∈ [PV.int .i64 a, PV.int .i64 b], x.scalar = true := by
        intro a b x hc; simp at hc; rcases hc with rfl | rfl <;> rfl
      have b1 : (E.length + 2) * 8 ≤ 281474976710656 := by omega
      have hmm : intL (E ++ [s.1, s.2]) = intL E ++ [.int .i64 s.1, .int .i64 s.2] := by simp
      repeat' (first | exact True.intro | exact hsc _ _ | (exact Or.inr ⟨rfl, by decide⟩) | (refine PW.seqK ?_; intro K hK) | refine stp ?_ | refine seqK_n ‹_› ?_ | refine seqK_r ‹_› ?_ | refine seqK_e ‹_› ?_ | exact schedW_stop_i | refine schK_n ‹_› ?_ | (refine PW.cond rfl ?_ ?_ <;> intro hcond <;> (try contradiction) <;> try simp only [DD] at hcond) | (refine gd_i ?_; intro hg; try simp only [hg]) | (refine ari ?_; first | omega | (simp only [DD, LL] <;> omega) | (go_unwrap; omega)) | ((first | refine stq ?_ | show (_ : Post) _ _ _ | (refine schedW_alt_k ?_ ?_; intro K hK)); focus (simp only [hd2, hgs, hEl, hEt, sub20, sub21, cut, List.length_cons, List.length_nil, Nat.zero_add, SA, Nat.reduceAdd, reduceIte, Nat.reduceEqDiff, Nat.reduceBEq, reduceCtorEq]; (try go_unwrap; try simp only [hd2, hgs, hEl, hEt, sub20, sub21, cut, List.length_cons, List.length_nil, Nat.zero_add, RR, reduceCtorEq]))) | refine And.intro ?_ ?_ | exact Or.inr ⟨rfl, Nat.le_refl _⟩ | exact (fun h => Bool.noConfusion h))
      all_goals exact ⟨j + 1, (by rw [hst]; simp only [List.length_append, List.length_cons, List.length_nil]; exact (by first | rfl | (simp only [TT, MObj.kill, PV.kill, Nat.reduceLeDiff, reduceIte, Nat.le_refl, Nat.zero_le, Nat.not_le, Nat.lt_irrefl]; done) | (simp [trimE, trimM, MObj.kill, PV.kill]; done))), (by rw [hst, hmm]; exact (by first | rfl | (simp only [TT, MObj.kill, PV.kill, Nat.reduceLeDiff, reduceIte, Nat.le_refl, Nat.zero_le, Nat.not_le, Nat.lt_irrefl]; done) | (simp [trimE, trimM, MObj.kill, PV.kill]; done))), by omega, by omega⟩
    · have hd2 : decide ((j : Int) < C.length) = false := by simp only [decide_eq_false_iff_not]; omega
      rw [List.take_of_length_le h']
      repeat' (first | exact True.intro | (refine PW.seqK ?_; intro K hK) | refine stp ?_ | refine seqK_n ‹_› ?_ | refine seqK_r ‹_› ?_ | refine seqK_e ‹_› ?_ | exact schedW_stop_i | refine schK_n ‹_› ?_ | (refine PW.cond rfl ?_ ?_ <;> intro hcond <;> (try contradiction) <;> try simp only [DD] at hcond) | (refine gd_i ?_; intro hg; try simp only [hg]) | (refine ari ?_; first | omega | (simp only [DD, LL] <;> omega) | (go_unwrap; omega)) | ((first | refine stq ?_ | show (_ : Post) _ _ _ | (refine schedW_alt_k ?_ ?_; intro K hK)); focus (simp only [hd2, SA, Nat.reduceAdd, reduceIte, Nat.reduceEqDiff, Nat.reduceBEq, reduceCtorEq]; (try go_unwrap; try simp only [hd2, RR, reduceCtorEq]))) | refine And.intro ?_ ?_ | exact Or.inr ⟨rfl, Nat.le_refl _⟩ | exact (fun h => Bool.noConfusion h))
      all_goals exact ⟨i + 1, (by rw [hCt]; exact (by first | rfl | (simp only [TT, MObj.kill, PV.kill, Nat.reduceLeDiff, reduceIte, Nat.le_refl, Nat.zero_le, Nat.not_le, Nat.lt_irrefl]; done) | (simp [trimE, trimM, MObj.kill, PV.kill]; done))), (by rw [hCt]; exact (by first | rfl | (simp only [TT, MObj.kill, PV.kill, Nat.reduceLeDiff, reduceIte, Nat.le_refl, Nat.zero_le, Nat.not_le, Nat.lt_irrefl]; done) | (simp [trimE, trimM, MObj.kill, PV.kill]; done))), by omega, by omega⟩
  have hd : decide ((i : Int) < 2) = false := by simp only [decide_eq_false_iff_not]; omega
  obtain rfl : i = 2 := by omega
  have hAB : endsL (([A, B].take 2).flatten) = endsL A ++ endsL B := by simp [endsL]
  have tl2 := tl 2
  rw [hAB] at tl2 ⊢
  generalize endsL A ++ endsL B = es at *
  have h42 := v42 (G := G) es hs (by omega)
  have hEl : ((intL es).length : Nat) = es.length := by simp
  have hEt : (intL es).take es.length = intL es := List.take_of_length_le (by simp)
  have h43 : ∀ μ : Mem, μ.get 3 = some (.row none (intL es)) → _ := fun μ h => v43 (G := G) (μ := μ) (t := 3) es (by omega) h
  rw [hcs] at h43
  repeat' (first | exact True.intro | (refine PW.stop (x := .seq (.region false (⟨some 43, none, .rd .mov [.tmp 7]⟩ :: _) _) _) ?_) | (refine PW.seqK ?_; intro K hK) | refine stp ?_ | refine seqK_n ‹_› ?_ | refine seqK_r ‹_› ?_ | refine seqK_e ‹_› ?_ | exact schedW_stop_i | refine schK_n ‹_› ?_ | (refine PW.cond rfl ?_ ?_ <;> intro hcond <;> (try contradiction) <;> try simp only [DD] at hcond) | (refine goCall_P e43 (h43 _ rfl) ?_; rintro p μ' ⟨rfl, rfl⟩; simp only [hd, hEl, hEt, Nat.le_refl, SA, Nat.reduceAdd, reduceIte, Nat.reduceEqDiff, Nat.reduceBEq, reduceCtorEq]) | (refine gd_i ?_; intro hg; try simp only [hg]) | refine goCall_W e42 (h42) ?_ ?_ ?_ ?_ | (refine ari ?_; first | omega | (simp only [DD, LL] <;> omega) | (go_unwrap; omega)) | ((first | refine stq ?_ | show (_ : Post) _ _ _ | (refine schedW_alt_k ?_ ?_; intro K hK)); focus (simp only [hd, hEl, hEt, Nat.le_refl, SA, Nat.reduceAdd, reduceIte, Nat.reduceEqDiff, Nat.reduceBEq, reduceCtorEq]; (try go_unwrap; try simp only [hd, hEl, hEt, Nat.le_refl, RR, reduceCtorEq]))) | refine And.intro ?_ ?_ | exact Or.inr ⟨rfl, Nat.le_refl _⟩ | exact (fun h => Bool.noConfusion h))
  refine ⟨?_⟩
  have hcr : ((intL (cmpR es)).length : Nat) = es.length := by simp [cmpR_len]
  have hce : cs.length ≤ es.length := by rw [← hcs]; exact compact_len es
  have hct : (intL (cmpR es)).take cs.length = intL cs := by rw [← hcs]; exact cmp_take es
  refine PW.frz 3 (.row none (intL (cmpR es))) ?_ ?_ ?_
  · rfl
  · rfl
  simp only [SA, Nat.reduceAdd, reduceIte, Nat.reduceEqDiff, Nat.reduceBEq, reduceCtorEq, PV.frz, MObj.frz, frzM, frzSl, hcr, hct, hce, true_and, and_self, if_true]
  refine PW.own (some 2) 12 rfl ?_
  refine PW.sw 0 4 (by simp) (by simp) rfl rfl ?_
  simp only [swE, swM, swL, List.map_cons, List.map_nil, List.cons_append, List.nil_append, Option.map_some, Option.map_none, MObj.ren, PV.ren, swp, List.set_cons_zero, List.set_cons_succ, List.getD_cons_zero, List.getD_cons_succ, List.length_cons, List.length_nil, Nat.reduceAdd, Nat.reduceEqDiff, if_true, if_false, reduceIte]
  have hcl2 : ((intL cs).length : Nat) = cs.length := by simp
  have w1 : IntKind.i64.wrap ((cs.length : Int) - 1) = ((cs.length - 1 : Nat) : Int) := (IntWalk.i64_in _ (by omega)).trans (by omega)
  have mx : max (((cs.length - 1 : Nat) : Int)) 0 = ((cs.length - 1 : Nat) : Int) := by omega
  repeat' (first | exact True.intro | (refine PW.seqK ?_; intro K hK) | refine stp ?_ | refine seqK_n ‹_› ?_ | refine seqK_r ‹_› ?_ | refine seqK_e ‹_› ?_ | exact schedW_stop_i | refine schK_n ‹_› ?_ | (refine PW.cond rfl ?_ ?_ <;> intro hcond <;> (try contradiction) <;> try simp only [DD] at hcond) | (refine gd_i ?_; intro hg; try simp only [hg]) | (refine ari ?_; first | omega | (simp only [DD, LL] <;> omega) | (go_unwrap; omega)) | ((first | refine stq ?_ | show (_ : Post) _ _ _ | (refine schedW_alt_k ?_ ?_; intro K hK)); focus (simp only [hcl2, w1, mx, SA, Nat.reduceAdd, reduceIte, Nat.reduceEqDiff, Nat.reduceBEq, reduceCtorEq]; (try go_unwrap; try simp only [hcl2, w1, mx, RR, reduceCtorEq]))) | refine And.intro ?_ ?_ | exact Or.inr ⟨rfl, Nat.le_refl _⟩ | exact (fun h => Bool.noConfusion h))
  refine PW.loopG (σ := Nat) 5 (fun _ _ => rfl) [2, 3, 4, 6, 7, 12, 46, 47] (fun i => [.fn g [] [], .ref 4 0, .ref 1 0, .ref 2 0, .list none (intL cs), .sl (some 2) 0 (O i).length, .int .i64 ((cs.length - 1 : Nat) : Int), .int .i64 i])
    (fun i => [some (.row (some 2) ((O i).map spP)), some (.var (some 1) (.agg [spL B])), some (.var (some 1) (.agg [.nilSl])), none, some (.var (some 1) (.agg [spL A]))]) (fun i => i ≤ cs.length - 1) (fun i => cs.length - 1 - i) 0 ?_ (by rw [hO0]; rfl) (by omega) ?_
  · simp only [SA, Nat.reduceAdd, reduceIte, Nat.reduceEqDiff, Nat.reduceBEq, reduceCtorEq, hO0]; rfl
  clear hi hd
  intro i hi
  simp only [List.zip_cons_cons, List.zip_nil_left]
  rcases Nat.lt_or_ge i (cs.length - 1) with h | h
  · have hd : decide ((i : Int) < ((cs.length - 1 : Nat) : Int)) = true := by simp only [decide_eq_true_eq]; omega
    have hi1 : i + 1 < cs.length := by omega
    have hOi := hO i hi1
    have g0 : (intL cs).getD i .junk = .int .i64 cs[i] := by simp [List.getD, show i < cs.length by omega]
    have g1 : (intL cs).getD (i + 1) .junk = .int .i64 cs[i + 1] := by simp [List.getD, hi1]
    have wi : IntKind.i64.wrap ((i : Int) + 1) = ((i + 1 : Nat) : Int) := (IntWalk.i64_in _ (by omega)).trans (by omega)
    have hga := v44 (G := G) A hA cs[i]
    have hgb := v44 (G := G) B hB cs[i]
    have hgk := hg (hasM A cs[i]) (hasM B cs[i])
    generalize cs[i] = a at *
    generalize cs[i + 1] = b at *
    simp only [setP] at hga hgb
    generalize hasM A a = x at *
    generalize hasM B a = y at *
    cases hk : KP x y with
    | true =>
      rw [hk] at hgk
      rw [if_pos hk] at hOi
      have h27 := frm hOi [some (.var (some 1) (.agg [spL B])), some (.var (some 1) (.agg [.nilSl])), none, some (.var (some 1) (.agg [spL A]))] (by simp [PV.kill, spP]) (by simp [MObj.kill, PV.kill, spP]) (by simp [MObj.kill, PV.kill, spP])
      simp only [spP] at h27
      repeat' (first | exact True.intro | (refine PW.seqA (E := ?_) (M := ?_) ?_ ?_; rotate_left 2) | exact mergeQ_mk _ _ | (refine PW.seqK ?_; intro K hK) | refine stp ?_ | refine seqK_n ‹_› ?_ | refine seqK_r ‹_› ?_ | refine seqK_e ‹_› ?_ | exact schedW_stop_i | refine schK_n ‹_› ?_ | (refine PW.cond rfl ?_ ?_ <;> intro hcond <;> (try contradiction) <;> try simp only [DD] at hcond) | (apply goCall_V e44; (case hV => (simp only [hd, hcl2, g0, g1, wi, sa1, cut, List.nil_append, List.cons_append, List.all_cons, SA, Nat.reduceAdd, reduceIte, Nat.reduceEqDiff, Nat.reduceBEq, reduceCtorEq]; (try go_unwrap; try simp only [hd, hcl2, g0, g1, wi, sa1, cut, List.nil_append, List.cons_append, List.all_cons, RR, reduceCtorEq]); exact hga)); (try (case hs => rfl)); (try (case hf => first | exact Or.inl rfl | exact Or.inr ⟨rfl, rfl⟩ | (refine Or.inl ?_; simp only [hd, hcl2, g0, g1, wi, sa1, cut, List.nil_append, List.cons_append, List.all_cons, SA, Nat.reduceAdd, reduceIte, Nat.reduceEqDiff, Nat.reduceBEq, reduceCtorEq]; done) | (refine Or.inr ⟨rfl, ?_⟩; simp only [hd, hcl2, g0, g1, wi, sa1, cut, List.nil_append, List.cons_append, List.all_cons, SA, Nat.reduceAdd, reduceIte, Nat.reduceEqDiff, Nat.reduceBEq, reduceCtorEq]; done))); all_goals (first | (simp only [hd, hcl2, g0, g1, wi, sa1, cut, List.nil_append, List.cons_append, List.all_cons, SA, Nat.reduceAdd, reduceIte, Nat.reduceEqDiff, Nat.reduceBEq, reduceCtorEq]; (try go_unwrap; try simp only [hd, hcl2, g0, g1, wi, sa1, cut, List.nil_append, List.cons_append, List.all_cons, RR, reduceCtorEq])) | (show Env; skip) | (show Mem; skip))) | (apply goCall_V e44; (case hV => (simp only [hd, hcl2, g0, g1, wi, sa1, cut, List.nil_append, List.cons_append, List.all_cons, SA, Nat.reduceAdd, reduceIte, Nat.reduceEqDiff, Nat.reduceBEq, reduceCtorEq]; (try go_unwrap; try simp only [hd, hcl2, g0, g1, wi, sa1, cut, List.nil_append, List.cons_append, List.all_cons, RR, reduceCtorEq]); exact hgb)); (try (case hs => rfl)); (try (case hf => first | exact Or.inl rfl | exact Or.inr ⟨rfl, rfl⟩ | (refine Or.inl ?_; simp only [hd, hcl2, g0, g1, wi, sa1, cut, List.nil_append, List.cons_append, List.all_cons, SA, Nat.reduceAdd, reduceIte, Nat.reduceEqDiff, Nat.reduceBEq, reduceCtorEq]; done) | (refine Or.inr ⟨rfl, ?_⟩; simp only [hd, hcl2, g0, g1, wi, sa1, cut, List.nil_append, List.cons_append, List.all_cons, SA, Nat.reduceAdd, reduceIte, Nat.reduceEqDiff, Nat.reduceBEq, reduceCtorEq]; done))); all_goals (first | (simp only [hd, hcl2, g0, g1, wi, sa1, cut, List.nil_append, List.cons_append, List.all_cons, SA, Nat.reduceAdd, reduceIte, Nat.reduceEqDiff, Nat.reduceBEq, reduceCtorEq]; (try go_unwrap; try simp only [hd, hcl2, g0, g1, wi, sa1, cut, List.nil_append, List.cons_append, List.all_cons, RR, reduceCtorEq])) | (show Env; skip) | (show Mem; skip))) | (refine goCall_K 0 e27 h27 rfl ?_; rintro p μ' ⟨rfl, rfl⟩; simp only [hd, hcl2, g0, g1, wi, sa1, cut, List.nil_append, List.cons_append, List.all_cons, SA, Nat.reduceAdd, reduceIte, Nat.reduceEqDiff, Nat.reduceBEq, reduceCtorEq]) | (refine gd_i ?_; intro hg; try simp only [hg]) | refine goCall_W eg (hgk) ?_ ?_ ?_ ?_ | (refine ari ?_; first | omega | (simp only [DD, LL] <;> omega) | (go_unwrap; omega)) | ((first | refine stq ?_ | show (_ : Post) _ _ _ | (refine schedW_alt_k ?_ ?_; intro K hK)); focus (simp only [hd, hcl2, g0, g1, wi, sa1, cut, List.nil_append, List.cons_append, List.all_cons, SA, Nat.reduceAdd, reduceIte, Nat.reduceEqDiff, Nat.reduceBEq, reduceCtorEq]; (try go_unwrap; try simp only [hd, hcl2, g0, g1, wi, sa1, cut, List.nil_append, List.cons_append, List.all_cons, RR, reduceCtorEq]))) | refine And.intro ?_ ?_ | exact Or.inr ⟨rfl, Nat.le_refl _⟩ | exact (fun h => Bool.noConfusion h))
      all_goals exact ⟨i + 1, (by first | rfl | (simp only [TT, MObj.kill, PV.kill, Nat.reduceLeDiff, reduceIte, Nat.le_refl, Nat.zero_le, Nat.not_le, Nat.lt_irrefl]; done) | (simp [trimE, trimM, MObj.kill, PV.kill]; done)), (by first | rfl | (simp only [TT, MObj.kill, PV.kill, Nat.reduceLeDiff, reduceIte, Nat.le_refl, Nat.zero_le, Nat.not_le, Nat.lt_irrefl]; done) | (simp [trimE, trimM, MObj.kill, PV.kill]; done)), by omega, by omega⟩
    | false =>
      rw [hk] at hgk
      rw [if_neg (by rw [hk]; simp)] at hOi
      repeat' (first | exact True.intro | (refine PW.seqK ?_; intro K hK) | refine stp ?_ | refine seqK_n ‹_› ?_ | refine seqK_r ‹_› ?_ | refine seqK_e ‹_› ?_ | exact schedW_stop_i | refine schK_n ‹_› ?_ | (refine PW.cond rfl ?_ ?_ <;> intro hcond <;> (try contradiction) <;> try simp only [DD] at hcond) | (apply goCall_V e44; (case hV => (simp only [hd, hcl2, g0, g1, wi, cut, List.nil_append, List.cons_append, List.all_cons, SA, Nat.reduceAdd, reduceIte, Nat.reduceEqDiff, Nat.reduceBEq, reduceCtorEq]; (try go_unwrap; try simp only [hd, hcl2, g0, g1, wi, cut, List.nil_append, List.cons_append, List.all_cons, RR, reduceCtorEq]); exact hga)); (try (case hs => rfl)); (try (case hf => first | exact Or.inl rfl | exact Or.inr ⟨rfl, rfl⟩ | (refine Or.inl ?_; simp only [hd, hcl2, g0, g1, wi, cut, List.nil_append, List.cons_append, List.all_cons, SA, Nat.reduceAdd, reduceIte, Nat.reduceEqDiff, Nat.reduceBEq, reduceCtorEq]; done) | (refine Or.inr ⟨rfl, ?_⟩; simp only [hd, hcl2, g0, g1, wi, cut, List.nil_append, List.cons_append, List.all_cons, SA, Nat.reduceAdd, reduceIte, Nat.reduceEqDiff, Nat.reduceBEq, reduceCtorEq]; done))); all_goals (first | (simp only [hd, hcl2, g0, g1, wi, cut, List.nil_append, List.cons_append, List.all_cons, SA, Nat.reduceAdd, reduceIte, Nat.reduceEqDiff, Nat.reduceBEq, reduceCtorEq]; (try go_unwrap; try simp only [hd, hcl2, g0, g1, wi, cut, List.nil_append, List.cons_append, List.all_cons, RR, reduceCtorEq])) | (show Env; skip) | (show Mem; skip))) | (apply goCall_V e44; (case hV => (simp only [hd, hcl2, g0, g1, wi, cut, List.nil_append, List.cons_append, List.all_cons, SA, Nat.reduceAdd, reduceIte, Nat.reduceEqDiff, Nat.reduceBEq, reduceCtorEq]; (try go_unwrap; try simp only [hd, hcl2, g0, g1, wi, cut, List.nil_append, List.cons_append, List.all_cons, RR, reduceCtorEq]); exact hgb)); (try (case hs => rfl)); (try (case hf => first | exact Or.inl rfl | exact Or.inr ⟨rfl, rfl⟩ | (refine Or.inl ?_; simp only [hd, hcl2, g0, g1, wi, cut, List.nil_append, List.cons_append, List.all_cons, SA, Nat.reduceAdd, reduceIte, Nat.reduceEqDiff, Nat.reduceBEq, reduceCtorEq]; done) | (refine Or.inr ⟨rfl, ?_⟩; simp only [hd, hcl2, g0, g1, wi, cut, List.nil_append, List.cons_append, List.all_cons, SA, Nat.reduceAdd, reduceIte, Nat.reduceEqDiff, Nat.reduceBEq, reduceCtorEq]; done))); all_goals (first | (simp only [hd, hcl2, g0, g1, wi, cut, List.nil_append, List.cons_append, List.all_cons, SA, Nat.reduceAdd, reduceIte, Nat.reduceEqDiff, Nat.reduceBEq, reduceCtorEq]; (try go_unwrap; try simp only [hd, hcl2, g0, g1, wi, cut, List.nil_append, List.cons_append, List.all_cons, RR, reduceCtorEq])) | (show Env; skip) | (show Mem; skip))) | (refine gd_i ?_; intro hg; try simp only [hg]) | refine goCall_W eg (hgk) ?_ ?_ ?_ ?_ | (refine ari ?_; first | omega | (simp only [DD, LL] <;> omega) | (go_unwrap; omega)) | ((first | refine stq ?_ | show (_ : Post) _ _ _ | (refine schedW_alt_k ?_ ?_; intro K hK)); focus (simp only [hd, hcl2, g0, g1, wi, cut, List.nil_append, List.cons_append, List.all_cons, SA, Nat.reduceAdd, reduceIte, Nat.reduceEqDiff, Nat.reduceBEq, reduceCtorEq]; (try go_unwrap; try simp only [hd, hcl2, g0, g1, wi, cut, List.nil_append, List.cons_append, List.all_cons, RR, reduceCtorEq]))) | refine And.intro ?_ ?_ | exact Or.inr ⟨rfl, Nat.le_refl _⟩ | exact (fun h => Bool.noConfusion h))
      all_goals exact ⟨i + 1, (by rw [hOi]; exact (by first | rfl | (simp only [TT, MObj.kill, PV.kill, Nat.reduceLeDiff, reduceIte, Nat.le_refl, Nat.zero_le, Nat.not_le, Nat.lt_irrefl]; done) | (simp [trimE, trimM, MObj.kill, PV.kill]; done))), (by rw [hOi]; exact (by first | rfl | (simp only [TT, MObj.kill, PV.kill, Nat.reduceLeDiff, reduceIte, Nat.le_refl, Nat.zero_le, Nat.not_le, Nat.lt_irrefl]; done) | (simp [trimE, trimM, MObj.kill, PV.kill]; done))), by omega, by omega⟩
  have hd : decide ((i : Int) < ((cs.length - 1 : Nat) : Int)) = false := by simp only [decide_eq_false_iff_not]; omega
  obtain rfl : i = cs.length - 1 := by omega
  repeat' (first | exact True.intro | (refine PW.stop (x := .seq (.region false (⟨some 77, none, .rd .mov [.tmp 12]⟩ :: _) _) _) ?_) | (refine PW.seqK ?_; intro K hK) | refine stp ?_ | refine seqK_n ‹_› ?_ | refine seqK_r ‹_› ?_ | refine seqK_e ‹_› ?_ | exact schedW_stop_i | refine schK_n ‹_› ?_ | (refine PW.cond rfl ?_ ?_ <;> intro hcond <;> (try contradiction) <;> try simp only [DD] at hcond) | (refine gd_i ?_; intro hg; try simp only [hg]) | (refine ari ?_; first | omega | (simp only [DD, LL] <;> omega) | (go_unwrap; omega)) | ((first | refine stq ?_ | show (_ : Post) _ _ _ | (refine schedW_alt_k ?_ ?_; intro K hK)); focus (simp only [hd, SA, Nat.reduceAdd, reduceIte, Nat.reduceEqDiff, Nat.reduceBEq, reduceCtorEq]; (try go_unwrap; try simp only [hd, RR, reduceCtorEq]))) | refine And.intro ?_ ?_ | exact Or.inr ⟨rfl, Nat.le_refl _⟩ | exact (fun h => Bool.noConfusion h))
  refine ⟨?_⟩
  generalize O (cs.length - 1) = R at *
  have hRl : ((R.map spP).length : Nat) = R.length := by simp
  have hRt : (R.map spP).take R.length = R.map spP := List.take_of_length_le (by simp)
  refine PW.frz 0 (.row (some 2) (R.map spP)) ?_ ?_ ?_
  · rfl
  · rfl
  simp only [SA, Nat.reduceAdd, reduceIte, Nat.reduceEqDiff, Nat.reduceBEq, reduceCtorEq, PV.frz, MObj.frz, frzM, frzSl, hRl, hRt, Nat.le_refl, and_self, if_true]
  repeat' (first | exact True.intro | (exact Or.inr ⟨rfl, by decide⟩) | (refine PW.seqK ?_; intro K hK) | refine stp ?_ | refine seqK_n ‹_› ?_ | refine seqK_r ‹_› ?_ | refine seqK_e ‹_› ?_ | exact schedW_stop_i | refine schK_n ‹_› ?_ | (refine PW.cond rfl ?_ ?_ <;> intro hcond <;> (try contradiction) <;> try simp only [DD] at hcond) | (refine gd_i ?_; intro hg; try simp only [hg]) | (refine ari ?_; first | omega | (simp only [DD, LL] <;> omega) | (go_unwrap; omega)) | ((first | refine stq ?_ | show (_ : Post) _ _ _ | (refine schedW_alt_k ?_ ?_; intro K hK)); focus (simp only [SA, Nat.reduceAdd, reduceIte, Nat.reduceEqDiff, Nat.reduceBEq, reduceCtorEq]; (try go_unwrap; try simp only [RR, reduceCtorEq]))) | refine And.intro ?_ ?_ | exact Or.inr ⟨rfl, Nat.le_refl _⟩ | exact (fun h => Bool.noConfusion h))
end Go.Proofs.YtedjaohonijemaaDoor

