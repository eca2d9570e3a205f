import Derived.Test.YthekpjhffciakaaDoorQ13
import Derived.Test.YthekpjhffciakaaDoorQ11
import Derived.Test.YthekpjhffciakaaDoorQ12
import Derived.Test.YthekpjhffciakaaDoorP4
namespace Go.Proofs.YthekpjhffciakaaDoor
open Go PG Go.Proofs
set_option linter.unusedSimpArgs false
set_option linter.unusedVariables false
set_option maxHeartbeats 4000000
set_option maxRecDepth 100000
/-! A sum, by what a factor comes to -/
abbrev varR : Mem := [some (.var none (.ref 0 0))]
theorem v71 (l : List Tok) (hl : l.length ≤ 100000) (fac : PS → Int × PS) (m : Nat) (hfac : ∀ s, Inv l s → l.length - s.at_ ≤ m → RdC l 73 [.ref 0 0] varR s (fac s)) (hgood : GoodF l fac m) (s : PS) (hI : Inv l s) (hm : l.length - s.at_ ≤ m) :
    RdC l 71 [.ref 2 0] varR s (rowP l fac opsM s) := by
  refine PCalls.of_PW Tryd.func71 k71 mix (by simp [c71]) ?_
  simp only [c71, L71, CC, argE]
  have h72 := v72M l hl 73 [.ref 0 0] [] e73 fac m varR (by simp [varR, MObj.kill, PV.kill, killTag]) hfac hgood (by simp [PV.kill, killTag]) s hI hm
  simp only [RdC, varR] at h72 ⊢
  repeat' (first | exact True.intro | (refine PW.seqK ?_; intro K hK) | refine stp ?_ | refine seqK_n ‹_› ?_ | refine seqK_r ‹_› ?_ | refine seqK_e ‹_› ?_ | exact schedW_stop_i | refine schK_n ‹_› ?_ | (refine PW.cond rfl ?_ ?_ <;> intro hcond <;> (try contradiction) <;> try simp only [DD] at hcond) | (refine goCall_K 1 e72 h72 rfl ?_; rintro p μ' ⟨rfl, rfl⟩; simp only [SA, Nat.reduceAdd, reduceIte, Nat.reduceEqDiff, Nat.reduceBEq, reduceCtorEq]) | (refine gd_i ?_; intro hg; try simp only [hg]) | (refine ari ?_; first | omega | (simp only [DD, LL] <;> omega) | (go_unwrap; omega)) | ((first | refine stq ?_ | show (_ : Post) _ _ _ | (refine schedW_alt_k ?_ ?_; intro K hK)); focus (simp only [SA, Nat.reduceAdd, reduceIte, Nat.reduceEqDiff, Nat.reduceBEq, reduceCtorEq]; (try go_unwrap; try simp only [RR, reduceCtorEq]))) | refine And.intro ?_ ?_ | exact Or.inr ⟨rfl, Nat.le_refl _⟩ | exact (fun h => Bool.noConfusion h))
  all_goals rfl
theorem v40 (l : List Tok) (hl : l.length ≤ 100000) (fac : PS → Int × PS) (m : Nat) (hfac : ∀ s, Inv l s → l.length - s.at_ ≤ m → RdC l 73 [.ref 0 0] varR s (fac s)) (hgood : GoodF l fac m) (s : PS) (hI : Inv l s) (hm : l.length - s.at_ ≤ m) :
    RdC l 40 [.ref 0 0] [] s (rowP l (rowP l fac opsM) opsA s) := by
  have h72 := v72A l hl 71 [] [.ref 2 0] e71 (rowP l fac opsM) m varR (by simp [varR, MObj.kill, PV.kill, killTag]) (fun s hI hm => v71 l hl fac m hfac hgood s hI hm) (rowP_good hgood) (by simp [PV.kill, killTag]) s hI hm
  generalize rowP l (rowP l fac opsM) opsA s = r at h72
  refine PCalls.moves (mv := fun t => t == 1 || decide (2 ≤ t)) (fun t ht h => ?_) ?_
  · simp only [List.length_cons, List.length_nil] at ht
    simp only [Bool.or_eq_true, beq_iff_eq, decide_eq_true_eq] at h
    simp only [killTag, beq_iff_eq]; omega
  refine PCalls.of_PW Tryd.func40 k40 mix (by simp [c40]) ?_
  simp only [c40, L40, CC, argE]
  simp only [RdC, varR] at h72
  repeat' (first | exact True.intro | exact (rfl : (partSh (PV.ref 0 0) none).isSome = true) | (refine PW.stop (x := .ret) ?_) | (refine PW.seqK ?_; intro K hK) | refine stp ?_ | refine seqK_n ‹_› ?_ | refine seqK_r ‹_› ?_ | refine seqK_e ‹_› ?_ | exact schedW_stop_i | refine schK_n ‹_› ?_ | (refine PW.cond rfl ?_ ?_ <;> intro hcond <;> (try contradiction) <;> try simp only [DD] at hcond) | (refine goCall_K 1 e72 h72 rfl ?_; rintro p μ' ⟨rfl, rfl⟩; simp only [SA, Nat.reduceAdd, reduceIte, Nat.reduceEqDiff, Nat.reduceBEq, reduceCtorEq]) | (refine gd_i ?_; intro hg; try simp only [hg]) | (refine ari ?_; first | omega | (simp only [DD, LL] <;> omega) | (go_unwrap; omega)) | ((first | refine stq ?_ | show (_ : Post) _ _ _ | (refine schedW_alt_k ?_ ?_; intro K hK)); focus (simp only [SA, Nat.reduceAdd, reduceIte, Nat.reduceEqDiff, Nat.reduceBEq, reduceCtorEq]; (try go_unwrap; try simp only [RR, reduceCtorEq]))) | refine And.intro ?_ ?_ | exact Or.inr ⟨rfl, Nat.le_refl _⟩ | exact (fun h => Bool.noConfusion h))
  refine ⟨?_⟩
  refine PW.trim 2 (fun t h => by simp [h]) ?_
  simp only [rdP, rowO, TT, MObj.kill, PV.kill, Nat.reduceLeDiff, reduceIte]
  repeat' (first | exact True.intro | (refine PW.seqK ?_; intro K hK) | refine stp ?_ | refine seqK_n ‹_› ?_ | refine seqK_r ‹_› ?_ | refine seqK_e ‹_› ?_ | exact schedW_stop_i | refine schK_n ‹_› ?_ | (refine PW.cond rfl ?_ ?_ <;> intro hcond <;> (try contradiction) <;> try simp only [DD] at hcond) | (refine gd_i ?_; intro hg; try simp only [hg]) | (refine ari ?_; first | omega | (simp only [DD, LL] <;> omega) | (go_unwrap; omega)) | ((first | refine stq ?_ | show (_ : Post) _ _ _ | (refine schedW_alt_k ?_ ?_; intro K hK)); focus (simp only [SA, Nat.reduceAdd, reduceIte, Nat.reduceEqDiff, Nat.reduceBEq, reduceCtorEq]; (try go_unwrap; try simp only [RR, reduceCtorEq]))) | refine And.intro ?_ ?_ | exact Or.inr ⟨rfl, Nat.le_refl _⟩ | exact (fun h => Bool.noConfusion h))
  all_goals rfl
end Go.Proofs.YthekpjhffciakaaDoor

namespace Go.Proofs.YthekpjhffciakaaDoor
open Go PG Go.Proofs
set_option linter.unusedSimpArgs false
set_option linter.unusedVariables false
set_option maxHeartbeats 4000000
set_option maxRecDepth 100000
def idxT (v : List UInt8) : List (List UInt8) → Int → Int
  | [], _ => -1
  | b :: l, i => if v = b then i else idxT v l (i + 1)
theorem v126 (l : List (List UInt8)) (v : List UInt8) (hl : l.length ≤ 9223372036854775806) : VCalls Tryd.prog G0 126 [.list none (l.map PV.str), .str v] (.int .i64 (idxT v l 0)) := by
  refine VCalls.of_PW Tryd.func126 k126 mix (by simp [c126]) ?_
  simp only [c126, L126, CC, argE]
  repeat' (first | exact True.intro | (refine PW.seqK ?_; intro K hK) | refine stp ?_ | refine seqK_n ‹_› ?_ | refine seqK_r ‹_› ?_ | refine seqK_e ‹_› ?_ | exact schedW_stop_i | refine schK_n ‹_› ?_ | (refine PW.cond rfl ?_ ?_ <;> intro hcond <;> (try contradiction) <;> try simp only [DD] at hcond) | (refine gd_i ?_; intro hg; try simp only [hg]) | (refine ari ?_; first | omega | (simp only [DD, LL] <;> omega) | (go_unwrap; omega)) | ((first | refine stq ?_ | show (_ : Post) _ _ _ | (refine schedW_alt_k ?_ ?_; intro K hK)); focus (simp only [SA, Nat.reduceAdd, reduceIte, Nat.reduceEqDiff, Nat.reduceBEq, reduceCtorEq]; (try go_unwrap; try simp only [RR, reduceCtorEq]))) | refine And.intro ?_ ?_ | exact Or.inr ⟨rfl, Nat.le_refl _⟩ | exact (fun h => Bool.noConfusion h))
  refine PW.loop (σ := Nat) [0, 1, 7, 8] (fun j => [.list none (l.map PV.str), .str v, .int .i64 l.length, .int .i64 j]) (fun _ => []) (fun j => j ≤ l.length ∧ idxT v l 0 = idxT v (l.drop j) j) (fun j => l.length - j) 0 ?_ rfl ⟨by omega, by simp⟩ ?_
  · simp only [SA, Nat.reduceAdd, reduceIte, Nat.reduceEqDiff, Nat.reduceBEq, reduceCtorEq, List.length_map]; rfl
  rintro j ⟨hj, hr⟩
  simp only [List.zip_cons_cons, List.zip_nil_left]
  rcases Nat.lt_or_ge j l.length with h | h
  · obtain ⟨b, hd, -, hg⟩ := drop_at h
    rw [hd, idxT] at hr
    have hd' : decide ((j : Int) < l.length) = true := by simp only [decide_eq_true_eq]; omega
    repeat' (first | exact True.intro | (refine PW.seqK ?_; intro K hK) | refine stp ?_ | refine seqK_n ‹_› ?_ | refine seqK_r ‹_› ?_ | refine seqK_e ‹_› ?_ | exact schedW_stop_i | refine schK_n ‹_› ?_ | (refine PW.cond rfl ?_ ?_ <;> intro hcond <;> (try contradiction) <;> try simp only [DD] at hcond) | (refine gd_i ?_; intro hg; try simp only [hg]) | (refine ari ?_; first | omega | (simp only [DD, LL] <;> omega) | (go_unwrap; omega)) | ((first | refine stq ?_ | show (_ : Post) _ _ _ | (refine schedW_alt_k ?_ ?_; intro K hK)); focus (simp only [hd', (hg PV.str).1, List.length_map, SA, Nat.reduceAdd, reduceIte, Nat.reduceEqDiff, Nat.reduceBEq, reduceCtorEq]; (try go_unwrap; try simp only [hd', (hg PV.str).1, List.length_map, RR, reduceCtorEq]))) | refine And.intro ?_ ?_ | exact Or.inr ⟨rfl, Nat.le_refl _⟩ | exact (fun h => Bool.noConfusion h))
    · rw [hr, if_pos hcond]
    · rw [if_neg hcond] at hr
      exact ⟨j + 1, rfl, ⟨h, hr⟩, by omega⟩
  · have hd' : decide ((j : Int) < l.length) = false := by simp only [decide_eq_false_iff_not]; omega
    rw [List.drop_eq_nil_of_le h, idxT] at hr
    repeat' (first | exact True.intro | (refine PW.seqK ?_; intro K hK) | refine stp ?_ | refine seqK_n ‹_› ?_ | refine seqK_r ‹_› ?_ | refine seqK_e ‹_› ?_ | exact schedW_stop_i | refine schK_n ‹_› ?_ | (refine PW.cond rfl ?_ ?_ <;> intro hcond <;> (try contradiction) <;> try simp only [DD] at hcond) | (refine gd_i ?_; intro hg; try simp only [hg]) | (refine ari ?_; first | omega | (simp only [DD, LL] <;> omega) | (go_unwrap; omega)) | ((first | refine stq ?_ | show (_ : Post) _ _ _ | (refine schedW_alt_k ?_ ?_; intro K hK)); focus (simp only [hd', SA, Nat.reduceAdd, reduceIte, Nat.reduceEqDiff, Nat.reduceBEq, reduceCtorEq]; (try go_unwrap; try simp only [hd', RR, reduceCtorEq]))) | refine And.intro ?_ ?_ | exact Or.inr ⟨rfl, Nat.le_refl _⟩ | exact (fun h => Bool.noConfusion h))
    rw [hr]
theorem idx_call (x : List UInt8) : idxT x callWords 0 = match callNo x with | none => -1 | some i => (i : Int) := by
  unfold callNo callWords
  simp only [idxT, List.idxOf?, List.findIdx?_cons, List.findIdx?_nil, beq_iff_eq]
  by_cases h0 : x = [108, 101, 97, 115, 116]
  · subst h0; rfl
  by_cases h1 : x = [109, 111, 115, 116]
  · subst h1; rfl
  by_cases h2 : x = [105, 102]
  · subst h2; rfl
  by_cases h3 : x = [108, 101, 115, 115]
  · subst h3; rfl
  by_cases h4 : x = [101, 113, 117, 97, 108]
  · subst h4; rfl
  rw [if_neg h0, if_neg h1, if_neg h2, if_neg h3, if_neg h4, if_neg (fun h => h0 h.symm), if_neg (fun h => h1 h.symm), if_neg (fun h => h2 h.symm), if_neg (fun h => h3 h.symm), if_neg (fun h => h4 h.symm)]
  rfl
theorem callNo_lt {x : List UInt8} {i : Nat} (h : callNo x = some i) : i < 5 := by
  unfold callNo at h
  have := (List.idxOf?_eq_some_iff.1 h).1
  exact this
end Go.Proofs.YthekpjhffciakaaDoor

namespace Go.Proofs.YthekpjhffciakaaDoor
open Go PG Go.Proofs
set_option linter.unusedSimpArgs false
set_option linter.unusedVariables false
set_option maxHeartbeats 4000000
set_option maxRecDepth 100000
theorem PCalls.sub2 {P : Program} {G : Globs} {f : Nat} {a p q : PV} {μ : Mem} {mv : Nat → Bool} {R : PV → Mem → Prop} (h : PCalls P G f [a, q] μ mv R) (hp : p.noOwn = true) (hs : Sub p q) : PCalls P G f [a, p] μ mv R := by
  intro w κ vs hS hG hr
  refine h w κ vs hS hG ⟨hr.1, fun i v x hv hx => ?_⟩
  match i, hx with
  | 0, hx => exact hr.2 0 v x hv hx
  | 1, hx =>
    simp only [List.getElem?_cons_succ, List.getElem?_cons_zero, Option.some.injEq] at hx
    subst hx
    exact .closed ((rep_noOwn (hr.2 1 v p hv rfl) hp).sub hs)
abbrev nmP (t : List UInt8) : Int := (numOf t).1
abbrev tokC (l : List Tok) (i : Nat) : PV := .agg [.int .i64 (tkAt l i).1, .str (tkAt l i).2.1, .int .i64 (tkAt l i).2.2]
theorem v73 (l : List Tok) (hl : l.length ≤ 100000) (htx : ∀ i, (tkAt l i).2.1.length ≤ 100000) (sum : PS → Int × PS) (m : Nat) (hsum : ∀ s, Inv l s → l.length - s.at_ ≤ m → ∀ ν : Mem, ν.map (Option.map (MObj.kill (killTag 1))) = ν → RdC l 40 [.ref 0 0] ν s (sum s)) (hgood : GoodF l sum m)
    (hcall : ∀ s, Inv l s → Inv l (adv s 2) → l.length - s.at_ ≤ m + 1 → RdC l 100 [.ref 0 0] [] s (callP l sum s)) (s : PS) (hI : Inv l s) (hm : l.length - s.at_ ≤ m + 1) :
    RdC l 73 [.ref 0 0] [] s (factorP nmP l true sum s) := by
  refine PCalls.moves (mv := fun t => t == 1 || decide (2 ≤ t)) (fun t ht h => ?_) ?_
  · simp only [List.length_cons, List.length_nil] at ht
    simp only [Bool.or_eq_true, beq_iff_eq, decide_eq_true_eq] at h
    simp only [killTag, beq_iff_eq]; omega
  refine PCalls.of_PW Tryd.func73 k73 mix (by simp [c73]) ?_
  simp only [c73, L73, CC, argE, rdP, rowO]
  obtain ⟨hlt, hle, he, h0⟩ := hI
  have hsc : ∀ (a b : Int) (t : List UInt8), ∀ c ∈ [PV.int IntKind.i64 a, PV.str t, PV.int IntKind.i64 b], c.scalar = true := by
    intro a b t c hc; simp at hc; rcases hc with rfl | rfl | rfl <;> rfl
  have hg := tk_get l s.at_ hlt
  have hlen := tks_len l
  have htk : (s.out.map ndP).take s.out.length = s.out.map ndP := List.take_of_length_le (by simp)
  have wa : IntKind.i64.wrap ((s.at_ : Int) + 1) = ((s.at_ + 1 : Nat) : Int) := by rw [IntWalk.i64_in _ (by omega)]; simp
  by_cases k2 : (tkAt l s.at_).1 = 2
  · have hF : factorP nmP l true sum s = putP (adv s 1) ⟨0, nmP (tkAt l s.at_).2.1, [], []⟩ := by unfold factorP; rw [if_pos k2]
    rw [hF]
    have d2 : decide (((tkAt l s.at_).1 : Int) = 2) = true := by simp only [decide_eq_true_eq]; omega
    have h20 := v20 (G := G0) (tkAt l s.at_).2.1 (by have := htx s.at_; omega)
    have hpt := (v99 l (adv s 1) ⟨0, nmP (tkAt l s.at_).2.1, [], []⟩ (by simp [adv]; omega)).frame [some (.var (some 3) (tokC l s.at_))] (by simp [MObj.kill, PV.kill]) (by simp [PV.kill, ndP, ndC, kidsP])
    simp only [ndP, ndC, kidsP, List.map_nil] at hpt
    generalize putP (adv s 1) ⟨0, nmP (tkAt l s.at_).2.1, [], []⟩ = r at hpt
    simp only [RdC, rdP, rowO, adv] at hpt
    have hpt := PCalls.sub2 (p := .agg [.int .i64 0, .int .i64 (numOf (tkAt l s.at_).2.1).1, .str [], .nilSl]) hpt (by simp [PV.noOwn]) (.agg (.cons (.refl _) (.cons (.refl _) (.cons (.refl _) (.cons (.nil none) .nil)))))
    repeat' (first | exact True.intro | (refine PW.seqA (E := ?_) (M := ?_) ?_ ?_; rotate_left 2) | exact mergeQ_mk _ _ | exact hsc _ _ _ | exact (rfl : (some 3 : Sh) = some 3) | (exact Or.inr ⟨rfl, by decide⟩) | (refine PW.stop (x := .ret) ?_) | (refine PW.seqK ?_; intro K hK) | refine stp ?_ | refine seqK_n ‹_› ?_ | refine seqK_r ‹_› ?_ | refine seqK_e ‹_› ?_ | exact schedW_stop_i | refine schK_n ‹_› ?_ | (refine PW.cond rfl ?_ ?_ <;> intro hcond <;> (try contradiction) <;> try simp only [DD] at hcond) | (refine goCall_K 1 e99 hpt rfl ?_; rintro p μ' ⟨rfl, rfl⟩; simp only [hg, hlen, d2, wa, q2, SA, Nat.reduceAdd, reduceIte, Nat.reduceEqDiff, Nat.reduceBEq, reduceCtorEq]) | (refine gd_i ?_; intro hg; try simp only [hg]) | refine goCall_W e20 (h20) ?_ ?_ ?_ ?_ | (refine ari ?_; first | omega | (simp only [DD, LL] <;> omega) | (go_unwrap; omega)) | ((first | refine stq ?_ | show (_ : Post) _ _ _ | (refine schedW_alt_k ?_ ?_; intro K hK)); focus (simp only [hg, hlen, d2, wa, q2, SA, Nat.reduceAdd, reduceIte, Nat.reduceEqDiff, Nat.reduceBEq, reduceCtorEq]; (try go_unwrap; try simp only [hg, hlen, d2, wa, q2, RR, reduceCtorEq]))) | refine And.intro ?_ ?_ | exact Or.inr ⟨rfl, Nat.le_refl _⟩ | exact (fun h => Bool.noConfusion h))
    refine ⟨?_⟩
    refine PW.trim 2 (fun t h => by simp [h]) ?_
    simp only [rdP, rowO, TT, MObj.kill, PV.kill, Nat.reduceLeDiff, reduceIte]
    repeat' (first | exact True.intro | (refine PW.seqK ?_; intro K hK) | refine stp ?_ | refine seqK_n ‹_› ?_ | refine seqK_r ‹_› ?_ | refine seqK_e ‹_› ?_ | exact schedW_stop_i | refine schK_n ‹_› ?_ | (refine PW.cond rfl ?_ ?_ <;> intro hcond <;> (try contradiction) <;> try simp only [DD] at hcond) | (refine gd_i ?_; intro hg; try simp only [hg]) | (refine ari ?_; first | omega | (simp only [DD, LL] <;> omega) | (go_unwrap; omega)) | ((first | refine stq ?_ | show (_ : Post) _ _ _ | (refine schedW_alt_k ?_ ?_; intro K hK)); focus (simp only [SA, Nat.reduceAdd, reduceIte, Nat.reduceEqDiff, Nat.reduceBEq, reduceCtorEq]; (try go_unwrap; try simp only [RR, reduceCtorEq]))) | refine And.intro ?_ ?_ | exact Or.inr ⟨rfl, Nat.le_refl _⟩ | exact (fun h => Bool.noConfusion h))
    all_goals rfl
  have d2 : decide (((tkAt l s.at_).1 : Int) = 2) = false := by simp only [decide_eq_false_iff_not]; omega
  by_cases k1 : (tkAt l s.at_).1 = 1
  · have d1 : decide (((tkAt l s.at_).1 : Int) = 1) = true := by simp only [decide_eq_true_eq]; omega
    have h1 := tk_lt h0 hlt (by omega)
    have hg1 := tk_get l (s.at_ + 1) h1
    have ht1 : ((s.at_ : Int) + 1).toNat = s.at_ + 1 := by omega
    have hF : factorP nmP l true sum s = if sgn l (adv s 1) [40] then callP l sum s else putP (adv s 1) ⟨1, 0, (tkAt l s.at_).2.1, []⟩ := by unfold factorP; rw [if_neg k2, if_pos k1]
    have d3 : decide (((tkAt l (s.at_ + 1)).1 : Int) = 3) = decide ((tkAt l (s.at_ + 1)).1 = 3) := by rw [Bool.eq_iff_iff, decide_eq_true_eq, decide_eq_true_eq]; omega
    rw [hF]
    by_cases hs : sgn l (adv s 1) [40] = true
    · rw [if_pos hs]
      have h3 := sgn_lt (s := adv s 1) h0 (by simpa [adv] using h1) hs
      have hs2 := hs
      simp only [sgn, adv, Bool.and_eq_true] at hs2
      have d4 : decide ((tkAt l (s.at_ + 1)).2.1 = [40]) = true := hs2.2
      have d5 : decide ((tkAt l (s.at_ + 1)).1 = 3) = true := hs2.1
      have hc := (hcall s ⟨hlt, hle, he, h0⟩ ⟨by simpa [adv] using h3, by simp [adv]; omega, he, h0⟩ hm).frame [some (.var (some 3) (tokC l s.at_)), some (.var (some 3) (tokC l (s.at_ + 1)))] (by simp [MObj.kill, PV.kill]) (by simp [PV.kill])
      generalize callP l sum s = r at hc
      simp only [RdC, rdP, rowO] at hc
      repeat' (first | exact True.intro | (refine PW.seqA (E := ?_) (M := ?_) ?_ ?_; rotate_left 2) | exact mergeQ_mk _ _ | exact hsc _ _ _ | exact (rfl : (some 3 : Sh) = some 3) | (exact Or.inr ⟨rfl, by decide⟩) | (refine PW.stop (x := .ret) ?_) | (refine PW.seqK ?_; intro K hK) | refine stp ?_ | refine seqK_n ‹_› ?_ | refine seqK_r ‹_› ?_ | refine seqK_e ‹_› ?_ | exact schedW_stop_i | refine schK_n ‹_› ?_ | (refine PW.cond rfl ?_ ?_ <;> intro hcond <;> (try contradiction) <;> try simp only [DD] at hcond) | (refine goCall_K 1 e100 hc rfl ?_; rintro p μ' ⟨rfl, rfl⟩; simp only [hg, hg1, hlen, d2, d1, d3, d4, d5, ht1, wa, q2, SA, Nat.reduceAdd, reduceIte, Nat.reduceEqDiff, Nat.reduceBEq, reduceCtorEq]) | (refine gd_i ?_; intro hg; try simp only [hg]) | (refine ari ?_; first | omega | (simp only [DD, LL] <;> omega) | (go_unwrap; omega)) | ((first | refine stq ?_ | show (_ : Post) _ _ _ | (refine schedW_alt_k ?_ ?_; intro K hK)); focus (simp only [hg, hg1, hlen, d2, d1, d3, d4, d5, ht1, wa, q2, SA, Nat.reduceAdd, reduceIte, Nat.reduceEqDiff, Nat.reduceBEq, reduceCtorEq]; (try go_unwrap; try simp only [hg, hg1, hlen, d2, d1, d3, d4, d5, ht1, wa, q2, RR, reduceCtorEq]))) | refine And.intro ?_ ?_ | exact Or.inr ⟨rfl, Nat.le_refl _⟩ | exact (fun h => Bool.noConfusion h))
      refine ⟨?_⟩
      refine PW.trim 2 (fun t h => by simp [h]) ?_
      simp only [rdP, rowO, TT, MObj.kill, PV.kill, Nat.reduceLeDiff, reduceIte]
      repeat' (first | exact True.intro | (refine PW.seqK ?_; intro K hK) | refine stp ?_ | refine seqK_n ‹_› ?_ | refine seqK_r ‹_› ?_ | refine seqK_e ‹_› ?_ | exact schedW_stop_i | refine schK_n ‹_› ?_ | (refine PW.cond rfl ?_ ?_ <;> intro hcond <;> (try contradiction) <;> try simp only [DD] at hcond) | (refine gd_i ?_; intro hg; try simp only [hg]) | (refine ari ?_; first | omega | (simp only [DD, LL] <;> omega) | (go_unwrap; omega)) | ((first | refine stq ?_ | show (_ : Post) _ _ _ | (refine schedW_alt_k ?_ ?_; intro K hK)); focus (simp only [SA, Nat.reduceAdd, reduceIte, Nat.reduceEqDiff, Nat.reduceBEq, reduceCtorEq]; (try go_unwrap; try simp only [RR, reduceCtorEq]))) | refine And.intro ?_ ?_ | exact Or.inr ⟨rfl, Nat.le_refl _⟩ | exact (fun h => Bool.noConfusion h))
      all_goals rfl
    · rw [if_neg hs]
      have d4 : (decide ((tkAt l (s.at_ + 1)).1 = 3) && decide ((tkAt l (s.at_ + 1)).2.1 = [40])) = false := by
        have : sgn l (adv s 1) [40] = false := by simpa using hs
        exact this
      have hpt := (v99 l (adv s 1) ⟨1, 0, (tkAt l s.at_).2.1, []⟩ (by simp [adv]; omega)).frame [some (.var (some 3) (tokC l s.at_)), some (.var (some 3) (tokC l (s.at_ + 1)))] (by simp [MObj.kill, PV.kill]) (by simp [PV.kill, ndP, ndC, kidsP])
      simp only [ndP, ndC, kidsP, List.map_nil] at hpt
      generalize putP (adv s 1) ⟨1, 0, (tkAt l s.at_).2.1, []⟩ = r at hpt
      simp only [RdC, rdP, rowO, adv] at hpt
      have hpt := PCalls.sub2 (p := .agg [.int .i64 1, .int .i64 0, .str (tkAt l s.at_).2.1, .nilSl]) hpt (by simp [PV.noOwn]) (.agg (.cons (.refl _) (.cons (.refl _) (.cons (.refl _) (.cons (.nil none) .nil)))))
      repeat' (first | exact True.intro | (refine PW.seqA (E := ?_) (M := ?_) ?_ ?_; rotate_left 2) | exact mergeQ_mk _ _ | exact hsc _ _ _ | exact (rfl : (some 3 : Sh) = some 3) | (exact Or.inr ⟨rfl, by decide⟩) | (refine PW.stop (x := .ret) ?_) | (refine PW.seqK ?_; intro K hK) | refine stp ?_ | refine seqK_n ‹_› ?_ | refine seqK_r ‹_› ?_ | refine seqK_e ‹_› ?_ | exact schedW_stop_i | refine schK_n ‹_› ?_ | (refine PW.cond rfl ?_ ?_ <;> intro hcond <;> (try contradiction) <;> try simp only [DD] at hcond) | (refine goCall_K 1 e99 hpt rfl ?_; rintro p μ' ⟨rfl, rfl⟩; simp only [hg, hg1, hlen, d2, d1, d3, d4, ht1, wa, q2, SA, Nat.reduceAdd, reduceIte, Nat.reduceEqDiff, Nat.reduceBEq, reduceCtorEq]) | (refine gd_i ?_; intro hg; try simp only [hg]) | (refine ari ?_; first | omega | (simp only [DD, LL] <;> omega) | (go_unwrap; omega)) | ((first | refine stq ?_ | show (_ : Post) _ _ _ | (refine schedW_alt_k ?_ ?_; intro K hK)); focus (simp only [hg, hg1, hlen, d2, d1, d3, d4, ht1, wa, q2, SA, Nat.reduceAdd, reduceIte, Nat.reduceEqDiff, Nat.reduceBEq, reduceCtorEq]; (try go_unwrap; try simp only [hg, hg1, hlen, d2, d1, d3, d4, ht1, wa, q2, RR, reduceCtorEq]))) | refine And.intro ?_ ?_ | exact Or.inr ⟨rfl, Nat.le_refl _⟩ | exact (fun h => Bool.noConfusion h))
      refine ⟨?_⟩
      refine PW.trim 2 (fun t h => by simp [h]) ?_
      simp only [rdP, rowO, TT, MObj.kill, PV.kill, Nat.reduceLeDiff, reduceIte]
      repeat' (first | exact True.intro | (refine PW.seqK ?_; intro K hK) | refine stp ?_ | refine seqK_n ‹_› ?_ | refine seqK_r ‹_› ?_ | refine seqK_e ‹_› ?_ | exact schedW_stop_i | refine schK_n ‹_› ?_ | (refine PW.cond rfl ?_ ?_ <;> intro hcond <;> (try contradiction) <;> try simp only [DD] at hcond) | (refine gd_i ?_; intro hg; try simp only [hg]) | (refine ari ?_; first | omega | (simp only [DD, LL] <;> omega) | (go_unwrap; omega)) | ((first | refine stq ?_ | show (_ : Post) _ _ _ | (refine schedW_alt_k ?_ ?_; intro K hK)); focus (simp only [SA, Nat.reduceAdd, reduceIte, Nat.reduceEqDiff, Nat.reduceBEq, reduceCtorEq]; (try go_unwrap; try simp only [RR, reduceCtorEq]))) | refine And.intro ?_ ?_ | exact Or.inr ⟨rfl, Nat.le_refl _⟩ | exact (fun h => Bool.noConfusion h))
      all_goals rfl
  have d1 : decide (((tkAt l s.at_).1 : Int) = 1) = false := by simp only [decide_eq_false_iff_not]; omega
  have hv := v98 l s [40] hlt hl
  by_cases hs : sgn l s [40] = true
  case neg =>
    have hs' : sgn l s [40] = false := by simpa using hs
    have hF : factorP nmP l true sum s = failP s 3 := by unfold factorP; rw [if_neg k2, if_neg k1, if_pos hs']
    rw [hF]
    rw [hs'] at hv
    have hf := (v41 l s 3).frame [some (.var (some 3) (tokC l s.at_))] (by simp [MObj.kill, PV.kill]) (by simp [PV.kill])
    generalize failP s 3 = r at hf
    simp only [RdC, rdP, rowO] at hf
    repeat' (first | exact True.intro | (refine PW.seqA (E := ?_) (M := ?_) ?_ ?_; rotate_left 2) | exact mergeQ_mk _ _ | exact hsc _ _ _ | exact (rfl : (some 3 : Sh) = some 3) | (exact Or.inr ⟨rfl, by decide⟩) | (refine PW.stop (x := .ret) ?_) | (refine PW.seqK ?_; intro K hK) | refine stp ?_ | refine seqK_n ‹_› ?_ | refine seqK_r ‹_› ?_ | refine seqK_e ‹_› ?_ | exact schedW_stop_i | refine schK_n ‹_› ?_ | (refine PW.cond rfl ?_ ?_ <;> intro hcond <;> (try contradiction) <;> try simp only [DD] at hcond) | (refine goCall_K 1 e41 hf rfl ?_; rintro p μ' ⟨rfl, rfl⟩; simp only [hg, hlen, d2, d1, SA, Nat.reduceAdd, reduceIte, Nat.reduceEqDiff, Nat.reduceBEq, reduceCtorEq]) | (refine gd_i ?_; intro hg; try simp only [hg]) | refine goCall_L 1 e98 hv (by simp [PV.lend, PV.view, Mem.get, htk]) (by simp [PV.lends, PV.lend, PV.view, PV.seen, fitB, PV.scalar, Mem.get, Sh.size, htk]) (by simp [PV.flat]) ?_ | (refine ari ?_; first | omega | (simp only [DD, LL] <;> omega) | (go_unwrap; omega)) | ((first | refine stq ?_ | show (_ : Post) _ _ _ | (refine schedW_alt_k ?_ ?_; intro K hK)); focus (simp only [hg, hlen, d2, d1, SA, Nat.reduceAdd, reduceIte, Nat.reduceEqDiff, Nat.reduceBEq, reduceCtorEq]; (try go_unwrap; try simp only [hg, hlen, d2, d1, RR, reduceCtorEq]))) | refine And.intro ?_ ?_ | exact Or.inr ⟨rfl, Nat.le_refl _⟩ | exact (fun h => Bool.noConfusion h))
    refine ⟨?_⟩
    refine PW.trim 2 (fun t h => by simp [h]) ?_
    simp only [rdP, rowO, TT, MObj.kill, PV.kill, Nat.reduceLeDiff, reduceIte]
    repeat' (first | exact True.intro | (refine PW.seqK ?_; intro K hK) | refine stp ?_ | refine seqK_n ‹_› ?_ | refine seqK_r ‹_› ?_ | refine seqK_e ‹_› ?_ | exact schedW_stop_i | refine schK_n ‹_› ?_ | (refine PW.cond rfl ?_ ?_ <;> intro hcond <;> (try contradiction) <;> try simp only [DD] at hcond) | (refine gd_i ?_; intro hg; try simp only [hg]) | (refine ari ?_; first | omega | (simp only [DD, LL] <;> omega) | (go_unwrap; omega)) | ((first | refine stq ?_ | show (_ : Post) _ _ _ | (refine schedW_alt_k ?_ ?_; intro K hK)); focus (simp only [SA, Nat.reduceAdd, reduceIte, Nat.reduceEqDiff, Nat.reduceBEq, reduceCtorEq]; (try go_unwrap; try simp only [RR, reduceCtorEq]))) | refine And.intro ?_ ?_ | exact Or.inr ⟨rfl, Nat.le_refl _⟩ | exact (fun h => Bool.noConfusion h))
    all_goals rfl
  rw [hs] at hv
  have h3 := sgn_lt h0 hlt hs
  have hIa : Inv l (adv s 1) := ⟨by simpa [adv] using h3, by simp [adv]; omega, he, h0⟩
  have hsm := hsum (adv s 1) hIa (by simp [adv]; omega) [some (.var (some 3) (tokC l s.at_))] (by simp [MObj.kill, PV.kill])
  have hga := hgood (adv s 1) hIa (by simp [adv]; omega)
  have hF : factorP nmP l true sum s = if (sum (adv s 1)).2.e ≠ 0 then ((sum (adv s 1)).1, (sum (adv s 1)).2) else if sgn l (sum (adv s 1)).2 [41] then ((sum (adv s 1)).1, adv (sum (adv s 1)).2 1) else failP (sum (adv s 1)).2 3 := by
    unfold factorP; rw [if_neg k2, if_neg k1, if_neg (by simp [hs])]; simp
  rw [hF]
  generalize sum (adv s 1) = r at hsm hga
  obtain ⟨n, r⟩ := r
  have hrl := hga.lt
  have hro := hga.out
  have hrle := hga.le
  simp only [adv] at hrl hro hrle ⊢
  have hrk : (r.out.map ndP).take r.out.length = r.out.map ndP := List.take_of_length_le (by simp)
  have wr : IntKind.i64.wrap ((r.at_ : Int) + 1) = ((r.at_ + 1 : Nat) : Int) := by rw [IntWalk.i64_in _ (by omega)]; simp
  simp only [RdC, rdP, rowO, adv] at hsm
  by_cases hre : r.e = 0
  case neg =>
    have d6 : decide (r.e = 0) = false := by simp only [decide_eq_false_iff_not]; exact hre
    rw [if_pos hre]
    repeat' (first | exact True.intro | (refine PW.seqA (E := ?_) (M := ?_) ?_ ?_; rotate_left 2) | exact mergeQ_mk _ _ | exact hsc _ _ _ | exact (rfl : (some 3 : Sh) = some 3) | (exact Or.inr ⟨rfl, by decide⟩) | (refine PW.stop (x := .ret) ?_) | (refine PW.seqK ?_; intro K hK) | refine stp ?_ | refine seqK_n ‹_› ?_ | refine seqK_r ‹_› ?_ | refine seqK_e ‹_› ?_ | exact schedW_stop_i | refine schK_n ‹_› ?_ | (refine PW.cond rfl ?_ ?_ <;> intro hcond <;> (try contradiction) <;> try simp only [DD] at hcond) | (refine goCall_K 1 e40 hsm rfl ?_; rintro p μ' ⟨rfl, rfl⟩; simp only [hg, hlen, d2, d1, wa, q2, d6, SA, Nat.reduceAdd, reduceIte, Nat.reduceEqDiff, Nat.reduceBEq, reduceCtorEq]) | (refine goCallG_skip rfl ?_; simp only [hg, hlen, d2, d1, wa, q2, d6, SA, Nat.reduceAdd, reduceIte, Nat.reduceEqDiff, Nat.reduceBEq, reduceCtorEq]; (try go_unwrap; try simp only [hg, hlen, d2, d1, wa, q2, d6, RR, reduceCtorEq])) | (refine gd_i ?_; intro hg; try simp only [hg]) | refine goCall_L 1 e98 hv (by simp [PV.lend, PV.view, Mem.get, htk]) (by simp [PV.lends, PV.lend, PV.view, PV.seen, fitB, PV.scalar, Mem.get, Sh.size, htk]) (by simp [PV.flat]) ?_ | (refine ari ?_; first | omega | (simp only [DD, LL] <;> omega) | (go_unwrap; omega)) | ((first | refine stq ?_ | show (_ : Post) _ _ _ | (refine schedW_alt_k ?_ ?_; intro K hK)); focus (simp only [hg, hlen, d2, d1, wa, q2, d6, SA, Nat.reduceAdd, reduceIte, Nat.reduceEqDiff, Nat.reduceBEq, reduceCtorEq]; (try go_unwrap; try simp only [hg, hlen, d2, d1, wa, q2, d6, RR, reduceCtorEq]))) | refine And.intro ?_ ?_ | exact Or.inr ⟨rfl, Nat.le_refl _⟩ | exact (fun h => Bool.noConfusion h))
    refine ⟨?_⟩
    refine PW.trim 2 (fun t h => by simp [h]) ?_
    simp only [rdP, rowO, TT, MObj.kill, PV.kill, Nat.reduceLeDiff, reduceIte]
    repeat' (first | exact True.intro | (refine PW.seqK ?_; intro K hK) | refine stp ?_ | refine seqK_n ‹_› ?_ | refine seqK_r ‹_› ?_ | refine seqK_e ‹_› ?_ | exact schedW_stop_i | refine schK_n ‹_› ?_ | (refine PW.cond rfl ?_ ?_ <;> intro hcond <;> (try contradiction) <;> try simp only [DD] at hcond) | (refine gd_i ?_; intro hg; try simp only [hg]) | (refine ari ?_; first | omega | (simp only [DD, LL] <;> omega) | (go_unwrap; omega)) | ((first | refine stq ?_ | show (_ : Post) _ _ _ | (refine schedW_alt_k ?_ ?_; intro K hK)); focus (simp only [SA, Nat.reduceAdd, reduceIte, Nat.reduceEqDiff, Nat.reduceBEq, reduceCtorEq]; (try go_unwrap; try simp only [RR, reduceCtorEq]))) | refine And.intro ?_ ?_ | exact Or.inr ⟨rfl, Nat.le_refl _⟩ | exact (fun h => Bool.noConfusion h))
    all_goals rfl
  have d6 : decide (r.e = 0) = true := by simp only [decide_eq_true_eq]; exact hre
  have hv2 := v98 l r [41] hrl hl
  rw [if_neg (by simp [hre])]
  by_cases hs2 : sgn l r [41] = true
  · rw [hs2] at hv2
    rw [if_pos hs2]
    repeat' (first | exact True.intro | (refine PW.seqA (E := ?_) (M := ?_) ?_ ?_; rotate_left 2) | exact mergeQ_mk _ _ | exact hsc _ _ _ | exact (rfl : (some 3 : Sh) = some 3) | (exact Or.inr ⟨rfl, by decide⟩) | (refine PW.stop (x := .ret) ?_) | (refine PW.seqK ?_; intro K hK) | refine stp ?_ | refine seqK_n ‹_› ?_ | refine seqK_r ‹_› ?_ | refine seqK_e ‹_› ?_ | exact schedW_stop_i | refine schK_n ‹_› ?_ | (refine PW.cond rfl ?_ ?_ <;> intro hcond <;> (try contradiction) <;> try simp only [DD] at hcond) | (refine goCall_K 1 e40 hsm rfl ?_; rintro p μ' ⟨rfl, rfl⟩; simp only [hg, hlen, d2, d1, wa, q2, d6, wr, SA, Nat.reduceAdd, reduceIte, Nat.reduceEqDiff, Nat.reduceBEq, reduceCtorEq]) | (refine goCallG_L 1 e98 hv2 (by simp [okAll, PV.okUnder]) (by simp [PV.under, PV.lend, PV.view, Mem.get, hrk]) (by simp [PV.under, PV.lends, PV.lend, PV.view, PV.seen, fitB, PV.scalar, Mem.get, Sh.size, hrk]) (by simp [PV.flat]) ?_; simp only [hg, hlen, d2, d1, wa, q2, d6, wr, SA, Nat.reduceAdd, reduceIte, Nat.reduceEqDiff, Nat.reduceBEq, reduceCtorEq]) | (refine gd_i ?_; intro hg; try simp only [hg]) | refine goCall_L 1 e98 hv (by simp [PV.lend, PV.view, Mem.get, htk]) (by simp [PV.lends, PV.lend, PV.view, PV.seen, fitB, PV.scalar, Mem.get, Sh.size, htk]) (by simp [PV.flat]) ?_ | (refine ari ?_; first | omega | (simp only [DD, LL] <;> omega) | (go_unwrap; omega)) | ((first | refine stq ?_ | show (_ : Post) _ _ _ | (refine schedW_alt_k ?_ ?_; intro K hK)); focus (simp only [hg, hlen, d2, d1, wa, q2, d6, wr, SA, Nat.reduceAdd, reduceIte, Nat.reduceEqDiff, Nat.reduceBEq, reduceCtorEq]; (try go_unwrap; try simp only [hg, hlen, d2, d1, wa, q2, d6, wr, RR, reduceCtorEq]))) | refine And.intro ?_ ?_ | exact Or.inr ⟨rfl, Nat.le_refl _⟩ | exact (fun h => Bool.noConfusion h))
    refine ⟨?_⟩
    refine PW.trim 2 (fun t h => by simp [h]) ?_
    simp only [rdP, rowO, TT, MObj.kill, PV.kill, Nat.reduceLeDiff, reduceIte]
    repeat' (first | exact True.intro | (refine PW.seqK ?_; intro K hK) | refine stp ?_ | refine seqK_n ‹_› ?_ | refine seqK_r ‹_› ?_ | refine seqK_e ‹_› ?_ | exact schedW_stop_i | refine schK_n ‹_› ?_ | (refine PW.cond rfl ?_ ?_ <;> intro hcond <;> (try contradiction) <;> try simp only [DD] at hcond) | (refine gd_i ?_; intro hg; try simp only [hg]) | (refine ari ?_; first | omega | (simp only [DD, LL] <;> omega) | (go_unwrap; omega)) | ((first | refine stq ?_ | show (_ : Post) _ _ _ | (refine schedW_alt_k ?_ ?_; intro K hK)); focus (simp only [SA, Nat.reduceAdd, reduceIte, Nat.reduceEqDiff, Nat.reduceBEq, reduceCtorEq]; (try go_unwrap; try simp only [RR, reduceCtorEq]))) | refine And.intro ?_ ?_ | exact Or.inr ⟨rfl, Nat.le_refl _⟩ | exact (fun h => Bool.noConfusion h))
    all_goals rfl
  · have hs2' : sgn l r [41] = false := by simpa using hs2
    rw [hs2'] at hv2
    rw [if_neg hs2]
    have hf := (v41 l r 3).frame [some (.var (some 3) (tokC l s.at_))] (by simp [MObj.kill, PV.kill]) (by simp [PV.kill])
    generalize failP r 3 = q at hf
    simp only [RdC, rdP, rowO] at hf
    repeat' (first | exact True.intro | (refine PW.seqA (E := ?_) (M := ?_) ?_ ?_; rotate_left 2) | exact mergeQ_mk _ _ | exact hsc _ _ _ | exact (rfl : (some 3 : Sh) = some 3) | (exact Or.inr ⟨rfl, by decide⟩) | (refine PW.stop (x := .ret) ?_) | (refine PW.seqK ?_; intro K hK) | refine stp ?_ | refine seqK_n ‹_› ?_ | refine seqK_r ‹_› ?_ | refine seqK_e ‹_› ?_ | exact schedW_stop_i | refine schK_n ‹_› ?_ | (refine PW.cond rfl ?_ ?_ <;> intro hcond <;> (try contradiction) <;> try simp only [DD] at hcond) | (refine goCall_K 1 e40 hsm rfl ?_; rintro p μ' ⟨rfl, rfl⟩; simp only [hg, hlen, d2, d1, wa, q2, d6, SA, Nat.reduceAdd, reduceIte, Nat.reduceEqDiff, Nat.reduceBEq, reduceCtorEq]) | (refine goCallG_L 1 e98 hv2 (by simp [okAll, PV.okUnder]) (by simp [PV.under, PV.lend, PV.view, Mem.get, hrk]) (by simp [PV.under, PV.lends, PV.lend, PV.view, PV.seen, fitB, PV.scalar, Mem.get, Sh.size, hrk]) (by simp [PV.flat]) ?_; simp only [hg, hlen, d2, d1, wa, q2, d6, SA, Nat.reduceAdd, reduceIte, Nat.reduceEqDiff, Nat.reduceBEq, reduceCtorEq]) | (refine goCall_K 1 e41 hf rfl ?_; rintro p μ' ⟨rfl, rfl⟩; simp only [hg, hlen, d2, d1, wa, q2, d6, SA, Nat.reduceAdd, reduceIte, Nat.reduceEqDiff, Nat.reduceBEq, reduceCtorEq]) | (refine gd_i ?_; intro hg; try simp only [hg]) | refine goCall_L 1 e98 hv (by simp [PV.lend, PV.view, Mem.get, htk]) (by simp [PV.lends, PV.lend, PV.view, PV.seen, fitB, PV.scalar, Mem.get, Sh.size, htk]) (by simp [PV.flat]) ?_ | (refine ari ?_; first | omega | (simp only [DD, LL] <;> omega) | (go_unwrap; omega)) | ((first | refine stq ?_ | show (_ : Post) _ _ _ | (refine schedW_alt_k ?_ ?_; intro K hK)); focus (simp only [hg, hlen, d2, d1, wa, q2, d6, SA, Nat.reduceAdd, reduceIte, Nat.reduceEqDiff, Nat.reduceBEq, reduceCtorEq]; (try go_unwrap; try simp only [hg, hlen, d2, d1, wa, q2, d6, RR, reduceCtorEq]))) | refine And.intro ?_ ?_ | exact Or.inr ⟨rfl, Nat.le_refl _⟩ | exact (fun h => Bool.noConfusion h))
    refine ⟨?_⟩
    refine PW.trim 2 (fun t h => by simp [h]) ?_
    simp only [rdP, rowO, TT, MObj.kill, PV.kill, Nat.reduceLeDiff, reduceIte]
    repeat' (first | exact True.intro | (refine PW.seqK ?_; intro K hK) | refine stp ?_ | refine seqK_n ‹_› ?_ | refine seqK_r ‹_› ?_ | refine seqK_e ‹_› ?_ | exact schedW_stop_i | refine schK_n ‹_› ?_ | (refine PW.cond rfl ?_ ?_ <;> intro hcond <;> (try contradiction) <;> try simp only [DD] at hcond) | (refine gd_i ?_; intro hg; try simp only [hg]) | (refine ari ?_; first | omega | (simp only [DD, LL] <;> omega) | (go_unwrap; omega)) | ((first | refine stq ?_ | show (_ : Post) _ _ _ | (refine schedW_alt_k ?_ ?_; intro K hK)); focus (simp only [SA, Nat.reduceAdd, reduceIte, Nat.reduceEqDiff, Nat.reduceBEq, reduceCtorEq]; (try go_unwrap; try simp only [RR, reduceCtorEq]))) | refine And.intro ?_ ?_ | exact Or.inr ⟨rfl, Nat.le_refl _⟩ | exact (fun h => Bool.noConfusion h))
    all_goals rfl
end Go.Proofs.YthekpjhffciakaaDoor

namespace PG
open Go
set_option linter.unusedSimpArgs false
set_option linter.unusedVariables false
section
variable {P : Program} {G : Globs} {N : Nat} {w : World} {κ : Kap} {env : Env} {μ : Mem} {mv : Nat → Bool} {Q : Post}
/-- A nil slice in a slot, taken over as a row of its own. -/
theorem PW.ownE {x : PCode} (i : Nat) (sh : Sh) (hi : env.get i = .nilSl) (h : PW P G N mv x ((i, .sl sh μ.length 0) :: env) (μ ++ [some (MObj.row sh [])]) Q) : PW P G N mv x env μ Q := by
  intro ow L code hc hmix C a w κ hmv hR
  obtain ⟨hG, hS'⟩ := hR.sim.nilrow sh
  refine h ow L code hc hmix C a w _ hmv ⟨hR.size, hR.defers, fun j => ?_, hS', globs_goes hR.globs hG, hR.goes.trans (hG.weak fun _ h => h.elim)⟩
  have hj := hR.regs j
  by_cases e : i = j
  · subst e
    rw [hi] at hj
    rw [get_cons, if_pos rfl, rep_nilSl hj]
    exact .slnil sh μ.length (by simp)
  · rw [get_cons, if_neg e]
    exact hj.still hG
/-- A nil slice in a field of a variable of the call's own, taken over as a row of its own. -/
theorem PW.ownF {x : PCode} (t i : Nat) (sh : Sh) (n : Nat) (cs : List PV) (hm : μ.get t = some (.var (some n) (.agg cs))) (hi : cs[i]? = some .nilSl)
    (h : PW P G N mv x env ((μ ++ [some (MObj.row sh [])]).set t (some (MObj.var (some n) (.agg (cs.set i (.sl sh μ.length 0)))))) Q) : PW P G N mv x env μ Q := by
  intro ow L code hc hmix C a w κ hmv hR
  obtain ⟨hG, hS'⟩ := hR.sim.nilrow sh
  have hlt : t < μ.length := by
    rcases Nat.lt_or_ge t μ.length with h | h
    · exact h
    · simp [Mem.get, List.getElem?_eq_none h] at hm
  have hm' : Mem.get (μ ++ [some (MObj.row sh [])]) t = some (MObj.var (some n) (.agg cs)) := by
    unfold Mem.get at hm ⊢
    rw [List.getElem?_append_left hlt]; exact hm
  have hS'' := hS'.swap hm' (o' := MObj.var (some n) (.agg (cs.set i (.sl sh μ.length 0)))) (fun c hO => by
    cases hO with
    | var b arr E _ _ hb hs hsh hr =>
      obtain ⟨cs', e, hl⟩ := hsh
      cases e
      refine .var b arr E (some n) _ hb hs ⟨_, rfl, by simpa using hl⟩ (fun j p v hj hv => ?_)
      simp only [PV.cells] at hj hr
      by_cases e : i = j
      · subst e
        have hil : i < cs.length := (List.getElem?_eq_some_iff.1 hi).1
        rw [List.getElem?_set_self hil] at hj
        cases hj
        have := hr i .nilSl v hi hv
        rw [rep_nilSl this]
        exact .slnil sh μ.length (by simp)
      · rw [List.getElem?_set_ne e] at hj
        exact hr j p v hj hv)
  exact h ow L code hc hmix C a w _ hmv ⟨hR.size, hR.defers, fun j => (hR.regs j).still hG, hS'', globs_goes hR.globs hG, hR.goes.trans (hG.weak fun _ h => h.elim)⟩
end
end PG

