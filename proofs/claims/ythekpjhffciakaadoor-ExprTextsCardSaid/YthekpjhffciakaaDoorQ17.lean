import Derived.Test.YthekpjhffciakaaDoorQ11
import Derived.Test.YthekpjhffciakaaDoorQ16
import Derived.Test.YthekpjhffciakaaDoorQ14
namespace Go.Proofs.YthekpjhffciakaaDoor
open Go PG Go.Proofs
set_option linter.unusedSimpArgs false
set_option linter.unusedVariables false
set_option maxHeartbeats 4000000
set_option maxRecDepth 100000
/-! The document's text of a tree -/
theorem textM_suc (l : List Nd) (k : Nat) (i least : Int) : textM l (k + 1) i least = if (nd l i).op = 0 then numT (nd l i).num.toNat
    else if (nd l i).op = 1 then (nd l i).name
    else if strongM (nd l i).op = 3 then joinL (fun c => textM l k c 0) (nd l i).kids 0 (wordM (nd l i).op ++ [40]) ++ [41]
    else if strongM (nd l i).op < least then ([40] ++ ((textM l k ((nd l i).kids.getD 0 0) (strongM (nd l i).op) ++ wordM (nd l i).op) ++ textM l k ((nd l i).kids.getD 1 0) (strongM (nd l i).op + 1))) ++ [41]
    else (textM l k ((nd l i).kids.getD 0 0) (strongM (nd l i).op) ++ wordM (nd l i).op) ++ textM l k ((nd l i).kids.getD 1 0) (strongM (nd l i).op + 1) := rfl
/-- In brackets, where it binds less than is asked for. -/
theorem text_wrap {l : List Nd} {k : Nat} {i z : Int} (h : fitsD l k i) (hz : z ≤ 3) : textM l k i z = if strongM (nd l i).op < z then [40] ++ textM l k i 0 ++ [41] else textM l k i 0 := by
  obtain ⟨k, rfl⟩ : ∃ k', k = k' + 1 := ⟨k - 1, by cases k with | zero => exact h.elim | succ k => rfl⟩
  rw [textM_suc, textM_suc]
  by_cases e0 : (nd l i).op = 0
  · rw [if_pos e0, if_pos e0, if_neg]
    rw [e0]; show ¬ (3 : Int) < z; omega
  by_cases e1 : (nd l i).op = 1
  · rw [if_neg e0, if_neg e0, if_pos e1, if_pos e1, if_neg]
    rw [e1]; show ¬ (3 : Int) < z; omega
  rw [if_neg e0, if_neg e0, if_neg e1, if_neg e1]
  by_cases s3 : strongM (nd l i).op = 3
  · rw [if_pos s3, if_pos s3, if_neg (by omega)]
  · rw [if_neg s3, if_neg s3]
    have hs : ¬ strongM (nd l i).op < 0 := by unfold strongM; split; omega; split <;> omega
    rw [if_neg hs]
theorem no_of {A : Prop} {X : Bool} (h : A ↔ X = true) (e : X = false) : ¬ A := fun a => by rw [h.1 a] at e; cases e
theorem strong_def (p : Int) : strongM p = if p = 2 ∨ p = 3 then 1 else if p = 4 then 2 else 3 := rfl
theorem wrapA {o p : Int} (h : o = 2 ∨ o = 3 ∨ o = 4) : (strongM p < strongM o) ↔ (decide (o = 4) && (decide (p = 2) || decide (p = 3))) = true := by
  simp only [Bool.and_eq_true, Bool.or_eq_true, decide_eq_true_eq]
  rw [strong_def p, strong_def o]
  by_cases p1 : p = 2 ∨ p = 3
  · rw [if_pos p1]
    rcases h with rfl | rfl | rfl <;> simp [p1]
  · rw [if_neg p1]
    by_cases p2 : p = 4
    · rw [if_pos p2]; rcases h with rfl | rfl | rfl <;> simp [p1]
    · rw [if_neg p2]; rcases h with rfl | rfl | rfl <;> simp [p1]
theorem wrapB {o q : Int} (h : o = 2 ∨ o = 3 ∨ o = 4) : (strongM q < strongM o + 1) ↔ (decide (q = 2) || decide (q = 3) || decide (q = 4) && decide (o = 4)) = true := by
  simp only [Bool.and_eq_true, Bool.or_eq_true, decide_eq_true_eq]
  rw [strong_def q, strong_def o]
  by_cases p1 : q = 2 ∨ q = 3
  · rw [if_pos p1]
    rcases h with rfl | rfl | rfl <;> simp [p1]
  · rw [if_neg p1]
    by_cases p2 : q = 4
    · rw [if_pos p2]; subst p2; rcases h with rfl | rfl | rfl <;> simp
    · rw [if_neg p2]; rcases h with rfl | rfl | rfl <;> simp [p1, p2]
theorem v58 (l : List Nd) (hl : l.length ≤ 256) (hn1 : ∀ n ∈ l, Nd1 n) : ∀ (k : Nat), k ≤ 16 → ∀ (i : Int), fitsD l k i → VCalls Tryd.prog G0 58 [.list (some 4) (l.map ndP), .int .i64 i] (.str (textM l k i 0))
  | 0, _, i, h => h.elim
  | k + 1, hk16, i, h => by
    have ih : ∀ i, fitsD l k i → VCalls Tryd.prog G0 58 [.list (some 4) (l.map ndP), .int .i64 i] (.str (textM l k i 0)) := fun i h => v58 l hl hn1 k (by omega) i h
    have hle := text_le l k
    have hB : 100 * 4 ^ k ≤ 429496729600 := by
      have : 4 ^ k ≤ 4 ^ 16 := Nat.pow_le_pow_right (by omega) (by omega)
      have e : (4 : Nat) ^ 16 = 4294967296 := rfl
      omega
    generalize 100 * 4 ^ k = B at hle hB
    have hn := hn1 (nd l i) (by rw [nd_get h.1 h.2.1]; exact List.getElem_mem h.2.1)
    obtain ⟨h1, h2, h3, h4⟩ := h
    have h4 : ∀ c ∈ (nd l i).kids, fitsD l k c := h4
    refine VCalls.of_PW Tryd.func58 k58 mix (by simp [c58]) ?_
    simp only [c58, L58, CC, argE]
    have hll : ((l.map ndP).length : Nat) = l.length := by simp
    have hgn : (l.map ndP).getD i.toNat .junk = .agg [.int .i64 (nd l i).op, .int .i64 (nd l i).num, .str (nd l i).name, .list none ((nd l i).kids.map (PV.int .i64))] := by simp [nd, List.getD, h2, ndP, ndC, kidsP]
    have hw := fun i z => @text_wrap l k i z
    rw [textM_suc]
    generalize nd l i = n at *
    have hkl : ((n.kids.map (PV.int .i64)).length : Nat) = n.kids.length := by simp
    have hsc : ∀ (a b : Int) (t : List UInt8) (ks : List PV), ∀ x ∈ [PV.int IntKind.i64 a, PV.int IntKind.i64 b, PV.str t, PV.list none ks], x.scalar = true := by
      intro a b t ks x hc; simp at hc; rcases hc with rfl | rfl | rfl | rfl <;> rfl
    by_cases o0 : n.op = 0
    · have d0 : decide (n.op = 0) = true := decide_eq_true o0
      obtain ⟨m0, m1, m2⟩ := hn.num o0
      have h100 : n.num.toNat % 100 = 0 := by rw [Int.tmod_eq_emod_of_nonneg m0] at m2; omega
      have h87 := v87 n.num.toNat (by omega) h100
      rw [Int.toNat_of_nonneg m0] at h87
      rw [if_pos o0]
      repeat' (first | exact True.intro | (exact Or.inr ⟨rfl, by decide⟩) | (refine PW.seqK ?_; intro K hK) | refine stp ?_ | refine seqK_n ‹_› ?_ | refine seqK_r ‹_› ?_ | refine seqK_e ‹_› ?_ | exact schedW_stop_i | refine schK_n ‹_› ?_ | (refine PW.cond rfl ?_ ?_ <;> intro hcond <;> (try contradiction) <;> try simp only [DD] at hcond) | (refine gd_i ?_; intro hg; try simp only [hg]) | refine goCall_W e87 (h87) ?_ ?_ ?_ ?_ | (refine ari ?_; first | omega | (simp only [DD, LL] <;> omega) | (go_unwrap; omega)) | ((first | refine stq ?_ | show (_ : Post) _ _ _ | (refine schedW_alt_k ?_ ?_; intro K hK)); focus (simp only [hll, hgn, d0, SA, Nat.reduceAdd, reduceIte, Nat.reduceEqDiff, Nat.reduceBEq, reduceCtorEq]; (try go_unwrap; try simp only [hll, hgn, d0, RR, reduceCtorEq]))) | refine And.intro ?_ ?_ | exact Or.inr ⟨rfl, Nat.le_refl _⟩ | exact (fun h => Bool.noConfusion h))
    have d0 : decide (n.op = 0) = false := decide_eq_false o0
    by_cases o1 : n.op = 1
    · have d1 : decide (n.op = 1) = true := decide_eq_true o1
      rw [if_neg o0, if_pos o1]
      repeat' (first | exact True.intro | (exact Or.inr ⟨rfl, by decide⟩) | (refine PW.seqK ?_; intro K hK) | refine stp ?_ | refine seqK_n ‹_› ?_ | refine seqK_r ‹_› ?_ | refine seqK_e ‹_› ?_ | exact schedW_stop_i | refine schK_n ‹_› ?_ | (refine PW.cond rfl ?_ ?_ <;> intro hcond <;> (try contradiction) <;> try simp only [DD] at hcond) | (refine gd_i ?_; intro hg; try simp only [hg]) | (refine ari ?_; first | omega | (simp only [DD, LL] <;> omega) | (go_unwrap; omega)) | ((first | refine stq ?_ | show (_ : Post) _ _ _ | (refine schedW_alt_k ?_ ?_; intro K hK)); focus (simp only [hll, hgn, d0, d1, SA, Nat.reduceAdd, reduceIte, Nat.reduceEqDiff, Nat.reduceBEq, reduceCtorEq]; (try go_unwrap; try simp only [hll, hgn, d0, d1, RR, reduceCtorEq]))) | refine And.intro ?_ ?_ | exact Or.inr ⟨rfl, Nat.le_refl _⟩ | exact (fun h => Bool.noConfusion h))
    have d1 : decide (n.op = 1) = false := decide_eq_false o1
    have h2' : 2 ≤ n.op := by have := hn.op0; omega
    rw [if_neg o0, if_neg o1]
    have h9 := hn.op9
    obtain ⟨op, hop⟩ : ∃ m : Nat, n.op = m := ⟨n.op.toNat, by omega⟩
    have hwl := word_le n.op
    by_cases o5 : 5 ≤ n.op
    · have hs3 : strongM n.op = 3 := by unfold strongM; rw [if_neg (by omega), if_neg (by omega)]
      rw [if_pos hs3]
      have d5 : decide ((5 : Int) ≤ n.op) = true := decide_eq_true o5
      have h88 := v88 op (by omega) (by omega)
      rw [← hop] at h88
      have hk3 := h3.kids
      have hk3 : n.kids.length ≤ 3 := hn.ndOk.kids
      repeat' (first | exact True.intro | (exact Or.inr ⟨rfl, by decide⟩) | (refine PW.seqK ?_; intro K hK) | refine stp ?_ | refine seqK_n ‹_› ?_ | refine seqK_r ‹_› ?_ | refine seqK_e ‹_› ?_ | exact schedW_stop_i | refine schK_n ‹_› ?_ | (refine PW.cond rfl ?_ ?_ <;> intro hcond <;> (try contradiction) <;> try simp only [DD] at hcond) | (refine gd_i ?_; intro hg; try simp only [hg]) | refine goCall_W e88 (h88) ?_ ?_ ?_ ?_ | (refine ari ?_; first | omega | (simp only [DD, LL] <;> omega) | (go_unwrap; omega)) | ((first | refine stq ?_ | show (_ : Post) _ _ _ | (refine schedW_alt_k ?_ ?_; intro K hK)); focus (simp only [hll, hgn, d0, d1, d5, SA, Nat.reduceAdd, reduceIte, Nat.reduceEqDiff, Nat.reduceBEq, reduceCtorEq]; (try go_unwrap; try simp only [hll, hgn, d0, d1, d5, RR, reduceCtorEq]))) | refine And.intro ?_ ?_ | exact Or.inr ⟨rfl, Nat.le_refl _⟩ | exact (fun h => Bool.noConfusion h))
      have hmem : (wordM n.op ++ [40]).length ≤ 6 := by simp; omega
      refine PW.loop (σ := Nat × List UInt8) [0, 5, 6, 7] (fun q => [.list (some 4) (l.map ndP), .ref 0 0, .str q.2, .int .i64 q.1]) (fun _ => [some (.var (some 4) (.agg [.int .i64 n.op, .int .i64 n.num, .str n.name, .list none (n.kids.map (PV.int .i64))]))])
        (fun q => q.1 ≤ n.kids.length ∧ q.2.length ≤ 6 + q.1 * (B + 1) ∧ joinL (fun c => textM l k c 0) n.kids 0 (wordM n.op ++ [40]) = joinL (fun c => textM l k c 0) (n.kids.drop q.1) q.1 q.2) (fun q => n.kids.length - q.1) (0, wordM n.op ++ [40]) ?_ ?_ ⟨by simp, by simpa using hmem, by simp⟩ ?_
      · simp only [SA, Nat.reduceAdd, reduceIte, Nat.reduceEqDiff, Nat.reduceBEq, reduceCtorEq]; rfl
      · rfl
      rintro ⟨j, s⟩ ⟨hj, hsl, hjn⟩
      simp only at hj hsl hjn
      simp only [List.zip_cons_cons, List.zip_nil_left]
      rcases Nat.lt_or_ge j n.kids.length with h | h
      · obtain ⟨c, hd, hc, hg⟩ := drop_at h
        have hfc := h4 c (List.mem_of_getElem? hc)
        have htx := ih c hfc
        have htl := hle c 0 hfc
        have hgc := (hg (PV.int .i64)).1
        have dj : decide ((j : Int) < n.kids.length) = true := by simp only [decide_eq_true_eq]; omega
        rw [hd, joinL] at hjn
        generalize hT : textM l k c 0 = T at *
        have hmul : (j + 1) * (B + 1) = j * (B + 1) + (B + 1) := by rw [Nat.add_mul, Nat.one_mul]
        have hjb : j * (B + 1) ≤ 3 * (B + 1) := Nat.mul_le_mul_right _ (by omega)
        by_cases hj0 : 0 < j
        · have d0' : decide ((0 : Int) < j) = true := by simp only [decide_eq_true_eq]; omega
          rw [if_pos hj0] at hjn
          repeat' (first | exact True.intro | (refine PW.seqK ?_; intro K hK) | refine stp ?_ | refine seqK_n ‹_› ?_ | refine seqK_r ‹_› ?_ | refine seqK_e ‹_› ?_ | exact schedW_stop_i | refine schK_n ‹_› ?_ | (refine PW.cond rfl ?_ ?_ <;> intro hcond <;> (try contradiction) <;> try simp only [DD] at hcond) | (refine gd_i ?_; intro hg; try simp only [hg]) | refine goCall_W e58 (htx) ?_ ?_ ?_ ?_ | (refine ari ?_; first | omega | (simp only [DD, LL] <;> omega) | (go_unwrap; omega)) | ((first | refine stq ?_ | show (_ : Post) _ _ _ | (refine schedW_alt_k ?_ ?_; intro K hK)); focus (simp only [hkl, hgc, dj, d0', SA, Nat.reduceAdd, reduceIte, Nat.reduceEqDiff, Nat.reduceBEq, reduceCtorEq]; (try go_unwrap; try simp only [hkl, hgc, dj, d0', RR, reduceCtorEq]))) | refine And.intro ?_ ?_ | exact Or.inr ⟨rfl, Nat.le_refl _⟩ | exact (fun h => Bool.noConfusion h))
          all_goals first | exact ⟨(j + 1, s ++ [44] ++ T), rfl, ⟨by simp only; omega, by simp; omega, hjn⟩, by simp only; omega⟩ | (simp; omega)
        · have d0' : decide ((0 : Int) < j) = false := by simp only [decide_eq_false_iff_not]; omega
          rw [if_neg hj0] at hjn
          repeat' (first | exact True.intro | (refine PW.seqK ?_; intro K hK) | refine stp ?_ | refine seqK_n ‹_› ?_ | refine seqK_r ‹_› ?_ | refine seqK_e ‹_› ?_ | exact schedW_stop_i | refine schK_n ‹_› ?_ | (refine PW.cond rfl ?_ ?_ <;> intro hcond <;> (try contradiction) <;> try simp only [DD] at hcond) | (refine gd_i ?_; intro hg; try simp only [hg]) | refine goCall_W e58 (htx) ?_ ?_ ?_ ?_ | (refine ari ?_; first | omega | (simp only [DD, LL] <;> omega) | (go_unwrap; omega)) | ((first | refine stq ?_ | show (_ : Post) _ _ _ | (refine schedW_alt_k ?_ ?_; intro K hK)); focus (simp only [hkl, hgc, dj, d0', SA, Nat.reduceAdd, reduceIte, Nat.reduceEqDiff, Nat.reduceBEq, reduceCtorEq]; (try go_unwrap; try simp only [hkl, hgc, dj, d0', RR, reduceCtorEq]))) | refine And.intro ?_ ?_ | exact Or.inr ⟨rfl, Nat.le_refl _⟩ | exact (fun h => Bool.noConfusion h))
          all_goals first | exact ⟨(j + 1, s ++ T), rfl, ⟨by simp only; omega, by simp; omega, hjn⟩, by simp only; omega⟩ | (simp; omega)
      · have dj : decide ((j : Int) < n.kids.length) = false := by simp only [decide_eq_false_iff_not]; omega
        rw [List.drop_eq_nil_of_le h, joinL] at hjn
        have hjb : j * (B + 1) ≤ 3 * (B + 1) := Nat.mul_le_mul_right _ (by omega)
        repeat' (first | exact True.intro | (refine PW.seqK ?_; intro K hK) | refine stp ?_ | refine seqK_n ‹_› ?_ | refine seqK_r ‹_› ?_ | refine seqK_e ‹_› ?_ | exact schedW_stop_i | refine schK_n ‹_› ?_ | (refine PW.cond rfl ?_ ?_ <;> intro hcond <;> (try contradiction) <;> try simp only [DD] at hcond) | (refine gd_i ?_; intro hg; try simp only [hg]) | (refine ari ?_; first | omega | (simp only [DD, LL] <;> omega) | (go_unwrap; omega)) | ((first | refine stq ?_ | show (_ : Post) _ _ _ | (refine schedW_alt_k ?_ ?_; intro K hK)); focus (simp only [hkl, dj, SA, Nat.reduceAdd, reduceIte, Nat.reduceEqDiff, Nat.reduceBEq, reduceCtorEq]; (try go_unwrap; try simp only [hkl, dj, RR, reduceCtorEq]))) | refine And.intro ?_ ?_ | exact Or.inr ⟨rfl, Nat.le_refl _⟩ | exact (fun h => Bool.noConfusion h))
        all_goals first | (rw [hjn]; done) | rfl | (simp; omega)
    · have d5 : decide ((5 : Int) ≤ n.op) = false := decide_eq_false o5
      obtain ⟨a, b, hks⟩ := hn.two h2' (by omega)
      rw [hks] at h4 hgn ⊢
      simp only [List.map_cons, List.map_nil] at hgn
      have zt0 : (0 : Int).toNat = 0 := rfl
      have zt1 : (1 : Int).toNat = 1 := rfl
      have hfa := h4 a (by simp)
      have hfb := h4 b (by simp)
      have hta := ih a hfa
      have htb := ih b hfb
      have hla := hle a 0 hfa
      have hlb := hle b 0 hfb
      have hst : n.op = 2 ∨ n.op = 3 ∨ n.op = 4 := by omega
      have ha0 : 0 ≤ a ∧ a.toNat < l.length := by
        cases k with
        | zero => exact hfa.elim
        | succ k => exact ⟨hfa.1, hfa.2.1⟩
      have hb0 : 0 ≤ b ∧ b.toNat < l.length := by
        cases k with
        | zero => exact hfb.elim
        | succ k => exact ⟨hfb.1, hfb.2.1⟩
      have hga : (l.map ndP).getD a.toNat .junk = .agg [.int .i64 (nd l a).op, .int .i64 (nd l a).num, .str (nd l a).name, .list none ((nd l a).kids.map (PV.int .i64))] := by simp [nd, List.getD, ha0.2, ndP, ndC, kidsP]
      have hgb : (l.map ndP).getD b.toNat .junk = .agg [.int .i64 (nd l b).op, .int .i64 (nd l b).num, .str (nd l b).name, .list none ((nd l b).kids.map (PV.int .i64))] := by simp [nd, List.getD, hb0.2, ndP, ndC, kidsP]
      have hwA := hw a (strongM n.op) hfa (by rcases hst with h | h | h <;> rw [h] <;> decide)
      have hwB := hw b (strongM n.op + 1) hfb (by rcases hst with h | h | h <;> rw [h] <;> decide)
      have hs3 : ¬ strongM n.op = 3 := by rcases hst with h | h | h <;> rw [h] <;> decide
      have hs0 : ¬ strongM n.op < 0 := by rcases hst with h | h | h <;> rw [h] <;> decide
      rw [if_neg hs3, if_neg hs0]
      simp only [List.getD_cons_zero, List.getD_cons_succ]
      rw [hwA, hwB]
      have cA := wrapA (p := (nd l a).op) hst
      have cB := wrapB (q := (nd l b).op) hst
      have hwg : ([.str [], .str [], .str [43], .str [45], .str [42]] : List PV).getD n.op.toNat .junk = .str (wordM n.op) := by
        rcases hst with h | h | h <;> rw [h] <;> rfl
      have hot : n.op.toNat < 5 := by omega
      clear hw hwA hwB hn hle ih
      generalize textM l k a 0 = Ta at *
      generalize textM l k b 0 = Tb at *
      generalize (nd l a).op = p at *
      generalize (nd l b).op = q at *
      generalize wordM n.op = W at *
      repeat' (first | exact True.intro | exact hsc _ _ _ _ | exact (rfl : (some 4 : Sh) = some 4) | (exact Or.inr ⟨rfl, by decide⟩) | (refine PW.seqK ?_; intro K hK) | refine stp ?_ | refine seqK_n ‹_› ?_ | refine seqK_r ‹_› ?_ | refine seqK_e ‹_› ?_ | exact schedW_stop_i | refine schK_n ‹_› ?_ | (refine PW.cond rfl ?_ ?_ <;> intro hcond <;> (try contradiction) <;> try simp only [DD] at hcond) | (apply goCall_V e58; (case hV => (simp only [PV.bin, PV.binOk, binI, hll, hgn, d0, d1, d5, hga, hgb, hwg, zt0, zt1, List.getD_cons_zero, List.getD_cons_succ, List.length_cons, List.length_nil, SA, Nat.reduceAdd, reduceIte, Nat.reduceEqDiff, Nat.reduceBEq, reduceCtorEq]; (try go_unwrap; try simp only [PV.bin, PV.binOk, binI, hll, hgn, d0, d1, d5, hga, hgb, hwg, zt0, zt1, List.getD_cons_zero, List.getD_cons_succ, List.length_cons, List.length_nil, RR, reduceCtorEq]); exact hta)); (try (case hs => rfl)); (try (case hf => first | exact Or.inl rfl | exact Or.inr ⟨rfl, rfl⟩ | (refine Or.inl ?_; simp only [PV.bin, PV.binOk, binI, hll, hgn, d0, d1, d5, hga, hgb, hwg, zt0, zt1, List.getD_cons_zero, List.getD_cons_succ, List.length_cons, List.length_nil, SA, Nat.reduceAdd, reduceIte, Nat.reduceEqDiff, Nat.reduceBEq, reduceCtorEq]; done) | (refine Or.inr ⟨rfl, ?_⟩; simp only [PV.bin, PV.binOk, binI, hll, hgn, d0, d1, d5, hga, hgb, hwg, zt0, zt1, List.getD_cons_zero, List.getD_cons_succ, List.length_cons, List.length_nil, SA, Nat.reduceAdd, reduceIte, Nat.reduceEqDiff, Nat.reduceBEq, reduceCtorEq]; done))); all_goals (first | (simp only [PV.bin, PV.binOk, binI, hll, hgn, d0, d1, d5, hga, hgb, hwg, zt0, zt1, List.getD_cons_zero, List.getD_cons_succ, List.length_cons, List.length_nil, SA, Nat.reduceAdd, reduceIte, Nat.reduceEqDiff, Nat.reduceBEq, reduceCtorEq]; (try go_unwrap; try simp only [PV.bin, PV.binOk, binI, hll, hgn, d0, d1, d5, hga, hgb, hwg, zt0, zt1, List.getD_cons_zero, List.getD_cons_succ, List.length_cons, List.length_nil, RR, reduceCtorEq])) | (show Env; skip) | (show Mem; skip))) | (apply goCall_V e58; (case hV => (simp only [PV.bin, PV.binOk, binI, hll, hgn, d0, d1, d5, hga, hgb, hwg, zt0, zt1, List.getD_cons_zero, List.getD_cons_succ, List.length_cons, List.length_nil, SA, Nat.reduceAdd, reduceIte, Nat.reduceEqDiff, Nat.reduceBEq, reduceCtorEq]; (try go_unwrap; try simp only [PV.bin, PV.binOk, binI, hll, hgn, d0, d1, d5, hga, hgb, hwg, zt0, zt1, List.getD_cons_zero, List.getD_cons_succ, List.length_cons, List.length_nil, RR, reduceCtorEq]); exact htb)); (try (case hs => rfl)); (try (case hf => first | exact Or.inl rfl | exact Or.inr ⟨rfl, rfl⟩ | (refine Or.inl ?_; simp only [PV.bin, PV.binOk, binI, hll, hgn, d0, d1, d5, hga, hgb, hwg, zt0, zt1, List.getD_cons_zero, List.getD_cons_succ, List.length_cons, List.length_nil, SA, Nat.reduceAdd, reduceIte, Nat.reduceEqDiff, Nat.reduceBEq, reduceCtorEq]; done) | (refine Or.inr ⟨rfl, ?_⟩; simp only [PV.bin, PV.binOk, binI, hll, hgn, d0, d1, d5, hga, hgb, hwg, zt0, zt1, List.getD_cons_zero, List.getD_cons_succ, List.length_cons, List.length_nil, SA, Nat.reduceAdd, reduceIte, Nat.reduceEqDiff, Nat.reduceBEq, reduceCtorEq]; done))); all_goals (first | (simp only [PV.bin, PV.binOk, binI, hll, hgn, d0, d1, d5, hga, hgb, hwg, zt0, zt1, List.getD_cons_zero, List.getD_cons_succ, List.length_cons, List.length_nil, SA, Nat.reduceAdd, reduceIte, Nat.reduceEqDiff, Nat.reduceBEq, reduceCtorEq]; (try go_unwrap; try simp only [PV.bin, PV.binOk, binI, hll, hgn, d0, d1, d5, hga, hgb, hwg, zt0, zt1, List.getD_cons_zero, List.getD_cons_succ, List.length_cons, List.length_nil, RR, reduceCtorEq])) | (show Env; skip) | (show Mem; skip))) | (refine gd_i ?_; intro hg; try simp only [hg]) | (refine ari ?_; first | omega | (simp only [DD, LL] <;> omega) | (go_unwrap; omega)) | ((first | refine stq ?_ | show (_ : Post) _ _ _ | (refine schedW_alt_k ?_ ?_; intro K hK)); focus (simp only [PV.bin, PV.binOk, binI, hll, hgn, d0, d1, d5, hga, hgb, hwg, zt0, zt1, List.getD_cons_zero, List.getD_cons_succ, List.length_cons, List.length_nil, SA, Nat.reduceAdd, reduceIte, Nat.reduceEqDiff, Nat.reduceBEq, reduceCtorEq]; (try go_unwrap; try simp only [PV.bin, PV.binOk, binI, hll, hgn, d0, d1, d5, hga, hgb, hwg, zt0, zt1, List.getD_cons_zero, List.getD_cons_succ, List.length_cons, List.length_nil, RR, reduceCtorEq]))) | refine And.intro ?_ ?_ | exact Or.inr ⟨rfl, Nat.le_refl _⟩ | exact (fun h => Bool.noConfusion h))
      all_goals first
        | (rw [if_pos (cA.2 (by assumption)), if_pos (cB.2 (by assumption))]; done)
        | (rw [if_pos (cA.2 (by assumption)), if_neg (no_of cB (by assumption))]; done)
        | (rw [if_neg (no_of cA (by assumption)), if_pos (cB.2 (by assumption))]; done)
        | (rw [if_neg (no_of cA (by assumption)), if_neg (no_of cB (by assumption))]; done)
theorem e27 : Ent Tryd.prog 27 := ⟨Tryd.f27, Tryd.func27, by kernel_rfl, by kernel_rfl⟩
theorem v27 (l : List Nd) (hl : l.length ≤ 256) (hn1 : ∀ n ∈ l, Nd1 n) (hf : fitsD l 16 ((l.length : Int) - 1)) : VCalls Tryd.prog G0 27 [.list (some 4) (l.map ndP)] (.str (textM l 16 ((l.length : Int) - 1) 0)) := by
  refine VCalls.of_PW Tryd.func27 k27 mix (by simp [c27]) ?_
  simp only [c27, L27, CC, argE]
  have h58 := v58 l hl hn1 16 (Nat.le_refl _) _ hf
  have hll : ((l.map ndP).length : Nat) = l.length := by simp
  repeat' (first | exact True.intro | (refine PW.seqK ?_; intro K hK) | refine stp ?_ | refine seqK_n ‹_› ?_ | refine seqK_r ‹_› ?_ | refine seqK_e ‹_› ?_ | exact schedW_stop_i | refine schK_n ‹_› ?_ | (refine PW.cond rfl ?_ ?_ <;> intro hcond <;> (try contradiction) <;> try simp only [DD] at hcond) | (refine gd_i ?_; intro hg; try simp only [hg]) | refine goCall_W e58 (h58) ?_ ?_ ?_ ?_ | (refine ari ?_; first | omega | (simp only [DD, LL] <;> omega) | (go_unwrap; omega)) | ((first | refine stq ?_ | show (_ : Post) _ _ _ | (refine schedW_alt_k ?_ ?_; intro K hK)); focus (simp only [hll, SA, Nat.reduceAdd, reduceIte, Nat.reduceEqDiff, Nat.reduceBEq, reduceCtorEq]; (try go_unwrap; try simp only [hll, RR, reduceCtorEq]))) | refine And.intro ?_ ?_ | exact Or.inr ⟨rfl, Nat.le_refl _⟩ | exact (fun h => Bool.noConfusion h))
end Go.Proofs.YthekpjhffciakaaDoor

namespace Go.Proofs.YthekpjhffciakaaDoor
open Go PG Go.Proofs
set_option linter.unusedSimpArgs false
set_option linter.unusedVariables false
set_option maxHeartbeats 4000000
set_option maxRecDepth 100000
/-! The document's order of a tree's nodes -/
theorem e59 : Ent Tryd.prog 59 := ⟨Tryd.f59, Tryd.func59, by kernel_rfl, by kernel_rfl⟩
theorem e28 : Ent Tryd.prog 28 := ⟨Tryd.f28, Tryd.func28, by kernel_rfl, by kernel_rfl⟩
def sortK (f : Int → List Nd → List Nd) : List Int → List Nd → List Int → List Nd × List Int
  | [], o, a => (o, a)
  | c :: cs, o, a => sortK f cs (f c o) (a ++ [((f c o).length : Int) - 1])
def sortM (l : List Nd) : Nat → Int → List Nd → List Nd
  | 0, _, o => o
  | k + 1, i, o => (sortK (sortM l k) (nd l i).kids o []).1 ++ [⟨(nd l i).op, (nd l i).num, (nd l i).name, (sortK (sortM l k) (nd l i).kids o []).2⟩]
theorem sortK_len {f : Int → List Nd → List Nd} {B : Nat} : ∀ (ks : List Int) (o : List Nd) (a : List Int), (∀ c ∈ ks, ∀ o, o.length ≤ (f c o).length ∧ (f c o).length ≤ o.length + B) → o.length ≤ (sortK f ks o a).1.length ∧ (sortK f ks o a).1.length ≤ o.length + ks.length * B
  | [], o, a, _ => by simp [sortK]
  | k :: ks, o, a, h => by
    have h1 := h k (by simp) o
    have h2 := sortK_len ks (f k o) (a ++ [((f k o).length : Int) - 1]) (fun c hc => h c (by simp [hc]))
    simp only [sortK, List.length_cons, Nat.add_mul, Nat.one_mul] at h2 ⊢
    omega
theorem sortM_len (l : List Nd) : ∀ (k : Nat) (i : Int) (o : List Nd), fitsD l k i → o.length ≤ (sortM l k i o).length ∧ (sortM l k i o).length ≤ o.length + 4 ^ k
  | 0, i, o, h => h.elim
  | k + 1, i, o, h => by
    obtain ⟨h1, h2, h3, h4⟩ := h
    have hp : 0 < 4 ^ k := Nat.pow_pos (by omega)
    have hpp : 4 ^ (k + 1) = 4 * 4 ^ k := by rw [Nat.pow_succ]; omega
    have h5 := sortK_len (f := sortM l k) (B := 4 ^ k) (nd l i).kids o [] (fun c hc o => sortM_len l k c o (h4 c hc))
    have h6 : (nd l i).kids.length * 4 ^ k ≤ 3 * 4 ^ k := Nat.mul_le_mul_right _ h3.kids
    simp only [sortM, List.length_append, List.length_cons, List.length_nil]
    rw [hpp]
    omega
def rowN (o : List Nd) : MObj := .row (some 4) (o.map ndP)
/-- An order's making, as a contract: what was there is lent, and grows. -/
def SoC (l : List Nd) (i : Int) (o : List Nd) (ν : Mem) (r : List Nd) : Prop :=
  PCalls Tryd.prog G0 59 [.list (some 4) (l.map ndP), .int .i64 i, .sl (some 4) 0 o.length] (some (rowN o) :: ν) (killTag 0) (fun p μ' => p = .sl (some 4) 0 r.length ∧ μ' = some (rowN r) :: ν)
theorem SoC.frame {l : List Nd} {i : Int} {o r : List Nd} (h : SoC l i o [] r) (ν : Mem) (hν : ν.map (Option.map (MObj.kill (killTag 0))) = ν) : SoC l i o ν r := by
  have := PCalls.frame h ν (by rintro p μ' ⟨-, rfl⟩; rfl) (by simp [PV.kill]) (by simp [rowN, MObj.kill]) hν
  intro w κ vs hS hG hr
  refine (this w κ vs hS hG hr).mono ?_
  rintro e w' ⟨v, p, μ', κ', rfl, ⟨μ1, ⟨rfl, rfl⟩, rfl⟩, hS', hv, hg⟩
  exact ⟨v, _, _, κ', rfl, ⟨rfl, rfl⟩, hS', hv, hg⟩
theorem so_pw (l : List Nd) (hl : l.length ≤ 256) (k : Nat) (hk16 : k + 1 ≤ 16) (ih : ∀ i o, fitsD l k i → o.length ≤ 20000000000 * (17 - k) → SoC l i o [] (sortM l k i o)) (i : Int) (o : List Nd) (h : fitsD l (k + 1) i) (ho : o.length ≤ 20000000000 * (17 - (k + 1))) :
    PW Tryd.prog G0 46 (fun t => t == 0 || decide (1 ≤ t)) c59.code [(0, .list (some 4) (l.map ndP)), (1, .int .i64 i), (2, .sl (some 4) 0 o.length)] [some (rowN o)] (endP c59.rs fun p μ' => p = .sl (some 4) 0 (sortM l (k + 1) i o).length ∧ μ' = [some (rowN (sortM l (k + 1) i o))]) := by
  have hle := sortM_len l k
  have hB : 4 ^ k ≤ 4294967296 := by
    have : 4 ^ k ≤ 4 ^ 16 := Nat.pow_le_pow_right (by omega) (by omega)
    have e : (4 : Nat) ^ 16 = 4294967296 := rfl
    omega
  generalize 4 ^ k = B at hle hB
  obtain ⟨h1, h2, h3, h4⟩ := h
  have h3 : NdOk (nd l i) := h3
  have h4 : ∀ c ∈ (nd l i).kids, fitsD l k c := h4
  have hk3 := h3.kids
  simp only [c59, L59, CC, rowN]
  have hll : ((l.map ndP).length : Nat) = l.length := by simp
  have hgn : (l.map ndP).getD i.toNat .junk = .agg [.int .i64 (nd l i).op, .int .i64 (nd l i).num, .str (nd l i).name, .list none ((nd l i).kids.map (PV.int .i64))] := by simp [nd, List.getD, h2, ndP, ndC, kidsP]
  have hres : sortM l (k + 1) i o = (sortK (sortM l k) (nd l i).kids o []).1 ++ [⟨(nd l i).op, (nd l i).num, (nd l i).name, (sortK (sortM l k) (nd l i).kids o []).2⟩] := rfl
  rw [hres]
  generalize nd l i = n at *
  have hkl : ((n.kids.map (PV.int .i64)).length : Nat) = n.kids.length := by simp
  have hsc : ∀ (a b : Int) (t : List UInt8) (ks : List PV), ∀ x ∈ [PV.int IntKind.i64 a, PV.int IntKind.i64 b, PV.str t, PV.list none ks], x.scalar = true := by
    intro a b t ks x hc; simp at hc; rcases hc with rfl | rfl | rfl | rfl <;> rfl
  repeat' (first | exact True.intro | exact hsc _ _ _ _ | exact (rfl : (some 4 : Sh) = some 4) | (exact Or.inr ⟨rfl, by decide⟩) | (refine PW.stop (x := .seq (.region false (⟨some 9, none, .rd .mov [.pv (.int .i64 0)]⟩ :: _) _) _) ?_) | (refine PW.seqK ?_; intro K hK) | refine stp ?_ | refine seqK_n ‹_› ?_ | refine seqK_r ‹_› ?_ | refine seqK_e ‹_› ?_ | exact schedW_stop_i | refine schK_n ‹_› ?_ | (refine PW.cond rfl ?_ ?_ <;> intro hcond <;> (try contradiction) <;> try simp only [DD] at hcond) | (refine gd_i ?_; intro hg; try simp only [hg]) | (refine ari ?_; first | omega | (simp only [DD, LL] <;> omega) | (go_unwrap; omega)) | ((first | refine stq ?_ | show (_ : Post) _ _ _ | (refine schedW_alt_k ?_ ?_; intro K hK)); focus (simp only [hll, hgn, SA, Nat.reduceAdd, reduceIte, Nat.reduceEqDiff, Nat.reduceBEq, reduceCtorEq]; (try go_unwrap; try simp only [hll, hgn, RR, reduceCtorEq]))) | refine And.intro ?_ ?_ | exact Or.inr ⟨rfl, Nat.le_refl _⟩ | exact (fun h => Bool.noConfusion h))
  refine ⟨?_⟩
  refine PW.own none 8 rfl ?_
  simp only [List.cons_append, List.nil_append, List.length_cons, List.length_nil]
  repeat' (first | exact True.intro | (refine PW.seqK ?_; intro K hK) | refine stp ?_ | refine seqK_n ‹_› ?_ | refine seqK_r ‹_› ?_ | refine seqK_e ‹_› ?_ | exact schedW_stop_i | refine schK_n ‹_› ?_ | (refine PW.cond rfl ?_ ?_ <;> intro hcond <;> (try contradiction) <;> try simp only [DD] at hcond) | (refine gd_i ?_; intro hg; try simp only [hg]) | (refine ari ?_; first | omega | (simp only [DD, LL] <;> omega) | (go_unwrap; omega)) | ((first | refine stq ?_ | show (_ : Post) _ _ _ | (refine schedW_alt_k ?_ ?_; intro K hK)); focus (simp only [SA, Nat.reduceAdd, reduceIte, Nat.reduceEqDiff, Nat.reduceBEq, reduceCtorEq]; (try go_unwrap; try simp only [RR, reduceCtorEq]))) | refine And.intro ?_ ?_ | exact Or.inr ⟨rfl, Nat.le_refl _⟩ | exact (fun h => Bool.noConfusion h))
  refine PW.loopG (σ := Nat × List Nd × List Int) 3 (fun t h => by simp; omega) [0, 2, 7, 8, 9] (fun s => [.list (some 4) (l.map ndP), .sl (some 4) 0 s.2.1.length, .ref 1 0, .sl none 2 s.2.2.length, .int .i64 s.1])
    (fun s => [some (.row (some 4) (s.2.1.map ndP)), some (.var (some 4) (.agg [.int .i64 n.op, .int .i64 n.num, .str n.name, .list none (n.kids.map (PV.int .i64))])), some (.row none (s.2.2.map (PV.int .i64)))])
    (fun s => s.1 ≤ n.kids.length ∧ s.2.2.length = s.1 ∧ s.2.1.length ≤ o.length + s.1 * B ∧ sortK (sortM l k) n.kids o [] = sortK (sortM l k) (n.kids.drop s.1) s.2.1 s.2.2) (fun s => n.kids.length - s.1) (0, o, []) ?_ ?_ ⟨by simp, by simp, by simp, by simp⟩ ?_
  · simp only [SA, Nat.reduceAdd, reduceIte, Nat.reduceEqDiff, Nat.reduceBEq, reduceCtorEq]; rfl
  · first | rfl | simp
  rintro ⟨j, p, a⟩ ⟨hj, haj, hpl, hs⟩
  simp only at hj haj hpl hs
  simp only [List.zip_cons_cons, List.zip_nil_left]
  rcases Nat.lt_or_ge j n.kids.length with h | h
  · obtain ⟨c, hd, hc, hg⟩ := drop_at h
    have hfc := h4 c (List.mem_of_getElem? hc)
    have hjb : j * B ≤ 3 * B := Nat.mul_le_mul_right _ (by omega)
    have hso := (ih c p hfc (by
      have : 20000000000 * (17 - (k + 1)) + 20000000000 ≤ 20000000000 * (17 - k) := by omega
      omega)).frame [some (.var (some 4) (.agg [.int .i64 n.op, .int .i64 n.num, .str n.name, .list none (n.kids.map (PV.int .i64))])), some (.row none (a.map (PV.int .i64)))] (by simp [MObj.kill, PV.kill])
    obtain ⟨hle1, hle2⟩ := hle c p hfc
    have hgc := (hg (PV.int .i64)).1
    have dj : decide ((j : Int) < n.kids.length) = true := by simp only [decide_eq_true_eq]; omega
    rw [hd, sortK] at hs
    simp only [SoC, rowN] at hso
    generalize sortM l k c p = r at *
    have hrl : ((r.map ndP).length : Nat) = r.length := by simp
    have hal : ((a.map (PV.int .i64)).length : Nat) = a.length := by simp
    have hat : (a.map (PV.int .i64)).take a.length = a.map (PV.int .i64) := List.take_of_length_le (by simp)
    have wr : IntKind.i64.wrap ((r.length : Int) - 1) = (r.length : Int) - 1 := IntWalk.i64_in _ (by omega)
    have hmul : (j + 1) * B = j * B + B := by rw [Nat.add_mul, Nat.one_mul]
    have b1 : (a.length + 1) * 8 ≤ 281474976710656 := by omega
    repeat' (first | exact True.intro | (refine PW.seqK ?_; intro K hK) | refine stp ?_ | refine seqK_n ‹_› ?_ | refine seqK_r ‹_› ?_ | refine seqK_e ‹_› ?_ | exact schedW_stop_i | refine schK_n ‹_› ?_ | (refine PW.cond rfl ?_ ?_ <;> intro hcond <;> (try contradiction) <;> try simp only [DD] at hcond) | (refine goCall_K 0 e59 hso rfl ?_; rintro p μ' ⟨rfl, rfl⟩; simp only [hkl, hgc, dj, hrl, hal, hat, wr, SA, Nat.reduceAdd, reduceIte, Nat.reduceEqDiff, Nat.reduceBEq, reduceCtorEq]) | (refine gd_i ?_; intro hg; try simp only [hg]) | (refine ari ?_; first | omega | (simp only [DD, LL] <;> omega) | (go_unwrap; omega)) | ((first | refine stq ?_ | show (_ : Post) _ _ _ | (refine schedW_alt_k ?_ ?_; intro K hK)); focus (simp only [hkl, hgc, dj, hrl, hal, hat, wr, SA, Nat.reduceAdd, reduceIte, Nat.reduceEqDiff, Nat.reduceBEq, reduceCtorEq]; (try go_unwrap; try simp only [hkl, hgc, dj, hrl, hal, hat, wr, RR, reduceCtorEq]))) | refine And.intro ?_ ?_ | exact Or.inr ⟨rfl, Nat.le_refl _⟩ | exact (fun h => Bool.noConfusion h))
    all_goals exact ⟨(j + 1, r, a ++ [(r.length : Int) - 1]), (by rw [List.length_append]; exact (by first | rfl | (simp only [TT, MObj.kill, PV.kill, Nat.reduceLeDiff, reduceIte, Nat.le_refl, Nat.zero_le, Nat.not_le, Nat.lt_irrefl]; done) | (simp [trimE, trimM, MObj.kill, PV.kill]; done))), (by rw [List.map_append]; exact (by first | rfl | (simp only [TT, MObj.kill, PV.kill, Nat.reduceLeDiff, reduceIte, Nat.le_refl, Nat.zero_le, Nat.not_le, Nat.lt_irrefl]; done) | (simp [trimE, trimM, MObj.kill, PV.kill]; done))), ⟨by simp only; omega, by simp [haj], by simp only; omega, hs⟩, by simp only; omega⟩
  · have dj : decide ((j : Int) < n.kids.length) = false := by simp only [decide_eq_false_iff_not]; omega
    rw [List.drop_eq_nil_of_le h, sortK] at hs
    repeat' (first | exact True.intro | (refine PW.stop (x := .seq (.region false (⟨some 35, none, .rd .mov [.tmp 2]⟩ :: _) _) _) ?_) | (refine PW.seqK ?_; intro K hK) | refine stp ?_ | refine seqK_n ‹_› ?_ | refine seqK_r ‹_› ?_ | refine seqK_e ‹_› ?_ | exact schedW_stop_i | refine schK_n ‹_› ?_ | (refine PW.cond rfl ?_ ?_ <;> intro hcond <;> (try contradiction) <;> try simp only [DD] at hcond) | (refine gd_i ?_; intro hg; try simp only [hg]) | (refine ari ?_; first | omega | (simp only [DD, LL] <;> omega) | (go_unwrap; omega)) | ((first | refine stq ?_ | show (_ : Post) _ _ _ | (refine schedW_alt_k ?_ ?_; intro K hK)); focus (simp only [hkl, dj, SA, Nat.reduceAdd, reduceIte, Nat.reduceEqDiff, Nat.reduceBEq, reduceCtorEq]; (try go_unwrap; try simp only [hkl, dj, RR, reduceCtorEq]))) | refine And.intro ?_ ?_ | exact Or.inr ⟨rfl, Nat.le_refl _⟩ | exact (fun h => Bool.noConfusion h))
    refine ⟨?_⟩
    have hal : ((a.map (PV.int .i64)).length : Nat) = a.length := by simp
    have hat : (a.map (PV.int .i64)).take a.length = a.map (PV.int .i64) := List.take_of_length_le (by simp)
    have hpl' : ((p.map ndP).length : Nat) = p.length := by simp
    have hpt : (p.map ndP).take p.length = p.map ndP := List.take_of_length_le (by simp)
    have hjb : j * B ≤ 3 * B := Nat.mul_le_mul_right _ (by omega)
    have b1 : (p.length + 1) * 56 ≤ 140737488355328 := by
      have : 20000000000 * (17 - (k + 1)) ≤ 20000000000 * 17 := by omega
      omega
    refine PW.frz 2 (.row none (a.map (PV.int .i64))) ?_ ?_ ?_
    · rfl
    · rfl
    simp only [SA, Nat.reduceAdd, reduceIte, Nat.reduceEqDiff, Nat.reduceBEq, reduceCtorEq, PV.frz, MObj.frz, frzM, frzSl, hal, hat, Nat.le_refl, and_self, if_true]
    have hsn : p.map ndP ++ [.agg [.int .i64 n.op, .int .i64 n.num, .str n.name, .list none (a.map (PV.int .i64))]] = (p ++ [(⟨n.op, n.num, n.name, a⟩ : Nd)]).map ndP := by simp [ndP, ndC, kidsP]
    repeat' (first | exact True.intro | exact hsc _ _ _ _ | exact (rfl : (some 4 : Sh) = some 4) | (exact Or.inr ⟨rfl, by decide⟩) | (refine PW.stop (x := .ret) ?_) | (refine PW.seqK ?_; intro K hK) | refine stp ?_ | refine seqK_n ‹_› ?_ | refine seqK_r ‹_› ?_ | refine seqK_e ‹_› ?_ | exact schedW_stop_i | refine schK_n ‹_› ?_ | (refine PW.cond rfl ?_ ?_ <;> intro hcond <;> (try contradiction) <;> try simp only [DD] at hcond) | (refine gd_i ?_; intro hg; try simp only [hg]) | (refine ari ?_; first | omega | (simp only [DD, LL] <;> omega) | (go_unwrap; omega)) | ((first | refine stq ?_ | show (_ : Post) _ _ _ | (refine schedW_alt_k ?_ ?_; intro K hK)); focus (simp only [hpl', hpt, List.length_cons, List.length_nil, Nat.zero_add, SA, Nat.reduceAdd, reduceIte, Nat.reduceEqDiff, Nat.reduceBEq, reduceCtorEq]; (try go_unwrap; try simp only [hpl', hpt, List.length_cons, List.length_nil, Nat.zero_add, RR, reduceCtorEq]))) | refine And.intro ?_ ?_ | exact Or.inr ⟨rfl, Nat.le_refl _⟩ | exact (fun h => Bool.noConfusion h))
    refine ⟨?_⟩
    refine PW.trim 1 (fun t h => by simp; omega) ?_
    simp only [TT, MObj.kill, PV.kill, Nat.reduceLeDiff, reduceIte]
    repeat' (first | exact True.intro | (refine PW.seqK ?_; intro K hK) | refine stp ?_ | refine seqK_n ‹_› ?_ | refine seqK_r ‹_› ?_ | refine seqK_e ‹_› ?_ | exact schedW_stop_i | refine schK_n ‹_› ?_ | (refine PW.cond rfl ?_ ?_ <;> intro hcond <;> (try contradiction) <;> try simp only [DD] at hcond) | (refine gd_i ?_; intro hg; try simp only [hg]) | (refine ari ?_; first | omega | (simp only [DD, LL] <;> omega) | (go_unwrap; omega)) | ((first | refine stq ?_ | show (_ : Post) _ _ _ | (refine schedW_alt_k ?_ ?_; intro K hK)); focus (simp only [SA, Nat.reduceAdd, reduceIte, Nat.reduceEqDiff, Nat.reduceBEq, reduceCtorEq]; (try go_unwrap; try simp only [RR, reduceCtorEq]))) | refine And.intro ?_ ?_ | exact Or.inr ⟨rfl, Nat.le_refl _⟩ | exact (fun h => Bool.noConfusion h))
    · rw [hs]; simp
    · rw [hs, hsn]
theorem v59 (l : List Nd) (hl : l.length ≤ 256) : ∀ (k : Nat), k ≤ 16 → ∀ (i : Int) (o : List Nd), fitsD l k i → o.length ≤ 20000000000 * (17 - k) → SoC l i o [] (sortM l k i o)
  | 0, _, i, o, h, _ => h.elim
  | k + 1, hk16, i, o, h, ho => by
    have ih : ∀ i o, fitsD l k i → o.length ≤ 20000000000 * (17 - k) → SoC l i o [] (sortM l k i o) := fun i o h ho => v59 l hl k (by omega) i o h ho
    refine PCalls.moves (mv := fun t => t == 0 || decide (1 ≤ t)) (fun t ht h => ?_) ?_
    · simp only [List.length_cons, List.length_nil] at ht
      simp only [Bool.or_eq_true, beq_iff_eq, decide_eq_true_eq] at h
      simp only [killTag, beq_iff_eq]; omega
    refine PCalls.of_PW Tryd.func59 k59 mix (by simp [c59]) ?_
    exact so_pw l hl k hk16 ih i o h ho
theorem v59n (l : List Nd) (hl : l.length ≤ 256) (i : Int) (h : fitsD l 16 i) : PCalls Tryd.prog G0 59 [.list (some 4) (l.map ndP), .int .i64 i, .nilSl] [] (fun _ => false) (fun p μ' => p = .sl (some 4) 0 (sortM l 16 i []).length ∧ μ' = [some (rowN (sortM l 16 i []))]) := by
  refine PCalls.moves (mv := fun t => t == 0 || decide (1 ≤ t)) (fun t ht h => absurd ht (by simp)) ?_
  refine PCalls.of_PW Tryd.func59 k59 mix (by simp [c59]) ?_
  refine PW.own (some 4) 2 rfl ?_
  have := so_pw l hl 15 (by omega) (fun i o h ho => v59 l hl 15 (by omega) i o h ho) i [] h (by simp)
  refine PW.weak (env' := [(0, .list (some 4) (l.map ndP)), (1, .int .i64 i), (2, .sl (some 4) 0 ([] : List Nd).length)]) this ?_
  intro j
  by_cases h0 : j = 0
  · subst h0; exact .inl rfl
  by_cases h1 : j = 1
  · subst h1; exact .inl rfl
  by_cases h2 : j = 2
  · subst h2; exact .inl rfl
  · right
    simp [get_cons, get_nil, Ne.symm h0, Ne.symm h1, Ne.symm h2, argE, Env.get]
theorem v28 (l : List Nd) (hl : l.length ≤ 256) (h : fitsD l 16 ((l.length : Int) - 1)) : VCalls Tryd.prog G0 28 [.list (some 4) (l.map ndP)] (.list (some 4) ((sortM l 16 ((l.length : Int) - 1) []).map ndP)) := by
  refine VCalls.of_PW Tryd.func28 k28 mix (by simp [c28]) ?_
  simp only [c28, L28, CC, argE]
  have h59 := v59n l hl _ h
  simp only [rowN] at h59
  have hll : ((l.map ndP).length : Nat) = l.length := by simp
  have hrl : ((sortM l 16 ((l.length : Int) - 1) []).length : Nat) ≤ 4294967296 := by
    have := (sortM_len l 16 _ [] h).2
    have e : (4 : Nat) ^ 16 = 4294967296 := rfl
    simp only [List.length_nil] at this
    omega
  generalize sortM l 16 ((l.length : Int) - 1) [] = r at *
  have hrm : ((r.map ndP).length : Nat) = r.length := by simp
  have hrt : (r.map ndP).take r.length = r.map ndP := List.take_of_length_le (by simp)
  repeat' (first | exact True.intro | (refine PW.stop (x := .ret) ?_) | (refine PW.seqK ?_; intro K hK) | refine stp ?_ | refine seqK_n ‹_› ?_ | refine seqK_r ‹_› ?_ | refine seqK_e ‹_› ?_ | exact schedW_stop_i | refine schK_n ‹_› ?_ | (refine PW.cond rfl ?_ ?_ <;> intro hcond <;> (try contradiction) <;> try simp only [DD] at hcond) | (refine goCall_P e59 h59 ?_; rintro p μ' ⟨rfl, rfl⟩; simp only [hll, SA, Nat.reduceAdd, reduceIte, Nat.reduceEqDiff, Nat.reduceBEq, reduceCtorEq]) | (refine gd_i ?_; intro hg; try simp only [hg]) | (refine ari ?_; first | omega | (simp only [DD, LL] <;> omega) | (go_unwrap; omega)) | ((first | refine stq ?_ | show (_ : Post) _ _ _ | (refine schedW_alt_k ?_ ?_; intro K hK)); focus (simp only [hll, SA, Nat.reduceAdd, reduceIte, Nat.reduceEqDiff, Nat.reduceBEq, reduceCtorEq]; (try go_unwrap; try simp only [hll, RR, reduceCtorEq]))) | refine And.intro ?_ ?_ | exact Or.inr ⟨rfl, Nat.le_refl _⟩ | exact (fun h => Bool.noConfusion h))
  refine ⟨?_⟩
  refine PW.frz 0 (.row (some 4) (r.map ndP)) ?_ ?_ ?_
  · rfl
  · rfl
  simp only [SA, Nat.reduceAdd, reduceIte, Nat.reduceEqDiff, Nat.reduceBEq, reduceCtorEq, PV.frz, MObj.frz, frzM, frzSl, hrm, hrt, Nat.le_refl, and_self, if_true]
  repeat' (first | exact True.intro | (refine PW.seqK ?_; intro K hK) | refine stp ?_ | refine seqK_n ‹_› ?_ | refine seqK_r ‹_› ?_ | refine seqK_e ‹_› ?_ | exact schedW_stop_i | refine schK_n ‹_› ?_ | (refine PW.cond rfl ?_ ?_ <;> intro hcond <;> (try contradiction) <;> try simp only [DD] at hcond) | (refine gd_i ?_; intro hg; try simp only [hg]) | (refine ari ?_; first | omega | (simp only [DD, LL] <;> omega) | (go_unwrap; omega)) | ((first | refine stq ?_ | show (_ : Post) _ _ _ | (refine schedW_alt_k ?_ ?_; intro K hK)); focus (simp only [SA, Nat.reduceAdd, reduceIte, Nat.reduceEqDiff, Nat.reduceBEq, reduceCtorEq]; (try go_unwrap; try simp only [RR, reduceCtorEq]))) | refine And.intro ?_ ?_ | exact Or.inr ⟨rfl, Nat.le_refl _⟩ | exact (fun h => Bool.noConfusion h))
end Go.Proofs.YthekpjhffciakaaDoor

namespace Go.Proofs.YthekpjhffciakaaDoor
open Go PG Go.Proofs
set_option linter.unusedSimpArgs false
set_option linter.unusedVariables false
set_option maxRecDepth 100000
/-! A number's text says that number -/
theorem dig_sub {d : Nat} (h : d ≤ 9) : (UInt8.ofNat (48 + d) - 48).toNat = d := by
  have : d = 0 ∨ d = 1 ∨ d = 2 ∨ d = 3 ∨ d = 4 ∨ d = 5 ∨ d = 6 ∨ d = 7 ∨ d = 8 ∨ d = 9 := by omega
  rcases this with rfl | rfl | rfl | rfl | rfl | rfl | rfl | rfl | rfl | rfl <;> decide
theorem dig_B {d : Nat} (h : d ≤ 9) : digitB (UInt8.ofNat (48 + d)) = true := by
  have : d = 0 ∨ d = 1 ∨ d = 2 ∨ d = 3 ∨ d = 4 ∨ d = 5 ∨ d = 6 ∨ d = 7 ∨ d = 8 ∨ d = 9 := by omega
  rcases this with rfl | rfl | rfl | rfl | rfl | rfl | rfl | rfl | rfl | rfl <;> decide
theorem digT_all : ∀ n, ∀ b ∈ digT n, digitB b = true := by
  intro n
  induction n using Nat.strongRecOn with
  | ind n ih =>
    rw [digT]
    split
    · rename_i h9; intro b hb; rw [List.mem_singleton.1 hb]; exact dig_B h9
    · intro b hb
      rcases List.mem_append.1 hb with hb | hb
      · exact ih (n / 10) (by omega) b hb
      · rw [List.mem_singleton.1 hb]; exact dig_B (by omega)
theorem digT_ne (n : Nat) : digT n ≠ [] := by
  rw [digT]; split <;> simp
theorem runL_all {p : UInt8 → Bool} : ∀ {l : List UInt8}, (∀ b ∈ l, p b = true) → runL p l = l.length
  | [], _ => rfl
  | b :: l, h => by
    simp only [runL, h b (by simp), if_true, List.length_cons]
    rw [runL_all (fun c hc => h c (by simp [hc]))]
theorem capV_digT : ∀ (n : Nat), n ≤ 1000000000000 → ∀ l, capV 0 (digT n ++ l) = capV n l := by
  intro n
  induction n using Nat.strongRecOn with
  | ind n ih =>
    intro hn l
    rw [digT]
    split
    · rename_i h9
      simp only [List.cons_append, List.nil_append, capV, dig_sub h9]
      rw [if_neg (by omega)]
      congr 1; omega
    · rw [List.append_assoc, ih (n / 10) (by omega) (by omega)]
      simp only [List.cons_append, List.nil_append, capV, dig_sub (show n % 10 ≤ 9 by omega)]
      rw [if_neg (by omega)]
      congr 1; omega
theorem partV_zero (u : Nat) : ∀ l : List UInt8, partV u (l ++ [48]) = partV u l := by
  intro l
  induction l generalizing u with
  | nil => simp [partV]
  | cons b l ih => simp only [List.cons_append, partV, ih]
theorem partV_strip (u : Nat) : ∀ (n : Nat) (l : List UInt8), l.length ≤ n → partV u (stripZ l) = partV u l
  | 0, l, h => by have : l = [] := List.length_eq_zero_iff.1 (by omega); subst this; rfl
  | n + 1, l, h => by
    rcases List.eq_nil_or_concat l with rfl | ⟨l', b, rfl⟩
    · rfl
    · rw [List.concat_eq_append] at *
      rw [stripZ_snoc]
      split
      · rename_i hb
        subst hb
        rw [partV_strip u n l' (by simp at h; omega), partV_zero]
      · rfl
theorem strip_sub {l : List UInt8} : ∀ b ∈ stripZ l, b ∈ l := by
  intro b hb
  unfold stripZ at hb
  rw [List.mem_reverse] at hb
  exact List.mem_reverse.1 ((List.dropWhile_sublist _).subset hb)
theorem dropW_nil {p : UInt8 → Bool} : ∀ {l : List UInt8}, l.dropWhile p = [] → ∀ b ∈ l, p b = true
  | [], _, b, hb => by cases hb
  | c :: l, h, b, hb => by
    rw [List.dropWhile_cons] at h
    split at h
    · rename_i hc
      rcases List.mem_cons.1 hb with rfl | hb
      · exact hc
      · exact dropW_nil h b hb
    · cases h
theorem strip_ne {l : List UInt8} (h : ∃ b ∈ l, b ≠ 48) : stripZ l ≠ [] := by
  unfold stripZ
  intro e
  rw [List.reverse_eq_nil_iff] at e
  obtain ⟨b, hb, hb2⟩ := h
  have := dropW_nil e b (List.mem_reverse.2 hb)
  simp at this
  exact hb2 this
/-- The number with which a number's text begins is that number, and all of the text. -/
theorem numL_numT {n : Nat} (h : n ≤ 1000000000000000000) (h100 : n % 100 = 0) : numL (numT n) = .ok ((numT n).length, n) := by
  have hcap := capV_digT (n / 1000000) (by omega) []
  rw [List.append_nil] at hcap
  have hd := digT_all (n / 1000000)
  have hrun := runL_all hd
  unfold numT
  by_cases hr : n % 1000000 / 100 = 0
  · rw [if_pos hr]
    unfold numL
    rw [hrun, if_neg (by omega), List.take_length]
    have hv : milV (digT (n / 1000000)) [] = n := by
      unfold milV; rw [hcap]; simp only [capV, partV]; omega
    rw [hv, if_pos h]
  · rw [if_neg hr]
    have h5 := dig5 (n % 1000000 / 100) (by omega)
    have hf : (digT (10000 + n % 1000000 / 100)).drop 1 = [UInt8.ofNat (48 + n % 1000000 / 100 / 1000), UInt8.ofNat (48 + n % 1000000 / 100 / 100 % 10), UInt8.ofNat (48 + n % 1000000 / 100 / 10 % 10), UInt8.ofNat (48 + n % 1000000 / 100 % 10)] := by rw [h5]; rfl
    have hrr : n % 1000000 / 100 ≤ 9999 := by omega
    have hpv : partV 100000 ((digT (10000 + n % 1000000 / 100)).drop 1) = 100 * (n % 1000000 / 100) := by
      rw [hf]
      simp only [partV]
      rw [dig_sub (by omega), dig_sub (by omega), dig_sub (by omega), dig_sub (by omega)]
      simp only [Nat.reduceDiv]
      omega
    have hfd : ∀ b ∈ (digT (10000 + n % 1000000 / 100)).drop 1, digitB b = true := fun b hb => digT_all _ b (List.mem_of_mem_drop hb)
    have hfl : ((digT (10000 + n % 1000000 / 100)).drop 1).length = 4 := by rw [hf]; rfl
    have hne : ∃ b ∈ (digT (10000 + n % 1000000 / 100)).drop 1, b ≠ 48 := by
      refine Classical.byContradiction fun hx => ?_
      have hall : ∀ b ∈ (digT (10000 + n % 1000000 / 100)).drop 1, b = 48 := fun b hb => Classical.byContradiction fun e => hx ⟨b, hb, e⟩
      have : partV 100000 ((digT (10000 + n % 1000000 / 100)).drop 1) = 0 := by
        rw [hf] at hall ⊢
        simp only [List.mem_cons, List.not_mem_nil, or_false, forall_eq_or_imp, forall_eq] at hall
        obtain ⟨a1, a2, a3, a4⟩ := hall
        rw [a1, a2, a3, a4]; rfl
      omega
    clear hf
    generalize (digT (10000 + n % 1000000 / 100)).drop 1 = f0 at *
    have e1 := partV_strip 100000 f0.length f0 (Nat.le_refl _)
    have e2 : ∀ b ∈ stripZ f0, digitB b = true := fun b hb => hfd b (strip_sub b hb)
    have e3 := strip_ne hne
    have e4 := strip_le f0
    generalize stripZ f0 = f at *
    have hfr := runL_all e2
    have hlp : 0 < f.length := List.length_pos_iff.2 e3
    have hw : (digT (n / 1000000) ++ [46]) ++ f = digT (n / 1000000) ++ 46 :: f := by simp
    rw [hw]
    generalize digT (n / 1000000) = w at *
    have hr1 : runL digitB (w ++ 46 :: f) = w.length := by rw [runL_stop_app digit46, hrun]
    have hg : (w ++ 46 :: f).getD w.length 0 = 46 := by simp [List.getD]
    have hdr : (w ++ 46 :: f).drop (w.length + 1) = f := by
      rw [List.drop_append]; simp
    have htk : (w ++ 46 :: f).take w.length = w := by simp
    unfold numL
    rw [hr1, if_pos ⟨by simp, hg⟩, hdr, hfr, if_neg (by omega), if_neg (by omega), htk, List.take_length]
    have hv : milV w f = n := by
      unfold milV; rw [hcap, e1, hpv]; simp only [capV]; omega
    rw [hv, if_pos h]
    simp
    omega
theorem numT_head (n : Nat) : digitB ((numT n).getD 0 0) = true := by
  have h : ∀ r : List UInt8, digitB ((digT (n / 1000000) ++ r).getD 0 0) = true := by
    intro r
    rw [getD_app (List.length_pos_iff.2 (digT_ne _))]
    cases hx : digT (n / 1000000) with
    | nil => exact absurd hx (digT_ne _)
    | cons b l =>
      have := digT_all (n / 1000000) b (by rw [hx]; simp)
      simpa using this
  unfold numT
  split
  · have := h []; rwa [List.append_nil] at this
  · rw [List.append_assoc]; exact h _
theorem numT_ne (n : Nat) : numT n ≠ [] := by
  intro e
  have := numT_head n
  rw [e] at this
  cases this
theorem lx_numT {n : Nat} (h : n ≤ 1000000000000000000) (h100 : n % 100 = 0) : lx (numT n) = some [(2, numT n)] := lx_numb (numT_head n) (numL_numT h h100)
theorem nm_numT {n : Nat} (h : n ≤ 1000000000000000000) (h100 : n % 100 = 0) : nmP (numT n) = n := by
  unfold nmP numOf
  rw [if_neg (numT_ne n), numT_head n, numL_numT h h100]
  simp
end Go.Proofs.YthekpjhffciakaaDoor

