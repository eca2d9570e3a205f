import Derived.Test.YtedjaohonijemaaDoorProg
import Derived.KernelRfl
import Derived.Test.YtedjaohonijemaaDoorQ11
import Derived.Test.YtedjaohonijemaaDoorP4
namespace Go.Proofs.YtedjaohonijemaaDoor
open Go PG Go.Proofs
set_option linter.unusedSimpArgs false
set_option linter.unusedVariables false
set_option maxHeartbeats 4000000
set_option maxRecDepth 100000
variable {G : Globs}
/-! A year's periods -/
def inB (s : Sp) (e : Int) : Bool := (decide (-25567 ≤ s.1) && decide (s.2 ≤ 84006)) && decide (s.2 ≤ e)
def spansL : Nat → Cal → Int → Int → List Sp → Option (List Sp)
  | 0, _, _, _, _ => none
  | k + 1, c, d, e, out => if d < e then (if -100000 ≤ d ∧ d ≤ 200000 then (match spanM c d with
      | none => none
      | some s => spansL k c s.2 e (if inB s e = true then out ++ [s] else out)) else none) else some out
theorem v8 (hG : G 1 = some (some 12, monTabP)) (hP : G 0 = some (some 3, perTabP)) {c : Cal} (hc : CalOk c) {y : Int} (hy : 1900 ≤ y ∧ y ≤ 2198) (h1 : toM (firstM y) = some (y, 1, 1)) (h2 : toM (firstM (y + 1)) = some (y + 1, 1, 1))
    {l : List Sp} (hl : spansL 400 c (firstM y) (firstM (y + 1)) [] = some l) : VCalls Tryd.prog G 8 [calP c, .int .i64 y] (spL l) := by
  refine VCalls.of_PW Tryd.func8 k8 mix (by simp [c8]) ?_
  have h20a := v20 hG (y := y) (by omega) h1
  have h20b := v20 hG (y := y + 1) (by omega) h2
  generalize firstM y = d0 at *
  generalize firstM (y + 1) = e at *
  simp only [c8, L8, CC, argE, calP]
  repeat' (first | exact True.intro | (refine PW.seqK ?_; intro K hK) | refine stp ?_ | refine seqK_n ‹_› ?_ | refine seqK_r ‹_› ?_ | refine seqK_e ‹_› ?_ | exact schedW_stop_i | refine schK_n ‹_› ?_ | (refine PW.cond rfl ?_ ?_ <;> intro hcond <;> (try contradiction) <;> try simp only [DD] at hcond) | (apply goCall_V e20; (case hV => (simp only [SA, Nat.reduceAdd, reduceIte, Nat.reduceEqDiff, Nat.reduceBEq, reduceCtorEq]; (try go_unwrap; try simp only [RR, reduceCtorEq]); exact h20b)); (try (case hs => rfl)); (try (case hf => first | exact Or.inl rfl | exact Or.inr ⟨rfl, rfl⟩ | (refine Or.inl ?_; simp only [SA, Nat.reduceAdd, reduceIte, Nat.reduceEqDiff, Nat.reduceBEq, reduceCtorEq]; done) | (refine Or.inr ⟨rfl, ?_⟩; simp only [SA, Nat.reduceAdd, reduceIte, Nat.reduceEqDiff, Nat.reduceBEq, reduceCtorEq]; done))); all_goals (first | (simp only [SA, Nat.reduceAdd, reduceIte, Nat.reduceEqDiff, Nat.reduceBEq, reduceCtorEq]; (try go_unwrap; try simp only [RR, reduceCtorEq])) | (show Env; skip) | (show Mem; skip))) | (apply goCall_V e20; (case hV => (simp only [SA, Nat.reduceAdd, reduceIte, Nat.reduceEqDiff, Nat.reduceBEq, reduceCtorEq]; (try go_unwrap; try simp only [RR, reduceCtorEq]); exact h20a)); (try (case hs => rfl)); (try (case hf => first | exact Or.inl rfl | exact Or.inr ⟨rfl, rfl⟩ | (refine Or.inl ?_; simp only [SA, Nat.reduceAdd, reduceIte, Nat.reduceEqDiff, Nat.reduceBEq, reduceCtorEq]; done) | (refine Or.inr ⟨rfl, ?_⟩; simp only [SA, Nat.reduceAdd, reduceIte, Nat.reduceEqDiff, Nat.reduceBEq, reduceCtorEq]; done))); all_goals (first | (simp only [SA, Nat.reduceAdd, reduceIte, Nat.reduceEqDiff, Nat.reduceBEq, reduceCtorEq]; (try go_unwrap; try simp only [RR, reduceCtorEq])) | (show Env; skip) | (show Mem; skip))) | (refine gd_i ?_; intro hg; try simp only [hg]) | (refine ari ?_; first | omega | (simp only [DD, LL] <;> omega) | (go_unwrap; omega)) | ((first | refine stq ?_ | show (_ : Post) _ _ _ | (refine schedW_alt_k ?_ ?_; intro K hK)); focus (simp only [SA, Nat.reduceAdd, reduceIte, Nat.reduceEqDiff, Nat.reduceBEq, reduceCtorEq]; (try go_unwrap; try simp only [RR, reduceCtorEq]))) | refine And.intro ?_ ?_ | exact Or.inr ⟨rfl, Nat.le_refl _⟩ | exact (fun h => Bool.noConfusion h))
  refine PW.own (some 2) 5 rfl ?_
  refine PW.loopG (σ := Nat × Int × List Sp) 2 (fun _ _ => rfl) [2, 5, 6, 7] (fun s => [.ref 0 0, .sl (some 2) 1 s.2.2.length, .int .i64 e, .int .i64 s.2.1])
    (fun s => [some (.var (some 3) (.agg [.int .i64 c.k, .int .i64 c.f, .int .i64 c.g])), some (.row (some 2) (s.2.2.map spP))]) (fun s => spansL s.1 c s.2.1 e s.2.2 = some l ∧ s.2.2.length + s.1 ≤ 400) (fun s => s.1) (400, d0, []) ?_ (by first | rfl | simp) ⟨hl, by simp⟩ ?_
  · simp only [SA, Nat.reduceAdd, reduceIte, Nat.reduceEqDiff, Nat.reduceBEq, reduceCtorEq]; rfl
  clear hl h20a h20b
  rintro ⟨k, d, out⟩ ⟨hl, hk⟩
  simp only at hl hk
  simp only [List.zip_cons_cons, List.zip_nil_left]
  cases k with
  | zero => cases hl
  | succ k =>
  rw [spansL] at hl
  have hol : ((out.map spP).length : Nat) = out.length := by simp
  have hot : (out.map spP).take out.length = out.map spP := List.take_of_length_le (by simp)
  by_cases hd : d < e
  case neg =>
    rw [if_neg hd] at hl
    cases hl
    have d1 : decide (d < e) = false := decide_eq_false hd
    repeat' (first | exact True.intro | (refine PW.stop (x := .seq (.region false (⟨some 34, none, .rd .mov [.tmp 5]⟩ :: _) _) _) ?_) | (refine PW.seqK ?_; intro K hK) | refine stp ?_ | refine seqK_n ‹_› ?_ | refine seqK_r ‹_› ?_ | refine seqK_e ‹_› ?_ | exact schedW_stop_i | refine schK_n ‹_› ?_ | (refine PW.cond rfl ?_ ?_ <;> intro hcond <;> (try contradiction) <;> try simp only [DD] at hcond) | (refine gd_i ?_; intro hg; try simp only [hg]) | (refine ari ?_; first | omega | (simp only [DD, LL] <;> omega) | (go_unwrap; omega)) | ((first | refine stq ?_ | show (_ : Post) _ _ _ | (refine schedW_alt_k ?_ ?_; intro K hK)); focus (simp only [d1, SA, Nat.reduceAdd, reduceIte, Nat.reduceEqDiff, Nat.reduceBEq, reduceCtorEq]; (try go_unwrap; try simp only [d1, RR, reduceCtorEq]))) | refine And.intro ?_ ?_ | exact Or.inr ⟨rfl, Nat.le_refl _⟩ | exact (fun h => Bool.noConfusion h))
    refine ⟨?_⟩
    refine PW.frz 1 (.row (some 2) (l.map spP)) ?_ ?_ ?_
    · rfl
    · rfl
    simp only [SA, Nat.reduceAdd, reduceIte, Nat.reduceEqDiff, Nat.reduceBEq, reduceCtorEq, PV.frz, MObj.frz, frzM, frzSl, hol, hot, Nat.le_refl, and_self, if_true]
    repeat' (first | exact True.intro | (refine PW.seqK ?_; intro K hK) | refine stp ?_ | refine seqK_n ‹_› ?_ | refine seqK_r ‹_› ?_ | refine seqK_e ‹_› ?_ | exact schedW_stop_i | refine schK_n ‹_› ?_ | (refine PW.cond rfl ?_ ?_ <;> intro hcond <;> (try contradiction) <;> try simp only [DD] at hcond) | (refine gd_i ?_; intro hg; try simp only [hg]) | (refine ari ?_; first | omega | (simp only [DD, LL] <;> omega) | (go_unwrap; omega)) | ((first | refine stq ?_ | show (_ : Post) _ _ _ | (refine schedW_alt_k ?_ ?_; intro K hK)); focus (simp only [SA, Nat.reduceAdd, reduceIte, Nat.reduceEqDiff, Nat.reduceBEq, reduceCtorEq]; (try go_unwrap; try simp only [RR, reduceCtorEq]))) | refine And.intro ?_ ?_ | exact Or.inr ⟨rfl, Nat.le_refl _⟩ | exact (fun h => Bool.noConfusion h))
  rw [if_pos hd] at hl
  have d1 : decide (d < e) = true := decide_eq_true hd
  split at hl
  case isFalse => cases hl
  rename_i hdb
  cases hs : spanM c d with
  | none => rw [hs] at hl; cases hl
  | some s =>
  rw [hs] at hl
  simp only at hl
  have h21 := v21 hG hP hc hdb hs
  have h22 := v22 (G := G) s
  simp only [calP, spP] at h21 h22
  have hsc : ∀ (a b : Int), ∀ x ∈ [PV.int .i64 a, PV.int .i64 b], x.scalar = true := by
    intro a b x hc; simp at hc; rcases hc with rfl | rfl <;> rfl
  have b1 : (out.length + 1) * 16 ≤ 281474976710656 := by omega
  have hst : (out ++ [s]).map spP = out.map spP ++ [.agg [.int .i64 s.1, .int .i64 s.2]] := by simp [spP]
  have hB : inB s e = ((decide (-25567 ≤ s.1) && decide (s.2 ≤ 84006)) && decide (s.2 ≤ e)) := rfl
  generalize (decide (-25567 ≤ s.1) && decide (s.2 ≤ 84006)) = b at *
  by_cases hin : inB s e = true
  · rw [if_pos hin] at hl
    rw [hB] at hin
    repeat' (first | exact True.intro | exact hsc _ _ | (exact Or.inr ⟨rfl, by decide⟩) | (refine PW.seqK ?_; intro K hK) | refine stp ?_ | refine seqK_n ‹_› ?_ | refine seqK_r ‹_› ?_ | refine seqK_e ‹_› ?_ | exact schedW_stop_i | refine schK_n ‹_› ?_ | (refine PW.cond rfl ?_ ?_ <;> intro hcond <;> (try contradiction) <;> try simp only [DD] at hcond) | (refine gd_i ?_; intro hg; try simp only [hg]) | refine goCall_W e21 (h21) ?_ ?_ ?_ ?_ | refine goCall_W e22 (h22) ?_ ?_ ?_ ?_ | (refine ari ?_; first | omega | (simp only [DD, LL] <;> omega) | (go_unwrap; omega)) | ((first | refine stq ?_ | show (_ : Post) _ _ _ | (refine schedW_alt_k ?_ ?_; intro K hK)); focus (simp only [d1, hol, hot, cut, sub20, sub21, hin, List.length_cons, List.length_nil, Nat.zero_add, SA, Nat.reduceAdd, reduceIte, Nat.reduceEqDiff, Nat.reduceBEq, reduceCtorEq]; (try go_unwrap; try simp only [d1, hol, hot, cut, sub20, sub21, hin, List.length_cons, List.length_nil, Nat.zero_add, RR, reduceCtorEq]))) | refine And.intro ?_ ?_ | exact Or.inr ⟨rfl, Nat.le_refl _⟩ | exact (fun h => Bool.noConfusion h))
    all_goals first | exact ⟨_, rfl, rfl, hsc _ _⟩ | exact ⟨(k, s.2, out ++ [s]), (by simp only [List.length_append, List.length_cons, List.length_nil]; exact (by first | rfl | (simp only [TT, MObj.kill, PV.kill, Nat.reduceLeDiff, reduceIte, Nat.le_refl, Nat.zero_le, Nat.not_le, Nat.lt_irrefl]; done) | (simp [trimE, trimM, MObj.kill, PV.kill]; done))), (by rw [hst]; exact (by first | rfl | (simp only [TT, MObj.kill, PV.kill, Nat.reduceLeDiff, reduceIte, Nat.le_refl, Nat.zero_le, Nat.not_le, Nat.lt_irrefl]; done) | (simp [trimE, trimM, MObj.kill, PV.kill]; done))), ⟨hl, by simp; omega⟩, by simp only; omega⟩
  · rw [if_neg hin] at hl
    have hin : inB s e = false := by simpa using hin
    rw [hB] at hin
    repeat' (first | exact True.intro | (exact Or.inr ⟨rfl, by decide⟩) | (refine PW.seqK ?_; intro K hK) | refine stp ?_ | refine seqK_n ‹_› ?_ | refine seqK_r ‹_› ?_ | refine seqK_e ‹_› ?_ | exact schedW_stop_i | refine schK_n ‹_› ?_ | (refine PW.cond rfl ?_ ?_ <;> intro hcond <;> (try contradiction) <;> try simp only [DD] at hcond) | (refine gd_i ?_; intro hg; try simp only [hg]) | refine goCall_W e21 (h21) ?_ ?_ ?_ ?_ | refine goCall_W e22 (h22) ?_ ?_ ?_ ?_ | (refine ari ?_; first | omega | (simp only [DD, LL] <;> omega) | (go_unwrap; omega)) | ((first | refine stq ?_ | show (_ : Post) _ _ _ | (refine schedW_alt_k ?_ ?_; intro K hK)); focus (simp only [d1, hol, hot, cut, sub20, sub21, hin, SA, Nat.reduceAdd, reduceIte, Nat.reduceEqDiff, Nat.reduceBEq, reduceCtorEq]; (try go_unwrap; try simp only [d1, hol, hot, cut, sub20, sub21, hin, RR, reduceCtorEq]))) | refine And.intro ?_ ?_ | exact Or.inr ⟨rfl, Nat.le_refl _⟩ | exact (fun h => Bool.noConfusion h))
    all_goals exact ⟨(k, s.2, out), (by first | rfl | (simp only [TT, MObj.kill, PV.kill, Nat.reduceLeDiff, reduceIte, Nat.le_refl, Nat.zero_le, Nat.not_le, Nat.lt_irrefl]; done) | (simp [trimE, trimM, MObj.kill, PV.kill]; done)), (by first | rfl | (simp only [TT, MObj.kill, PV.kill, Nat.reduceLeDiff, reduceIte, Nat.le_refl, Nat.zero_le, Nat.not_le, Nat.lt_irrefl]; done) | (simp [trimE, trimM, MObj.kill, PV.kill]; done)), ⟨hl, by simp only; omega⟩, by simp only; omega⟩
def perAt (c : Cal) (y : Int) (n i : Nat) (s : Sp) : Per := ⟨y, i + 1, n, s.1, (s.2 - s.1).toNat, min (s.2 - 1 + c.g) 84005⟩
theorem part2 (a b : PV) : partOf (.agg [a, b]) 2 = some [a, b] := rfl
theorem sa6 (a b c d e f : PV) : setAll (setAll [a, b, c, .int .i64 0, .int .i64 0, .int .i64 0] 3 [d, e]) 5 [f] = [a, b, c, d, e, f] := rfl
theorem hsc6 (a b c d e f : Int) : ∀ x ∈ [PV.int .i64 a, PV.int .i64 b, PV.int .i64 c, PV.int .i64 d, PV.int .i64 e, PV.int .i64 f], x.scalar = true := by
  intro x hx; simp at hx; rcases hx with rfl | rfl | rfl | rfl | rfl | rfl <;> rfl
theorem v9 {c : Cal} (hc : CalOk c) (y : Int) (n i : Nat) (hi : i ≤ 1000) (s : Sp) (h1 : s.1 ≤ s.2) (h2 : -1000000 ≤ s.2 ∧ s.2 ≤ 1000000) : VCalls Tryd.prog G 9 [calP c, .int .i64 y, .int .i64 i, .int .i64 n, spP s] (perP (perAt c y n i s)) := by
  refine VCalls.of_PW Tryd.func9 k9 mix (by simp [c9]) ?_
  simp only [c9, L9, CC, argE, calP, spP, perP, perAt]
  obtain ⟨⟨k1, k2⟩, ⟨f1, f2⟩, g1, g2⟩ := hc
  have s2 : ∀ a b c : PV, sub none [a, b, c] 2 = c := fun _ _ _ => rfl
  have e1 : s.1 + (((s.2 - s.1).toNat : Nat) : Int) = s.2 := by omega
  rw [e1]
  repeat' (first | exact True.intro | exact hsc6 _ _ _ _ _ _ | (exact Or.inr ⟨rfl, by decide⟩) | (refine PW.seqK ?_; intro K hK) | refine stp ?_ | refine seqK_n ‹_› ?_ | refine seqK_r ‹_› ?_ | refine seqK_e ‹_› ?_ | exact schedW_stop_i | refine schK_n ‹_› ?_ | (refine PW.cond rfl ?_ ?_ <;> intro hcond <;> (try contradiction) <;> try simp only [DD] at hcond) | (refine gd_i ?_; intro hg; try simp only [hg]) | (refine ari ?_; first | omega | (simp only [DD, LL] <;> omega) | (go_unwrap; omega)) | ((first | refine stq ?_ | show (_ : Post) _ _ _ | (refine schedW_alt_k ?_ ?_; intro K hK)); focus (simp only [s2, sub20, sub21, part2, Option.isSome_some, Option.getD_some, sa6, SA, Nat.reduceAdd, reduceIte, Nat.reduceEqDiff, Nat.reduceBEq, reduceCtorEq]; (try go_unwrap; try simp only [s2, sub20, sub21, part2, Option.isSome_some, Option.getD_some, sa6, RR, reduceCtorEq]))) | refine And.intro ?_ ?_ | exact Or.inr ⟨rfl, Nat.le_refl _⟩ | exact (fun h => Bool.noConfusion h))
  all_goals rfl
def persM (c : Cal) (y : Int) (l : List Sp) : List Per := (List.range l.length).map fun i => perAt c y l.length i (l.getD i (0, 0))
theorem persM_take (c : Cal) (y : Int) (l : List Sp) {i : Nat} (h : i < l.length) : (persM c y l).take (i + 1) = (persM c y l).take i ++ [perAt c y l.length i l[i]] := by
  have hl : (persM c y l).length = l.length := by simp [persM]
  rw [List.take_succ_eq_append_getElem (by omega)]
  simp [persM, List.getD, h]
theorem v4 (hG : G 1 = some (some 12, monTabP)) (hP : G 0 = some (some 3, perTabP)) {c : Cal} (hc : CalOk c) {y : Int} (hy : 1900 ≤ y ∧ y ≤ 2198) (h1 : toM (firstM y) = some (y, 1, 1)) (h2 : toM (firstM (y + 1)) = some (y + 1, 1, 1))
    {l : List Sp} (hl : spansL 400 c (firstM y) (firstM (y + 1)) [] = some l) (hll : l.length ≤ 400) (hls : ∀ s ∈ l, s.1 ≤ s.2 ∧ -1000000 ≤ s.2 ∧ s.2 ≤ 1000000) :
    VCalls Tryd.prog G 4 [calP c, .int .i64 y] (.tup [.list (some 6) ((persM c y l).map perP), .int .i64 0]) := by
  refine VCalls.of_PW Tryd.func4 k4 mix (by simp [c4]) ?_
  have h7 := v7 (G := G) hc
  have h8 := v8 hG hP hc hy h1 h2 hl
  simp only [c4, L4, CC, argE]
  simp only [calP] at h7 h8 ⊢
  have hlm : ((l.map spP).length : Nat) = l.length := by simp
  have hpl : (persM c y l).length = l.length := by simp [persM]
  have d1 : decide (y < 1900) = false := by simp only [decide_eq_false_iff_not]; omega
  have d2 : decide (2199 < y) = false := by simp only [decide_eq_false_iff_not]; omega
  repeat' (first | exact True.intro | (refine PW.seqK ?_; intro K hK) | refine stp ?_ | refine seqK_n ‹_› ?_ | refine seqK_r ‹_› ?_ | refine seqK_e ‹_› ?_ | exact schedW_stop_i | refine schK_n ‹_› ?_ | (refine PW.cond rfl ?_ ?_ <;> intro hcond <;> (try contradiction) <;> try simp only [DD] at hcond) | (refine gd_i ?_; intro hg; try simp only [hg]) | refine goCall_W e7 (h7) ?_ ?_ ?_ ?_ | refine goCall_W e8 (h8) ?_ ?_ ?_ ?_ | (refine ari ?_; first | omega | (simp only [DD, LL] <;> omega) | (go_unwrap; omega)) | ((first | refine stq ?_ | show (_ : Post) _ _ _ | (refine schedW_alt_k ?_ ?_; intro K hK)); focus (simp only [d1, d2, hlm, SA, Nat.reduceAdd, reduceIte, Nat.reduceEqDiff, Nat.reduceBEq, reduceCtorEq]; (try go_unwrap; try simp only [d1, d2, hlm, RR, reduceCtorEq]))) | refine And.intro ?_ ?_ | exact Or.inr ⟨rfl, Nat.le_refl _⟩ | exact (fun h => Bool.noConfusion h))
  refine PW.own (some 6) 7 rfl ?_
  refine PW.loopG (σ := Nat) 2 (fun _ _ => rfl) [1, 2, 7, 8, 25, 26, 27] (fun i => [.int .i64 y, .ref 0 0, .sl (some 6) 1 i, spL l, spL l, .int .i64 l.length, .int .i64 i])
    (fun i => [some (.var (some 3) (.agg [.int .i64 c.k, .int .i64 c.f, .int .i64 c.g])), some (.row (some 6) (((persM c y l).take i).map perP))]) (fun i => i ≤ l.length) (fun i => l.length - i) 0 ?_ (by first | rfl | simp) (by omega) ?_
  · simp only [SA, Nat.reduceAdd, reduceIte, Nat.reduceEqDiff, Nat.reduceBEq, reduceCtorEq]; rfl
  intro i hi
  simp only [List.zip_cons_cons, List.zip_nil_left]
  have hRl : ((((persM c y l).take i).map perP).length : Nat) = i := by simp; omega
  have hRt : (((persM c y l).take i).map perP).take i = ((persM c y l).take i).map perP := List.take_of_length_le (by rw [hRl]; exact Nat.le_refl _)
  rcases Nat.lt_or_ge i l.length with h | h
  case inr =>
    have hd : decide ((i : Int) < l.length) = false := by simp only [decide_eq_false_iff_not]; omega
    obtain rfl : i = l.length := by omega
    rw [show (persM c y l).take l.length = persM c y l from List.take_of_length_le (by omega)] at hRl hRt ⊢
    repeat' (first | exact True.intro | (refine PW.stop (x := .seq (.region false (⟨some 43, none, .rd .mov [.tmp 7]⟩ :: _) _) _) ?_) | (refine PW.seqK ?_; intro K hK) | refine stp ?_ | refine seqK_n ‹_› ?_ | refine seqK_r ‹_› ?_ | refine seqK_e ‹_› ?_ | exact schedW_stop_i | refine schK_n ‹_› ?_ | (refine PW.cond rfl ?_ ?_ <;> intro hcond <;> (try contradiction) <;> try simp only [DD] at hcond) | (refine gd_i ?_; intro hg; try simp only [hg]) | (refine ari ?_; first | omega | (simp only [DD, LL] <;> omega) | (go_unwrap; omega)) | ((first | refine stq ?_ | show (_ : Post) _ _ _ | (refine schedW_alt_k ?_ ?_; intro K hK)); focus (simp only [hd, SA, Nat.reduceAdd, reduceIte, Nat.reduceEqDiff, Nat.reduceBEq, reduceCtorEq]; (try go_unwrap; try simp only [hd, RR, reduceCtorEq]))) | refine And.intro ?_ ?_ | exact Or.inr ⟨rfl, Nat.le_refl _⟩ | exact (fun h => Bool.noConfusion h))
    refine ⟨?_⟩
    refine PW.frz 1 (.row (some 6) ((persM c y l).map perP)) ?_ ?_ ?_
    · rfl
    · rfl
    simp only [SA, Nat.reduceAdd, reduceIte, Nat.reduceEqDiff, Nat.reduceBEq, reduceCtorEq, PV.frz, MObj.frz, frzM, frzSl, hRl, hRt, Nat.le_refl, and_self, if_true]
    repeat' (first | exact True.intro | (refine PW.seqK ?_; intro K hK) | refine stp ?_ | refine seqK_n ‹_› ?_ | refine seqK_r ‹_› ?_ | refine seqK_e ‹_› ?_ | exact schedW_stop_i | refine schK_n ‹_› ?_ | (refine PW.cond rfl ?_ ?_ <;> intro hcond <;> (try contradiction) <;> try simp only [DD] at hcond) | (refine gd_i ?_; intro hg; try simp only [hg]) | (refine ari ?_; first | omega | (simp only [DD, LL] <;> omega) | (go_unwrap; omega)) | ((first | refine stq ?_ | show (_ : Post) _ _ _ | (refine schedW_alt_k ?_ ?_; intro K hK)); focus (simp only [SA, Nat.reduceAdd, reduceIte, Nat.reduceEqDiff, Nat.reduceBEq, reduceCtorEq]; (try go_unwrap; try simp only [RR, reduceCtorEq]))) | refine And.intro ?_ ?_ | exact Or.inr ⟨rfl, Nat.le_refl _⟩ | exact (fun h => Bool.noConfusion h))
  have hd : decide ((i : Int) < l.length) = true := by simp only [decide_eq_true_eq]; omega
  obtain ⟨s, -, hn, hg⟩ := drop_at h
  have hgs : (l.map spP).getD i .junk = .agg [.int .i64 s.1, .int .i64 s.2] := (hg spP).1
  have hni : l[i] = s := by rw [List.getElem?_eq_getElem h] at hn; exact Option.some.inj hn
  obtain ⟨b1, b2, b3⟩ := hls s (List.mem_of_getElem? hn)
  have h9 := v9 (G := G) hc y l.length i (by omega) s b1 ⟨b2, b3⟩
  have hst : ((persM c y l).take (i + 1)).map perP = ((persM c y l).take i).map perP ++ [perP (perAt c y l.length i s)] := by
    rw [persM_take c y l h, hni, List.map_append]; rfl
  generalize perAt c y l.length i s = q at *
  generalize ((persM c y l).take i).map perP = R at *
  simp only [calP, spP] at h9
  have hq : perP q = .agg [.int .i64 q.y, .int .i64 q.i, .int .i64 q.o, .int .i64 q.f, .int .i64 (q.f + q.L), .int .i64 q.pay] := rfl
  rw [hq] at h9 hst
  have b4 : (i + 1) * 48 ≤ 281474976710656 := by omega
  have hsc : ∀ (a b : Int), ∀ x ∈ [PV.int .i64 a, PV.int .i64 b], x.scalar = true := by
    intro a b x hc; simp at hc; rcases hc with rfl | rfl <;> rfl
  repeat' (first | exact True.intro | exact hsc _ _ | exact hsc6 _ _ _ _ _ _ | (exact Or.inr ⟨rfl, by decide⟩) | (refine PW.seqK ?_; intro K hK) | refine stp ?_ | refine seqK_n ‹_› ?_ | refine seqK_r ‹_› ?_ | refine seqK_e ‹_› ?_ | exact schedW_stop_i | refine schK_n ‹_› ?_ | (refine PW.cond rfl ?_ ?_ <;> intro hcond <;> (try contradiction) <;> try simp only [DD] at hcond) | (refine gd_i ?_; intro hg; try simp only [hg]) | refine goCall_W e9 (h9) ?_ ?_ ?_ ?_ | (refine ari ?_; first | omega | (simp only [DD, LL] <;> omega) | (go_unwrap; omega)) | ((first | refine stq ?_ | show (_ : Post) _ _ _ | (refine schedW_alt_k ?_ ?_; intro K hK)); focus (simp only [hd, hgs, hlm, hRl, hRt, cut, List.length_cons, List.length_nil, Nat.zero_add, SA, Nat.reduceAdd, reduceIte, Nat.reduceEqDiff, Nat.reduceBEq, reduceCtorEq]; (try go_unwrap; try simp only [hd, hgs, hlm, hRl, hRt, cut, List.length_cons, List.length_nil, Nat.zero_add, RR, reduceCtorEq]))) | refine And.intro ?_ ?_ | exact Or.inr ⟨rfl, Nat.le_refl _⟩ | exact (fun h => Bool.noConfusion h))
  all_goals first | exact ⟨_, rfl, rfl, hsc6 _ _ _ _ _ _⟩ | exact ⟨i + 1, (by first | rfl | (simp only [TT, MObj.kill, PV.kill, Nat.reduceLeDiff, reduceIte, Nat.le_refl, Nat.zero_le, Nat.not_le, Nat.lt_irrefl]; done) | (simp [trimE, trimM, MObj.kill, PV.kill]; done)), (by rw [hst]; exact (by first | rfl | (simp only [TT, MObj.kill, PV.kill, Nat.reduceLeDiff, reduceIte, Nat.le_refl, Nat.zero_le, Nat.not_le, Nat.lt_irrefl]; done) | (simp [trimE, trimM, MObj.kill, PV.kill]; done))), by omega, by omega⟩
end Go.Proofs.YtedjaohonijemaaDoor

namespace Go.Proofs.YtedjaohonijemaaDoor
open Go PG Go.Proofs
set_option linter.unusedSimpArgs false
set_option linter.unusedVariables false
set_option maxRecDepth 100000
/-! Each calendar has periods in each year from 2000 to 2099 -/
def okY (y : Nat) : Bool := decide (toM (firstM (2000 + y)) = some (2000 + (y : Int), 1, 1))
theorem okY_all : (List.range 101).all okY = true := by kernel_rfl
theorem okY_at {y : Nat} (h : y < 101) : toM (firstM (2000 + y)) = some (2000 + (y : Int), 1, 1) := by
  have := List.all_eq_true.1 okY_all y (List.mem_range.2 h)
  exact of_decide_eq_true this
/-- What a span is to be. -/
def SpOk (s : Sp) : Prop := 1 ≤ s.2 - s.1 ∧ s.2 - s.1 ≤ 31 ∧ -100000 ≤ s.1 ∧ s.1 ≤ 100000
def spB (s : Sp) : Bool := decide (1 ≤ s.2 - s.1) && (decide (s.2 - s.1 ≤ 31) && (decide (-100000 ≤ s.1) && decide (s.1 ≤ 100000)))
theorem spB_ok {s : Sp} (h : spB s = true) : SpOk s := by
  simpa [spB, SpOk] using h
structure LsOk (l : List Sp) : Prop where
  ne : l ≠ []
  len : l.length ≤ 400
  sp : ∀ s ∈ l, SpOk s
def c00 : Cal := ⟨0, 0, 0⟩
def okMo (y : Nat) : Bool := match spansL 400 c00 (firstM (2000 + y)) (firstM (2000 + y + 1)) [] with
  | some l => decide (0 < l.length) && (decide (l.length ≤ 400) && l.all spB)
  | none => false
theorem okMo_all : (List.range 100).all okMo = true := by kernel_rfl
theorem span0 {c : Cal} (h : c.k = 0) (d : Int) : spanM c d = spanM c00 d := by
  unfold spanM
  rw [if_pos h, if_pos (show c00.k = 0 from rfl)]
theorem spans0 {c : Cal} (h : c.k = 0) (e : Int) : ∀ (k : Nat) (d : Int) (out : List Sp), spansL k c d e out = spansL k c00 d e out
  | 0, _, _ => rfl
  | k + 1, d, out => by
    rw [spansL, spansL, span0 h]
    split
    · split
      · cases spanM c00 d with
        | none => rfl
        | some s => exact spans0 h e k _ _
      · rfl
    · rfl
theorem cal_mo {c : Cal} (hk : c.k = 0) {y : Nat} (h : y < 100) : ∃ l, spansL 400 c (firstM (2000 + y)) (firstM (2000 + y + 1)) [] = some l ∧ LsOk l := by
  have := List.all_eq_true.1 okMo_all y (List.mem_range.2 h)
  rw [spans0 hk]
  unfold okMo at this
  cases hl : spansL 400 c00 (firstM (2000 + y)) (firstM (2000 + y + 1)) [] with
  | none => rw [hl] at this; cases this
  | some l =>
    rw [hl] at this
    simp only [Bool.and_eq_true, decide_eq_true_eq] at this
    exact ⟨l, rfl, fun e => by rw [e] at this; simp at this, this.2.1, fun s hs => spB_ok (List.all_eq_true.1 this.2.2 s hs)⟩
theorem wk_go {c : Cal} (hk : c.k ≠ 0) (hn : stepM c.k = 14 ∨ stepM c.k = 28) (e : Int) (he : e ≤ 90000) : ∀ (k : Nat) (d : Int) (out : List Sp), 0 ≤ d → d ≤ 90100 → e - d < k → 1 ≤ k → (∀ s ∈ out, SpOk s) → out.length + k ≤ 400 →
    ∃ l, spansL k c d e out = some l ∧ (∀ s ∈ l, SpOk s) ∧ l.length ≤ 400 ∧ out.length ≤ l.length
  | 0, d, out, h0, h1, h2, hk1, h3, h4 => by omega
  | k + 1, d, out, h0, h1, h2, hk1, h3, h4 => by
    rw [spansL]
    by_cases hd : d < e
    · rw [if_pos hd, if_pos (by omega)]
      have hs : spanM c d = some (d - (d - c.f) % stepM c.k, d - (d - c.f) % stepM c.k + stepM c.k) := by unfold spanM; rw [if_neg hk]
      rw [hs]
      simp only
      have e1 := Int.emod_nonneg (d - c.f) (b := stepM c.k) (by omega)
      have e2 := Int.emod_lt_of_pos (d - c.f) (b := stepM c.k) (by omega)
      generalize (d - c.f) % stepM c.k = I at *
      have hsp : SpOk (d - I, d - I + stepM c.k) := ⟨by simp only; omega, by simp only; omega, by simp only; omega, by simp only; omega⟩
      split
      · obtain ⟨l, a1, a2, a3, a4⟩ := wk_go hk hn e he k (d - I + stepM c.k) (out ++ [(d - I, d - I + stepM c.k)]) (by omega) (by omega) (by omega) (by omega) (fun s hs => by
          rcases List.mem_append.1 hs with hs | hs
          · exact h3 s hs
          · rw [List.mem_singleton.1 hs]; exact hsp) (by simp; omega)
        exact ⟨l, a1, a2, a3, by simp at a4; omega⟩
      · obtain ⟨l, a1, a2, a3, a4⟩ := wk_go hk hn e he k (d - I + stepM c.k) out (by omega) (by omega) (by omega) (by omega) h3 (by omega)
        exact ⟨l, a1, a2, a3, a4⟩
    · rw [if_neg hd]
      exact ⟨out, rfl, h3, by omega, Nat.le_refl _⟩
theorem cal_wk {c : Cal} (hk : c.k ≠ 0) (hn : stepM c.k = 14 ∨ stepM c.k = 28) {y : Nat} (h : y < 100) : ∃ l, spansL 400 c (firstM (2000 + y)) (firstM (2000 + y + 1)) [] = some l ∧ LsOk l := by
  have b1 : 10000 ≤ firstM (2000 + y) ∧ firstM (2000 + y) ≤ 60000 ∧ 100 ≤ firstM (2000 + y + 1) - firstM (2000 + y) ∧ firstM (2000 + y + 1) - firstM (2000 + y) ≤ 370 := by
    unfold firstM startM
    omega
  obtain ⟨b1, b2, b3, b4⟩ := b1
  generalize firstM (2000 + y) = d at *
  generalize firstM (2000 + y + 1) = e at *
  rw [spansL, if_pos (by omega), if_pos (by omega)]
  have hs : spanM c d = some (d - (d - c.f) % stepM c.k, d - (d - c.f) % stepM c.k + stepM c.k) := by unfold spanM; rw [if_neg hk]
  rw [hs]
  simp only
  have e1 := Int.emod_nonneg (d - c.f) (b := stepM c.k) (by omega)
  have e2 := Int.emod_lt_of_pos (d - c.f) (b := stepM c.k) (by omega)
  generalize (d - c.f) % stepM c.k = I at *
  have hsp : SpOk (d - I, d - I + stepM c.k) := ⟨by simp only; omega, by simp only; omega, by simp only; omega, by simp only; omega⟩
  have hin : inB (d - I, d - I + stepM c.k) e = true := by
    unfold inB
    simp only [Bool.and_eq_true, decide_eq_true_eq]
    omega
  rw [if_pos hin]
  obtain ⟨l, a1, a2, a3, a4⟩ := wk_go hk hn e (by omega) 399 (d - I + stepM c.k) ([] ++ [(d - I, d - I + stepM c.k)]) (by omega) (by omega) (by omega) (by omega) (fun s hs => by
    simp at hs; rw [hs]; exact hsp) (by simp)
  exact ⟨l, a1, fun e => by rw [e] at a4; simp at a4, a3, a2⟩
theorem cal_ok {c : Cal} (hc : CalOk c) {y : Nat} (h : y < 100) : ∃ l, spansL 400 c (firstM (2000 + y)) (firstM (2000 + y + 1)) [] = some l ∧ LsOk l := by
  by_cases hk : c.k = 0
  · exact cal_mo hk h
  · exact cal_wk hk (step_in (by have := hc.k.1; omega) hc.k.2) h
/-! What the periods' shares sum to -/
theorem pers_ok {c : Cal} {y : Int} {l : List Sp} (hl : LsOk l) : ∀ p ∈ persM c y l, PerOk p := by
  intro p hp
  obtain ⟨i, hi, rfl⟩ := List.mem_map.1 hp
  have hi := List.mem_range.1 hi
  have hm : l.getD i (0, 0) = l[i] := by simp [List.getD, hi]
  obtain ⟨s1, s2, s3, s4⟩ := hl.sp l[i] (List.getElem_mem hi)
  have := hl.len
  rw [hm]
  unfold perAt
  exact ⟨by simp only; omega, by simp only; omega, by simp only; omega, ⟨by simp only; omega, by simp only; omega⟩, by simp only; omega, by simp only; omega⟩
def sumC (c : Nat) (l : List Per) : Nat := (l.map (cM c)).sum
theorem sumC_snoc (c : Nat) (l : List Per) (p : Per) : sumC c (l ++ [p]) = sumC c l + cM c p := by simp [sumC]
theorem sumC_at (c : Cal) (y : Int) (l : List Sp) (a : Nat) (hl : l ≠ []) : ∀ i, i ≤ l.length → sumC a ((persM c y l).take i) = upM a i l.length := by
  have h0 : 0 < l.length := List.length_pos_iff.2 hl
  intro i
  induction i with
  | zero => intro _; simp [sumC, upM_none _ h0]
  | succ i ih =>
    intro h
    rw [persM_take c y l (by omega), sumC_snoc, ih (by omega)]
    have := upM_mono a h0 (show i ≤ i + 1 by omega)
    unfold cM perAt
    simp only [Nat.add_sub_cancel]
    omega
theorem sumC_all (c : Cal) (y : Int) (l : List Sp) (a : Nat) (hl : l ≠ []) : sumC a (persM c y l) = a := by
  have h := sumC_at c y l a hl l.length (Nat.le_refl _)
  rw [upM_all _ (List.length_pos_iff.2 hl)] at h
  rwa [List.take_of_length_le (by simp [persM])] at h
/-! Cuts -/
def cutStep (at_ : List Bool) (s : Nat × List (Nat × Nat)) (i : Nat) : Nat × List (Nat × Nat) := if at_.getD i false = true ∧ s.1 < i then (i, s.2 ++ [(s.1, i)]) else s
def cutM (at_ : List Bool) : Nat → Nat × List (Nat × Nat)
  | 0 => (0, [])
  | i + 1 => cutStep at_ (cutM at_ i) i
theorem chain_snoc : ∀ (a : Nat) (l : List (Nat × Nat)) (y : Nat), ChainL a l → endC a l < y → ChainL a (l ++ [(endC a l, y)])
  | a, [], y, _, h => ⟨rfl, h, trivial⟩
  | a, x :: l, y, ⟨h1, h2, h3⟩, h => ⟨h1, h2, chain_snoc x.2 l y h3 h⟩
theorem cutM_ok (at_ : List Bool) : ∀ i, ChainL 0 (cutM at_ i).2 ∧ endC 0 (cutM at_ i).2 = (cutM at_ i).1 ∧ (cutM at_ i).1 ≤ i ∧ (0 < i → (cutM at_ i).1 < i) ∧ (cutM at_ i).2.length ≤ i ∧ (∀ x ∈ (cutM at_ i).2, x.2 ≤ i)
  | 0 => ⟨trivial, rfl, Nat.le_refl _, by simp, Nat.le_refl _, by simp [cutM]⟩
  | i + 1 => by
    obtain ⟨h1, h2, h3, h4, h5, h6⟩ := cutM_ok at_ i
    have hc : cutM at_ (i + 1) = cutStep at_ (cutM at_ i) i := rfl
    rw [hc]
    unfold cutStep
    split
    · rename_i h
      refine ⟨?_, ?_, by simp only; omega, fun _ => by simp only; omega, by simp; omega, fun x hx => ?_⟩
      · have := chain_snoc 0 (cutM at_ i).2 i h1 (by rw [h2]; exact h.2)
        rwa [h2] at this
      · rw [endC_snoc]
      · rcases List.mem_append.1 hx with hx | hx
        · have := h6 x hx; omega
        · rw [List.mem_singleton.1 hx]; simp only; omega
    · exact ⟨h1, h2, by omega, fun _ => by omega, by omega, fun x hx => by have := h6 x hx; omega⟩
def piecesM (at_ : List Bool) : List (Nat × Nat) := (cutM at_ at_.length).2 ++ [((cutM at_ at_.length).1, at_.length)]
theorem pieces_ok (at_ : List Bool) (h0 : 0 < at_.length) : ChainL 0 (piecesM at_) ∧ endC 0 (piecesM at_) = at_.length ∧ (piecesM at_).length ≤ at_.length + 1 ∧ ∀ x ∈ piecesM at_, x.2 ≤ at_.length := by
  obtain ⟨h1, h2, h3, h4, h5, h6⟩ := cutM_ok at_ at_.length
  have h7 := h4 h0
  unfold piecesM
  refine ⟨?_, endC_snoc _ _ _, by simp; omega, fun x hx => ?_⟩
  · have := chain_snoc 0 _ at_.length h1 (by rw [h2]; exact h7)
    rwa [h2] at this
  · rcases List.mem_append.1 hx with hx | hx
    · exact h6 x hx
    · rw [List.mem_singleton.1 hx]; exact Nat.le_refl _
end Go.Proofs.YtedjaohonijemaaDoor

namespace Go.Proofs.YtedjaohonijemaaDoor
open PG Go.Proofs
-- wagebook/wagebooktop.TopProrates
def L3 : List Nat := [0, 1, 2, 3, 4, 5, 6, 14, 15, 16, 17, 18, 20, 21, 22, 23, 24, 25, 26, 28, 29, 30, 31, 32, 33, 34, 35, 36, 39, 64, 65, 66, 67, 68, 99, 118, 119, 120, 127, 128, 129, 130, 131, 146, 147, 148, 163]
def c3 : CF := ⟨216,
 .seq (.region false [⟨some 14, none, .rd .mov [.pv (.bool false)]⟩] L3)
 (.seq (.seq (.region false [oM 37 6,
 ⟨some 38, none, .rd .lenL [.tmp 37]⟩,
 ⟨some 39, none, .rd (.bin .gtr) [.tmp 38, .pv (.int .i64 30)]⟩] L3)
 (.cond (.tmp 39)
 (.seq (.region false [⟨some 14, none, .rd .mov [.pv (.bool true)]⟩] L3)
 (.ret))
 (.skip)))
 (.seq (.region false [oM 40 0,
 ⟨some 41, none, .rd (.bin .rem) [.tmp 40, .pv (.int .u8 3)]⟩,
 ⟨some 42, none, .rd (.conv .i64) [.tmp 41]⟩,
 oM 43 2,
 ⟨some 44, none, .rd (.conv .i64) [.tmp 43]⟩,
 oM 45 1,
 ⟨some 46, none, .rd (.bin .rem) [.tmp 45, .pv (.int .u8 61)]⟩,
 ⟨some 47, none, .rd (.conv .i64) [.tmp 46]⟩,
 ⟨some 48, none, .rd (.build [(.int .i64 0), (.int .i64 0), (.int .i64 0)] [(0, 1), (1, 1), (2, 1)]) [.tmp 42, .tmp 44, .tmp 47]⟩,
 ⟨some 15, none, .eff (.alloc (some 3) (.agg [(.int .i64 0), (.int .i64 0), (.int .i64 0)])) []⟩,
 ⟨none, none, .eff (.store (some 3)) [.tmp 15, .tmp 48]⟩] L3)
 (.seq (.region false [⟨some 50, none, .rd (.load (some 3)) [.tmp 15]⟩,
 oM 51 3,
 ⟨some 52, none, .rd (.bin .rem) [.tmp 51, .pv (.int .u8 100)]⟩,
 ⟨some 53, none, .rd (.conv .i64) [.tmp 52]⟩,
 ⟨some 54, none, .rd (.bin .add) [.pv (.int .i64 2000), .tmp 53]⟩,
 ⟨some 55, none, .call (.pv (.fn 4 [] [])) [.tmp 50, .tmp 54]⟩,
 oM 49 55,
 ⟨some 56, none, .rd (.ext 0) [.tmp 49]⟩,
 ⟨some 57, none, .rd (.ext 1) [.tmp 49]⟩,
 oM 16 56,
 oM 17 57] L3)
 (.seq (.seq (.region false [oM 58 17,
 ⟨some 59, none, .rd (.bin .neq) [.tmp 58, .pv (.int .i64 0)]⟩,
 oM 60 59,
 qM 60 false 61 16,
 ⟨some 62, some (60, false), .rd .lenL [.tmp 61]⟩,
 ⟨some 63, some (60, false), .rd (.bin .eql) [.tmp 62, .pv (.int .i64 0)]⟩,
 ⟨some 64, none, .rd .pick [.tmp 60, .pv (.bool true), .tmp 63]⟩] L3)
 (.cond (.tmp 64)
 (.seq (.region false [⟨some 14, none, .rd .mov [.pv (.bool false)]⟩] L3)
 (.ret))
 (.skip)))
 (.seq (.region false [⟨some 18, none, .rd .mov [.pv (.int .i64 0)]⟩] L3)
 (.seq (.seq (.region false [oM 65 16,
 ⟨some 66, none, .rd .lenL [.tmp 65]⟩,
 ⟨some 67, none, .rd .mov [.pv (.int .i64 0)]⟩] L3)
 (.block 0
 (.loop
 (.seq (.region false [⟨some 68, none, .rd (.bin .lss) [.tmp 67, .tmp 66]⟩] L3)
 (.seq (.cond (.tmp 68)
 (.skip)
 (.exit 0))
 (.seq (.block 1
 (.seq (.region false [⟨some 69, none, .rd (.idxAddr (some 6)) [.tmp 65, .tmp 67]⟩,
 ⟨some 70, none, .rd (.load (some 6)) [.tmp 69]⟩,
 ⟨some 20, none, .eff (.alloc (some 6) (.agg [(.int .i64 0), (.int .i64 0), (.int .i64 0), (.int .i64 0), (.int .i64 0), (.int .i64 0)])) []⟩,
 ⟨none, none, .eff (.store (some 6)) [.tmp 20, .tmp 70]⟩] L3)
 (.seq (.region false [⟨some 72, none, .rd (.load (some 6)) [.tmp 20]⟩,
 oF 3 73 20,
 ⟨some 74, none, .rd (.load (some 2)) [.tmp 73]⟩,
 oM 75 4,
 ⟨some 76, none, .rd (.conv .i64) [.tmp 75]⟩,
 ⟨some 77, none, .rd (.build [(.int .i64 0), (.int .i64 0), (.int .i64 0), (.int .i64 0)] [(0, 2), (2, 1), (3, 1)]) [.tmp 74, .tmp 76, .pv (.int .i64 1000000)]⟩,
 ⟨some 78, none, .eff (.lit (some 4) false) [.tmp 77]⟩,
 ⟨some 79, none, .call (.pv (.fn 5 [] [])) [.tmp 72, .tmp 78]⟩,
 oM 71 79,
 ⟨some 80, none, .rd (.ext 0) [.tmp 71]⟩,
 ⟨some 81, none, .rd (.ext 1) [.tmp 71]⟩,
 oM 21 80,
 oM 22 81] L3)
 (.seq (.region false [⟨some 83, none, .rd (.load (some 6)) [.tmp 20]⟩,
 oM 84 4,
 ⟨some 85, none, .rd (.conv .i64) [.tmp 84]⟩,
 ⟨some 86, none, .call (.pv (.fn 6 [] [])) [.tmp 83, .tmp 85]⟩,
 oM 82 86,
 ⟨some 87, none, .rd (.ext 0) [.tmp 82]⟩,
 ⟨some 88, none, .rd (.ext 1) [.tmp 82]⟩,
 oM 23 87,
 oM 24 88] L3)
 (.seq (.seq (.region false [oM 89 22,
 ⟨some 90, none, .rd (.bin .neq) [.tmp 89, .pv (.int .i64 0)]⟩,
 oM 91 90,
 qM 91 false 92 24,
 ⟨some 93, some (91, false), .rd (.bin .neq) [.tmp 92, .pv (.int .i64 0)]⟩,
 ⟨some 94, none, .rd .pick [.tmp 91, .pv (.bool true), .tmp 93]⟩,
 oM 95 94,
 qM 95 false 96 21,
 qM 95 false 97 23,
 ⟨some 98, some (95, false), .rd (.bin .neq) [.tmp 96, .tmp 97]⟩,
 ⟨some 99, none, .rd .pick [.tmp 95, .pv (.bool true), .tmp 98]⟩] L3)
 (.cond (.tmp 99)
 (.seq (.region false [⟨some 14, none, .rd .mov [.pv (.bool false)]⟩] L3)
 (.ret))
 (.skip)))
 (.region false [oM 100 18,
 oM 101 21,
 ⟨some 102, none, .rd (.bin .add) [.tmp 100, .tmp 101]⟩,
 oM 18 102] L3))))))
 (.region false [⟨some 103, none, .rd (.bin .add) [.tmp 67, .pv (.int .i64 1)]⟩,
 oM 67 103] L3)))))))
 (.seq (.region false [oM 104 16,
 oM 105 5,
 ⟨some 106, none, .rd (.conv .i64) [.tmp 105]⟩,
 oM 107 16,
 ⟨some 108, none, .rd .lenL [.tmp 107]⟩,
 ⟨some 109, none, .rd (.bin .rem) [.tmp 106, .tmp 108]⟩,
 ⟨some 110, none, .rd (.idxAddr (some 6)) [.tmp 104, .tmp 109]⟩,
 ⟨some 111, none, .rd (.load (some 6)) [.tmp 110]⟩,
 ⟨some 25, none, .eff (.alloc (some 6) (.agg [(.int .i64 0), (.int .i64 0), (.int .i64 0), (.int .i64 0), (.int .i64 0), (.int .i64 0)])) []⟩,
 ⟨none, none, .eff (.store (some 6)) [.tmp 25, .tmp 111]⟩] L3)
 (.seq (.region false [⟨some 26, none, .rd .mov [.pv .nilSl]⟩] L3)
 (.seq (.seq (.region false [oF 3 112 25,
 oF 1 113 112,
 oL 114 113,
 oF 3 115 25,
 oF 0 116 115,
 oL 117 116,
 ⟨some 118, none, .rd (.bin .sub) [.tmp 114, .tmp 117]⟩,
 ⟨some 119, none, .rd .mov [.pv (.int .i64 0)]⟩] L3)
 (.block 2
 (.loop
 (.seq (.region false [⟨some 120, none, .rd (.bin .lss) [.tmp 119, .tmp 118]⟩] L3)
 (.seq (.cond (.tmp 120)
 (.skip)
 (.exit 2))
 (.seq (.block 3
 (.region false [oM 121 26,
 ⟨some 122, none, .eff (.lit none false) [.pv (.bool false)]⟩,
 ⟨some 123, none, .eff (.append none 1) [.tmp 121, .tmp 122]⟩,
 oM 26 123] L3))
 (.region false [⟨some 124, none, .rd (.bin .add) [.tmp 119, .pv (.int .i64 1)]⟩,
 oM 119 124] L3)))))))
 (.seq (.seq (.region false [oM 125 26,
 ⟨some 126, none, .rd .lenL [.tmp 125]⟩,
 ⟨some 127, none, .rd (.bin .eql) [.tmp 126, .pv (.int .i64 0)]⟩] L3)
 (.cond (.tmp 127)
 (.seq (.region false [⟨some 14, none, .rd .mov [.pv (.bool false)]⟩] L3)
 (.ret))
 (.skip)))
 (.seq (.seq (.region false [oM 128 6,
 ⟨some 129, none, .rd .lenL [.tmp 128]⟩,
 ⟨some 130, none, .rd .mov [.pv (.int .i64 0)]⟩] L3)
 (.block 4
 (.loop
 (.seq (.region false [⟨some 131, none, .rd (.bin .lss) [.tmp 130, .tmp 129]⟩] L3)
 (.seq (.cond (.tmp 131)
 (.skip)
 (.exit 4))
 (.seq (.block 5
 (.seq (.region false [⟨some 132, none, .rd (.idxAddr none) [.tmp 128, .tmp 130]⟩,
 oL 133 132,
 oM 28 133] L3)
 (.region false [oM 134 26,
 oM 135 28,
 ⟨some 136, none, .rd (.conv .i64) [.tmp 135]⟩,
 oM 137 26,
 ⟨some 138, none, .rd .lenL [.tmp 137]⟩,
 ⟨some 139, none, .rd (.bin .rem) [.tmp 136, .tmp 138]⟩,
 ⟨some 140, none, .rd (.idxAddr none) [.tmp 134, .tmp 139]⟩,
 ⟨none, none, .eff (.store none) [.tmp 140, .pv (.bool true)]⟩] L3)))
 (.region false [⟨some 141, none, .rd (.bin .add) [.tmp 130, .pv (.int .i64 1)]⟩,
 oM 130 141] L3)))))))
 (.seq (.region false [⟨some 29, none, .rd .mov [.pv .nilSl]⟩] L3)
 (.seq (.region false [oF 3 142 25,
 oF 0 143 142,
 oL 144 143,
 oM 30 144] L3)
 (.seq (.seq (.region false [oM 145 26,
 ⟨some 146, none, .rd .lenL [.tmp 145]⟩,
 ⟨some 147, none, .rd .mov [.pv (.int .i64 0)]⟩] L3)
 (.block 6
 (.loop
 (.seq (.region false [⟨some 148, none, .rd (.bin .lss) [.tmp 147, .tmp 146]⟩] L3)
 (.seq (.cond (.tmp 148)
 (.skip)
 (.exit 6))
 (.seq (.block 7
 (.seq (.region false [oM 149 147,
 oM 31 149] L3)
 (.seq (.region false [oF 3 150 25,
 oF 0 151 150,
 oL 152 151,
 oM 153 31,
 ⟨some 154, none, .rd (.bin .add) [.tmp 152, .tmp 153]⟩,
 oM 32 154] L3)
 (.seq (.region false [oM 155 26,
 oM 156 31,
 ⟨some 157, none, .rd (.idxAddr none) [.tmp 155, .tmp 156]⟩,
 oL 158 157,
 oM 159 158,
 qM 159 true 160 32,
 qM 159 true 161 30,
 ⟨some 162, some (159, true), .rd (.bin .gtr) [.tmp 160, .tmp 161]⟩,
 ⟨some 163, none, .rd .pick [.tmp 159, .tmp 162, .pv (.bool false)]⟩] L3)
 (.cond (.tmp 163)
 (.seq (.region false [oM 164 29,
 oM 165 30,
 oM 166 32,
 ⟨some 167, none, .rd (.build [(.int .i64 0), (.int .i64 0)] [(0, 1), (1, 1)]) [.tmp 165, .tmp 166]⟩,
 oM 168 4,
 ⟨some 169, none, .rd (.conv .i64) [.tmp 168]⟩,
 ⟨some 170, none, .rd (.build [(.int .i64 0), (.int .i64 0), (.int .i64 0), (.int .i64 0)] [(0, 2), (2, 1), (3, 1)]) [.tmp 167, .tmp 169, .pv (.int .i64 1000000)]⟩,
 ⟨some 171, none, .eff (.lit (some 4) false) [.tmp 170]⟩,
 ⟨some 172, none, .eff (.append (some 4) 32) [.tmp 164, .tmp 171]⟩,
 oM 29 172] L3)
 (.region false [oM 173 32,
 oM 30 173] L3))
 (.skip))))))
 (.region false [⟨some 174, none, .rd (.bin .add) [.tmp 147, .pv (.int .i64 1)]⟩,
 oM 147 174] L3)))))))
 (.seq (.region false [oM 175 29,
 oM 176 30,
 oF 3 177 25,
 oF 1 178 177,
 oL 179 178,
 ⟨some 180, none, .rd (.build [(.int .i64 0), (.int .i64 0)] [(0, 1), (1, 1)]) [.tmp 176, .tmp 179]⟩,
 oM 181 4,
 ⟨some 182, none, .rd (.conv .i64) [.tmp 181]⟩,
 ⟨some 183, none, .rd (.build [(.int .i64 0), (.int .i64 0), (.int .i64 0), (.int .i64 0)] [(0, 2), (2, 1), (3, 1)]) [.tmp 180, .tmp 182, .pv (.int .i64 1000000)]⟩,
 ⟨some 184, none, .eff (.lit (some 4) false) [.tmp 183]⟩,
 ⟨some 185, none, .eff (.append (some 4) 32) [.tmp 175, .tmp 184]⟩,
 oM 29 185] L3)
 (.seq (.region false [⟨some 187, none, .rd (.load (some 6)) [.tmp 25]⟩,
 oM 188 29,
 ⟨some 189, none, .call (.pv (.fn 5 [] [])) [.tmp 187, .tmp 188]⟩,
 oM 186 189,
 ⟨some 190, none, .rd (.ext 0) [.tmp 186]⟩,
 ⟨some 191, none, .rd (.ext 1) [.tmp 186]⟩,
 oM 33 190,
 oM 34 191] L3)
 (.seq (.region false [⟨some 193, none, .rd (.load (some 6)) [.tmp 25]⟩,
 oM 194 4,
 ⟨some 195, none, .rd (.conv .i64) [.tmp 194]⟩,
 ⟨some 196, none, .call (.pv (.fn 6 [] [])) [.tmp 193, .tmp 195]⟩,
 oM 192 196,
 ⟨some 197, none, .rd (.ext 0) [.tmp 192]⟩,
 ⟨some 198, none, .rd (.ext 1) [.tmp 192]⟩,
 oM 35 197,
 oM 36 198] L3)
 (.seq (.region false [oM 199 18,
 oM 200 4,
 ⟨some 201, none, .rd (.conv .i64) [.tmp 200]⟩,
 ⟨some 202, none, .rd (.bin .eql) [.tmp 199, .tmp 201]⟩,
 oM 203 202,
 qM 203 true 204 34,
 ⟨some 205, some (203, true), .rd (.bin .eql) [.tmp 204, .pv (.int .i64 0)]⟩,
 ⟨some 206, none, .rd .pick [.tmp 203, .tmp 205, .pv (.bool false)]⟩,
 oM 207 206,
 qM 207 true 208 36,
 ⟨some 209, some (207, true), .rd (.bin .eql) [.tmp 208, .pv (.int .i64 0)]⟩,
 ⟨some 210, none, .rd .pick [.tmp 207, .tmp 209, .pv (.bool false)]⟩,
 oM 211 210,
 qM 211 true 212 33,
 qM 211 true 213 35,
 ⟨some 214, some (211, true), .rd (.bin .eql) [.tmp 212, .tmp 213]⟩,
 ⟨some 215, none, .rd .pick [.tmp 211, .tmp 214, .pv (.bool false)]⟩,
 oM 14 215] L3)
 (.ret))))))))))))))))))),
 [.tmp 14]⟩
theorem k3 : compileF Tryd.prog [] L3 Tryd.f3 = some c3 := by kernel_rfl
end Go.Proofs.YtedjaohonijemaaDoor

