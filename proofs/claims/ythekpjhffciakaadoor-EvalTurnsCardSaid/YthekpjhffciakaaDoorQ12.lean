import Derived.Test.YthekpjhffciakaaDoorQ11
import Derived.Test.YthekpjhffciakaaDoorQ7
namespace Go.Proofs.YthekpjhffciakaaDoor
open Go PG Go.Proofs
set_option linter.unusedSimpArgs false
set_option linter.unusedVariables false
set_option maxHeartbeats 4000000
set_option maxRecDepth 100000
end Go.Proofs.YthekpjhffciakaaDoor

namespace Go.Proofs.YthekpjhffciakaaDoor
open Go PG Go.Proofs
set_option linter.unusedSimpArgs false
set_option linter.unusedVariables false
set_option maxHeartbeats 4000000
set_option maxRecDepth 100000
abbrev OintV : Int → PV := PV.int .i64
abbrev lstV : List St → PV := fun l => .list none (l.map PV.str)
theorem wrongF_at (seen : List St) (l : List Ed) (i : Nat) (h : i < l.length) : wrongF seen (l.drop i) = if nmOk l[i].name = false then 12 else if 64 < l[i].needs.length then 5 else if l[i].needs.all nmOk = false then 12 else if l[i].name ∈ seen then 7 else wrongF (seen ++ [l[i].name]) (l.drop (i + 1)) := by
  rw [List.drop_eq_getElem_cons h]; rfl
def onesM (seen : List St) : List (St × Int) := seen.map fun s => (s, 1)
theorem ones_get (seen : List St) (s : St) : (aget (onesM seen) s).getD 0 = if s ∈ seen then 1 else 0 := by
  induction seen with
  | nil => rfl
  | cons x l ih =>
    simp only [onesM, List.map_cons, aget] at ih ⊢
    by_cases h : x = s
    · simp [h]
    · simp only [h, if_false]
      rw [ih]
      have : (s ∈ x :: l) ↔ s ∈ l := by simp [Ne.symm h]
      simp only [this]
theorem ones_set {seen : List St} {s : St} (h : s ∉ seen) : aset (onesM seen) s 1 = onesM (seen ++ [s]) := by
  induction seen with
  | nil => rfl
  | cons x l ih =>
    have h1 : x ≠ s := fun e => h (by simp [e])
    have h2 : s ∉ l := fun e => h (by simp [e])
    simp only [onesM, List.map_cons, aset, List.cons_append, h1, if_false] at ih ⊢
    rw [ih h2]
theorem v118 (l : List Ed) (hl : l.length ≤ 9223372036854775807) (hnl : ∀ e ∈ l, e.needs.length ≤ 9223372036854775807) : VCalls Tryd.prog GK 118 [edL l] (.int .i64 (wrongM l)) := by
  refine VCalls.of_PW Tryd.func118 k118 mix (by simp [c118]) ?_
  simp only [c118, L118, argE]
  have hlen : ((l.map edP).length : Nat) = l.length := by simp
  by_cases h64 : 64 < l.length
  · have d1 : decide ((64 : Int) < l.length) = true := by simp only [decide_eq_true_eq]; omega
    have hX : wrongM l = 5 := by unfold wrongM; rw [if_pos h64]
    repeat' (first | exact True.intro | (refine PW.seqK ?_; intro K hK) | refine stp ?_ | refine seqK_n ‹_› ?_ | refine seqK_r ‹_› ?_ | refine seqK_e ‹_› ?_ | exact schedW_stop_i | refine schK_n ‹_› ?_ | (refine PW.cond rfl ?_ ?_ <;> intro hcond <;> (try contradiction) <;> try simp only [DD] at hcond) | (refine gd_i ?_; intro hg; try simp only [hg]) | (refine ari ?_; first | omega | (simp only [DD, LL] <;> omega) | (go_unwrap; omega)) | ((first | refine stq ?_ | show (_ : Post) _ _ _ | (refine schedW_alt_k ?_ ?_; intro K hK)); focus (simp only [hlen, d1, SA, Nat.reduceAdd, reduceIte, Nat.reduceEqDiff, Nat.reduceBEq, reduceCtorEq]; (try go_unwrap; try simp only [hlen, d1, RR, reduceCtorEq]))) | refine And.intro ?_ ?_ | exact Or.inr ⟨rfl, Nat.le_refl _⟩ | exact (fun h => Bool.noConfusion h))
    all_goals (rw [hX])
  have d1 : decide ((64 : Int) < l.length) = false := by simp only [decide_eq_false_iff_not]; omega
  have hX : wrongM l = wrongF [] l := by unfold wrongM; rw [if_neg h64]
  repeat' (first | exact True.intro | (refine PW.seqK ?_; intro K hK) | refine stp ?_ | refine seqK_n ‹_› ?_ | refine seqK_r ‹_› ?_ | refine seqK_e ‹_› ?_ | exact schedW_stop_i | refine schK_n ‹_› ?_ | (refine PW.cond rfl ?_ ?_ <;> intro hcond <;> (try contradiction) <;> try simp only [DD] at hcond) | (refine gd_i ?_; intro hg; try simp only [hg]) | (refine ari ?_; first | omega | (simp only [DD, LL] <;> omega) | (go_unwrap; omega)) | ((first | refine stq ?_ | show (_ : Post) _ _ _ | (refine schedW_alt_k ?_ ?_; intro K hK)); focus (simp only [hlen, d1, SA, Nat.reduceAdd, reduceIte, Nat.reduceEqDiff, Nat.reduceBEq, reduceCtorEq]; (try go_unwrap; try simp only [hlen, d1, RR, reduceCtorEq]))) | refine And.intro ?_ ?_ | exact Or.inr ⟨rfl, Nat.le_refl _⟩ | exact (fun h => Bool.noConfusion h))
  refine PW.loopG (σ := Nat) 1 (fun _ _ => rfl) [2, 3, 10, 11, 12] (fun i => [.int .i64 0, .mref 0, edL l, .int .i64 l.length, .int .i64 i])
    (fun i => [some (.mp .str (strM OintV (onesM ((l.take i).map (·.name)))))]) (fun i => i ≤ l.length ∧ wrongF [] l = wrongF ((l.take i).map (·.name)) (l.drop i)) (fun i => l.length - i) 0 ?_ rfl ⟨by omega, rfl⟩ ?_
  · simp only [SA, Nat.reduceAdd, reduceIte, Nat.reduceEqDiff, Nat.reduceBEq, reduceCtorEq]; rfl
  rintro i ⟨hi, hw⟩
  simp only [List.zip_cons_cons, List.zip_nil_left]
  rcases Nat.lt_or_ge i l.length with h | h
  case inr =>
    have hd : decide ((i : Int) < l.length) = false := by simp only [decide_eq_false_iff_not]; omega
    rw [List.drop_of_length_le h] at hw
    have hw : wrongF [] l = 0 := hw
    repeat' (first | exact True.intro | (refine PW.seqK ?_; intro K hK) | refine stp ?_ | refine seqK_n ‹_› ?_ | refine seqK_r ‹_› ?_ | refine seqK_e ‹_› ?_ | exact schedW_stop_i | refine schK_n ‹_› ?_ | (refine PW.cond rfl ?_ ?_ <;> intro hcond <;> (try contradiction) <;> try simp only [DD] at hcond) | (refine gd_i ?_; intro hg; try simp only [hg]) | (refine ari ?_; first | omega | (simp only [DD, LL] <;> omega) | (go_unwrap; omega)) | ((first | refine stq ?_ | show (_ : Post) _ _ _ | (refine schedW_alt_k ?_ ?_; intro K hK)); focus (simp only [hd, hlen, SA, Nat.reduceAdd, reduceIte, Nat.reduceEqDiff, Nat.reduceBEq, reduceCtorEq]; (try go_unwrap; try simp only [hd, hlen, RR, reduceCtorEq]))) | refine And.intro ?_ ?_ | exact Or.inr ⟨rfl, Nat.le_refl _⟩ | exact (fun h => Bool.noConfusion h))
    all_goals (rw [hX, hw])
  have hd : decide ((i : Int) < l.length) = true := by simp only [decide_eq_true_eq]; omega
  have hg := ed_getD l i h
  have hne := hnl l[i] (List.getElem_mem h)
  rw [wrongF_at _ _ _ h] at hw
  have ht : (l.take (i + 1)).map (·.name) = (l.take i).map (·.name) ++ [l[i].name] := by rw [List.take_succ_eq_append_getElem h, List.map_append]; rfl
  generalize l[i] = e at hg hne hw ht
  generalize (l.take i).map (·.name) = seen at hw ht
  simp only [edP] at hg
  have h47 := v138 e.name
  have hnl : ((e.needs.map PV.str).length : Nat) = e.needs.length := by simp
  by_cases c1 : nmOk e.name = true
  case neg =>
    have c1 : nmOk e.name = false := by simpa using c1
    rw [if_pos c1] at hw
    rw [c1] at h47
    repeat' (first | exact True.intro | (refine PW.seqK ?_; intro K hK) | refine stp ?_ | refine seqK_n ‹_› ?_ | refine seqK_r ‹_› ?_ | refine seqK_e ‹_› ?_ | exact schedW_stop_i | refine schK_n ‹_› ?_ | (refine PW.cond rfl ?_ ?_ <;> intro hcond <;> (try contradiction) <;> try simp only [DD] at hcond) | (refine gd_i ?_; intro hg; try simp only [hg]) | refine goCall_W e138 (h47) ?_ ?_ ?_ ?_ | (refine ari ?_; first | omega | (simp only [DD, LL] <;> omega) | (go_unwrap; omega)) | ((first | refine stq ?_ | show (_ : Post) _ _ _ | (refine schedW_alt_k ?_ ?_; intro K hK)); focus (simp only [hd, hg, hlen, SA, Nat.reduceAdd, reduceIte, Nat.reduceEqDiff, Nat.reduceBEq, reduceCtorEq]; (try go_unwrap; try simp only [hd, hg, hlen, RR, reduceCtorEq]))) | refine And.intro ?_ ?_ | exact Or.inr ⟨rfl, Nat.le_refl _⟩ | exact (fun h => Bool.noConfusion h))
    all_goals (rw [hX, hw])
  rw [if_neg (by simp [c1])] at hw
  rw [c1] at h47
  by_cases c2 : 64 < e.needs.length
  · rw [if_pos c2] at hw
    have d2 : decide ((64 : Int) < e.needs.length) = true := by simp only [decide_eq_true_eq]; omega
    repeat' (first | exact True.intro | (refine PW.seqK ?_; intro K hK) | refine stp ?_ | refine seqK_n ‹_› ?_ | refine seqK_r ‹_› ?_ | refine seqK_e ‹_› ?_ | exact schedW_stop_i | refine schK_n ‹_› ?_ | (refine PW.cond rfl ?_ ?_ <;> intro hcond <;> (try contradiction) <;> try simp only [DD] at hcond) | (refine gd_i ?_; intro hg; try simp only [hg]) | refine goCall_W e138 (h47) ?_ ?_ ?_ ?_ | (refine ari ?_; first | omega | (simp only [DD, LL] <;> omega) | (go_unwrap; omega)) | ((first | refine stq ?_ | show (_ : Post) _ _ _ | (refine schedW_alt_k ?_ ?_; intro K hK)); focus (simp only [hd, hg, hlen, hnl, d2, SA, Nat.reduceAdd, reduceIte, Nat.reduceEqDiff, Nat.reduceBEq, reduceCtorEq]; (try go_unwrap; try simp only [hd, hg, hlen, hnl, d2, RR, reduceCtorEq]))) | refine And.intro ?_ ?_ | exact Or.inr ⟨rfl, Nat.le_refl _⟩ | exact (fun h => Bool.noConfusion h))
    all_goals (rw [hX, hw])
  rw [if_neg c2] at hw
  have d2 : decide ((64 : Int) < e.needs.length) = false := by simp only [decide_eq_false_iff_not]; omega
  have h43 := v124 e.needs (fun s => !nmOk s) 139 [] e139 cl0 hne (fun x _ => v139 x)
  have hany : (e.needs.any fun s => !nmOk s) = !(e.needs.all nmOk) := by rw [List.not_all_eq_any_not]
  rw [hany] at h43
  by_cases c3 : e.needs.all nmOk = true
  case neg =>
    have c3 : e.needs.all nmOk = false := by simpa using c3
    rw [if_pos c3] at hw
    rw [c3] at h43
    repeat' (first | exact True.intro | (refine PW.seqK ?_; intro K hK) | refine stp ?_ | refine seqK_n ‹_› ?_ | refine seqK_r ‹_› ?_ | refine seqK_e ‹_› ?_ | exact schedW_stop_i | refine schK_n ‹_› ?_ | (refine PW.cond rfl ?_ ?_ <;> intro hcond <;> (try contradiction) <;> try simp only [DD] at hcond) | (refine gd_i ?_; intro hg; try simp only [hg]) | refine goCall_W e138 (h47) ?_ ?_ ?_ ?_ | refine goCall_W e124 (h43) ?_ ?_ ?_ ?_ | (refine ari ?_; first | omega | (simp only [DD, LL] <;> omega) | (go_unwrap; omega)) | ((first | refine stq ?_ | show (_ : Post) _ _ _ | (refine schedW_alt_k ?_ ?_; intro K hK)); focus (simp only [hd, hg, hlen, hnl, d2, SA, Nat.reduceAdd, reduceIte, Nat.reduceEqDiff, Nat.reduceBEq, reduceCtorEq]; (try go_unwrap; try simp only [hd, hg, hlen, hnl, d2, RR, reduceCtorEq]))) | refine And.intro ?_ ?_ | exact Or.inr ⟨rfl, Nat.le_refl _⟩ | exact (fun h => Bool.noConfusion h))
    all_goals (rw [hX, hw])
  rw [if_neg (by simp [c3])] at hw
  rw [c3] at h43
  have g1 : (mget (strM OintV (onesM seen)) (.str e.name)).getD (.int .i64 0) = .int .i64 (if e.name ∈ seen then 1 else 0) := by rw [mget_str]; rw [← ones_get]; exact getD_map OintV _ 0
  by_cases c4 : e.name ∈ seen
  · rw [if_pos c4] at hw g1
    have s1 : mset (strM OintV (onesM seen)) (.str e.name) (.int .i64 2) = strM OintV (aset (onesM seen) e.name 2) := mset_str OintV _ _ _
    have g2 : (mget (strM OintV (aset (onesM seen) e.name 2)) (.str e.name)).getD (.int .i64 0) = .int .i64 2 := by rw [mget_str, aget_aset, if_pos rfl]; rfl
    have w1 : IntKind.i64.wrap (1 + 1) = 2 := rfl
    repeat' (first | exact True.intro | (refine PW.seqK ?_; intro K hK) | refine stp ?_ | refine seqK_n ‹_› ?_ | refine seqK_r ‹_› ?_ | refine seqK_e ‹_› ?_ | exact schedW_stop_i | refine schK_n ‹_› ?_ | (refine PW.cond rfl ?_ ?_ <;> intro hcond <;> (try contradiction) <;> try simp only [DD] at hcond) | (refine gd_i ?_; intro hg; try simp only [hg]) | refine goCall_W e138 (h47) ?_ ?_ ?_ ?_ | refine goCall_W e124 (h43) ?_ ?_ ?_ ?_ | (refine ari ?_; first | omega | (simp only [DD, LL] <;> omega) | (go_unwrap; omega)) | ((first | refine stq ?_ | show (_ : Post) _ _ _ | (refine schedW_alt_k ?_ ?_; intro K hK)); focus (simp only [hd, hg, hlen, hnl, d2, g1, s1, g2, w1, SA, Nat.reduceAdd, reduceIte, Nat.reduceEqDiff, Nat.reduceBEq, reduceCtorEq]; (try go_unwrap; try simp only [hd, hg, hlen, hnl, d2, g1, s1, g2, w1, RR, reduceCtorEq]))) | refine And.intro ?_ ?_ | exact Or.inr ⟨rfl, Nat.le_refl _⟩ | exact (fun h => Bool.noConfusion h))
    all_goals first | rfl | (rw [hX, hw])
  · rw [if_neg c4] at hw g1
    have s1 : mset (strM OintV (onesM seen)) (.str e.name) (.int .i64 1) = strM OintV (onesM (seen ++ [e.name])) := by rw [← ones_set c4]; exact mset_str OintV _ _ _
    have g2 : (mget (strM OintV (onesM (seen ++ [e.name]))) (.str e.name)).getD (.int .i64 0) = .int .i64 1 := by rw [mget_str, ← ones_set c4, aget_aset, if_pos rfl]; rfl
    have w1 : IntKind.i64.wrap (0 + 1) = 1 := rfl
    rw [← ht] at hw
    repeat' (first | exact True.intro | (refine PW.seqK ?_; intro K hK) | refine stp ?_ | refine seqK_n ‹_› ?_ | refine seqK_r ‹_› ?_ | refine seqK_e ‹_› ?_ | exact schedW_stop_i | refine schK_n ‹_› ?_ | (refine PW.cond rfl ?_ ?_ <;> intro hcond <;> (try contradiction) <;> try simp only [DD] at hcond) | (refine gd_i ?_; intro hg; try simp only [hg]) | refine goCall_W e138 (h47) ?_ ?_ ?_ ?_ | refine goCall_W e124 (h43) ?_ ?_ ?_ ?_ | (refine ari ?_; first | omega | (simp only [DD, LL] <;> omega) | (go_unwrap; omega)) | ((first | refine stq ?_ | show (_ : Post) _ _ _ | (refine schedW_alt_k ?_ ?_; intro K hK)); focus (simp only [hd, hg, hlen, hnl, d2, g1, s1, g2, w1, SA, Nat.reduceAdd, reduceIte, Nat.reduceEqDiff, Nat.reduceBEq, reduceCtorEq]; (try go_unwrap; try simp only [hd, hg, hlen, hnl, d2, g1, s1, g2, w1, RR, reduceCtorEq]))) | refine And.intro ?_ ?_ | exact Or.inr ⟨rfl, Nat.le_refl _⟩ | exact (fun h => Bool.noConfusion h))
    all_goals first | rfl | exact ⟨i + 1, (by first | rfl | (simp only [TT, MObj.kill, PV.kill, Nat.reduceLeDiff, reduceIte, Nat.le_refl, Nat.zero_le, Nat.not_le, Nat.lt_irrefl]; done) | (simp [trimE, trimM, MObj.kill, PV.kill]; done)), (by rw [ht]; simp [trimM, MObj.kill]), ⟨by omega, hw⟩, by omega⟩
/-! What is needed, by names -/
def tabM (l : List Ed) : List (St × List St) := l.foldl (fun m e => aset m e.name e.needs) []
theorem tab_snoc (l : List Ed) (e : Ed) : tabM (l ++ [e]) = aset (tabM l) e.name e.needs := by simp [tabM]
theorem tab_take (l : List Ed) (i : Nat) (h : i < l.length) : tabM (l.take (i + 1)) = aset (tabM (l.take i)) l[i].name l[i].needs := by
  rw [List.take_succ_eq_append_getElem h, tab_snoc]
theorem v119 (l : List Ed) (hl : l.length ≤ 9223372036854775807) : VCalls Tryd.prog GK 119 [edL l] (.cmap .str (strM lstV (tabM l))) := by
  refine VCalls.of_PW Tryd.func119 k119 mix (by simp [c119]) ?_
  simp only [c119, L119, argE]
  have hlen : ((l.map edP).length : Nat) = l.length := by simp
  repeat' (first | exact True.intro | (refine PW.seqK ?_; intro K hK) | refine stp ?_ | refine seqK_n ‹_› ?_ | refine seqK_r ‹_› ?_ | refine seqK_e ‹_› ?_ | exact schedW_stop_i | refine schK_n ‹_› ?_ | (refine PW.cond rfl ?_ ?_ <;> intro hcond <;> (try contradiction) <;> try simp only [DD] at hcond) | (refine gd_i ?_; intro hg; try simp only [hg]) | (refine ari ?_; first | omega | (simp only [DD, LL] <;> omega) | (go_unwrap; omega)) | ((first | refine stq ?_ | show (_ : Post) _ _ _ | (refine schedW_alt_k ?_ ?_; intro K hK)); focus (simp only [hlen, SA, Nat.reduceAdd, reduceIte, Nat.reduceEqDiff, Nat.reduceBEq, reduceCtorEq]; (try go_unwrap; try simp only [hlen, RR, reduceCtorEq]))) | refine And.intro ?_ ?_ | exact Or.inr ⟨rfl, Nat.le_refl _⟩ | exact (fun h => Bool.noConfusion h))
  refine PW.loopG (σ := Nat) 1 (fun _ _ => rfl) [3, 7, 8, 9] (fun i => [.mref 0, edL l, .int .i64 l.length, .int .i64 i])
    (fun i => [some (.mp .str (strM lstV (tabM (l.take i))))]) (fun i => i ≤ l.length) (fun i => l.length - i) 0 ?_ rfl (by omega) ?_
  · simp only [SA, Nat.reduceAdd, reduceIte, Nat.reduceEqDiff, Nat.reduceBEq, reduceCtorEq]; rfl
  rintro i hi
  simp only [List.zip_cons_cons, List.zip_nil_left]
  rcases Nat.lt_or_ge i l.length with h | h
  · have hd : decide ((i : Int) < l.length) = true := by simp only [decide_eq_true_eq]; omega
    have hg := ed_getD l i h
    have ht := tab_take l i h
    generalize l[i] = e at hg ht
    generalize tabM (l.take i) = m at ht
    simp only [edP] at hg
    have s1 : mset (strM lstV m) (.str e.name) (.list none (e.needs.map PV.str)) = strM lstV (aset m e.name e.needs) := mset_str lstV m e.name e.needs
    repeat' (first | exact True.intro | (refine PW.seqK ?_; intro K hK) | refine stp ?_ | refine seqK_n ‹_› ?_ | refine seqK_r ‹_› ?_ | refine seqK_e ‹_› ?_ | exact schedW_stop_i | refine schK_n ‹_› ?_ | (refine PW.cond rfl ?_ ?_ <;> intro hcond <;> (try contradiction) <;> try simp only [DD] at hcond) | (refine gd_i ?_; intro hg; try simp only [hg]) | (refine ari ?_; first | omega | (simp only [DD, LL] <;> omega) | (go_unwrap; omega)) | ((first | refine stq ?_ | show (_ : Post) _ _ _ | (refine schedW_alt_k ?_ ?_; intro K hK)); focus (simp only [hd, hg, hlen, s1, SA, Nat.reduceAdd, reduceIte, Nat.reduceEqDiff, Nat.reduceBEq, reduceCtorEq]; (try go_unwrap; try simp only [hd, hg, hlen, s1, RR, reduceCtorEq]))) | refine And.intro ?_ ?_ | exact Or.inr ⟨rfl, Nat.le_refl _⟩ | exact (fun h => Bool.noConfusion h))
    all_goals first | rfl | exact ⟨i + 1, (by first | rfl | (simp only [TT, MObj.kill, PV.kill, Nat.reduceLeDiff, reduceIte, Nat.le_refl, Nat.zero_le, Nat.not_le, Nat.lt_irrefl]; done) | (simp [trimE, trimM, MObj.kill, PV.kill]; done)), (by rw [ht]; simp [trimM, MObj.kill]), by omega, by omega⟩
  · have hd : decide ((i : Int) < l.length) = false := by simp only [decide_eq_false_iff_not]; omega
    have hi' : i = l.length := by omega
    subst hi'
    rw [List.take_length]
    repeat' (first | exact True.intro | (refine PW.seqK ?_; intro K hK) | refine stp ?_ | refine seqK_n ‹_› ?_ | refine seqK_r ‹_› ?_ | refine seqK_e ‹_› ?_ | exact schedW_stop_i | refine schK_n ‹_› ?_ | (refine PW.cond rfl ?_ ?_ <;> intro hcond <;> (try contradiction) <;> try simp only [DD] at hcond) | (refine gd_i ?_; intro hg; try simp only [hg]) | (refine ari ?_; first | omega | (simp only [DD, LL] <;> omega) | (go_unwrap; omega)) | ((first | refine stq ?_ | show (_ : Post) _ _ _ | (refine schedW_alt_k ?_ ?_; intro K hK)); focus (simp only [hd, hlen, SA, Nat.reduceAdd, reduceIte, Nat.reduceEqDiff, Nat.reduceBEq, reduceCtorEq]; (try go_unwrap; try simp only [hd, hlen, RR, reduceCtorEq]))) | refine And.intro ?_ ?_ | exact Or.inr ⟨rfl, Nat.le_refl _⟩ | exact (fun h => Bool.noConfusion h))
end Go.Proofs.YthekpjhffciakaaDoor

namespace Go.Proofs.YthekpjhffciakaaDoor
open Go PG Go.Proofs Go.Shelf
set_option linter.unusedSimpArgs false
set_option linter.unusedVariables false
set_option maxHeartbeats 4000000
set_option maxRecDepth 100000
theorem v63o {μ : Mem} {t : Nat} (ds : List St) (hl : ds.length ≤ 4000000000) (hm : μ.get t = some (.row none (ds.map PV.str))) :
    PCalls Tryd.prog GK 63 [.sl none t ds.length] μ (fun _ => false) (fun p μ' => p = .tup [] ∧ μ' = μ.set t (some (.row none ((OsortT ds).map PV.str)))) := v63 ds hl hm
theorem sort_len (l : List St) : (OsortT l).length = l.length := List.length_mergeSort _
theorem v120 (l : List Ed) (hl : l.length ≤ 1000000000) : VCalls Tryd.prog GK 120 [edL l] (txL (nsM l)) := by
  refine VCalls.of_PW Tryd.func120 k120 mix (by simp [c120]) ?_
  simp only [c120, L120, argE]
  have hlen : ((l.map edP).length : Nat) = l.length := by simp
  repeat' (first | exact True.intro | (refine PW.seqK ?_; intro K hK) | refine stp ?_ | refine seqK_n ‹_› ?_ | refine seqK_r ‹_› ?_ | refine seqK_e ‹_› ?_ | exact schedW_stop_i | refine schK_n ‹_› ?_ | (refine PW.cond rfl ?_ ?_ <;> intro hcond <;> (try contradiction) <;> try simp only [DD] at hcond) | (refine gd_i ?_; intro hg; try simp only [hg]) | (refine ari ?_; first | omega | (simp only [DD, LL] <;> omega) | (go_unwrap; omega)) | ((first | refine stq ?_ | show (_ : Post) _ _ _ | (refine schedW_alt_k ?_ ?_; intro K hK)); focus (simp only [hlen, SA, Nat.reduceAdd, reduceIte, Nat.reduceEqDiff, Nat.reduceBEq, reduceCtorEq]; (try go_unwrap; try simp only [hlen, RR, reduceCtorEq]))) | refine And.intro ?_ ?_ | exact Or.inr ⟨rfl, Nat.le_refl _⟩ | exact (fun h => Bool.noConfusion h))
  refine PW.own none 3 rfl ?_
  refine PW.loopG (σ := Nat) 1 (fun _ _ => rfl) [3, 6, 7, 8] (fun i => [.sl none 0 i, edL l, .int .i64 l.length, .int .i64 i]) (fun i => [some (.row none (((l.take i).map (·.name)).map PV.str))]) (fun i => i ≤ l.length) (fun i => l.length - i) 0 ?_ (by simp) (by omega) ?_
  · simp only [SA, Nat.reduceAdd, reduceIte, Nat.reduceEqDiff, Nat.reduceBEq, reduceCtorEq]; rfl
  rintro i hi
  simp only [List.zip_cons_cons, List.zip_nil_left]
  rcases Nat.lt_or_ge i l.length with h | h
  · have hd : decide ((i : Int) < l.length) = true := by simp only [decide_eq_true_eq]; omega
    have hg := ed_getD l i h
    have ht : ((l.take (i + 1)).map (·.name)).map PV.str = ((l.take i).map (·.name)).map PV.str ++ [.str l[i].name] := by
      rw [List.take_succ_eq_append_getElem h, List.map_append, List.map_append]; rfl
    have hlt : (((l.take i).map (·.name)).map PV.str).length = i := by simp; omega
    have htk : (((l.take i).map (·.name)).map PV.str).take i = ((l.take i).map (·.name)).map PV.str := List.take_of_length_le (by omega)
    generalize l[i] = e at hg ht
    generalize ((l.take i).map (·.name)).map PV.str = A at ht hlt htk
    simp only [edP] at hg
    have b1 : (i + 1) * 16 ≤ 140737488355328 := by omega
    repeat' (first | exact True.intro | (refine PW.seqK ?_; intro K hK) | refine stp ?_ | refine seqK_n ‹_› ?_ | refine seqK_r ‹_› ?_ | refine seqK_e ‹_› ?_ | exact schedW_stop_i | refine schK_n ‹_› ?_ | (refine PW.cond rfl ?_ ?_ <;> intro hcond <;> (try contradiction) <;> try simp only [DD] at hcond) | (refine gd_i ?_; intro hg; try simp only [hg]) | (refine ari ?_; first | omega | (simp only [DD, LL] <;> omega) | (go_unwrap; omega)) | ((first | refine stq ?_ | show (_ : Post) _ _ _ | (refine schedW_alt_k ?_ ?_; intro K hK)); focus (simp only [hd, hg, hlt, htk, hlen, b1, SA, Nat.reduceAdd, reduceIte, Nat.reduceEqDiff, Nat.reduceBEq, reduceCtorEq]; (try go_unwrap; try simp only [hd, hg, hlt, htk, hlen, b1, RR, reduceCtorEq]))) | refine And.intro ?_ ?_ | exact Or.inr ⟨rfl, Nat.le_refl _⟩ | exact (fun h => Bool.noConfusion h))
    all_goals exact ⟨i + 1, (by first | rfl | (simp only [TT, MObj.kill, PV.kill, Nat.reduceLeDiff, reduceIte, Nat.le_refl, Nat.zero_le, Nat.not_le, Nat.lt_irrefl]; done) | (simp [trimE, trimM, MObj.kill, PV.kill]; done)), (by rw [ht]; simp [trimM, MObj.kill]), by omega, by omega⟩
  · have hd : decide ((i : Int) < l.length) = false := by simp only [decide_eq_false_iff_not]; omega
    have hi' : i = l.length := by omega
    subst hi'
    rw [List.take_length]
    have h36 := v63o (μ := [some (.row none ((l.map (·.name)).map PV.str))]) (t := 0) (l.map (·.name)) (by simp; omega) rfl
    rw [List.length_map] at h36
    repeat' (first | exact True.intro | (refine PW.seqK ?_; intro K hK) | refine stp ?_ | refine seqK_n ‹_› ?_ | refine seqK_r ‹_› ?_ | refine seqK_e ‹_› ?_ | exact schedW_stop_i | refine schK_n ‹_› ?_ | (refine PW.cond rfl ?_ ?_ <;> intro hcond <;> (try contradiction) <;> try simp only [DD] at hcond) | (refine goCall_P e63 h36 ?_; rintro p μ' ⟨rfl, rfl⟩; simp only [hd, hlen, SA, Nat.reduceAdd, reduceIte, Nat.reduceEqDiff, Nat.reduceBEq, reduceCtorEq]) | (refine gd_i ?_; intro hg; try simp only [hg]) | (refine ari ?_; first | omega | (simp only [DD, LL] <;> omega) | (go_unwrap; omega)) | ((first | refine stq ?_ | show (_ : Post) _ _ _ | (refine schedW_alt_k ?_ ?_; intro K hK)); focus (simp only [hd, hlen, SA, Nat.reduceAdd, reduceIte, Nat.reduceEqDiff, Nat.reduceBEq, reduceCtorEq]; (try go_unwrap; try simp only [hd, hlen, RR, reduceCtorEq]))) | refine And.intro ?_ ?_ | exact Or.inr ⟨rfl, Nat.le_refl _⟩ | exact (fun h => Bool.noConfusion h))
    all_goals have hsl : (List.map PV.str (OsortT (List.map (fun x => x.name) l))).length = l.length := by simp [sort_len]
    · rw [hsl]; simp
    · rw [if_pos (by omega), List.take_of_length_le (by omega)]; rfl
end Go.Proofs.YthekpjhffciakaaDoor

namespace Go.Proofs.YthekpjhffciakaaDoor
open Go PG Go.Proofs
set_option linter.unusedSimpArgs false
set_option linter.unusedVariables false
set_option maxHeartbeats 4000000
set_option maxRecDepth 100000
abbrev boolV : Bool → PV := PV.bool
theorem tab_get {l : List Ed} (hn : (l.map (·.name)).Nodup) (s : St) : aget (tabM l) s = (l.find? (fun e => decide (e.name = s))).map (·.needs) := by
  have key : ∀ i, i ≤ l.length → aget (tabM (l.take i)) s = ((l.take i).find? (fun e => decide (e.name = s))).map (·.needs) := by
    intro i
    induction i with
    | zero => intro _; rfl
    | succ i ih =>
      intro h
      have h' : i < l.length := by omega
      rw [tab_take l i h', aget_aset, List.take_succ_eq_append_getElem h', List.find?_append]
      by_cases he : s = l[i].name
      · rw [if_pos he]
        have : (l.take i).find? (fun e => decide (e.name = s)) = none := List.find?_eq_none.2 fun e hm hh => by
          simp only [decide_eq_true_eq] at hh
          obtain ⟨j, hj, rfl⟩ := List.getElem_of_mem hm
          simp only [List.length_take] at hj
          rw [List.getElem_take] at hh
          have := List.pairwise_iff_getElem.1 hn j i (by simp; omega) (by simp; omega) (by omega)
          exact this (by simp [hh, he])
        rw [this]; simp [he]
      · rw [if_neg he, ih (by omega)]
        have : ([l[i]] : List Ed).find? (fun e => decide (e.name = s)) = none := by simp [Ne.symm he]
        rw [this, Option.or_none]
  have := key l.length (Nat.le_refl _)
  rwa [List.take_length] at this
theorem tab_at {l : List Ed} (hw : wrongM l = 0) (s : St) : aget (tabM l) s = if s ∈ nsM l then some (ndM l s) else none := by
  rw [tab_get (wrongM_0.1 hw).2.1]
  unfold ndM
  cases hf : l.find? (fun e => decide (e.name = s)) with
  | none =>
    have : s ∉ nsM l := fun h => by
      obtain ⟨e, he, hh⟩ := ns_mem.1 h
      have := List.find?_eq_none.1 hf e he
      simp [hh] at this
    rw [if_neg this]; rfl
  | some e =>
    have h1 := List.find?_some hf
    have h2 := List.mem_of_find?_eq_some hf
    simp only [decide_eq_true_eq] at h1
    rw [if_pos (ns_mem.2 ⟨e, h2, h1⟩)]; rfl
theorem tab_nd {l : List Ed} (hw : wrongM l = 0) (s : St) : (aget (tabM l) s).getD [] = ndM l s := by
  rw [tab_at hw]
  by_cases h : s ∈ nsM l
  · rw [if_pos h]; rfl
  · rw [if_neg h, nd_out h]; rfl
theorem look_lst (T : List (St × List St)) (s : St) : (mget (strM lstV T) (.str s)).getD .nilSl = match aget T s with | some ns => lstV ns | none => .nilSl := by
  rw [mget_str]; cases aget T s <;> rfl
theorem sub_lst (T : List (St × List St)) (s : St) : Sub ((mget (strM lstV T) (.str s)).getD .nilSl) (lstV ((aget T s).getD [])) := by
  rw [look_lst]
  cases aget T s with
  | none => exact Sub.nil none
  | some ns => exact Sub.refl _
theorem look_bool (K : List (St × Bool)) (s : St) : (mget (strM boolV K) (.str s)).getD (.bool false) = .bool ((aget K s).getD false) := by rw [mget_str]; exact getD_map boolV _ false
theorem look_is {α : Type} (vp : α → PV) (K : List (St × α)) (s : St) : (mget (strM vp K) (.str s)).isSome = (aget K s).isSome := by rw [mget_str]; exact isSome_map vp _
/-! Is a name one that stands late? -/
def lateM (T : List (St × List St)) (K : List (St × Bool)) (s : St) : Bool := (aget T s).isSome && !((aget K s).getD false)
def redyM (T : List (St × List St)) (K : List (St × Bool)) (s : St) : Bool := !((aget K s).getD false) && !(((aget T s).getD []).any (lateM T K))
abbrev cpT (T : List (St × List St)) : PV := .cptr none (.cmap .str (strM lstV T)) 0
abbrev cpK (K : List (St × Bool)) : PV := .cptr none (.cmap .str (strM boolV K)) 0
theorem v121 (T : List (St × List St)) (K : List (St × Bool)) (s : St) : VCalls Tryd.prog GK 121 [.str s, cpT T, cpK K] (.bool (lateM T K s)) := by
  refine VCalls.of_PW Tryd.func121 k121 mix (by simp [c121]) ?_
  simp only [c121, L121, argE, cpT, cpK]
  have h1 := look_bool K s
  have h2 := look_is lstV T s
  unfold lateM
  generalize (aget K s).getD false = b at h1
  generalize (aget T s).isSome = c at h2
  cases c
  · repeat' (first | exact True.intro | (refine PW.seqK ?_; intro K hK) | refine stp ?_ | refine seqK_n ‹_› ?_ | refine seqK_r ‹_› ?_ | refine seqK_e ‹_› ?_ | exact schedW_stop_i | refine schK_n ‹_› ?_ | (refine PW.cond rfl ?_ ?_ <;> intro hcond <;> (try contradiction) <;> try simp only [DD] at hcond) | (refine gd_i ?_; intro hg; try simp only [hg]) | (refine ari ?_; first | omega | (simp only [DD, LL] <;> omega) | (go_unwrap; omega)) | ((first | refine stq ?_ | show (_ : Post) _ _ _ | (refine schedW_alt_k ?_ ?_; intro K hK)); focus (simp only [h1, h2, lookV, cut, SA, Nat.reduceAdd, reduceIte, Nat.reduceEqDiff, Nat.reduceBEq, reduceCtorEq]; (try go_unwrap; try simp only [h1, h2, lookV, cut, RR, reduceCtorEq]))) | refine And.intro ?_ ?_ | exact Or.inr ⟨rfl, Nat.le_refl _⟩ | exact (fun h => Bool.noConfusion h))
    all_goals rfl
  · repeat' (first | exact True.intro | (refine PW.seqK ?_; intro K hK) | refine stp ?_ | refine seqK_n ‹_› ?_ | refine seqK_r ‹_› ?_ | refine seqK_e ‹_› ?_ | exact schedW_stop_i | refine schK_n ‹_› ?_ | (refine PW.cond rfl ?_ ?_ <;> intro hcond <;> (try contradiction) <;> try simp only [DD] at hcond) | (refine gd_i ?_; intro hg; try simp only [hg]) | (refine ari ?_; first | omega | (simp only [DD, LL] <;> omega) | (go_unwrap; omega)) | ((first | refine stq ?_ | show (_ : Post) _ _ _ | (refine schedW_alt_k ?_ ?_; intro K hK)); focus (simp only [h1, h2, lookV, cut, SA, Nat.reduceAdd, reduceIte, Nat.reduceEqDiff, Nat.reduceBEq, reduceCtorEq]; (try go_unwrap; try simp only [h1, h2, lookV, cut, RR, reduceCtorEq]))) | refine And.intro ?_ ?_ | exact Or.inr ⟨rfl, Nat.le_refl _⟩ | exact (fun h => Bool.noConfusion h))
theorem clLate (T : List (St × List St)) (K : List (St × Bool)) : Cl [cpT T, cpK K] := ⟨fun μ => by simp [PV.view], fun μ => by simp [PV.seen]⟩
theorem clRedy (T : List (St × List St)) (K : List (St × Bool)) : Cl [cpK K, cpT T, .cptr none (.fn 121 [] [cpT T, cpK K]) 0] := ⟨fun μ => by simp [PV.view], fun μ => by simp [PV.seen]⟩
theorem v123 (T : List (St × List St)) (K : List (St × Bool)) (s : St) (hl : ∀ ns, aget T s = some ns → ns.length ≤ 9223372036854775807) : VCalls Tryd.prog GK 123 [.str s, cpK K, cpT T, .cptr none (.fn 121 [] [cpT T, cpK K]) 0] (.bool (redyM T K s)) := by
  refine VCalls.of_PW Tryd.func123 k123 mix (by simp [c123]) ?_
  simp only [c123, L123, argE, cpT, cpK]
  have h1 := look_bool K s
  unfold redyM
  have h43 := v124 ((aget T s).getD []) (lateM T K) 121 [cpT T, cpK K] e121 (clLate T K) (by
    cases h : aget T s with
    | none => simp
    | some ns => exact hl ns h) (fun x _ => v121 T K x)
  have hsub : SubL [(mget (strM lstV T) (.str s)).getD .nilSl, .fn 121 [] [cpT T, cpK K]] [lstV ((aget T s).getD []), .fn 121 [] [cpT T, cpK K]] := .cons (sub_lst T s) (SubL.refl _)
  have h43 := VCalls.sub h43 hsub
  simp only [cpT, cpK] at h43
  have hs := look_lst T s
  generalize (aget K s).getD false = b at h1
  cases b
  · rcases hT : aget T s with _ | ns
    · rw [hT] at hs
      simp only at hs
      rw [hs, hT] at h43
      generalize (Option.getD none []).any (lateM T K) = c at h43
      repeat' (first | exact True.intro | (refine PW.seqK ?_; intro K hK) | refine stp ?_ | refine seqK_n ‹_› ?_ | refine seqK_r ‹_› ?_ | refine seqK_e ‹_› ?_ | exact schedW_stop_i | refine schK_n ‹_› ?_ | (refine PW.cond rfl ?_ ?_ <;> intro hcond <;> (try contradiction) <;> try simp only [DD] at hcond) | (refine gd_i ?_; intro hg; try simp only [hg]) | refine goCallG_W e124 (h43) ?_ ?_ ?_ ?_ ?_ | (refine ari ?_; first | omega | (simp only [DD, LL] <;> omega) | (go_unwrap; omega)) | ((first | refine stq ?_ | show (_ : Post) _ _ _ | (refine schedW_alt_k ?_ ?_; intro K hK)); focus (simp only [h1, hs, lookV, cut, SA, Nat.reduceAdd, reduceIte, Nat.reduceEqDiff, Nat.reduceBEq, reduceCtorEq]; (try go_unwrap; try simp only [h1, hs, lookV, cut, RR, reduceCtorEq]))) | refine And.intro ?_ ?_ | exact Or.inr ⟨rfl, Nat.le_refl _⟩ | exact (fun h => Bool.noConfusion h))
    · rw [hT] at hs
      simp only at hs
      rw [hs, hT] at h43
      generalize (Option.getD (some ns) []).any (lateM T K) = c at h43
      repeat' (first | exact True.intro | (refine PW.seqK ?_; intro K hK) | refine stp ?_ | refine seqK_n ‹_› ?_ | refine seqK_r ‹_› ?_ | refine seqK_e ‹_› ?_ | exact schedW_stop_i | refine schK_n ‹_› ?_ | (refine PW.cond rfl ?_ ?_ <;> intro hcond <;> (try contradiction) <;> try simp only [DD] at hcond) | (refine gd_i ?_; intro hg; try simp only [hg]) | refine goCallG_W e124 (h43) ?_ ?_ ?_ ?_ ?_ | (refine ari ?_; first | omega | (simp only [DD, LL] <;> omega) | (go_unwrap; omega)) | ((first | refine stq ?_ | show (_ : Post) _ _ _ | (refine schedW_alt_k ?_ ?_; intro K hK)); focus (simp only [h1, hs, lookV, cut, SA, Nat.reduceAdd, reduceIte, Nat.reduceEqDiff, Nat.reduceBEq, reduceCtorEq]; (try go_unwrap; try simp only [h1, hs, lookV, cut, RR, reduceCtorEq]))) | refine And.intro ?_ ?_ | exact Or.inr ⟨rfl, Nat.le_refl _⟩ | exact (fun h => Bool.noConfusion h))
  · repeat' (first | exact True.intro | (refine PW.seqK ?_; intro K hK) | refine stp ?_ | refine seqK_n ‹_› ?_ | refine seqK_r ‹_› ?_ | refine seqK_e ‹_› ?_ | exact schedW_stop_i | refine schK_n ‹_› ?_ | (refine PW.cond rfl ?_ ?_ <;> intro hcond <;> (try contradiction) <;> try simp only [DD] at hcond) | (refine goCallG_skip rfl ?_; simp only [h1, lookV, cut, SA, Nat.reduceAdd, reduceIte, Nat.reduceEqDiff, Nat.reduceBEq, reduceCtorEq]; (try go_unwrap; try simp only [h1, lookV, cut, RR, reduceCtorEq])) | (refine gd_i ?_; intro hg; try simp only [hg]) | (refine ari ?_; first | omega | (simp only [DD, LL] <;> omega) | (go_unwrap; omega)) | ((first | refine stq ?_ | show (_ : Post) _ _ _ | (refine schedW_alt_k ?_ ?_; intro K hK)); focus (simp only [h1, lookV, cut, SA, Nat.reduceAdd, reduceIte, Nat.reduceEqDiff, Nat.reduceBEq, reduceCtorEq]; (try go_unwrap; try simp only [h1, lookV, cut, RR, reduceCtorEq]))) | refine And.intro ?_ ?_ | exact Or.inr ⟨rfl, Nat.le_refl _⟩ | exact (fun h => Bool.noConfusion h))
    all_goals rfl
end Go.Proofs.YthekpjhffciakaaDoor

namespace Go.Proofs.YthekpjhffciakaaDoor
open Go PG Go.Proofs
set_option linter.unusedSimpArgs false
set_option linter.unusedVariables false
set_option maxHeartbeats 4000000
set_option maxRecDepth 100000
def onesB (out : List St) : List (St × Bool) := out.map fun s => (s, true)
theorem onesB_get (out : List St) (s : St) : (aget (onesB out) s).getD false = decide (s ∈ out) := by
  induction out with
  | nil => simp [onesB, aget]
  | cons x l ih =>
    simp only [onesB, List.map_cons, aget] at ih ⊢
    by_cases h : x = s
    · simp [h]
    · simp only [h, if_false]
      rw [ih]
      have : (s ∈ x :: l) ↔ s ∈ l := by simp [Ne.symm h]
      simp only [this]
theorem onesB_set {out : List St} {s : St} (h : s ∉ out) : aset (onesB out) s true = onesB (out ++ [s]) := by
  induction out with
  | nil => rfl
  | cons x l ih =>
    have h1 : x ≠ s := fun e => h (by simp [e])
    have h2 : s ∉ l := fun e => h (by simp [e])
    simp only [onesB, List.map_cons, aset, List.cons_append, h1, if_false] at ih ⊢
    rw [ih h2]
theorem late_at {l : List Ed} (hw : wrongM l = 0) (out : List St) (s : St) : lateM (tabM l) (onesB out) s = (decide (s ∈ nsM l) && !decide (s ∈ out)) := by
  unfold lateM
  rw [onesB_get, tab_at hw]
  by_cases h : s ∈ nsM l
  · rw [if_pos h]; simp [h]
  · rw [if_neg h]; simp [h]
theorem redy_at {l : List Ed} (hw : wrongM l = 0) (out : List St) (s : St) : redyM (tabM l) (onesB out) s = readyG (nsM l) (ndM l) out s := by
  unfold redyM readyG
  rw [onesB_get, tab_nd hw]
  have : (ndM l s).any (lateM (tabM l) (onesB out)) = !((ndM l s).all fun x => !(decide (x ∈ nsM l)) || decide (x ∈ out)) := by
    rw [List.not_all_eq_any_not]
    congr 1
    funext x
    rw [late_at hw]; simp
  rw [this]; simp
theorem idxF_find {p : St → Bool} {N : List St} {s : St} (h : N.find? p = some s) : ∃ j, ∃ h : j < N.length, idxF p N = j ∧ N[j] = s ∧ p s = true := by
  obtain ⟨hp, as', bs, e, hall⟩ := List.find?_eq_some_iff_append.1 h
  subst e
  refine ⟨as'.length, by simp, ?_, by simp, hp⟩
  refine idxF_at (by simp) (by simpa using hp) fun j hj hlt => ?_
  rw [List.getElem_append_left hlt]
  have := hall as'[j] (List.getElem_mem hlt)
  simpa using this
theorem idxF_not {p : St → Bool} {N : List St} (h : N.find? p = none) : idxF p N = -1 :=
  idxF_none fun j hj => by have := List.find?_eq_none.1 h N[j] (List.getElem_mem hj); simpa using this
theorem lst_ok {l : List Ed} (hw : wrongM l = 0) {x : St} {ns : List St} (h : aget (tabM l) x = some ns) : ns.length ≤ 9223372036854775807 := by
  rw [tab_at hw] at h
  split at h
  · cases h
    rename_i hx
    obtain ⟨e, he, rfl⟩ := ns_mem.1 hx
    rw [nd_at (wrongM_0.1 hw).2.1 he]
    have := ((wrongM_0.1 hw).2.2 e he).2.1
    omega
  · cases h
theorem v94 (l : List Ed) (hl : l.length ≤ 1000000000) (hnl : ∀ e ∈ l, e.needs.length ≤ 9223372036854775807) : VCalls Tryd.prog GK 94 [edL l] (.tup [txL (OsortM l).1, .int .i64 (OsortM l).2]) := by
  refine VCalls.of_PW Tryd.func94 k94 mix (by simp [c94]) ?_
  simp only [c94, L94, argE]
  have h27 := v118 l (by omega) hnl
  have h28 := v119 l (by omega)
  have h29 := v120 l hl
  by_cases hw : wrongM l = 0
  case neg =>
    have d1 : decide (wrongM l = 0) = false := by simpa using hw
    have hS : OsortM l = ([], wrongM l) := sort_wrong hw
    repeat' (first | exact True.intro | (refine PW.stop (x := .ret) ?_) | (refine PW.seqK ?_; intro K hK) | refine stp ?_ | refine seqK_n ‹_› ?_ | refine seqK_r ‹_› ?_ | refine seqK_e ‹_› ?_ | exact schedW_stop_i | refine schK_n ‹_› ?_ | (refine PW.cond rfl ?_ ?_ <;> intro hcond <;> (try contradiction) <;> try simp only [DD] at hcond) | (refine gd_i ?_; intro hg; try simp only [hg]) | refine goCall_W e118 (h27) ?_ ?_ ?_ ?_ | (refine ari ?_; first | omega | (simp only [DD, LL] <;> omega) | (go_unwrap; omega)) | ((first | refine stq ?_ | show (_ : Post) _ _ _ | (refine schedW_alt_k ?_ ?_; intro K hK)); focus (simp only [d1, SA, Nat.reduceAdd, reduceIte, Nat.reduceEqDiff, Nat.reduceBEq, reduceCtorEq]; (try go_unwrap; try simp only [d1, RR, reduceCtorEq]))) | refine And.intro ?_ ?_ | exact Or.inr ⟨rfl, Nat.le_refl _⟩ | exact (fun h => Bool.noConfusion h))
    all_goals
      refine ⟨?_⟩
      refine PW.subE none 2 rfl ?_
      repeat' (first | exact True.intro | (refine PW.seqK ?_; intro K hK) | refine stp ?_ | refine seqK_n ‹_› ?_ | refine seqK_r ‹_› ?_ | refine seqK_e ‹_› ?_ | exact schedW_stop_i | refine schK_n ‹_› ?_ | (refine PW.cond rfl ?_ ?_ <;> intro hcond <;> (try contradiction) <;> try simp only [DD] at hcond) | (refine gd_i ?_; intro hg; try simp only [hg]) | (refine ari ?_; first | omega | (simp only [DD, LL] <;> omega) | (go_unwrap; omega)) | ((first | refine stq ?_ | show (_ : Post) _ _ _ | (refine schedW_alt_k ?_ ?_; intro K hK)); focus (simp only [SA, Nat.reduceAdd, reduceIte, Nat.reduceEqDiff, Nat.reduceBEq, reduceCtorEq]; (try go_unwrap; try simp only [RR, reduceCtorEq]))) | refine And.intro ?_ ?_ | exact Or.inr ⟨rfl, Nat.le_refl _⟩ | exact (fun h => Bool.noConfusion h))
      rw [hS]; rfl
  rw [hw] at h27
  obtain ⟨R, hR⟩ : ∃ R, OsortM l = R := ⟨_, rfl⟩
  have hS : OsortM l = match sortG (nsM l) (ndM l) (nsM l).length [] with
    | none => ([], 13)
    | some o => (o, 0) := by unfold OsortM; rw [if_neg (by simp [hw])]; rfl
  rw [hR] at hS ⊢
  clear hR
  have h42 := fun out x => v123 (tabM l) (onesB out) x (fun ns h => lst_ok hw h)
  have hrd := redy_at hw
  have hNl : (nsM l).length ≤ 64 := by rw [ns_len]; exact (wrongM_0.1 hw).1
  have hcl := clRedy (tabM l)
  generalize tabM l = T at h28 h42 hrd hcl
  generalize nsM l = N at h29 hS hrd hNl
  generalize ndM l = nd at hS hrd
  simp only [cpT, cpK] at h42 hcl
  have hN : ((N.map PV.str).length : Nat) = N.length := by simp
  repeat' (first | exact True.intro | (refine PW.seqK ?_; intro K hK) | refine stp ?_ | refine seqK_n ‹_› ?_ | refine seqK_r ‹_› ?_ | refine seqK_e ‹_› ?_ | exact schedW_stop_i | refine schK_n ‹_› ?_ | (refine PW.cond rfl ?_ ?_ <;> intro hcond <;> (try contradiction) <;> try simp only [DD] at hcond) | (refine gd_i ?_; intro hg; try simp only [hg]) | refine goCall_W e118 (h27) ?_ ?_ ?_ ?_ | refine goCall_W e119 (h28) ?_ ?_ ?_ ?_ | refine goCall_W e120 (h29) ?_ ?_ ?_ ?_ | (refine ari ?_; first | omega | (simp only [DD, LL] <;> omega) | (go_unwrap; omega)) | ((first | refine stq ?_ | show (_ : Post) _ _ _ | (refine schedW_alt_k ?_ ?_; intro K hK)); focus (simp only [hN, SA, Nat.reduceAdd, reduceIte, Nat.reduceEqDiff, Nat.reduceBEq, reduceCtorEq]; (try go_unwrap; try simp only [hN, RR, reduceCtorEq]))) | refine And.intro ?_ ?_ | exact Or.inr ⟨rfl, Nat.le_refl _⟩ | exact (fun h => Bool.noConfusion h))
  refine PW.own none 9 rfl ?_
  refine PW.loopG (σ := Nat × List St) 5 (fun _ _ => rfl) [2, 3, 5, 6, 7, 8, 9, 23, 24] (fun s => [.nilSl, .int .i64 0, .ref 0 0, txL N, .ref 2 0, .ref 3 0, .sl none 4 s.2.length, .int .i64 N.length, .int .i64 s.1])
    (fun s => [some (.var none (.cmap .str (strM lstV T))), some (.mp .str (strM boolV (onesB s.2))), some (.var none (.mref 1)), some (.var none (.fn 121 [] [.ref 0 0, .ref 2 0])), some (.row none (s.2.map PV.str))])
    (fun s => s.1 ≤ N.length ∧ s.2.length = s.1 ∧ sortG N nd N.length [] = sortG N nd (N.length - s.1) s.2) (fun s => N.length - s.1) (0, []) ?_ (by simp [onesB, mapP]) ⟨by simp, rfl, by simp⟩ ?_
  · simp only [SA, Nat.reduceAdd, reduceIte, Nat.reduceEqDiff, Nat.reduceBEq, reduceCtorEq]; rfl
  rintro ⟨i, out⟩ ⟨hi, hol, hg⟩
  simp only at hi hol hg
  simp only [List.zip_cons_cons, List.zip_nil_left]
  rcases Nat.lt_or_ge i N.length with h | h
  case inr =>
    have hd : decide ((i : Int) < N.length) = false := by simp only [decide_eq_false_iff_not]; omega
    rw [show N.length - i = 0 by omega] at hg
    rw [hg] at hS
    have hS : R = (out, 0) := hS
    subst hS
    have hoL : ((out.map PV.str).length : Nat) = out.length := by simp
    have htk : (out.map PV.str).take out.length = out.map PV.str := List.take_of_length_le (by simp)
    repeat' (first | exact True.intro | (refine PW.seqK ?_; intro K hK) | refine stp ?_ | refine seqK_n ‹_› ?_ | refine seqK_r ‹_› ?_ | refine seqK_e ‹_› ?_ | exact schedW_stop_i | refine schK_n ‹_› ?_ | (refine PW.cond rfl ?_ ?_ <;> intro hcond <;> (try contradiction) <;> try simp only [DD] at hcond) | (refine gd_i ?_; intro hg; try simp only [hg]) | (refine ari ?_; first | omega | (simp only [DD, LL] <;> omega) | (go_unwrap; omega)) | ((first | refine stq ?_ | show (_ : Post) _ _ _ | (refine schedW_alt_k ?_ ?_; intro K hK)); focus (simp only [hd, hN, SA, Nat.reduceAdd, reduceIte, Nat.reduceEqDiff, Nat.reduceBEq, reduceCtorEq]; (try go_unwrap; try simp only [hd, hN, RR, reduceCtorEq]))) | refine And.intro ?_ ?_ | exact Or.inr ⟨rfl, Nat.le_refl _⟩ | exact (fun h => Bool.noConfusion h))
    all_goals first | (simp [hoL, htk]; done) | skip
  have hd : decide ((i : Int) < N.length) = true := by simp only [decide_eq_true_eq]; omega
  obtain ⟨n, hn⟩ : ∃ n, N.length - i = n + 1 := ⟨N.length - i - 1, by omega⟩
  rw [hn, sortG] at hg
  have hfe : redyM T (onesB out) = readyG N nd out := funext (hrd out)
  have h41 := v122 N (redyM T (onesB out)) 123 _ e123 (hcl (onesB out)) (by omega) (fun x _ => h42 out x)
  rw [hfe] at h41
  cases hf : N.find? (readyG N nd out) with
  | none =>
    rw [hf] at hg
    rw [hg] at hS
    have hS : R = ([], 13) := hS
    rw [idxF_not hf] at h41
    have dn : decide ((-1 : Int) < 0) = true := rfl
    repeat' (first | exact True.intro | (refine PW.stop (x := .ret) ?_) | (refine PW.seqK ?_; intro K hK) | refine stp ?_ | refine seqK_n ‹_› ?_ | refine seqK_r ‹_› ?_ | refine seqK_e ‹_› ?_ | exact schedW_stop_i | refine schK_n ‹_› ?_ | (refine PW.cond rfl ?_ ?_ <;> intro hcond <;> (try contradiction) <;> try simp only [DD] at hcond) | (refine gd_i ?_; intro hg; try simp only [hg]) | refine goCall_L 6 e122 h41 (by simp [PV.lend, PV.view, Mem.get]) (by simp [PV.lends, PV.lend, PV.view, PV.seen, fitB, PV.scalar, Mem.get, Sh.size]) (by simp [PV.flat]) ?_ | (refine ari ?_; first | omega | (simp only [DD, LL] <;> omega) | (go_unwrap; omega)) | ((first | refine stq ?_ | show (_ : Post) _ _ _ | (refine schedW_alt_k ?_ ?_; intro K hK)); focus (simp only [hd, hN, dn, List.cons_append, List.nil_append, SA, Nat.reduceAdd, reduceIte, Nat.reduceEqDiff, Nat.reduceBEq, reduceCtorEq]; (try go_unwrap; try simp only [hd, hN, dn, List.cons_append, List.nil_append, RR, reduceCtorEq]))) | refine And.intro ?_ ?_ | exact Or.inr ⟨rfl, Nat.le_refl _⟩ | exact (fun h => Bool.noConfusion h))
    all_goals try rfl
    all_goals
      refine ⟨?_⟩
      refine PW.subE none 2 rfl ?_
      repeat' (first | exact True.intro | (refine PW.seqK ?_; intro K hK) | refine stp ?_ | refine seqK_n ‹_› ?_ | refine seqK_r ‹_› ?_ | refine seqK_e ‹_› ?_ | exact schedW_stop_i | refine schK_n ‹_› ?_ | (refine PW.cond rfl ?_ ?_ <;> intro hcond <;> (try contradiction) <;> try simp only [DD] at hcond) | (refine gd_i ?_; intro hg; try simp only [hg]) | (refine ari ?_; first | omega | (simp only [DD, LL] <;> omega) | (go_unwrap; omega)) | ((first | refine stq ?_ | show (_ : Post) _ _ _ | (refine schedW_alt_k ?_ ?_; intro K hK)); focus (simp only [SA, Nat.reduceAdd, reduceIte, Nat.reduceEqDiff, Nat.reduceBEq, reduceCtorEq]; (try go_unwrap; try simp only [RR, reduceCtorEq]))) | refine And.intro ?_ ?_ | exact Or.inr ⟨rfl, Nat.le_refl _⟩ | exact (fun h => Bool.noConfusion h))
      rw [hS]; rfl
  | some s =>
    rw [hf] at hg
    obtain ⟨j, hj, hjx, hNj, hps⟩ := idxF_find hf
    have hso := (ready_iff.1 hps).1
    rw [hjx] at h41
    have dn : decide ((j : Int) < 0) = false := by simp only [decide_eq_false_iff_not]; omega
    have hgt := tx_getD N j hj
    rw [hNj] at hgt
    have s1 : mset (strM boolV (onesB out)) (.str s) (.bool true) = strM boolV (onesB (out ++ [s])) := by rw [← onesB_set hso]; exact mset_str boolV _ _ _
    have ht : (out ++ [s]).map PV.str = out.map PV.str ++ [.str s] := by simp
    have hoL : ((out.map PV.str).length : Nat) = out.length := by simp
    have htk : (out.map PV.str).take out.length = out.map PV.str := List.take_of_length_le (by simp)
    have b1 : (out.length + 1) * 16 ≤ 140737488355328 := by omega
    repeat' (first | exact True.intro | (refine PW.seqA (E := ?_) (M := ?_) ?_ ?_; rotate_left 2) | exact mergeQ_mk _ _ | (refine PW.seqK ?_; intro K hK) | refine stp ?_ | refine seqK_n ‹_› ?_ | refine seqK_r ‹_› ?_ | refine seqK_e ‹_› ?_ | exact schedW_stop_i | refine schK_n ‹_› ?_ | (refine PW.cond rfl ?_ ?_ <;> intro hcond <;> (try contradiction) <;> try simp only [DD] at hcond) | (refine gd_i ?_; intro hg; try simp only [hg]) | refine goCall_L 6 e122 h41 (by simp [PV.lend, PV.view, Mem.get]) (by simp [PV.lends, PV.lend, PV.view, PV.seen, fitB, PV.scalar, Mem.get, Sh.size]) (by simp [PV.flat]) ?_ | (refine ari ?_; first | omega | (simp only [DD, LL] <;> omega) | (go_unwrap; omega)) | ((first | refine stq ?_ | show (_ : Post) _ _ _ | (refine schedW_alt_k ?_ ?_; intro K hK)); focus (simp only [hd, hN, dn, hgt, s1, hoL, htk, List.cons_append, List.nil_append, SA, Nat.reduceAdd, reduceIte, Nat.reduceEqDiff, Nat.reduceBEq, reduceCtorEq]; (try go_unwrap; try simp only [hd, hN, dn, hgt, s1, hoL, htk, List.cons_append, List.nil_append, RR, reduceCtorEq]))) | refine And.intro ?_ ?_ | exact Or.inr ⟨rfl, Nat.le_refl _⟩ | exact (fun h => Bool.noConfusion h))
    all_goals first | rfl | exact ⟨(i + 1, out ++ [s]), (by simp only [List.length_append, List.length_cons, List.length_nil]; exact (by first | rfl | (simp only [TT, MObj.kill, PV.kill, Nat.reduceLeDiff, reduceIte, Nat.le_refl, Nat.zero_le, Nat.not_le, Nat.lt_irrefl]; done) | (simp [trimE, trimM, MObj.kill, PV.kill]; done))), (by rw [ht]; simp [trimM, MObj.kill, PV.kill]), ⟨by simp only; omega, by simp; omega, by simp only; rw [show N.length - (i + 1) = n by omega]; exact hg⟩, by simp only; omega⟩
end Go.Proofs.YthekpjhffciakaaDoor

