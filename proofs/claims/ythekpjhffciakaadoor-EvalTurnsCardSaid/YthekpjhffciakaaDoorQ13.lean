import Derived.Test.YthekpjhffciakaaDoorQ9
import Derived.Test.YthekpjhffciakaaDoorQ10
import Derived.Test.YthekpjhffciakaaDoorQ12
import Derived.Test.YthekpjhffciakaaDoorQ7
namespace Go.Proofs.YthekpjhffciakaaDoor
open Go PG Go.Proofs
set_option linter.unusedSimpArgs false
set_option linter.unusedVariables false
set_option maxHeartbeats 4000000
set_option maxRecDepth 100000
/-! eval.All's check of rules -/
structure RlF (r : Rl) : Prop where
  len : r.tree.length ≤ 9223372036854775807
  sz : ∀ n ∈ r.tree, n.name.length ≤ 9223372036854775807 ∧ n.kids.length ≤ 9223372036854775807
  nm : r.name.length ≤ 9223372036854775807
def rulesF (env : EnvM) : List Rl → Int
  | [] => 0
  | r :: rs => if isName r.name = false then 12 else if (env r.name).isSome then 7 else if checkM r.tree ≠ 0 then checkM r.tree else rulesF env rs
theorem rulesF_cons (env : EnvM) (r : Rl) (rs : List Rl) : rulesF env (r :: rs) = if isName r.name = false then 12 else if (env r.name).isSome then 7 else if checkM r.tree ≠ 0 then checkM r.tree else rulesF env rs := rfl
def rulesE (env : EnvM) (rs : List Rl) : Int := if 64 < rs.length then 5 else rulesF env rs
theorem e65 : Ent Tryd.prog 65 := ⟨Tryd.f65, Tryd.func65, by kernel_rfl, by kernel_rfl⟩
theorem v65 (env : EnvM) (es : List (PV × PV)) (hes : ∀ s, mget es (.str s) = (env s).map (PV.int .i64)) (rs : List Rl) (hr : ∀ r ∈ rs, RlF r) : VCalls Tryd.prog GK 65 [.cmap .str es, rlsP rs] (.int .i64 (rulesE env rs)) := by
  refine VCalls.of_PW Tryd.func65 k65 mix (by simp [c65]) ?_
  simp only [c65, L65, CC, argE, rlsP]
  have hll : ((rs.map rlP).length : Nat) = rs.length := by simp
  have hrp : ∀ r : Rl, rlP r = .agg [.str r.name, .list (some 4) (r.tree.map ndP)] := fun _ => rfl
  by_cases h64 : 64 < rs.length
  · have d1 : decide ((64 : Int) < rs.length) = true := by simp only [decide_eq_true_eq]; omega
    have hX : rulesE env rs = 5 := if_pos h64
    rw [hX]
    repeat' (first | exact True.intro | (refine PW.seqK ?_; intro K hK) | refine stp ?_ | refine seqK_n ‹_› ?_ | refine seqK_r ‹_› ?_ | refine seqK_e ‹_› ?_ | exact schedW_stop_i | refine schK_n ‹_› ?_ | (refine PW.cond rfl ?_ ?_ <;> intro hcond <;> (try contradiction) <;> try simp only [DD] at hcond) | (refine gd_i ?_; intro hg; try simp only [hg]) | (refine ari ?_; first | omega | (simp only [DD, LL] <;> omega) | (go_unwrap; omega)) | ((first | refine stq ?_ | show (_ : Post) _ _ _ | (refine schedW_alt_k ?_ ?_; intro K hK)); focus (simp only [hll, d1, SA, Nat.reduceAdd, reduceIte, Nat.reduceEqDiff, Nat.reduceBEq, reduceCtorEq]; (try go_unwrap; try simp only [hll, d1, RR, reduceCtorEq]))) | refine And.intro ?_ ?_ | exact Or.inr ⟨rfl, Nat.le_refl _⟩ | exact (fun h => Bool.noConfusion h))
  have d1 : decide ((64 : Int) < rs.length) = false := by simp only [decide_eq_false_iff_not]; omega
  have hX : rulesE env rs = rulesF env rs := if_neg h64
  repeat' (first | exact True.intro | (refine PW.seqK ?_; intro K hK) | refine stp ?_ | refine seqK_n ‹_› ?_ | refine seqK_r ‹_› ?_ | refine seqK_e ‹_› ?_ | exact schedW_stop_i | refine schK_n ‹_› ?_ | (refine PW.cond rfl ?_ ?_ <;> intro hcond <;> (try contradiction) <;> try simp only [DD] at hcond) | (refine gd_i ?_; intro hg; try simp only [hg]) | (refine ari ?_; first | omega | (simp only [DD, LL] <;> omega) | (go_unwrap; omega)) | ((first | refine stq ?_ | show (_ : Post) _ _ _ | (refine schedW_alt_k ?_ ?_; intro K hK)); focus (simp only [hll, d1, SA, Nat.reduceAdd, reduceIte, Nat.reduceEqDiff, Nat.reduceBEq, reduceCtorEq]; (try go_unwrap; try simp only [hll, d1, RR, reduceCtorEq]))) | refine And.intro ?_ ?_ | exact Or.inr ⟨rfl, Nat.le_refl _⟩ | exact (fun h => Bool.noConfusion h))
  refine PW.loopG (σ := Nat) 0 (fun _ _ => rfl) [0, 1, 4, 13, 14, 15] (fun i => [.cmap .str es, .list (some 2) (rs.map rlP), .int .i64 0, .list (some 2) (rs.map rlP), .int .i64 rs.length, .int .i64 i])
    (fun i => []) (fun i => i ≤ rs.length ∧ rulesF env rs = rulesF env (rs.drop i)) (fun i => rs.length - i) 0 ?_ rfl ⟨by omega, rfl⟩ ?_
  · simp only [SA, Nat.reduceAdd, reduceIte, Nat.reduceEqDiff, Nat.reduceBEq, reduceCtorEq]; rfl
  rintro i ⟨hi, hw⟩
  simp only [List.zip_cons_cons, List.zip_nil_left]
  rcases Nat.lt_or_ge i rs.length with h | h
  case inr =>
    have hd : decide ((i : Int) < rs.length) = false := by simp only [decide_eq_false_iff_not]; omega
    rw [List.drop_of_length_le h] at hw
    have hw : rulesF env rs = 0 := hw
    repeat' (first | exact True.intro | (refine PW.seqK ?_; intro K hK) | refine stp ?_ | refine seqK_n ‹_› ?_ | refine seqK_r ‹_› ?_ | refine seqK_e ‹_› ?_ | exact schedW_stop_i | refine schK_n ‹_› ?_ | (refine PW.cond rfl ?_ ?_ <;> intro hcond <;> (try contradiction) <;> try simp only [DD] at hcond) | (refine gd_i ?_; intro hg; try simp only [hg]) | (refine ari ?_; first | omega | (simp only [DD, LL] <;> omega) | (go_unwrap; omega)) | ((first | refine stq ?_ | show (_ : Post) _ _ _ | (refine schedW_alt_k ?_ ?_; intro K hK)); focus (simp only [hll, hd, SA, Nat.reduceAdd, reduceIte, Nat.reduceEqDiff, Nat.reduceBEq, reduceCtorEq]; (try go_unwrap; try simp only [hll, hd, RR, reduceCtorEq]))) | refine And.intro ?_ ?_ | exact Or.inr ⟨rfl, Nat.le_refl _⟩ | exact (fun h => Bool.noConfusion h))
    all_goals (rw [hX, hw])
  have hd : decide ((i : Int) < rs.length) = true := by simp only [decide_eq_true_eq]; omega
  obtain ⟨r, hdr, hn, hg⟩ := drop_at h
  have hgn := ((hg rlP).1).trans (hrp r)
  have hok := hr r (List.mem_of_getElem? hn)
  rw [hdr] at hw
  have h53 := v53 (G := GK) r.name hok.nm
  have h29 := v29 hasKK r.tree (by have := hok.len; omega) hok.sz
  simp only [treeP] at h29
  have hmg := hes r.name
  rw [rulesF_cons] at hw
  cases hnm : isName r.name with
  | false =>
    rw [if_pos hnm] at hw
    rw [hnm] at h53
    repeat' (first | exact True.intro | (exact Or.inr ⟨rfl, by decide⟩) | (refine PW.seqK ?_; intro K hK) | refine stp ?_ | refine seqK_n ‹_› ?_ | refine seqK_r ‹_› ?_ | refine seqK_e ‹_› ?_ | exact schedW_stop_i | refine schK_n ‹_› ?_ | (refine PW.cond rfl ?_ ?_ <;> intro hcond <;> (try contradiction) <;> try simp only [DD] at hcond) | (refine gd_i ?_; intro hg; try simp only [hg]) | refine goCall_W e53 (h53) ?_ ?_ ?_ ?_ | (refine ari ?_; first | omega | (simp only [DD, LL] <;> omega) | (go_unwrap; omega)) | ((first | refine stq ?_ | show (_ : Post) _ _ _ | (refine schedW_alt_k ?_ ?_; intro K hK)); focus (simp only [hll, hd, hgn, SA, Nat.reduceAdd, reduceIte, Nat.reduceEqDiff, Nat.reduceBEq, reduceCtorEq]; (try go_unwrap; try simp only [hll, hd, hgn, RR, reduceCtorEq]))) | refine And.intro ?_ ?_ | exact Or.inr ⟨rfl, Nat.le_refl _⟩ | exact (fun h => Bool.noConfusion h))
    all_goals (rw [hX, hw])
  | true =>
  rw [if_neg (by simp [hnm])] at hw
  rw [hnm] at h53
  cases hes' : env r.name with
  | some v =>
    rw [hes'] at hmg hw
    rw [if_pos (show (some v).isSome = true from rfl)] at hw
    repeat' (first | exact True.intro | (exact Or.inr ⟨rfl, by decide⟩) | (refine PW.seqK ?_; intro K hK) | refine stp ?_ | refine seqK_n ‹_› ?_ | refine seqK_r ‹_› ?_ | refine seqK_e ‹_› ?_ | exact schedW_stop_i | refine schK_n ‹_› ?_ | (refine PW.cond rfl ?_ ?_ <;> intro hcond <;> (try contradiction) <;> try simp only [DD] at hcond) | (refine gd_i ?_; intro hg; try simp only [hg]) | refine goCall_W e53 (h53) ?_ ?_ ?_ ?_ | (refine ari ?_; first | omega | (simp only [DD, LL] <;> omega) | (go_unwrap; omega)) | ((first | refine stq ?_ | show (_ : Post) _ _ _ | (refine schedW_alt_k ?_ ?_; intro K hK)); focus (simp only [hll, hd, hgn, hmg, Option.map_some, Option.isSome_some, Option.getD_some, SA, Nat.reduceAdd, reduceIte, Nat.reduceEqDiff, Nat.reduceBEq, reduceCtorEq]; (try go_unwrap; try simp only [hll, hd, hgn, hmg, Option.map_some, Option.isSome_some, Option.getD_some, RR, reduceCtorEq]))) | refine And.intro ?_ ?_ | exact Or.inr ⟨rfl, Nat.le_refl _⟩ | exact (fun h => Bool.noConfusion h))
    all_goals (rw [hX, hw])
  | none =>
  rw [hes'] at hmg hw
  rw [if_neg (by simp)] at hw
  by_cases hc : checkM r.tree = 0
  · rw [if_neg (by simp [hc])] at hw
    have q : decide (checkM r.tree = 0) = true := decide_eq_true hc
    generalize checkM r.tree = ec at *
    repeat' (first | exact True.intro | (exact Or.inr ⟨rfl, by decide⟩) | (refine PW.seqK ?_; intro K hK) | refine stp ?_ | refine seqK_n ‹_› ?_ | refine seqK_r ‹_› ?_ | refine seqK_e ‹_› ?_ | exact schedW_stop_i | refine schK_n ‹_› ?_ | (refine PW.cond rfl ?_ ?_ <;> intro hcond <;> (try contradiction) <;> try simp only [DD] at hcond) | (refine gd_i ?_; intro hg; try simp only [hg]) | refine goCall_W e53 (h53) ?_ ?_ ?_ ?_ | refine goCall_W e29 (h29) ?_ ?_ ?_ ?_ | (refine ari ?_; first | omega | (simp only [DD, LL] <;> omega) | (go_unwrap; omega)) | ((first | refine stq ?_ | show (_ : Post) _ _ _ | (refine schedW_alt_k ?_ ?_; intro K hK)); focus (simp only [hll, hd, hgn, hmg, q, Option.map_none, Option.isSome_none, Option.getD_none, cutR, SA, Nat.reduceAdd, reduceIte, Nat.reduceEqDiff, Nat.reduceBEq, reduceCtorEq]; (try go_unwrap; try simp only [hll, hd, hgn, hmg, q, Option.map_none, Option.isSome_none, Option.getD_none, cutR, RR, reduceCtorEq]))) | refine And.intro ?_ ?_ | exact Or.inr ⟨rfl, Nat.le_refl _⟩ | exact (fun h => Bool.noConfusion h))
    all_goals exact ⟨i + 1, (by first | rfl | (simp only [TT, MObj.kill, PV.kill, Nat.reduceLeDiff, reduceIte, Nat.le_refl, Nat.zero_le, Nat.not_le, Nat.lt_irrefl]; done) | (simp [trimE, trimM, MObj.kill, PV.kill]; done)), (by first | rfl | (simp only [TT, MObj.kill, PV.kill, Nat.reduceLeDiff, reduceIte, Nat.le_refl, Nat.zero_le, Nat.not_le, Nat.lt_irrefl]; done) | (simp [trimE, trimM, MObj.kill, PV.kill]; done)), ⟨by omega, hw⟩, by omega⟩
  · rw [if_pos hc] at hw
    have q : decide (checkM r.tree = 0) = false := decide_eq_false hc
    generalize checkM r.tree = ec at *
    repeat' (first | exact True.intro | (exact Or.inr ⟨rfl, by decide⟩) | (refine PW.seqK ?_; intro K hK) | refine stp ?_ | refine seqK_n ‹_› ?_ | refine seqK_r ‹_› ?_ | refine seqK_e ‹_› ?_ | exact schedW_stop_i | refine schK_n ‹_› ?_ | (refine PW.cond rfl ?_ ?_ <;> intro hcond <;> (try contradiction) <;> try simp only [DD] at hcond) | (refine gd_i ?_; intro hg; try simp only [hg]) | refine goCall_W e53 (h53) ?_ ?_ ?_ ?_ | refine goCall_W e29 (h29) ?_ ?_ ?_ ?_ | (refine ari ?_; first | omega | (simp only [DD, LL] <;> omega) | (go_unwrap; omega)) | ((first | refine stq ?_ | show (_ : Post) _ _ _ | (refine schedW_alt_k ?_ ?_; intro K hK)); focus (simp only [hll, hd, hgn, hmg, q, Option.map_none, Option.isSome_none, Option.getD_none, cutR, SA, Nat.reduceAdd, reduceIte, Nat.reduceEqDiff, Nat.reduceBEq, reduceCtorEq]; (try go_unwrap; try simp only [hll, hd, hgn, hmg, q, Option.map_none, Option.isSome_none, Option.getD_none, cutR, RR, reduceCtorEq]))) | refine And.intro ?_ ?_ | exact Or.inr ⟨rfl, Nat.le_refl _⟩ | exact (fun h => Bool.noConfusion h))
    all_goals (rw [hX, hw])
end Go.Proofs.YthekpjhffciakaaDoor

namespace Go.Proofs.YthekpjhffciakaaDoor
open Go PG Go.Proofs
set_option linter.unusedSimpArgs false
set_option linter.unusedVariables false
set_option maxHeartbeats 4000000
set_option maxRecDepth 100000
/-! Rules sorted by what they need; a rule found by its name -/
theorem e66 : Ent Tryd.prog 66 := ⟨Tryd.f66, Tryd.func66, by kernel_rfl, by kernel_rfl⟩
theorem e67 : Ent Tryd.prog 67 := ⟨Tryd.f67, Tryd.func67, by kernel_rfl, by kernel_rfl⟩
theorem e68 : Ent Tryd.prog 68 := ⟨Tryd.f68, Tryd.func68, by kernel_rfl, by kernel_rfl⟩
theorem v68 (r : Rl) (s : St) : VCalls Tryd.prog GK 68 [rlP r, .cptr none (.str s) 0] (.bool (decide (r.name = s))) := by
  refine VCalls.of_PW Tryd.func68 k68 mix (by simp [c68]) ?_
  simp only [c68, L68, CC, argE, rlP]
  have hsb : ∀ a b : PV, sub none [a, b] 0 = a := fun _ _ => rfl
  repeat' (first | exact True.intro | (exact Or.inr ⟨rfl, by decide⟩) | (refine PW.seqK ?_; intro K hK) | refine stp ?_ | refine seqK_n ‹_› ?_ | refine seqK_r ‹_› ?_ | refine seqK_e ‹_› ?_ | exact schedW_stop_i | refine schK_n ‹_› ?_ | (refine PW.cond rfl ?_ ?_ <;> intro hcond <;> (try contradiction) <;> try simp only [DD] at hcond) | (refine gd_i ?_; intro hg; try simp only [hg]) | (refine ari ?_; first | omega | (simp only [DD, LL] <;> omega) | (go_unwrap; omega)) | ((first | refine stq ?_ | show (_ : Post) _ _ _ | (refine schedW_alt_k ?_ ?_; intro K hK)); focus (simp only [cut, hsb, SA, Nat.reduceAdd, reduceIte, Nat.reduceEqDiff, Nat.reduceBEq, reduceCtorEq]; (try go_unwrap; try simp only [cut, hsb, RR, reduceCtorEq]))) | refine And.intro ?_ ?_ | exact Or.inr ⟨rfl, Nat.le_refl _⟩ | exact (fun h => Bool.noConfusion h))
def idxR (s : St) (rs : List Rl) : Int := match rs.findIdx? (fun r => decide (r.name = s)) with
  | some i => i
  | none => -1
theorem idxR_at {s : St} {rs : List Rl} {i : Nat} (h : i < rs.length) (hp : decide (rs[i].name = s) = true) (hn : ∀ j (h : j < rs.length), j < i → decide (rs[j].name = s) = false) : idxR s rs = i := by
  have : rs.findIdx? (fun r => decide (r.name = s)) = some i := List.findIdx?_eq_some_iff_getElem.2 ⟨h, hp, fun j hj => by rw [hn j (by omega) hj]; simp⟩
  unfold idxR; rw [this]
theorem idxR_none {s : St} {rs : List Rl} (hn : ∀ j (h : j < rs.length), decide (rs[j].name = s) = false) : idxR s rs = -1 := by
  have : rs.findIdx? (fun r => decide (r.name = s)) = none := List.findIdx?_eq_none_iff.2 fun x hx => by
    obtain ⟨j, hj, rfl⟩ := List.getElem_of_mem hx; exact hn j hj
  unfold idxR; rw [this]
theorem v67 (rs : List Rl) (s : St) (hl : rs.length ≤ 9223372036854775807) : VCalls Tryd.prog GK 67 [rlsP rs, .fn 68 [] [.cptr none (.str s) 0]] (.int .i64 (idxR s rs)) := by
  refine VCalls.of_PW Tryd.func67 k67 mix (by simp [c67]) ?_
  simp only [c67, L67, CC, argE, rlsP]
  have hlen : ((rs.map rlP).length : Nat) = rs.length := by simp
  repeat' (first | exact True.intro | (refine PW.seqK ?_; intro K hK) | refine stp ?_ | refine seqK_n ‹_› ?_ | refine seqK_r ‹_› ?_ | refine seqK_e ‹_› ?_ | exact schedW_stop_i | refine schK_n ‹_› ?_ | (refine PW.cond rfl ?_ ?_ <;> intro hcond <;> (try contradiction) <;> try simp only [DD] at hcond) | (refine gd_i ?_; intro hg; try simp only [hg]) | (refine ari ?_; first | omega | (simp only [DD, LL] <;> omega) | (go_unwrap; omega)) | ((first | refine stq ?_ | show (_ : Post) _ _ _ | (refine schedW_alt_k ?_ ?_; intro K hK)); focus (simp only [hlen, SA, Nat.reduceAdd, reduceIte, Nat.reduceEqDiff, Nat.reduceBEq, reduceCtorEq]; (try go_unwrap; try simp only [hlen, RR, reduceCtorEq]))) | refine And.intro ?_ ?_ | exact Or.inr ⟨rfl, Nat.le_refl _⟩ | exact (fun h => Bool.noConfusion h))
  refine PW.loop (σ := Nat) [0, 1, 7, 8] (fun i => [rlsP rs, .fn 68 [] [.cptr none (.str s) 0], .int .i64 rs.length, .int .i64 i]) (fun _ => []) (fun i => i ≤ rs.length ∧ ∀ j (h : j < rs.length), j < i → decide (rs[j].name = s) = false) (fun i => rs.length - i) 0 ?_ rfl ⟨by omega, fun j _ h => by omega⟩ ?_
  · simp only [SA, Nat.reduceAdd, reduceIte, Nat.reduceEqDiff, Nat.reduceBEq, reduceCtorEq]; rfl
  rintro i ⟨hi, hall⟩
  simp only [List.zip_cons_cons, List.zip_nil_left]
  rcases Nat.lt_or_ge i rs.length with h | h
  · have hd : decide ((i : Int) < rs.length) = true := by simp only [decide_eq_true_eq]; omega
    have hgt : (rs.map rlP).getD i .junk = rlP rs[i] := by simp [List.getD, h]
    have hgx := v68 rs[i] s
    have hat : decide (rs[i].name = s) = true → idxR s rs = i := fun hp => idxR_at h hp hall
    have hnx : decide (rs[i].name = s) = false → ∀ j (h : j < rs.length), j < i + 1 → decide (rs[j].name = s) = false := fun hp j hj hji => by
      rcases Nat.lt_or_ge j i with h' | h'
      · exact hall j hj h'
      · obtain rfl : j = i := by omega
        exact hp
    simp only [rlP] at hgt hgx
    generalize rs[i] = x at hgt hgx hat hnx
    generalize decide (x.name = s) = b at hgx hat hnx
    cases b
    · repeat' (first | exact True.intro | (refine PW.seqK ?_; intro K hK) | refine stp ?_ | refine seqK_n ‹_› ?_ | refine seqK_r ‹_› ?_ | refine seqK_e ‹_› ?_ | exact schedW_stop_i | refine schK_n ‹_› ?_ | (refine PW.cond rfl ?_ ?_ <;> intro hcond <;> (try contradiction) <;> try simp only [DD] at hcond) | (refine gd_i ?_; intro hg; try simp only [hg]) | refine goCall_W e68 (hgx) ?_ ?_ ?_ ?_ | (refine ari ?_; first | omega | (simp only [DD, LL] <;> omega) | (go_unwrap; omega)) | ((first | refine stq ?_ | show (_ : Post) _ _ _ | (refine schedW_alt_k ?_ ?_; intro K hK)); focus (simp only [hd, hgt, hlen, List.nil_append, List.cons_append, List.all_cons, SA, Nat.reduceAdd, reduceIte, Nat.reduceEqDiff, Nat.reduceBEq, reduceCtorEq]; (try go_unwrap; try simp only [hd, hgt, hlen, List.nil_append, List.cons_append, List.all_cons, RR, reduceCtorEq]))) | refine And.intro ?_ ?_ | exact Or.inr ⟨rfl, Nat.le_refl _⟩ | exact (fun h => Bool.noConfusion h))
      all_goals exact ⟨i + 1, rfl, ⟨by omega, hnx (by first | rfl | trivial)⟩, by omega⟩
    · have := hat rfl
      repeat' (first | exact True.intro | (refine PW.seqK ?_; intro K hK) | refine stp ?_ | refine seqK_n ‹_› ?_ | refine seqK_r ‹_› ?_ | refine seqK_e ‹_› ?_ | exact schedW_stop_i | refine schK_n ‹_› ?_ | (refine PW.cond rfl ?_ ?_ <;> intro hcond <;> (try contradiction) <;> try simp only [DD] at hcond) | (refine gd_i ?_; intro hg; try simp only [hg]) | refine goCall_W e68 (hgx) ?_ ?_ ?_ ?_ | (refine ari ?_; first | omega | (simp only [DD, LL] <;> omega) | (go_unwrap; omega)) | ((first | refine stq ?_ | show (_ : Post) _ _ _ | (refine schedW_alt_k ?_ ?_; intro K hK)); focus (simp only [hd, hgt, hlen, List.nil_append, List.cons_append, List.all_cons, SA, Nat.reduceAdd, reduceIte, Nat.reduceEqDiff, Nat.reduceBEq, reduceCtorEq]; (try go_unwrap; try simp only [hd, hgt, hlen, List.nil_append, List.cons_append, List.all_cons, RR, reduceCtorEq]))) | refine And.intro ?_ ?_ | exact Or.inr ⟨rfl, Nat.le_refl _⟩ | exact (fun h => Bool.noConfusion h))
      all_goals (rw [this])
  · have hd : decide ((i : Int) < rs.length) = false := by simp only [decide_eq_false_iff_not]; omega
    have := idxR_none (s := s) (rs := rs) (fun j hj => hall j hj (by omega))
    repeat' (first | exact True.intro | (refine PW.seqK ?_; intro K hK) | refine stp ?_ | refine seqK_n ‹_› ?_ | refine seqK_r ‹_› ?_ | refine seqK_e ‹_› ?_ | exact schedW_stop_i | refine schK_n ‹_› ?_ | (refine PW.cond rfl ?_ ?_ <;> intro hcond <;> (try contradiction) <;> try simp only [DD] at hcond) | (refine gd_i ?_; intro hg; try simp only [hg]) | (refine ari ?_; first | omega | (simp only [DD, LL] <;> omega) | (go_unwrap; omega)) | ((first | refine stq ?_ | show (_ : Post) _ _ _ | (refine schedW_alt_k ?_ ?_; intro K hK)); focus (simp only [hd, hlen, SA, Nat.reduceAdd, reduceIte, Nat.reduceEqDiff, Nat.reduceBEq, reduceCtorEq]; (try go_unwrap; try simp only [hd, hlen, RR, reduceCtorEq]))) | refine And.intro ?_ ?_ | exact Or.inr ⟨rfl, Nat.le_refl _⟩ | exact (fun h => Bool.noConfusion h))
    all_goals (rw [this])
def edR (r : Rl) : Ed := ⟨r.name, varsM r.tree⟩
theorem varsM_len {l : List Nd} (hc : checkM l = 0) : (varsM l).length ≤ 256 := by
  have h1 := compactT_len (sortT (namesV l))
  have h2 := namesV_len l
  have h3 : (sortT (namesV l)).length = (namesV l).length := List.length_mergeSort _
  have := (checkM_ok hc).1
  unfold varsM; omega
theorem v66 (rs : List Rl) (hl : rs.length ≤ 64) (hr : ∀ r ∈ rs, RlF r ∧ checkM r.tree = 0) : VCalls Tryd.prog GK 66 [rlsP rs] (.tup [txL (OsortM (rs.map edR)).1, .int .i64 (OsortM (rs.map edR)).2]) := by
  refine VCalls.of_PW Tryd.func66 k66 mix (by simp [c66]) ?_
  simp only [c66, L66, CC, argE, rlsP]
  have hlen : ((rs.map rlP).length : Nat) = rs.length := by simp
  have hrp : ∀ r : Rl, rlP r = .agg [.str r.name, .list (some 4) (r.tree.map ndP)] := fun _ => rfl
  repeat' (first | exact True.intro | (refine PW.seqK ?_; intro K hK) | refine stp ?_ | refine seqK_n ‹_› ?_ | refine seqK_r ‹_› ?_ | refine seqK_e ‹_› ?_ | exact schedW_stop_i | refine schK_n ‹_› ?_ | (refine PW.cond rfl ?_ ?_ <;> intro hcond <;> (try contradiction) <;> try simp only [DD] at hcond) | (refine gd_i ?_; intro hg; try simp only [hg]) | (refine ari ?_; first | omega | (simp only [DD, LL] <;> omega) | (go_unwrap; omega)) | ((first | refine stq ?_ | show (_ : Post) _ _ _ | (refine schedW_alt_k ?_ ?_; intro K hK)); focus (simp only [hlen, SA, Nat.reduceAdd, reduceIte, Nat.reduceEqDiff, Nat.reduceBEq, reduceCtorEq]; (try go_unwrap; try simp only [hlen, RR, reduceCtorEq]))) | refine And.intro ?_ ?_ | exact Or.inr ⟨rfl, Nat.le_refl _⟩ | exact (fun h => Bool.noConfusion h))
  refine PW.own (some 2) 4 rfl ?_
  refine PW.loopG (σ := Nat) 1 (fun _ _ => rfl) [0, 4, 7, 8, 9] (fun i => [rlsP rs, .sl (some 2) 0 i, rlsP rs, .int .i64 rs.length, .int .i64 i])
    (fun i => [some (.row (some 2) (((rs.take i).map edR).map edP))]) (fun i => i ≤ rs.length) (fun i => rs.length - i) 0 ?_ (by first | rfl | simp) (by omega) ?_
  · simp only [SA, Nat.reduceAdd, reduceIte, Nat.reduceEqDiff, Nat.reduceBEq, reduceCtorEq]; rfl
  intro i hi
  simp only [List.zip_cons_cons, List.zip_nil_left]
  have hRl : ((((rs.take i).map edR).map edP).length : Nat) = i := by simp; omega
  have hRt : (((rs.take i).map edR).map edP).take i = ((rs.take i).map edR).map edP := List.take_of_length_le (by rw [hRl]; exact Nat.le_refl _)
  rcases Nat.lt_or_ge i rs.length with h | h
  · have hd : decide ((i : Int) < rs.length) = true := by simp only [decide_eq_true_eq]; omega
    obtain ⟨r, -, hn, hg⟩ := drop_at h
    have hgn := ((hg rlP).1).trans (hrp r)
    have hni : rs[i] = r := by rw [List.getElem?_eq_getElem h] at hn; exact Option.some.inj hn
    obtain ⟨hok, hc⟩ := hr r (List.mem_of_getElem? hn)
    have h34 := v34 r.tree hok.sz (checkM_ok hc).1 hc
    have hst : ((rs.take (i + 1)).map edR).map edP = ((rs.take i).map edR).map edP ++ [.agg [.str r.name, .list none ((varsM r.tree).map PV.str)]] := by
      rw [List.take_succ_eq_append_getElem h, hni, List.map_append, List.map_append]; rfl
    have b1 : (i + 1) * 40 ≤ 281474976710656 := by omega
    have hsc : ∀ (t : List UInt8) (ks : List PV), ∀ x ∈ [PV.str t, PV.list none ks], x.scalar = true := by
      intro t ks x hc; simp at hc; rcases hc with rfl | rfl <;> rfl
    generalize ((rs.take i).map edR).map edP = R at hRl hRt hst
    simp only [treeP] at h34
    generalize (varsM r.tree).map PV.str = V at *
    repeat' (first | exact True.intro | exact hsc _ _ | exact (rfl : (some 2 : Sh) = some 2) | (exact Or.inr ⟨rfl, by decide⟩) | (refine PW.seqK ?_; intro K hK) | refine stp ?_ | refine seqK_n ‹_› ?_ | refine seqK_r ‹_› ?_ | refine seqK_e ‹_› ?_ | exact schedW_stop_i | refine schK_n ‹_› ?_ | (refine PW.cond rfl ?_ ?_ <;> intro hcond <;> (try contradiction) <;> try simp only [DD] at hcond) | (refine gd_i ?_; intro hg; try simp only [hg]) | refine goCall_W e34 (h34) ?_ ?_ ?_ ?_ | (refine ari ?_; first | omega | (simp only [DD, LL] <;> omega) | (go_unwrap; omega)) | ((first | refine stq ?_ | show (_ : Post) _ _ _ | (refine schedW_alt_k ?_ ?_; intro K hK)); focus (simp only [hlen, hd, hgn, hRl, hRt, cutR, List.length_cons, List.length_nil, Nat.zero_add, SA, Nat.reduceAdd, reduceIte, Nat.reduceEqDiff, Nat.reduceBEq, reduceCtorEq]; (try go_unwrap; try simp only [hlen, hd, hgn, hRl, hRt, cutR, List.length_cons, List.length_nil, Nat.zero_add, RR, reduceCtorEq]))) | refine And.intro ?_ ?_ | exact Or.inr ⟨rfl, Nat.le_refl _⟩ | exact (fun h => Bool.noConfusion h))
    all_goals exact ⟨i + 1, (by first | rfl | (simp only [TT, MObj.kill, PV.kill, Nat.reduceLeDiff, reduceIte, Nat.le_refl, Nat.zero_le, Nat.not_le, Nat.lt_irrefl]; done) | (simp [trimE, trimM, MObj.kill, PV.kill]; done)), (by rw [hst]; exact (by first | rfl | (simp only [TT, MObj.kill, PV.kill, Nat.reduceLeDiff, reduceIte, Nat.le_refl, Nat.zero_le, Nat.not_le, Nat.lt_irrefl]; done) | (simp [trimE, trimM, MObj.kill, PV.kill]; done))), by omega, by omega⟩
  · have hd : decide ((i : Int) < rs.length) = false := by simp only [decide_eq_false_iff_not]; omega
    have hi' : i = rs.length := by omega
    subst hi'
    rw [List.take_length] at hRl hRt ⊢
    have h94 := v94 (rs.map edR) (by simp; omega) (fun e he => by
      obtain ⟨r, hr', rfl⟩ := List.mem_map.1 he
      have := varsM_len (hr r hr').2
      show (varsM r.tree).length ≤ _
      omega)
    generalize OsortM (rs.map edR) = S at *
    simp only [edL] at h94
    repeat' (first | exact True.intro | (refine PW.stop (x := .seq (.region false (⟨some 23, none, .rd .mov [.tmp 4]⟩ :: _) _) _) ?_) | (refine PW.seqK ?_; intro K hK) | refine stp ?_ | refine seqK_n ‹_› ?_ | refine seqK_r ‹_› ?_ | refine seqK_e ‹_› ?_ | exact schedW_stop_i | refine schK_n ‹_› ?_ | (refine PW.cond rfl ?_ ?_ <;> intro hcond <;> (try contradiction) <;> try simp only [DD] at hcond) | (refine gd_i ?_; intro hg; try simp only [hg]) | (refine ari ?_; first | omega | (simp only [DD, LL] <;> omega) | (go_unwrap; omega)) | ((first | refine stq ?_ | show (_ : Post) _ _ _ | (refine schedW_alt_k ?_ ?_; intro K hK)); focus (simp only [hlen, hd, SA, Nat.reduceAdd, reduceIte, Nat.reduceEqDiff, Nat.reduceBEq, reduceCtorEq]; (try go_unwrap; try simp only [hlen, hd, RR, reduceCtorEq]))) | refine And.intro ?_ ?_ | exact Or.inr ⟨rfl, Nat.le_refl _⟩ | exact (fun h => Bool.noConfusion h))
    refine ⟨?_⟩
    refine PW.frz 0 (.row (some 2) ((rs.map edR).map edP)) ?_ ?_ ?_
    · rfl
    · rfl
    simp only [SA, Nat.reduceAdd, reduceIte, Nat.reduceEqDiff, Nat.reduceBEq, reduceCtorEq, PV.frz, MObj.frz, frzM, frzSl, hRl, hRt, Nat.le_refl, and_self, if_true]
    repeat' (first | exact True.intro | (refine PW.seqK ?_; intro K hK) | refine stp ?_ | refine seqK_n ‹_› ?_ | refine seqK_r ‹_› ?_ | refine seqK_e ‹_› ?_ | exact schedW_stop_i | refine schK_n ‹_› ?_ | (refine PW.cond rfl ?_ ?_ <;> intro hcond <;> (try contradiction) <;> try simp only [DD] at hcond) | (refine gd_i ?_; intro hg; try simp only [hg]) | refine goCall_W e94 (h94) ?_ ?_ ?_ ?_ | (refine ari ?_; first | omega | (simp only [DD, LL] <;> omega) | (go_unwrap; omega)) | ((first | refine stq ?_ | show (_ : Post) _ _ _ | (refine schedW_alt_k ?_ ?_; intro K hK)); focus (simp only [SA, Nat.reduceAdd, reduceIte, Nat.reduceEqDiff, Nat.reduceBEq, reduceCtorEq]; (try go_unwrap; try simp only [RR, reduceCtorEq]))) | refine And.intro ?_ ?_ | exact Or.inr ⟨rfl, Nat.le_refl _⟩ | exact (fun h => Bool.noConfusion h))
end Go.Proofs.YthekpjhffciakaaDoor

namespace Go.Proofs.YthekpjhffciakaaDoor
open Go PG Go.Proofs
set_option linter.unusedSimpArgs false
set_option linter.unusedVariables false
set_option maxHeartbeats 4000000
set_option maxRecDepth 100000
/-! eval.All -/
theorem e33 : Ent Tryd.prog 33 := ⟨Tryd.f33, Tryd.func33, by kernel_rfl, by kernel_rfl⟩
theorem idxR_find {s : St} {rs : List Rl} {r : Rl} (h : rs.find? (fun r => decide (r.name = s)) = some r) : ∃ j, ∃ h : j < rs.length, idxR s rs = j ∧ rs[j] = r ∧ r.name = s := by
  obtain ⟨hp, as', bs, e, hall⟩ := List.find?_eq_some_iff_append.1 h
  subst e
  refine ⟨as'.length, by simp, ?_, by simp, by simpa using hp⟩
  refine idxR_at (by simp) (by simpa using hp) fun j hj hlt => ?_
  rw [List.getElem_append_left hlt]
  have := hall as'[j] (List.getElem_mem hlt)
  simpa using this
theorem idxR_not {s : St} {rs : List Rl} (h : rs.find? (fun r => decide (r.name = s)) = none) : idxR s rs = -1 :=
  idxR_none fun j hj => by have := List.find?_eq_none.1 h rs[j] (List.getElem_mem hj); simpa using this
def upd (f : EnvM) (s : St) (v : Int) : EnvM := fun x => if x = s then some v else f x
def goA (rs : List Rl) : List St → EnvM → Except Int EnvM
  | [], f => .ok f
  | s :: ss, f => match rs.find? (fun r => decide (r.name = s)) with
    | none => goA rs ss f
    | some r => if (evalM f r.tree).2 ≠ 0 then .error (evalM f r.tree).2 else goA rs ss (upd f s (evalM f r.tree).1)
def allM (env : EnvM) (rs : List Rl) : Except Int EnvM :=
  if rulesE env rs ≠ 0 then .error (rulesE env rs) else
  if (OsortM (rs.map edR)).2 ≠ 0 then .error (OsortM (rs.map edR)).2 else goA rs (OsortM (rs.map edR)).1 env
theorem rulesF_0 {env : EnvM} : ∀ {rs : List Rl}, rulesF env rs = 0 ↔ ∀ r ∈ rs, isName r.name = true ∧ env r.name = none ∧ checkM r.tree = 0
  | [] => by simp [rulesF]
  | r :: rs => by
    rw [rulesF_cons]
    have ih := rulesF_0 (env := env) (rs := rs)
    constructor
    · intro h
      split at h
      · cases h
      · split at h
        · cases h
        · split at h
          · contradiction
          · rename_i h1 h2 h3
            intro q hq
            rcases List.mem_cons.1 hq with rfl | hq
            · exact ⟨by simpa using h1, by simpa using h2, by simpa using h3⟩
            · exact ih.1 h q hq
    · intro h
      obtain ⟨h1, h2, h3⟩ := h r (by simp)
      rw [if_neg (by simp [h1]), if_neg (by simp [h2]), if_neg (by simp [h3])]
      exact ih.2 fun q hq => h q (by simp [hq])
theorem rulesE_0 {env : EnvM} {rs : List Rl} : rulesE env rs = 0 ↔ rs.length ≤ 64 ∧ ∀ r ∈ rs, isName r.name = true ∧ env r.name = none ∧ checkM r.tree = 0 := by
  unfold rulesE
  split
  · constructor
    · intro h; cases h
    · intro h; omega
  · rw [rulesF_0]
    exact ⟨fun h => ⟨by omega, h⟩, fun h => h.2⟩
/-- What All answers. -/
def AllX : Except Int EnvM → PV → Mem → Prop
  | .error e, p, ν => p = .tup [.nilMap, .int .i64 e] ∧ ν = []
  | .ok f, p, ν => p = .tup [.mref 0, .int .i64 0] ∧ ∃ es : List Pr, (es.map (·.1)).Nodup ∧ (∀ s, aget es s = f s) ∧ ν = [some (.mp .str (strM intV es))]
theorem f33 (env : EnvM) (es0 : List Pr) (hnd : (es0.map (·.1)).Nodup) (hes : ∀ s, aget es0 s = env s) (rs : List Rl) (hr : ∀ r ∈ rs, RlF r) : FCalls Tryd.prog GK 33 [.cmap .str (strM intV es0), rlsP rs] (AllX (allM env rs)) := by
  refine FCalls.of_PW Tryd.func33 k33 mix (by simp [c33]) ?_
  simp only [c33, L33, CC, argE, rlsP]
  have hes' : ∀ s, mget (strM intV es0) (.str s) = (env s).map (PV.int .i64) := fun s => by rw [mget_str, hes]
  have h65 := v65 env _ hes' rs hr
  obtain ⟨X, hX⟩ : ∃ X, allM env rs = X := ⟨_, rfl⟩
  rw [hX]
  unfold allM at hX
  by_cases hE : rulesE env rs = 0
  case neg =>
    have d1 : decide (rulesE env rs = 0) = false := decide_eq_false hE
    rw [if_pos hE] at hX
    subst hX
    generalize rulesE env rs = e at *
    repeat' (first | exact True.intro | (refine PW.seqK ?_; intro K hK) | refine stp ?_ | refine seqK_n ‹_› ?_ | refine seqK_r ‹_› ?_ | refine seqK_e ‹_› ?_ | exact schedW_stop_i | refine schK_n ‹_› ?_ | (refine PW.cond rfl ?_ ?_ <;> intro hcond <;> (try contradiction) <;> try simp only [DD] at hcond) | (refine gd_i ?_; intro hg; try simp only [hg]) | refine goCall_W e65 (h65) ?_ ?_ ?_ ?_ | (refine ari ?_; first | omega | (simp only [DD, LL] <;> omega) | (go_unwrap; omega)) | ((first | refine stq ?_ | show (_ : Post) _ _ _ | (refine schedW_alt_k ?_ ?_; intro K hK)); focus (simp only [d1, SA, Nat.reduceAdd, reduceIte, Nat.reduceEqDiff, Nat.reduceBEq, reduceCtorEq]; (try go_unwrap; try simp only [d1, RR, reduceCtorEq]))) | refine And.intro ?_ ?_ | exact Or.inr ⟨rfl, Nat.le_refl _⟩ | exact (fun h => Bool.noConfusion h))
    all_goals first | rfl | exact ⟨rfl, rfl⟩
  obtain ⟨hl64, hall⟩ := rulesE_0.1 hE
  rw [if_neg (by simp [hE])] at hX
  rw [hE] at h65
  have h66 := v66 rs hl64 (fun r h => ⟨hr r h, (hall r h).2.2⟩)
  obtain ⟨⟨ns, e⟩, hS⟩ : ∃ S, OsortM (rs.map edR) = S := ⟨_, rfl⟩
  have hns : (OsortM (rs.map edR)).2 = 0 → (OsortM (rs.map edR)).1.length ≤ 64 := fun h => by
    rw [(sort_spec h).2.2.length_eq, ns_len]; simpa using hl64
  rw [hS] at hX h66 hns
  simp only at hX h66 hns
  by_cases he : e = 0
  case neg =>
    have d1 : decide (e = 0) = false := decide_eq_false he
    rw [if_pos he] at hX
    subst hX
    repeat' (first | exact True.intro | (refine PW.seqK ?_; intro K hK) | refine stp ?_ | refine seqK_n ‹_› ?_ | refine seqK_r ‹_› ?_ | refine seqK_e ‹_› ?_ | exact schedW_stop_i | refine schK_n ‹_› ?_ | (refine PW.cond rfl ?_ ?_ <;> intro hcond <;> (try contradiction) <;> try simp only [DD] at hcond) | (refine gd_i ?_; intro hg; try simp only [hg]) | refine goCall_W e65 (h65) ?_ ?_ ?_ ?_ | refine goCall_W e66 (h66) ?_ ?_ ?_ ?_ | (refine ari ?_; first | omega | (simp only [DD, LL] <;> omega) | (go_unwrap; omega)) | ((first | refine stq ?_ | show (_ : Post) _ _ _ | (refine schedW_alt_k ?_ ?_; intro K hK)); focus (simp only [d1, SA, Nat.reduceAdd, reduceIte, Nat.reduceEqDiff, Nat.reduceBEq, reduceCtorEq]; (try go_unwrap; try simp only [d1, RR, reduceCtorEq]))) | refine And.intro ?_ ?_ | exact Or.inr ⟨rfl, Nat.le_refl _⟩ | exact (fun h => Bool.noConfusion h))
    all_goals first | rfl | exact ⟨rfl, rfl⟩
  subst he
  rw [if_neg (by simp)] at hX
  have hns := hns rfl
  repeat' (first | exact True.intro | (refine PW.seqK ?_; intro K hK) | refine stp ?_ | refine seqK_n ‹_› ?_ | refine seqK_r ‹_› ?_ | refine seqK_e ‹_› ?_ | exact schedW_stop_i | refine schK_n ‹_› ?_ | (refine PW.cond rfl ?_ ?_ <;> intro hcond <;> (try contradiction) <;> try simp only [DD] at hcond) | (refine gd_i ?_; intro hg; try simp only [hg]) | refine goCall_W e65 (h65) ?_ ?_ ?_ ?_ | refine goCall_W e66 (h66) ?_ ?_ ?_ ?_ | (refine ari ?_; first | omega | (simp only [DD, LL] <;> omega) | (go_unwrap; omega)) | ((first | refine stq ?_ | show (_ : Post) _ _ _ | (refine schedW_alt_k ?_ ?_; intro K hK)); focus (simp only [SA, Nat.reduceAdd, reduceIte, Nat.reduceEqDiff, Nat.reduceBEq, reduceCtorEq]; (try go_unwrap; try simp only [RR, reduceCtorEq]))) | refine And.intro ?_ ?_ | exact Or.inr ⟨rfl, Nat.le_refl _⟩ | exact (fun h => Bool.noConfusion h))
  refine PW.loopG (σ := List Nat × List Pr) 2 (fun _ _ => rfl) [1, 7, 9, 33] (fun _ => [rlsP rs, txL ns, .mref 0, .ref 1 0])
    (fun s => [some (.mp .str (strM intV s.2)), some (.iter .str (strM intV es0) s.1)])
    (fun s => (s.2.map (·.1)).Nodup ∧ (∀ s' v, aget s.2 s' = some v → aget es0 s' = some v) ∧ (∀ i ∈ s.1, ∀ k v, es0[i]? = some (k, v) → aget s.2 k = some v)) (fun s => leftN es0.length s.1) ([], []) ?_ rfl ⟨by simp, by simp [aget], by simp⟩ ?_
  · simp only [SA, Nat.reduceAdd, reduceIte, Nat.reduceEqDiff, Nat.reduceBEq, reduceCtorEq]; rfl
  rintro ⟨seen, ys⟩ ⟨hi0, hi1, hi2⟩
  simp only at hi0 hi1 hi2
  simp only [List.zip_cons_cons, List.zip_nil_left]
  repeat' (first | exact True.intro | (refine PW.seqK ?_; intro K hK) | refine stp ?_ | refine seqK_n ‹_› ?_ | refine seqK_r ‹_› ?_ | refine seqK_e ‹_› ?_ | exact schedW_stop_i | refine schK_n ‹_› ?_ | (refine PW.cond rfl ?_ ?_ <;> intro hcond <;> (try contradiction) <;> try simp only [DD] at hcond) | (refine gd_i ?_; intro hg; try simp only [hg]) | (refine ari ?_; first | omega | (simp only [DD, LL] <;> omega) | (go_unwrap; omega)) | ((first | refine stq ?_ | show (_ : Post) _ _ _ | (refine schedW_alt_k ?_ ?_; intro K hK)); focus (simp only [mapP_len, SA, Nat.reduceAdd, reduceIte, Nat.reduceEqDiff, Nat.reduceBEq, reduceCtorEq]; (try go_unwrap; try simp only [mapP_len, RR, reduceCtorEq]))) | refine And.intro ?_ ?_ | exact Or.inr ⟨rfl, Nat.le_refl _⟩ | exact (fun h => Bool.noConfusion h))
  · intro k hk hks
    refine ⟨by simp, ?_⟩
    obtain ⟨s', v', hx, hmem, he1, he2⟩ := en_mapP PV.str intV es0 hk
    have hms := mset_str intV ys s' v'
    have hag : aget es0 s' = some v' := aget_mem hnd hmem
    repeat' (first | exact True.intro | exact (rfl : KK.str = KK.str) | (refine PW.seqK ?_; intro K hK) | refine stp ?_ | refine seqK_n ‹_› ?_ | refine seqK_r ‹_› ?_ | refine seqK_e ‹_› ?_ | exact schedW_stop_i | refine schK_n ‹_› ?_ | (refine PW.cond rfl ?_ ?_ <;> intro hcond <;> (try contradiction) <;> try simp only [DD] at hcond) | (refine gd_i ?_; intro hg; try simp only [hg]) | (refine ari ?_; first | omega | (simp only [DD, LL] <;> omega) | (go_unwrap; omega)) | ((first | refine stq ?_ | show (_ : Post) _ _ _ | (refine schedW_alt_k ?_ ?_; intro K hK)); focus (simp only [he1, he2, hms, mapP_len, hk, SA, Nat.reduceAdd, reduceIte, Nat.reduceEqDiff, Nat.reduceBEq, reduceCtorEq]; (try go_unwrap; try simp only [he1, he2, hms, mapP_len, hk, RR, reduceCtorEq]))) | refine And.intro ?_ ?_ | exact Or.inr ⟨rfl, Nat.le_refl _⟩ | exact (fun h => Bool.noConfusion h))
    all_goals
      refine ⟨(seen ++ [k], aset ys s' v'), (by first | rfl | (simp only [TT, MObj.kill, PV.kill, Nat.reduceLeDiff, reduceIte, Nat.le_refl, Nat.zero_le, Nat.not_le, Nat.lt_irrefl]; done) | (simp [trimE, trimM, MObj.kill, PV.kill]; done)), (by first | (rw [hms]; exact (by first | rfl | (simp only [TT, MObj.kill, PV.kill, Nat.reduceLeDiff, reduceIte, Nat.le_refl, Nat.zero_le, Nat.not_le, Nat.lt_irrefl]; done) | (simp [trimE, trimM, MObj.kill, PV.kill]; done))) | exact (by first | rfl | (simp only [TT, MObj.kill, PV.kill, Nat.reduceLeDiff, reduceIte, Nat.le_refl, Nat.zero_le, Nat.not_le, Nat.lt_irrefl]; done) | (simp [trimE, trimM, MObj.kill, PV.kill]; done))), ⟨aset_nodup hi0 s' v', fun s v h => ?_, fun j hj q v h => ?_⟩, leftN_lt hk hks⟩
      · simp only [aget_aset] at h
        split at h
        · rename_i e; cases h; rw [e]; exact hag
        · exact hi1 s v h
      · simp only [aget_aset]
        rcases List.mem_append.1 hj with hj | hj
        · have := hi2 j hj q v h
          split
          · rename_i e; subst e; rw [hi1 _ _ this] at hag; exact hag.symm
          · exact this
        · simp at hj; subst hj
          rw [hx] at h; cases h; simp
  intro hseen
  refine ⟨by simp, ?_⟩
  have hys : ∀ s', aget ys s' = env s' := by
    intro s'
    rw [← hes]
    cases hx : aget es0 s' with
    | some v =>
      obtain ⟨j, hj, hje⟩ := List.getElem_of_mem (mem_of_aget hx)
      exact hi2 j (hseen j hj) s' v (by rw [List.getElem?_eq_getElem hj, hje])
    | none =>
      cases hy : aget ys s' with
      | none => rfl
      | some v => rw [hi1 _ _ hy] at hx; cases hx
  clear hi1 hi2 hseen
  have hnl : ((ns.map PV.str).length : Nat) = ns.length := by simp
  have hlen : ((rs.map rlP).length : Nat) = rs.length := by simp
  have hrp : ∀ r : Rl, rlP r = .agg [.str r.name, .list (some 4) (r.tree.map ndP)] := fun _ => rfl
  repeat' (first | exact True.intro | (refine PW.seqK ?_; intro K hK) | refine stp ?_ | refine seqK_n ‹_› ?_ | refine seqK_r ‹_› ?_ | refine seqK_e ‹_› ?_ | exact schedW_stop_i | refine schK_n ‹_› ?_ | (refine PW.cond rfl ?_ ?_ <;> intro hcond <;> (try contradiction) <;> try simp only [DD] at hcond) | (refine gd_i ?_; intro hg; try simp only [hg]) | (refine ari ?_; first | omega | (simp only [DD, LL] <;> omega) | (go_unwrap; omega)) | ((first | refine stq ?_ | show (_ : Post) _ _ _ | (refine schedW_alt_k ?_ ?_; intro K hK)); focus (simp only [hnl, SA, Nat.reduceAdd, reduceIte, Nat.reduceEqDiff, Nat.reduceBEq, reduceCtorEq]; (try go_unwrap; try simp only [hnl, RR, reduceCtorEq]))) | refine And.intro ?_ ?_ | exact Or.inr ⟨rfl, Nat.le_refl _⟩ | exact (fun h => Bool.noConfusion h))
  refine PW.trim 1 (fun _ _ => rfl) ?_
  simp only [TT, MObj.kill, PV.kill, Nat.reduceLeDiff, reduceIte]
  refine PW.loopG (σ := Nat × EnvM × List Pr) 1 (fun _ _ => rfl) [1, 9, 42, 43, 44] (fun s => [rlsP rs, .mref 0, txL ns, .int .i64 ns.length, .int .i64 s.1])
    (fun s => [some (.mp .str (strM intV s.2.2))])
    (fun s => s.1 ≤ ns.length ∧ (s.2.2.map (·.1)).Nodup ∧ (∀ x, aget s.2.2 x = s.2.1 x) ∧ goA rs (ns.drop s.1) s.2.1 = X) (fun s => ns.length - s.1) (0, env, ys) ?_ rfl ⟨by simp, hi0, hys, hX⟩ ?_
  · simp only [SA, Nat.reduceAdd, reduceIte, Nat.reduceEqDiff, Nat.reduceBEq, reduceCtorEq]; rfl
  clear hys hi0 hX
  rintro ⟨i, f, m⟩ ⟨hi, hi0, hf, hX⟩
  simp only at hi hi0 hf hX
  simp only [List.zip_cons_cons, List.zip_nil_left]
  rcases Nat.lt_or_ge i ns.length with h | h
  case inr =>
    have hd : decide ((i : Int) < ns.length) = false := by simp only [decide_eq_false_iff_not]; omega
    rw [List.drop_eq_nil_of_le h] at hX
    have hX : X = .ok f := hX.symm
    subst hX
    repeat' (first | exact True.intro | (refine PW.seqK ?_; intro K hK) | refine stp ?_ | refine seqK_n ‹_› ?_ | refine seqK_r ‹_› ?_ | refine seqK_e ‹_› ?_ | exact schedW_stop_i | refine schK_n ‹_› ?_ | (refine PW.cond rfl ?_ ?_ <;> intro hcond <;> (try contradiction) <;> try simp only [DD] at hcond) | (refine gd_i ?_; intro hg; try simp only [hg]) | (refine ari ?_; first | omega | (simp only [DD, LL] <;> omega) | (go_unwrap; omega)) | ((first | refine stq ?_ | show (_ : Post) _ _ _ | (refine schedW_alt_k ?_ ?_; intro K hK)); focus (simp only [hd, SA, Nat.reduceAdd, reduceIte, Nat.reduceEqDiff, Nat.reduceBEq, reduceCtorEq]; (try go_unwrap; try simp only [hd, RR, reduceCtorEq]))) | refine And.intro ?_ ?_ | exact Or.inr ⟨rfl, Nat.le_refl _⟩ | exact (fun h => Bool.noConfusion h))
    all_goals first | rfl | exact ⟨m, hi0, hf, rfl⟩ | exact ⟨rfl, m, hi0, hf, rfl⟩
  have hd : decide ((i : Int) < ns.length) = true := by simp only [decide_eq_true_eq]; omega
  have hgs := tx_getD ns i h
  rw [List.drop_eq_getElem_cons h, goA] at hX
  generalize ns[i] = s at *
  have h67 := v67 rs s (by omega)
  cases hfd : rs.find? (fun r => decide (r.name = s)) with
  | none =>
    rw [hfd] at hX
    rw [idxR_not hfd] at h67
    have dn : decide ((-1 : Int) < 0) = true := rfl
    repeat' (first | exact True.intro | (exact Or.inr ⟨rfl, by decide⟩) | (refine PW.seqK ?_; intro K hK) | refine stp ?_ | refine seqK_n ‹_› ?_ | refine seqK_r ‹_› ?_ | refine seqK_e ‹_› ?_ | exact schedW_stop_i | refine schK_n ‹_› ?_ | (refine PW.cond rfl ?_ ?_ <;> intro hcond <;> (try contradiction) <;> try simp only [DD] at hcond) | (refine gd_i ?_; intro hg; try simp only [hg]) | refine goCall_L 6 e67 h67 (by simp [PV.lend, PV.view, Mem.get]) (by simp [PV.lends, PV.lend, PV.view, PV.seen, fitB, PV.scalar, Mem.get, Sh.size]) (by simp [PV.flat]) ?_ | (refine ari ?_; first | omega | (simp only [DD, LL] <;> omega) | (go_unwrap; omega)) | ((first | refine stq ?_ | show (_ : Post) _ _ _ | (refine schedW_alt_k ?_ ?_; intro K hK)); focus (simp only [hd, hnl, hgs, dn, List.cons_append, List.nil_append, SA, Nat.reduceAdd, reduceIte, Nat.reduceEqDiff, Nat.reduceBEq, reduceCtorEq]; (try go_unwrap; try simp only [hd, hnl, hgs, dn, List.cons_append, List.nil_append, RR, reduceCtorEq]))) | refine And.intro ?_ ?_ | exact Or.inr ⟨rfl, Nat.le_refl _⟩ | exact (fun h => Bool.noConfusion h))
    all_goals exact ⟨(i + 1, f, m), (by first | rfl | (simp only [TT, MObj.kill, PV.kill, Nat.reduceLeDiff, reduceIte, Nat.le_refl, Nat.zero_le, Nat.not_le, Nat.lt_irrefl]; done) | (simp [trimE, trimM, MObj.kill, PV.kill]; done)), (by first | rfl | (simp only [TT, MObj.kill, PV.kill, Nat.reduceLeDiff, reduceIte, Nat.le_refl, Nat.zero_le, Nat.not_le, Nat.lt_irrefl]; done) | (simp [trimE, trimM, MObj.kill, PV.kill]; done)), ⟨h, hi0, hf, hX⟩, by simp only; omega⟩
  | some r =>
    rw [hfd] at hX
    simp only at hX
    obtain ⟨j, hj, hjx, hrj, hnm⟩ := idxR_find hfd
    rw [hjx] at h67
    have dn : decide ((j : Int) < 0) = false := by simp only [decide_eq_false_iff_not]; omega
    have hgr : (rs.map rlP).getD j .junk = .agg [.str r.name, .list (some 4) (r.tree.map ndP)] := by rw [← hrp, ← hrj]; simp [List.getD, hj]
    have hok := hr r (List.mem_of_find?_eq_some hfd)
    have h16 := v16 hasKK f (strM intV m) (fun s => by rw [mget_str, hf]) r.tree hok.len hok.sz
    simp only [treeP] at h16
    generalize evalM f r.tree = q at *
    obtain ⟨v, e⟩ := q
    simp only at hX h16
    by_cases he : e = 0
    · subst he
      rw [if_neg (by simp)] at hX
      have hms := mset_str intV m s v
      repeat' (first | exact True.intro | exact (rfl : KK.str = KK.str) | (exact Or.inr ⟨rfl, by decide⟩) | (refine PW.seqK ?_; intro K hK) | refine stp ?_ | refine seqK_n ‹_› ?_ | refine seqK_r ‹_› ?_ | refine seqK_e ‹_› ?_ | exact schedW_stop_i | refine schK_n ‹_› ?_ | (refine PW.cond rfl ?_ ?_ <;> intro hcond <;> (try contradiction) <;> try simp only [DD] at hcond) | (refine gd_i ?_; intro hg; try simp only [hg]) | refine goCall_L 6 e67 h67 (by simp [PV.lend, PV.view, Mem.get]) (by simp [PV.lends, PV.lend, PV.view, PV.seen, fitB, PV.scalar, Mem.get, Sh.size]) (by simp [PV.flat]) ?_ | refine goCall_W e16 (h16) ?_ ?_ ?_ ?_ | (refine ari ?_; first | omega | (simp only [DD, LL] <;> omega) | (go_unwrap; omega)) | ((first | refine stq ?_ | show (_ : Post) _ _ _ | (refine schedW_alt_k ?_ ?_; intro K hK)); focus (simp only [hd, hnl, hlen, hgs, dn, hgr, cutR, hms, List.cons_append, List.nil_append, SA, Nat.reduceAdd, reduceIte, Nat.reduceEqDiff, Nat.reduceBEq, reduceCtorEq]; (try go_unwrap; try simp only [hd, hnl, hlen, hgs, dn, hgr, cutR, hms, List.cons_append, List.nil_append, RR, reduceCtorEq]))) | refine And.intro ?_ ?_ | exact Or.inr ⟨rfl, Nat.le_refl _⟩ | exact (fun h => Bool.noConfusion h))
      all_goals exact ⟨(i + 1, upd f s v, aset m s v), (by first | rfl | (simp only [TT, MObj.kill, PV.kill, Nat.reduceLeDiff, reduceIte, Nat.le_refl, Nat.zero_le, Nat.not_le, Nat.lt_irrefl]; done) | (simp [trimE, trimM, MObj.kill, PV.kill]; done)), (by first | rfl | (simp only [TT, MObj.kill, PV.kill, Nat.reduceLeDiff, reduceIte, Nat.le_refl, Nat.zero_le, Nat.not_le, Nat.lt_irrefl]; done) | (simp [trimE, trimM, MObj.kill, PV.kill]; done)), ⟨h, aset_nodup hi0 s v, fun x => by simp only [aget_aset, upd]; split <;> simp_all, hX⟩, by simp only; omega⟩
    · rw [if_pos he] at hX
      subst hX
      have d1 : decide (e = 0) = false := decide_eq_false he
      repeat' (first | exact True.intro | (exact Or.inr ⟨rfl, by decide⟩) | (refine PW.stop (x := .ret) ?_) | (refine PW.seqK ?_; intro K hK) | refine stp ?_ | refine seqK_n ‹_› ?_ | refine seqK_r ‹_› ?_ | refine seqK_e ‹_› ?_ | exact schedW_stop_i | refine schK_n ‹_› ?_ | (refine PW.cond rfl ?_ ?_ <;> intro hcond <;> (try contradiction) <;> try simp only [DD] at hcond) | (refine gd_i ?_; intro hg; try simp only [hg]) | refine goCall_L 6 e67 h67 (by simp [PV.lend, PV.view, Mem.get]) (by simp [PV.lends, PV.lend, PV.view, PV.seen, fitB, PV.scalar, Mem.get, Sh.size]) (by simp [PV.flat]) ?_ | refine goCall_W e16 (h16) ?_ ?_ ?_ ?_ | (refine ari ?_; first | omega | (simp only [DD, LL] <;> omega) | (go_unwrap; omega)) | ((first | refine stq ?_ | show (_ : Post) _ _ _ | (refine schedW_alt_k ?_ ?_; intro K hK)); focus (simp only [hd, hnl, hlen, hgs, dn, hgr, cutR, d1, List.cons_append, List.nil_append, SA, Nat.reduceAdd, reduceIte, Nat.reduceEqDiff, Nat.reduceBEq, reduceCtorEq]; (try go_unwrap; try simp only [hd, hnl, hlen, hgs, dn, hgr, cutR, d1, List.cons_append, List.nil_append, RR, reduceCtorEq]))) | refine And.intro ?_ ?_ | exact Or.inr ⟨rfl, Nat.le_refl _⟩ | exact (fun h => Bool.noConfusion h))
      all_goals
        refine ⟨?_⟩
        refine PW.trim 0 (fun _ _ => rfl) ?_
        simp only [TT, MObj.kill, PV.kill, Nat.reduceLeDiff, reduceIte]
        repeat' (first | exact True.intro | (refine PW.seqK ?_; intro K hK) | refine stp ?_ | refine seqK_n ‹_› ?_ | refine seqK_r ‹_› ?_ | refine seqK_e ‹_› ?_ | exact schedW_stop_i | refine schK_n ‹_› ?_ | (refine PW.cond rfl ?_ ?_ <;> intro hcond <;> (try contradiction) <;> try simp only [DD] at hcond) | (refine gd_i ?_; intro hg; try simp only [hg]) | (refine ari ?_; first | omega | (simp only [DD, LL] <;> omega) | (go_unwrap; omega)) | ((first | refine stq ?_ | show (_ : Post) _ _ _ | (refine schedW_alt_k ?_ ?_; intro K hK)); focus (simp only [SA, Nat.reduceAdd, reduceIte, Nat.reduceEqDiff, Nat.reduceBEq, reduceCtorEq]; (try go_unwrap; try simp only [RR, reduceCtorEq]))) | refine And.intro ?_ ?_ | exact Or.inr ⟨rfl, Nat.le_refl _⟩ | exact (fun h => Bool.noConfusion h))
        all_goals first | rfl | exact ⟨rfl, rfl⟩
end Go.Proofs.YthekpjhffciakaaDoor

