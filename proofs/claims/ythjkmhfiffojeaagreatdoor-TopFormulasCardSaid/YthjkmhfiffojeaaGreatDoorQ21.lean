import Derived.Test.YthjkmhfiffojeaaGreatDoorQ20
namespace Go.Proofs.YthjkmhfiffojeaaGreatDoor
open Nat (reduceAdd reduceEqDiff)
set_option linter.unusedSimpArgs false
set_option linter.unusedVariables false
set_option maxHeartbeats 4000000
set_option maxRecDepth 100000
section
open Go PG Go.Proofs Go.Shelf
theorem kPU {μ : Mem} {t : Nat} (ds : List St) (hl : ds.length <= 4000000000) (hm : μ.get t = some (.row none (ds.map PV.str))) :
  jA2 Tryz.prog G0 25 [.sl none t ds.length] μ (fun _ => false) (fun p μ' => p = .tup [] ∧ μ' = μ.set t (some (.row none ((jBY ds).map PV.str)))) := V25 ds hl hm
theorem jJZ (l : List St) : (jBY l).length = l.length := List.length_mergeSort _
theorem V35 (l : List Ed) (hl : l.length <= 1000000000) : jAB Tryz.prog G0 35 [edL l] (txL (nsM l)) := by
 refine jAB.jAT Tryz.func35 k35 mix (by simp [c35]) ?_
 simp only [c35, L35, CC, jBW]
 have hlen : ((l.map edP).length : Nat) = l.length := by simp
 repeat' (first | exact clo | (refine sqI ?_; intros) | refine stp ?_ | (refine cnd rfl ?_ ?_ <;> intro hcond <;> (try contradiction) <;> try simp only [DD] at hcond) | (refine jAG ?_; intro hg; try simp only [hg]) | (refine saI ?_ ?_; intros) | (refine ari ?_; first | omega | (simp only [DD, LL] <;> omega) | (go_unwrap; omega) | (simp only [DD] at hg; omega)) | (refine stq ?_; focus (simp only [hlen, SA, reduceAdd, reduceIte, reduceEqDiff, Nat.reduceBEq, reduceCtorEq]; (try go_unwrap; try simp only [hlen, RR, reduceCtorEq]))) | refine And.intro ?_ ?_)
 refine PW.own none 3 rfl ?_
 refine PW.jDV (σ := Nat) 1 (fun _ _ => rfl) [3, 6, 7, 8] (fun i => [.sl none 0 i, edL l, .int .i64 l.length, .int .i64 i]) (fun i => [some (.row none (((l.take i).map (·.name)).map PV.str))]) (fun i => i <= l.length) (fun i => l.length - i) 0 ?_ (by simp) (by omega) ?_
 ·simp only [SA, reduceAdd, reduceIte, reduceEqDiff, Nat.reduceBEq, reduceCtorEq]; rfl
 rintro i hi
 simp only [List.zip_cons_cons, List.zip_nil_left]
 rcases Nat.lt_or_ge i l.length with h | h
 ·have hd : decide ((i : Int) < l.length) = true := by simp only [decide_eq_true_eq]; omega
  have hg := jT6 l i h
  have ht : ((l.take (i + 1)).map (·.name)).map PV.str = ((l.take i).map (·.name)).map PV.str ++ [.str l[i].name] := by
   rw [List.take_succ_eq_append_getElem h, List.map_append, List.map_append]; rfl
  have hlt : (((l.take i).map (·.name)).map PV.str).length = i := by simp; omega
  have htk : (((l.take i).map (·.name)).map PV.str).take i = ((l.take i).map (·.name)).map PV.str := List.take_of_length_le (by omega)
  generalize l[i] = e at hg ht
  generalize ((l.take i).map (·.name)).map PV.str = A at ht hlt htk
  simp only [edP] at hg
  have b1 : (i + 1) * 16 <= 140737488355328 := by omega
  repeat' (first | exact clo | (refine sqI ?_; intros) | refine stp ?_ | (refine cnd rfl ?_ ?_ <;> intro hcond <;> (try contradiction) <;> try simp only [DD] at hcond) | (refine jAG ?_; intro hg; try simp only [hg]) | (refine saI ?_ ?_; intros) | (refine ari ?_; first | omega | (simp only [DD, LL] <;> omega) | (go_unwrap; omega) | (simp only [DD] at hg; omega)) | (refine stq ?_; focus (simp only [hd, hg, hlt, htk, hlen, b1, SA, reduceAdd, reduceIte, reduceEqDiff, Nat.reduceBEq, reduceCtorEq]; (try go_unwrap; try simp only [hd, hg, hlt, htk, hlen, b1, RR, reduceCtorEq]))) | refine And.intro ?_ ?_)
  all_goals exact ⟨i + 1, (by first | rfl | (simp only [TT, jAF.kill, PV.kill, Nat.reduceLeDiff, reduceIte, Nat.le_refl, Nat.zero_le, Nat.not_le, Nat.lt_irrefl]; done) | (simp [jBE, jAZ, jAF.kill, PV.kill]; done)), (by rw [ht]; simp [jAZ, jAF.kill]), by omega, by omega⟩
 ·have hd : decide ((i : Int) < l.length) = false := by simp only [decide_eq_false_iff_not]; omega
  have hi' : i = l.length := by omega
  subst hi'
  rw [List.take_length]
  have h36 := kPU (μ := [some (.row none ((l.map (·.name)).map PV.str))]) (t := 0) (l.map (·.name)) (by simp; omega) rfl
  rw [List.length_map] at h36
  repeat' (first | exact clo | (refine sqI ?_; intros) | refine stp ?_ | (refine cnd rfl ?_ ?_ <;> intro hcond <;> (try contradiction) <;> try simp only [DD] at hcond) | (refine jCS E25 h36 ?_; rintro p μ' ⟨rfl, rfl⟩; simp only [hd, hlen, SA, reduceAdd, reduceIte, reduceEqDiff, Nat.reduceBEq, reduceCtorEq]) | (refine jAG ?_; intro hg; try simp only [hg]) | (refine saI ?_ ?_; intros) | (refine ari ?_; first | omega | (simp only [DD, LL] <;> omega) | (go_unwrap; omega) | (simp only [DD] at hg; omega)) | (refine stq ?_; focus (simp only [hd, hlen, SA, reduceAdd, reduceIte, reduceEqDiff, Nat.reduceBEq, reduceCtorEq]; (try go_unwrap; try simp only [hd, hlen, RR, reduceCtorEq]))) | refine And.intro ?_ ?_)
  all_goals have hsl : (List.map PV.str (jBY (List.map (fun x => x.name) l))).length = l.length := by simp [jJZ]
  ·rw [hsl]; simp
  ·rw [if_pos (by omega), List.take_of_length_le (by omega)]; rfl
end
open Go PG Go.Proofs
abbrev jJB : Bool -> PV := PV.bool
theorem kHZ {l : List Ed} (hn : (l.map (·.name)).Nodup) (s : St) : jCA (jGM l) s = (l.find? (fun e => decide (e.name = s))).map (·.needs) := by
 have key : ∀ i, i <= l.length -> jCA (jGM (l.take i)) s = ((l.take i).find? (fun e => decide (e.name = s))).map (·.needs) := by
  intro i
  induction i with
  | zero => intro _; rfl
  | succ i ih =>
   intro h
   have h' : i < l.length := by omega
   rw [jOL l i h', jDT, List.take_succ_eq_append_getElem h', List.find?_append]
   by_cases he : s = l[i].name
   ·rw [if_pos he]
    have : (l.take i).find? (fun e => decide (e.name = s)) = none := List.find?_eq_none.2 fun e hm hh => by
     simp only [decide_eq_true_eq] at hh
     obtain ⟨j, hj, rfl⟩ := List.getElem_of_mem hm
     simp only [List.length_take] at hj
     rw [List.getElem_take] at hh
     have := List.pairwise_iff_getElem.1 hn j i (by simp; omega) (by simp; omega) (by omega)
     exact this (by simp [hh, he])
    rw [this]; simp [he]
   ·rw [if_neg he, ih (by omega)]
    have : ([l[i]] : List Ed).find? (fun e => decide (e.name = s)) = none := by simp [Ne.symm he]
    rw [this, Option.or_none]
 have := key l.length (Nat.le_refl _)
 rwa [List.take_length] at this
theorem jKK {l : List Ed} (hw : jAN l = 0) (s : St) : jCA (jGM l) s = if s ∈ nsM l then some (ndM l s) else none := by
 rw [kHZ (jBX.1 hw).2.1]
 unfold ndM
 cases hf : l.find? (fun e => decide (e.name = s)) with
 | none =>
  have : s ∉ nsM l := fun h => by
   obtain ⟨e, he, hh⟩ := jH0.1 h
   have := List.find?_eq_none.1 hf e he
   simp [hh] at this
  rw [if_neg this]; rfl
 | some e =>
  have h1 := List.find?_some hf
  have h2 := List.mem_of_find?_eq_some hf
  simp only [decide_eq_true_eq] at h1
  rw [if_pos (jH0.2 ⟨e, h2, h1⟩)]; rfl
theorem jZW {l : List Ed} (hw : jAN l = 0) (s : St) : (jCA (jGM l) s).getD [] = ndM l s := by
 rw [jKK hw]
 by_cases h : s ∈ nsM l
 ·rw [if_pos h]; rfl
 ·rw [if_neg h, kGZ h]; rfl
theorem jJ4 (T : List (St × List St)) (s : St) : (jFK (jB4 jH7 T) (.str s)).getD .jAH = match jCA T s with | some ns => jH7 ns | none => .jAH := by
 rw [jCR]; cases jCA T s <;> rfl
theorem jZ3 (T : List (St × List St)) (s : St) : Sub ((jFK (jB4 jH7 T) (.str s)).getD .jAH) (jH7 ((jCA T s).getD [])) := by
 rw [jJ4]
 cases jCA T s with
 | none => exact Sub.nil none
 | some ns => exact Sub.refl _
theorem jLG (K : List (St × Bool)) (s : St) : (jFK (jB4 jJB K) (.str s)).getD (.bool false) = .bool ((jCA K s).getD false) := by rw [jCR]; exact getD_map jJB _ false
theorem jTX {α : Type} (vp : α -> PV) (K : List (St × α)) (s : St) : (jFK (jB4 vp K) (.str s)).isSome = (jCA K s).isSome := by rw [jCR]; exact isSome_map vp _
def jPA (T : List (St × List St)) (K : List (St × Bool)) (s : St) : Bool := (jCA T s).isSome && !((jCA K s).getD false)
def jX7 (T : List (St × List St)) (K : List (St × Bool)) (s : St) : Bool := !((jCA K s).getD false) && !(((jCA T s).getD []).any (jPA T K))
abbrev cpT (T : List (St × List St)) : PV := .jC2 none (.jC9 .str (jB4 jH7 T)) 0
abbrev cpK (K : List (St × Bool)) : PV := .jC2 none (.jC9 .str (jB4 jJB K)) 0
theorem V36 (T : List (St × List St)) (K : List (St × Bool)) (s : St) : jAB Tryz.prog G0 36 [.str s, cpT T, cpK K] (.bool (jPA T K s)) := by
 refine jAB.jAT Tryz.func36 k36 mix (by simp [c36]) ?_
 simp only [c36, L36, CC, jBW, cpT, cpK]
 have h1 := jLG K s
 have h2 := jTX jH7 T s
 unfold jPA
 generalize (jCA K s).getD false = b at h1
 generalize (jCA T s).isSome = c at h2
 cases c
 ·repeat' (first | exact clo | (refine sqI ?_; intros) | refine stp ?_ | (refine cnd rfl ?_ ?_ <;> intro hcond <;> (try contradiction) <;> try simp only [DD] at hcond) | (refine jAG ?_; intro hg; try simp only [hg]) | (refine saI ?_ ?_; intros) | (refine ari ?_; first | omega | (simp only [DD, LL] <;> omega) | (go_unwrap; omega) | (simp only [DD] at hg; omega)) | (refine stq ?_; focus (simp only [h1, h2, jBQ, cut, SA, reduceAdd, reduceIte, reduceEqDiff, Nat.reduceBEq, reduceCtorEq]; (try go_unwrap; try simp only [h1, h2, jBQ, cut, RR, reduceCtorEq]))) | refine And.intro ?_ ?_)
  all_goals rfl
 ·repeat' (first | exact clo | (refine sqI ?_; intros) | refine stp ?_ | (refine cnd rfl ?_ ?_ <;> intro hcond <;> (try contradiction) <;> try simp only [DD] at hcond) | (refine jAG ?_; intro hg; try simp only [hg]) | (refine saI ?_ ?_; intros) | (refine ari ?_; first | omega | (simp only [DD, LL] <;> omega) | (go_unwrap; omega) | (simp only [DD] at hg; omega)) | (refine stq ?_; focus (simp only [h1, h2, jBQ, cut, SA, reduceAdd, reduceIte, reduceEqDiff, Nat.reduceBEq, reduceCtorEq]; (try go_unwrap; try simp only [h1, h2, jBQ, cut, RR, reduceCtorEq]))) | refine And.intro ?_ ?_)
theorem kM5 (T : List (St × List St)) (K : List (St × Bool)) : Cl [cpT T, cpK K] := ⟨fun μ => by simp [PV.view], fun μ => by simp [PV.seen]⟩
theorem kM4 (T : List (St × List St)) (K : List (St × Bool)) : Cl [cpK K, cpT T, .jC2 none (.fn 36 [] [cpT T, cpK K]) 0] := ⟨fun μ => by simp [PV.view], fun μ => by simp [PV.seen]⟩
theorem V38 (T : List (St × List St)) (K : List (St × Bool)) (s : St) (hl : ∀ ns, jCA T s = some ns -> ns.length <= 9223372036854775807) : jAB Tryz.prog G0 38 [.str s, cpK K, cpT T, .jC2 none (.fn 36 [] [cpT T, cpK K]) 0] (.bool (jX7 T K s)) := by
 refine jAB.jAT Tryz.func38 k38 mix (by simp [c38]) ?_
 simp only [c38, L38, CC, jBW, cpT, cpK]
 have h1 := jLG K s
 unfold jX7
 have h43 := V39 ((jCA T s).getD []) (jPA T K) 36 [cpT T, cpK K] E36 (kM5 T K) (by
  cases h : jCA T s with
  | none => simp
  | some ns => exact hl ns h) (fun x _ => V36 T K x)
 have hsub : jF1 [(jFK (jB4 jH7 T) (.str s)).getD .jAH, .fn 36 [] [cpT T, cpK K]] [jH7 ((jCA T s).getD []), .fn 36 [] [cpT T, cpK K]] := .cons (jZ3 T s) (jF1.refl _)
 have h43 := jAB.sub h43 hsub
 simp only [cpT, cpK] at h43
 have hs := jJ4 T s
 generalize (jCA K s).getD false = b at h1
 cases b
 ·rcases hT : jCA T s with _ | ns
  ·rw [hT] at hs
   simp only at hs
   rw [hs, hT] at h43
   generalize (Option.getD none []).any (jPA T K) = c at h43
   repeat' (first | exact clo | (refine sqI ?_; intros) | refine stp ?_ | (refine cnd rfl ?_ ?_ <;> intro hcond <;> (try contradiction) <;> try simp only [DD] at hcond) | (refine jAG ?_; intro hg; try simp only [hg]) | refine jAY E39 (h43) ?_ ?_ ?_ ?_ ?_ | (refine saI ?_ ?_; intros) | (refine ari ?_; first | omega | (simp only [DD, LL] <;> omega) | (go_unwrap; omega) | (simp only [DD] at hg; omega)) | (refine stq ?_; focus (simp only [h1, hs, jBQ, cut, SA, reduceAdd, reduceIte, reduceEqDiff, Nat.reduceBEq, reduceCtorEq]; (try go_unwrap; try simp only [h1, hs, jBQ, cut, RR, reduceCtorEq]))) | refine And.intro ?_ ?_)
  ·rw [hT] at hs
   simp only at hs
   rw [hs, hT] at h43
   generalize (Option.getD (some ns) []).any (jPA T K) = c at h43
   repeat' (first | exact clo | (refine sqI ?_; intros) | refine stp ?_ | (refine cnd rfl ?_ ?_ <;> intro hcond <;> (try contradiction) <;> try simp only [DD] at hcond) | (refine jAG ?_; intro hg; try simp only [hg]) | refine jAY E39 (h43) ?_ ?_ ?_ ?_ ?_ | (refine saI ?_ ?_; intros) | (refine ari ?_; first | omega | (simp only [DD, LL] <;> omega) | (go_unwrap; omega) | (simp only [DD] at hg; omega)) | (refine stq ?_; focus (simp only [h1, hs, jBQ, cut, SA, reduceAdd, reduceIte, reduceEqDiff, Nat.reduceBEq, reduceCtorEq]; (try go_unwrap; try simp only [h1, hs, jBQ, cut, RR, reduceCtorEq]))) | refine And.intro ?_ ?_)
 ·repeat' (first | exact clo | (refine sqI ?_; intros) | refine stp ?_ | (refine cnd rfl ?_ ?_ <;> intro hcond <;> (try contradiction) <;> try simp only [DD] at hcond) | (refine jCL rfl ?_; simp only [h1, jBQ, cut, SA, reduceAdd, reduceIte, reduceEqDiff, Nat.reduceBEq, reduceCtorEq]; (try go_unwrap; try simp only [h1, jBQ, cut, RR, reduceCtorEq])) | (refine jAG ?_; intro hg; try simp only [hg]) | (refine saI ?_ ?_; intros) | (refine ari ?_; first | omega | (simp only [DD, LL] <;> omega) | (go_unwrap; omega) | (simp only [DD] at hg; omega)) | (refine stq ?_; focus (simp only [h1, jBQ, cut, SA, reduceAdd, reduceIte, reduceEqDiff, Nat.reduceBEq, reduceCtorEq]; (try go_unwrap; try simp only [h1, jBQ, cut, RR, reduceCtorEq]))) | refine And.intro ?_ ?_)
  all_goals rfl
def jEO (out : List St) : List (St × Bool) := out.map fun s => (s, true)
theorem jK8 (out : List St) (s : St) : (jCA (jEO out) s).getD false = decide (s ∈ out) := by
 induction out with
 | nil => simp [jEO, jCA]
 | cons x l ih =>
  simp only [jEO, List.map_cons, jCA] at ih ⊢
  by_cases h : x = s
  ·simp [h]
  ·simp only [h, if_false]
   rw [ih]
   have : (s ∈ x :: l) ↔ s ∈ l := by simp [Ne.symm h]
   simp only [this]
theorem jRG {out : List St} {s : St} (h : s ∉ out) : jIN (jEO out) s true = jEO (out ++ [s]) := by
 induction out with
 | nil => rfl
 | cons x l ih =>
  have h1 : x ≠ s := fun e => h (by simp [e])
  have h2 : s ∉ l := fun e => h (by simp [e])
  simp only [jEO, List.map_cons, jIN, List.cons_append, h1, if_false] at ih ⊢
  rw [ih h2]
theorem kIL {l : List Ed} (hw : jAN l = 0) (out : List St) (s : St) : jPA (jGM l) (jEO out) s = (decide (s ∈ nsM l) && !decide (s ∈ out)) := by
 unfold jPA
 rw [jK8, jKK hw]
 by_cases h : s ∈ nsM l
 ·rw [if_pos h]; simp [h]
 ·rw [if_neg h]; simp [h]
theorem kH9 {l : List Ed} (hw : jAN l = 0) (out : List St) (s : St) : jX7 (jGM l) (jEO out) s = jF5 (nsM l) (ndM l) out s := by
 unfold jX7 jF5
 rw [jK8, jZW hw]
 have : (ndM l s).any (jPA (jGM l) (jEO out)) = !((ndM l s).all fun x => !(decide (x ∈ nsM l)) || decide (x ∈ out)) := by
  rw [List.not_all_eq_any_not]
  congr 1
  funext x
  rw [kIL hw]; simp
 rw [this]; simp
theorem kCE {p : St -> Bool} {N : List St} {s : St} (h : N.find? p = some s) : ∃ j, ∃ h : j < N.length, kD2 p N = j ∧ N[j] = s ∧ p s = true := by
 obtain ⟨hp, as', bs, e, hall⟩ := List.find?_eq_some_iff_append.1 h
 subst e
 refine ⟨as'.length, by simp, ?_, by simp, hp⟩
 refine kCF (by simp) (by simpa using hp) fun j hj hlt => ?_
 rw [List.getElem_append_left hlt]
 have := hall as'[j] (List.getElem_mem hlt)
 simpa using this
theorem kE7 {p : St -> Bool} {N : List St} (h : N.find? p = none) : kD2 p N = -1 :=
 jR6 fun j hj => by have := List.find?_eq_none.1 h N[j] (List.getElem_mem hj); simpa using this
theorem kLO {l : List Ed} (hw : jAN l = 0) {x : St} {ns : List St} (h : jCA (jGM l) x = some ns) : ns.length <= 9223372036854775807 := by
 rw [jKK hw] at h
 split at h
 ·cases h
  rename_i hx
  obtain ⟨e, he, rfl⟩ := jH0.1 hx
  rw [jYF (jBX.1 hw).2.1 he]
  have := ((jBX.1 hw).2.2 e he).2.1
  omega
 ·cases h
theorem V12 (l : List Ed) (hl : l.length <= 1000000000) (hnl : ∀ e ∈ l, e.needs.length <= 9223372036854775807) : jAB Tryz.prog G0 12 [edL l] (.tup [txL (jAV l).1, .int .i64 (jAV l).2]) := by
 refine jAB.jAT Tryz.func12 k12 mix (by simp [c12]) ?_
 simp only [c12, L12, CC, jBW]
 have h27 := V33 l (by omega) hnl
 have h28 := V32 l (by omega)
 have h29 := V35 l hl
 by_cases hw : jAN l = 0
 case neg =>
  have d1 : decide (jAN l = 0) = false := by simpa using hw
  have hS : jAV l = ([], jAN l) := jGN hw
  repeat' (first | exact clo | (refine PW.stop (x := .ret) ?_) | (refine sqI ?_; intros) | refine stp ?_ | (refine cnd rfl ?_ ?_ <;> intro hcond <;> (try contradiction) <;> try simp only [DD] at hcond) | (refine jAG ?_; intro hg; try simp only [hg]) | refine jAA E33 (h27) ?_ ?_ ?_ ?_ | (refine saI ?_ ?_; intros) | (refine ari ?_; first | omega | (simp only [DD, LL] <;> omega) | (go_unwrap; omega) | (simp only [DD] at hg; omega)) | (refine stq ?_; focus (simp only [d1, SA, reduceAdd, reduceIte, reduceEqDiff, Nat.reduceBEq, reduceCtorEq]; (try go_unwrap; try simp only [d1, RR, reduceCtorEq]))) | refine And.intro ?_ ?_)
  all_goals
   refine ⟨?_⟩
   refine PW.kKU none 2 rfl ?_
   repeat' (first | exact clo | (refine sqI ?_; intros) | refine stp ?_ | (refine cnd rfl ?_ ?_ <;> intro hcond <;> (try contradiction) <;> try simp only [DD] at hcond) | (refine jAG ?_; intro hg; try simp only [hg]) | (refine saI ?_ ?_; intros) | (refine ari ?_; first | omega | (simp only [DD, LL] <;> omega) | (go_unwrap; omega) | (simp only [DD] at hg; omega)) | (refine stq ?_; focus (simp only [SA, reduceAdd, reduceIte, reduceEqDiff, Nat.reduceBEq, reduceCtorEq]; (try go_unwrap; try simp only [RR, reduceCtorEq]))) | refine And.intro ?_ ?_)
   rw [hS]; rfl
 rw [hw] at h27
 obtain ⟨R, hR⟩ : ∃ R, jAV l = R := ⟨_, rfl⟩
 have hS : jAV l = match jF0 (nsM l) (ndM l) (nsM l).length [] with
  | none => ([], 13)
  | some o => (o, 0) := by unfold jAV; rw [if_neg (by simp [hw])]; rfl
 rw [hR] at hS ⊢
 clear hR
 have h42 := fun out x => V38 (jGM l) (jEO out) x (fun ns h => kLO hw h)
 have hrd := kH9 hw
 have hNl : (nsM l).length <= 64 := by rw [jVP]; exact (jBX.1 hw).1
 have hcl := kM4 (jGM l)
 generalize jGM l = T at h28 h42 hrd hcl
 generalize nsM l = N at h29 hS hrd hNl
 generalize ndM l = nd at hS hrd
 simp only [cpT, cpK] at h42 hcl
 have hN : ((N.map PV.str).length : Nat) = N.length := by simp
 repeat' (first | exact clo | (refine sqI ?_; intros) | refine stp ?_ | (refine cnd rfl ?_ ?_ <;> intro hcond <;> (try contradiction) <;> try simp only [DD] at hcond) | (refine jAG ?_; intro hg; try simp only [hg]) | refine jAA E33 (h27) ?_ ?_ ?_ ?_ | refine jAA E32 (h28) ?_ ?_ ?_ ?_ | refine jAA E35 (h29) ?_ ?_ ?_ ?_ | (refine saI ?_ ?_; intros) | (refine ari ?_; first | omega | (simp only [DD, LL] <;> omega) | (go_unwrap; omega) | (simp only [DD] at hg; omega)) | (refine stq ?_; focus (simp only [hN, SA, reduceAdd, reduceIte, reduceEqDiff, Nat.reduceBEq, reduceCtorEq]; (try go_unwrap; try simp only [hN, RR, reduceCtorEq]))) | refine And.intro ?_ ?_)
 refine PW.own none 9 rfl ?_
 refine PW.jDV (σ := Nat × List St) 5 (fun _ _ => rfl) [2, 3, 5, 6, 7, 8, 9, 23, 24] (fun s => [.jAH, .int .i64 0, .ref 0 0, txL N, .ref 2 0, .ref 3 0, .sl none 4 s.2.length, .int .i64 N.length, .int .i64 s.1])
  (fun s => [some (.var none (.jC9 .str (jB4 jH7 T))), some (.mp .str (jB4 jJB (jEO s.2))), some (.var none (.mref 1)), some (.var none (.fn 36 [] [.ref 0 0, .ref 2 0])), some (.row none (s.2.map PV.str))])
  (fun s => s.1 <= N.length ∧ s.2.length = s.1 ∧ jF0 N nd N.length [] = jF0 N nd (N.length - s.1) s.2) (fun s => N.length - s.1) (0, []) ?_ (by simp [jEO, jS6]) ⟨by simp, rfl, by simp⟩ ?_
 ·simp only [SA, reduceAdd, reduceIte, reduceEqDiff, Nat.reduceBEq, reduceCtorEq]; rfl
 rintro ⟨i, out⟩ ⟨hi, hol, hg⟩
 simp only at hi hol hg
 simp only [List.zip_cons_cons, List.zip_nil_left]
 rcases Nat.lt_or_ge i N.length with h | h
 case inr =>
  have hd : decide ((i : Int) < N.length) = false := by simp only [decide_eq_false_iff_not]; omega
  rw [show N.length - i = 0 by omega] at hg
  rw [hg] at hS
  have hS : R = (out, 0) := hS
  subst hS
  have hoL : ((out.map PV.str).length : Nat) = out.length := by simp
  have htk : (out.map PV.str).take out.length = out.map PV.str := List.take_of_length_le (by simp)
  repeat' (first | exact clo | (refine sqI ?_; intros) | refine stp ?_ | (refine cnd rfl ?_ ?_ <;> intro hcond <;> (try contradiction) <;> try simp only [DD] at hcond) | (refine jAG ?_; intro hg; try simp only [hg]) | (refine saI ?_ ?_; intros) | (refine ari ?_; first | omega | (simp only [DD, LL] <;> omega) | (go_unwrap; omega) | (simp only [DD] at hg; omega)) | (refine stq ?_; focus (simp only [hd, hN, SA, reduceAdd, reduceIte, reduceEqDiff, Nat.reduceBEq, reduceCtorEq]; (try go_unwrap; try simp only [hd, hN, RR, reduceCtorEq]))) | refine And.intro ?_ ?_)
  all_goals first | (simp [hoL, htk]; done) | skip
 have hd : decide ((i : Int) < N.length) = true := by simp only [decide_eq_true_eq]; omega
 obtain ⟨n, hn⟩ : ∃ n, N.length - i = n + 1 := ⟨N.length - i - 1, by omega⟩
 rw [hn, jF0] at hg
 have hfe : jX7 T (jEO out) = jF5 N nd out := funext (hrd out)
 have h41 := V37 N (jX7 T (jEO out)) 38 _ E38 (hcl (jEO out)) (by omega) (fun x _ => h42 out x)
 rw [hfe] at h41
 cases hf : N.find? (jF5 N nd out) with
 | none =>
  rw [hf] at hg
  rw [hg] at hS
  have hS : R = ([], 13) := hS
  rw [kE7 hf] at h41
  have dn : decide ((-1 : Int) < 0) = true := rfl
  repeat' (first | exact clo | (refine PW.stop (x := .ret) ?_) | (refine sqI ?_; intros) | refine stp ?_ | (refine cnd rfl ?_ ?_ <;> intro hcond <;> (try contradiction) <;> try simp only [DD] at hcond) | (refine jAG ?_; intro hg; try simp only [hg]) | refine jBB 6 E37 h41 (by simp [PV.lend, PV.view, Mem.get]) (by simp [PV.jBU, PV.lend, PV.view, PV.seen, jHH, PV.scalar, Mem.get, Sh.size]) (by simp [PV.flat]) ?_ | (refine saI ?_ ?_; intros) | (refine ari ?_; first | omega | (simp only [DD, LL] <;> omega) | (go_unwrap; omega) | (simp only [DD] at hg; omega)) | (refine stq ?_; focus (simp only [hd, hN, dn, List.cons_append, List.nil_append, SA, reduceAdd, reduceIte, reduceEqDiff, Nat.reduceBEq, reduceCtorEq]; (try go_unwrap; try simp only [hd, hN, dn, List.cons_append, List.nil_append, RR, reduceCtorEq]))) | refine And.intro ?_ ?_)
  all_goals try rfl
  all_goals
   refine ⟨?_⟩
   refine PW.kKU none 2 rfl ?_
   repeat' (first | exact clo | (refine sqI ?_; intros) | refine stp ?_ | (refine cnd rfl ?_ ?_ <;> intro hcond <;> (try contradiction) <;> try simp only [DD] at hcond) | (refine jAG ?_; intro hg; try simp only [hg]) | (refine saI ?_ ?_; intros) | (refine ari ?_; first | omega | (simp only [DD, LL] <;> omega) | (go_unwrap; omega) | (simp only [DD] at hg; omega)) | (refine stq ?_; focus (simp only [SA, reduceAdd, reduceIte, reduceEqDiff, Nat.reduceBEq, reduceCtorEq]; (try go_unwrap; try simp only [RR, reduceCtorEq]))) | refine And.intro ?_ ?_)
   rw [hS]; rfl
 | some s =>
  rw [hf] at hg
  obtain ⟨j, hj, hjx, hNj, hps⟩ := kCE hf
  have hso := (jHX.1 hps).1
  rw [hjx] at h41
  have dn : decide ((j : Int) < 0) = false := by simp only [decide_eq_false_iff_not]; omega
  have hgt := jD9 N j hj
  rw [hNj] at hgt
  have s1 : jF7 (jB4 jJB (jEO out)) (.str s) (.bool true) = jB4 jJB (jEO (out ++ [s])) := by rw [<- jRG hso]; exact jD2 jJB _ _ _
  have ht : (out ++ [s]).map PV.str = out.map PV.str ++ [.str s] := by simp
  have hoL : ((out.map PV.str).length : Nat) = out.length := by simp
  have htk : (out.map PV.str).take out.length = out.map PV.str := List.take_of_length_le (by simp)
  have b1 : (out.length + 1) * 16 <= 140737488355328 := by omega
  repeat' (first | exact clo | (refine PW.jP0 (E := ?_) (M := ?_) ?_ ?_; rotate_left 2) | exact jBH _ _ | (refine sqI ?_; intros) | refine stp ?_ | (refine cnd rfl ?_ ?_ <;> intro hcond <;> (try contradiction) <;> try simp only [DD] at hcond) | (refine jAG ?_; intro hg; try simp only [hg]) | refine jBB 6 E37 h41 (by simp [PV.lend, PV.view, Mem.get]) (by simp [PV.jBU, PV.lend, PV.view, PV.seen, jHH, PV.scalar, Mem.get, Sh.size]) (by simp [PV.flat]) ?_ | (refine saI ?_ ?_; intros) | (refine ari ?_; first | omega | (simp only [DD, LL] <;> omega) | (go_unwrap; omega) | (simp only [DD] at hg; omega)) | (refine stq ?_; focus (simp only [hd, hN, dn, hgt, s1, hoL, htk, List.cons_append, List.nil_append, SA, reduceAdd, reduceIte, reduceEqDiff, Nat.reduceBEq, reduceCtorEq]; (try go_unwrap; try simp only [hd, hN, dn, hgt, s1, hoL, htk, List.cons_append, List.nil_append, RR, reduceCtorEq]))) | refine And.intro ?_ ?_)
  all_goals first | rfl | exact ⟨(i + 1, out ++ [s]), (by simp only [List.length_append, List.length_cons, List.length_nil]; exact (by first | rfl | (simp only [TT, jAF.kill, PV.kill, Nat.reduceLeDiff, reduceIte, Nat.le_refl, Nat.zero_le, Nat.not_le, Nat.lt_irrefl]; done) | (simp [jBE, jAZ, jAF.kill, PV.kill]; done))), (by rw [ht]; simp [jAZ, jAF.kill, PV.kill]), ⟨by simp only; omega, by simp; omega, by simp only; rw [show N.length - (i + 1) = n by omega]; exact hg⟩, by simp only; omega⟩
structure RlF (r : Rl) : Prop where
 len : r.tree.length <= 9223372036854775807
 sz : ∀ n ∈ r.tree, n.name.length <= 9223372036854775807 ∧ n.kids.length <= 9223372036854775807
 nm : r.name.length <= 9223372036854775807
def jG3 (env : jHO) : List Rl -> Int
 | [] => 0
 | r :: rs => if isName r.name = false then 12 else if (env r.name).isSome then 7 else if jBP r.tree ≠ 0 then jBP r.tree else jG3 env rs
theorem jKT (env : jHO) (r : Rl) (rs : List Rl) : jG3 env (r :: rs) = if isName r.name = false then 12 else if (env r.name).isSome then 7 else if jBP r.tree ≠ 0 then jBP r.tree else jG3 env rs := rfl
def jEQ (env : jHO) (rs : List Rl) : Int := if 64 < rs.length then 5 else jG3 env rs
theorem E27 : Ent Tryz.prog 27 := ⟨Tryz.f27, Tryz.func27, by kernel_rfl, by kernel_rfl⟩
theorem V27 (env : jHO) (es : List (PV × PV)) (hes : ∀ s, jFK es (.str s) = (env s).map (PV.int .i64)) (rs : List Rl) (hr : ∀ r ∈ rs, RlF r) : jAB Tryz.prog G0 27 [.jC9 .str es, jU6 rs] (.int .i64 (jEQ env rs)) := by
 refine jAB.jAT Tryz.func27 k27 mix (by simp [c27]) ?_
 simp only [c27, L27, CC, jBW, jU6]
 have hll : ((rs.map rlP).length : Nat) = rs.length := by simp
 have hrp : ∀ r : Rl, rlP r = .agg [.str r.name, .list (some 4) (r.tree.map ndP)] := fun _ => rfl
 by_cases h64 : 64 < rs.length
 ·have d1 : decide ((64 : Int) < rs.length) = true := by simp only [decide_eq_true_eq]; omega
  have hX : jEQ env rs = 5 := if_pos h64
  rw [hX]
  repeat' (first | exact clo | (refine sqI ?_; intros) | refine stp ?_ | (refine cnd rfl ?_ ?_ <;> intro hcond <;> (try contradiction) <;> try simp only [DD] at hcond) | (refine jAG ?_; intro hg; try simp only [hg]) | (refine saI ?_ ?_; intros) | (refine ari ?_; first | omega | (simp only [DD, LL] <;> omega) | (go_unwrap; omega) | (simp only [DD] at hg; omega)) | (refine stq ?_; focus (simp only [hll, d1, SA, reduceAdd, reduceIte, reduceEqDiff, Nat.reduceBEq, reduceCtorEq]; (try go_unwrap; try simp only [hll, d1, RR, reduceCtorEq]))) | refine And.intro ?_ ?_)
 have d1 : decide ((64 : Int) < rs.length) = false := by simp only [decide_eq_false_iff_not]; omega
 have hX : jEQ env rs = jG3 env rs := if_neg h64
 repeat' (first | exact clo | (refine sqI ?_; intros) | refine stp ?_ | (refine cnd rfl ?_ ?_ <;> intro hcond <;> (try contradiction) <;> try simp only [DD] at hcond) | (refine jAG ?_; intro hg; try simp only [hg]) | (refine saI ?_ ?_; intros) | (refine ari ?_; first | omega | (simp only [DD, LL] <;> omega) | (go_unwrap; omega) | (simp only [DD] at hg; omega)) | (refine stq ?_; focus (simp only [hll, d1, SA, reduceAdd, reduceIte, reduceEqDiff, Nat.reduceBEq, reduceCtorEq]; (try go_unwrap; try simp only [hll, d1, RR, reduceCtorEq]))) | refine And.intro ?_ ?_)
 refine PW.jDV (σ := Nat) 0 (fun _ _ => rfl) [0, 1, 4, 13, 14, 15] (fun i => [.jC9 .str es, .list (some 2) (rs.map rlP), .int .i64 0, .list (some 2) (rs.map rlP), .int .i64 rs.length, .int .i64 i])
  (fun i => []) (fun i => i <= rs.length ∧ jG3 env rs = jG3 env (rs.drop i)) (fun i => rs.length - i) 0 ?_ rfl ⟨by omega, rfl⟩ ?_
 ·simp only [SA, reduceAdd, reduceIte, reduceEqDiff, Nat.reduceBEq, reduceCtorEq]; rfl
 rintro i ⟨hi, hw⟩
 simp only [List.zip_cons_cons, List.zip_nil_left]
 rcases Nat.lt_or_ge i rs.length with h | h
 case inr =>
  have hd : decide ((i : Int) < rs.length) = false := by simp only [decide_eq_false_iff_not]; omega
  rw [List.drop_of_length_le h] at hw
  have hw : jG3 env rs = 0 := hw
  repeat' (first | exact clo | (refine sqI ?_; intros) | refine stp ?_ | (refine cnd rfl ?_ ?_ <;> intro hcond <;> (try contradiction) <;> try simp only [DD] at hcond) | (refine jAG ?_; intro hg; try simp only [hg]) | (refine saI ?_ ?_; intros) | (refine ari ?_; first | omega | (simp only [DD, LL] <;> omega) | (go_unwrap; omega) | (simp only [DD] at hg; omega)) | (refine stq ?_; focus (simp only [hll, hd, SA, reduceAdd, reduceIte, reduceEqDiff, Nat.reduceBEq, reduceCtorEq]; (try go_unwrap; try simp only [hll, hd, RR, reduceCtorEq]))) | refine And.intro ?_ ?_)
  all_goals (rw [hX, hw])
 have hd : decide ((i : Int) < rs.length) = true := by simp only [decide_eq_true_eq]; omega
 obtain ⟨r, hdr, hn, hg⟩ := drop_at h
 have hgn := ((hg rlP).1).trans (hrp r)
 have hok := hr r (List.mem_of_getElem? hn)
 rw [hdr] at hw
 have h53 := V55 (G := G0) r.name hok.nm
 have h29 := V20 kIS r.tree (by have := hok.len; omega) hok.sz
 simp only [jFL] at h29
 have hmg := hes r.name
 rw [jKT] at hw
 cases hnm : isName r.name with
 | false =>
  rw [if_pos hnm] at hw
  rw [hnm] at h53
  repeat' (first | exact clo | (exact Or.inr ⟨rfl, by decide⟩) | (refine sqI ?_; intros) | refine stp ?_ | (refine cnd rfl ?_ ?_ <;> intro hcond <;> (try contradiction) <;> try simp only [DD] at hcond) | (refine jAG ?_; intro hg; try simp only [hg]) | refine jAA E55 (h53) ?_ ?_ ?_ ?_ | (refine saI ?_ ?_; intros) | (refine ari ?_; first | omega | (simp only [DD, LL] <;> omega) | (go_unwrap; omega) | (simp only [DD] at hg; omega)) | (refine stq ?_; focus (simp only [hll, hd, hgn, SA, reduceAdd, reduceIte, reduceEqDiff, Nat.reduceBEq, reduceCtorEq]; (try go_unwrap; try simp only [hll, hd, hgn, RR, reduceCtorEq]))) | refine And.intro ?_ ?_)
  all_goals (rw [hX, hw])
 | true =>
 rw [if_neg (by simp [hnm])] at hw
 rw [hnm] at h53
 cases hes' : env r.name with
 | some v =>
  rw [hes'] at hmg hw
  rw [if_pos (show (some v).isSome = true from rfl)] at hw
  repeat' (first | exact clo | (exact Or.inr ⟨rfl, by decide⟩) | (refine sqI ?_; intros) | refine stp ?_ | (refine cnd rfl ?_ ?_ <;> intro hcond <;> (try contradiction) <;> try simp only [DD] at hcond) | (refine jAG ?_; intro hg; try simp only [hg]) | refine jAA E55 (h53) ?_ ?_ ?_ ?_ | (refine saI ?_ ?_; intros) | (refine ari ?_; first | omega | (simp only [DD, LL] <;> omega) | (go_unwrap; omega) | (simp only [DD] at hg; omega)) | (refine stq ?_; focus (simp only [hll, hd, hgn, hmg, Option.map_some, Option.isSome_some, Option.getD_some, SA, reduceAdd, reduceIte, reduceEqDiff, Nat.reduceBEq, reduceCtorEq]; (try go_unwrap; try simp only [hll, hd, hgn, hmg, Option.map_some, Option.isSome_some, Option.getD_some, RR, reduceCtorEq]))) | refine And.intro ?_ ?_)
  all_goals (rw [hX, hw])
 | none =>
 rw [hes'] at hmg hw
 rw [if_neg (by simp)] at hw
 by_cases hc : jBP r.tree = 0
 ·rw [if_neg (by simp [hc])] at hw
  have q : decide (jBP r.tree = 0) = true := decide_eq_true hc
  generalize jBP r.tree = ec at *
  repeat' (first | exact clo | (exact Or.inr ⟨rfl, by decide⟩) | (refine sqI ?_; intros) | refine stp ?_ | (refine cnd rfl ?_ ?_ <;> intro hcond <;> (try contradiction) <;> try simp only [DD] at hcond) | (refine jAG ?_; intro hg; try simp only [hg]) | refine jAA E55 (h53) ?_ ?_ ?_ ?_ | refine jAA E20 (h29) ?_ ?_ ?_ ?_ | (refine saI ?_ ?_; intros) | (refine ari ?_; first | omega | (simp only [DD, LL] <;> omega) | (go_unwrap; omega) | (simp only [DD] at hg; omega)) | (refine stq ?_; focus (simp only [hll, hd, hgn, hmg, q, Option.map_none, Option.isSome_none, Option.getD_none, jS7, SA, reduceAdd, reduceIte, reduceEqDiff, Nat.reduceBEq, reduceCtorEq]; (try go_unwrap; try simp only [hll, hd, hgn, hmg, q, Option.map_none, Option.isSome_none, Option.getD_none, jS7, RR, reduceCtorEq]))) | refine And.intro ?_ ?_)
  all_goals exact ⟨i + 1, (by first | rfl | (simp only [TT, jAF.kill, PV.kill, Nat.reduceLeDiff, reduceIte, Nat.le_refl, Nat.zero_le, Nat.not_le, Nat.lt_irrefl]; done) | (simp [jBE, jAZ, jAF.kill, PV.kill]; done)), (by first | rfl | (simp only [TT, jAF.kill, PV.kill, Nat.reduceLeDiff, reduceIte, Nat.le_refl, Nat.zero_le, Nat.not_le, Nat.lt_irrefl]; done) | (simp [jBE, jAZ, jAF.kill, PV.kill]; done)), ⟨by omega, hw⟩, by omega⟩
 ·rw [if_pos hc] at hw
  have q : decide (jBP r.tree = 0) = false := decide_eq_false hc
  generalize jBP r.tree = ec at *
  repeat' (first | exact clo | (exact Or.inr ⟨rfl, by decide⟩) | (refine sqI ?_; intros) | refine stp ?_ | (refine cnd rfl ?_ ?_ <;> intro hcond <;> (try contradiction) <;> try simp only [DD] at hcond) | (refine jAG ?_; intro hg; try simp only [hg]) | refine jAA E55 (h53) ?_ ?_ ?_ ?_ | refine jAA E20 (h29) ?_ ?_ ?_ ?_ | (refine saI ?_ ?_; intros) | (refine ari ?_; first | omega | (simp only [DD, LL] <;> omega) | (go_unwrap; omega) | (simp only [DD] at hg; omega)) | (refine stq ?_; focus (simp only [hll, hd, hgn, hmg, q, Option.map_none, Option.isSome_none, Option.getD_none, jS7, SA, reduceAdd, reduceIte, reduceEqDiff, Nat.reduceBEq, reduceCtorEq]; (try go_unwrap; try simp only [hll, hd, hgn, hmg, q, Option.map_none, Option.isSome_none, Option.getD_none, jS7, RR, reduceCtorEq]))) | refine And.intro ?_ ?_)
  all_goals (rw [hX, hw])
theorem E28 : Ent Tryz.prog 28 := ⟨Tryz.f28, Tryz.func28, by kernel_rfl, by kernel_rfl⟩
theorem E29 : Ent Tryz.prog 29 := ⟨Tryz.f29, Tryz.func29, by kernel_rfl, by kernel_rfl⟩
theorem E30 : Ent Tryz.prog 30 := ⟨Tryz.f30, Tryz.func30, by kernel_rfl, by kernel_rfl⟩
theorem V30 (r : Rl) (s : St) : jAB Tryz.prog G0 30 [rlP r, .jC2 none (.str s) 0] (.bool (decide (r.name = s))) := by
 refine jAB.jAT Tryz.func30 k30 mix (by simp [c30]) ?_
 simp only [c30, L30, CC, jBW, rlP]
 have hsb : ∀ a b : PV, sub none [a, b] 0 = a := fun _ _ => rfl
 repeat' (first | exact clo | (exact Or.inr ⟨rfl, by decide⟩) | (refine sqI ?_; intros) | refine stp ?_ | (refine cnd rfl ?_ ?_ <;> intro hcond <;> (try contradiction) <;> try simp only [DD] at hcond) | (refine jAG ?_; intro hg; try simp only [hg]) | (refine saI ?_ ?_; intros) | (refine ari ?_; first | omega | (simp only [DD, LL] <;> omega) | (go_unwrap; omega) | (simp only [DD] at hg; omega)) | (refine stq ?_; focus (simp only [cut, hsb, SA, reduceAdd, reduceIte, reduceEqDiff, Nat.reduceBEq, reduceCtorEq]; (try go_unwrap; try simp only [cut, hsb, RR, reduceCtorEq]))) | refine And.intro ?_ ?_)
def kHA (s : St) (rs : List Rl) : Int := match rs.findIdx? (fun r => decide (r.name = s)) with
 | some i => i
 | none => -1
theorem kCD {s : St} {rs : List Rl} {i : Nat} (h : i < rs.length) (hp : decide (rs[i].name = s) = true) (hn : ∀ j (h : j < rs.length), j < i -> decide (rs[j].name = s) = false) : kHA s rs = i := by
 have : rs.findIdx? (fun r => decide (r.name = s)) = some i := List.findIdx?_eq_some_iff_getElem.2 ⟨h, hp, fun j hj => by rw [hn j (by omega) hj]; simp⟩
 unfold kHA; rw [this]
theorem jR5 {s : St} {rs : List Rl} (hn : ∀ j (h : j < rs.length), decide (rs[j].name = s) = false) : kHA s rs = -1 := by
 have : rs.findIdx? (fun r => decide (r.name = s)) = none := List.findIdx?_eq_none_iff.2 fun x hx => by
  obtain ⟨j, hj, rfl⟩ := List.getElem_of_mem hx; exact hn j hj
 unfold kHA; rw [this]
theorem V29 (rs : List Rl) (s : St) (hl : rs.length <= 9223372036854775807) : jAB Tryz.prog G0 29 [jU6 rs, .fn 30 [] [.jC2 none (.str s) 0]] (.int .i64 (kHA s rs)) := by
 refine jAB.jAT Tryz.func29 k29 mix (by simp [c29]) ?_
 simp only [c29, L29, CC, jBW, jU6]
 have hlen : ((rs.map rlP).length : Nat) = rs.length := by simp
 repeat' (first | exact clo | (refine sqI ?_; intros) | refine stp ?_ | (refine cnd rfl ?_ ?_ <;> intro hcond <;> (try contradiction) <;> try simp only [DD] at hcond) | (refine jAG ?_; intro hg; try simp only [hg]) | (refine saI ?_ ?_; intros) | (refine ari ?_; first | omega | (simp only [DD, LL] <;> omega) | (go_unwrap; omega) | (simp only [DD] at hg; omega)) | (refine stq ?_; focus (simp only [hlen, SA, reduceAdd, reduceIte, reduceEqDiff, Nat.reduceBEq, reduceCtorEq]; (try go_unwrap; try simp only [hlen, RR, reduceCtorEq]))) | refine And.intro ?_ ?_)
 refine PW.loop (σ := Nat) [0, 1, 7, 8] (fun i => [jU6 rs, .fn 30 [] [.jC2 none (.str s) 0], .int .i64 rs.length, .int .i64 i]) (fun _ => []) (fun i => i <= rs.length ∧ ∀ j (h : j < rs.length), j < i -> decide (rs[j].name = s) = false) (fun i => rs.length - i) 0 ?_ rfl ⟨by omega, fun j _ h => by omega⟩ ?_
 ·simp only [SA, reduceAdd, reduceIte, reduceEqDiff, Nat.reduceBEq, reduceCtorEq]; rfl
 rintro i ⟨hi, hall⟩
 simp only [List.zip_cons_cons, List.zip_nil_left]
 rcases Nat.lt_or_ge i rs.length with h | h
 ·have hd : decide ((i : Int) < rs.length) = true := by simp only [decide_eq_true_eq]; omega
  have hgt : (rs.map rlP).getD i .junk = rlP rs[i] := by simp [List.getD, h]
  have hgx := V30 rs[i] s
  have hat : decide (rs[i].name = s) = true -> kHA s rs = i := fun hp => kCD h hp hall
  have hnx : decide (rs[i].name = s) = false -> ∀ j (h : j < rs.length), j < i + 1 -> decide (rs[j].name = s) = false := fun hp j hj hji => by
   rcases Nat.lt_or_ge j i with h' | h'
   ·exact hall j hj h'
   ·obtain rfl : j = i := by omega
    exact hp
  simp only [rlP] at hgt hgx
  generalize rs[i] = x at hgt hgx hat hnx
  generalize decide (x.name = s) = b at hgx hat hnx
  cases b
  ·repeat' (first | exact clo | (refine sqI ?_; intros) | refine stp ?_ | (refine cnd rfl ?_ ?_ <;> intro hcond <;> (try contradiction) <;> try simp only [DD] at hcond) | (refine jAG ?_; intro hg; try simp only [hg]) | refine jAA E30 (hgx) ?_ ?_ ?_ ?_ | (refine saI ?_ ?_; intros) | (refine ari ?_; first | omega | (simp only [DD, LL] <;> omega) | (go_unwrap; omega) | (simp only [DD] at hg; omega)) | (refine stq ?_; focus (simp only [hd, hgt, hlen, List.nil_append, List.cons_append, List.all_cons, SA, reduceAdd, reduceIte, reduceEqDiff, Nat.reduceBEq, reduceCtorEq]; (try go_unwrap; try simp only [hd, hgt, hlen, List.nil_append, List.cons_append, List.all_cons, RR, reduceCtorEq]))) | refine And.intro ?_ ?_)
   all_goals exact ⟨i + 1, rfl, ⟨by omega, hnx (by first | rfl | trivial)⟩, by omega⟩
  ·have := hat rfl
   repeat' (first | exact clo | (refine sqI ?_; intros) | refine stp ?_ | (refine cnd rfl ?_ ?_ <;> intro hcond <;> (try contradiction) <;> try simp only [DD] at hcond) | (refine jAG ?_; intro hg; try simp only [hg]) | refine jAA E30 (hgx) ?_ ?_ ?_ ?_ | (refine saI ?_ ?_; intros) | (refine ari ?_; first | omega | (simp only [DD, LL] <;> omega) | (go_unwrap; omega) | (simp only [DD] at hg; omega)) | (refine stq ?_; focus (simp only [hd, hgt, hlen, List.nil_append, List.cons_append, List.all_cons, SA, reduceAdd, reduceIte, reduceEqDiff, Nat.reduceBEq, reduceCtorEq]; (try go_unwrap; try simp only [hd, hgt, hlen, List.nil_append, List.cons_append, List.all_cons, RR, reduceCtorEq]))) | refine And.intro ?_ ?_)
   all_goals (rw [this])
 ·have hd : decide ((i : Int) < rs.length) = false := by simp only [decide_eq_false_iff_not]; omega
  have := jR5 (s := s) (rs := rs) (fun j hj => hall j hj (by omega))
  repeat' (first | exact clo | (refine sqI ?_; intros) | refine stp ?_ | (refine cnd rfl ?_ ?_ <;> intro hcond <;> (try contradiction) <;> try simp only [DD] at hcond) | (refine jAG ?_; intro hg; try simp only [hg]) | (refine saI ?_ ?_; intros) | (refine ari ?_; first | omega | (simp only [DD, LL] <;> omega) | (go_unwrap; omega) | (simp only [DD] at hg; omega)) | (refine stq ?_; focus (simp only [hd, hlen, SA, reduceAdd, reduceIte, reduceEqDiff, Nat.reduceBEq, reduceCtorEq]; (try go_unwrap; try simp only [hd, hlen, RR, reduceCtorEq]))) | refine And.intro ?_ ?_)
  all_goals (rw [this])
def edR (r : Rl) : Ed := ⟨r.name, jG0 r.tree⟩
theorem jZK {l : List Nd} (hc : jBP l = 0) : (jG0 l).length <= 256 := by
 have h1 := jC7 (jD0 (jBL l))
 have h2 := jGT l
 have h3 : (jD0 (jBL l)).length = (jBL l).length := List.length_mergeSort _
 have := (jGD hc).1
 unfold jG0; omega
theorem V28 (rs : List Rl) (hl : rs.length <= 64) (hr : ∀ r ∈ rs, RlF r ∧ jBP r.tree = 0) : jAB Tryz.prog G0 28 [jU6 rs] (.tup [txL (jAV (rs.map edR)).1, .int .i64 (jAV (rs.map edR)).2]) := by
 refine jAB.jAT Tryz.func28 k28 mix (by simp [c28]) ?_
 simp only [c28, L28, CC, jBW, jU6]
 have hlen : ((rs.map rlP).length : Nat) = rs.length := by simp
 have hrp : ∀ r : Rl, rlP r = .agg [.str r.name, .list (some 4) (r.tree.map ndP)] := fun _ => rfl
 repeat' (first | exact clo | (refine sqI ?_; intros) | refine stp ?_ | (refine cnd rfl ?_ ?_ <;> intro hcond <;> (try contradiction) <;> try simp only [DD] at hcond) | (refine jAG ?_; intro hg; try simp only [hg]) | (refine saI ?_ ?_; intros) | (refine ari ?_; first | omega | (simp only [DD, LL] <;> omega) | (go_unwrap; omega) | (simp only [DD] at hg; omega)) | (refine stq ?_; focus (simp only [hlen, SA, reduceAdd, reduceIte, reduceEqDiff, Nat.reduceBEq, reduceCtorEq]; (try go_unwrap; try simp only [hlen, RR, reduceCtorEq]))) | refine And.intro ?_ ?_)
 refine PW.own (some 2) 4 rfl ?_
 refine PW.jDV (σ := Nat) 1 (fun _ _ => rfl) [0, 4, 7, 8, 9] (fun i => [jU6 rs, .sl (some 2) 0 i, jU6 rs, .int .i64 rs.length, .int .i64 i])
  (fun i => [some (.row (some 2) (((rs.take i).map edR).map edP))]) (fun i => i <= rs.length) (fun i => rs.length - i) 0 ?_ (by first | rfl | simp) (by omega) ?_
 ·simp only [SA, reduceAdd, reduceIte, reduceEqDiff, Nat.reduceBEq, reduceCtorEq]; rfl
 intro i hi
 simp only [List.zip_cons_cons, List.zip_nil_left]
 have hRl : ((((rs.take i).map edR).map edP).length : Nat) = i := by simp; omega
 have hRt : (((rs.take i).map edR).map edP).take i = ((rs.take i).map edR).map edP := List.take_of_length_le (by rw [hRl]; exact Nat.le_refl _)
 rcases Nat.lt_or_ge i rs.length with h | h
 ·have hd : decide ((i : Int) < rs.length) = true := by simp only [decide_eq_true_eq]; omega
  obtain ⟨r, -, hn, hg⟩ := drop_at h
  have hgn := ((hg rlP).1).trans (hrp r)
  have hni : rs[i] = r := by rw [List.getElem?_eq_getElem h] at hn; exact Option.some.inj hn
  obtain ⟨hok, hc⟩ := hr r (List.mem_of_getElem? hn)
  have h34 := V8 r.tree hok.sz (jGD hc).1 hc
  have hst : ((rs.take (i + 1)).map edR).map edP = ((rs.take i).map edR).map edP ++ [.agg [.str r.name, .list none ((jG0 r.tree).map PV.str)]] := by
   rw [List.take_succ_eq_append_getElem h, hni, List.map_append, List.map_append]; rfl
  have b1 : (i + 1) * 40 <= 281474976710656 := by omega
  have hsc : ∀ (t : List UInt8) (ks : List PV), ∀ x ∈ [PV.str t, PV.list none ks], x.scalar = true := by
   intro t ks x hc; simp at hc; rcases hc with rfl | rfl <;> rfl
  generalize ((rs.take i).map edR).map edP = R at hRl hRt hst
  simp only [jFL] at h34
  generalize (jG0 r.tree).map PV.str = V at *
  repeat' (first | exact clo | exact hsc _ _ | exact (rfl : (some 2 : Sh) = some 2) | (exact Or.inr ⟨rfl, by decide⟩) | (refine sqI ?_; intros) | refine stp ?_ | (refine cnd rfl ?_ ?_ <;> intro hcond <;> (try contradiction) <;> try simp only [DD] at hcond) | (refine jAG ?_; intro hg; try simp only [hg]) | refine jAA E8 (h34) ?_ ?_ ?_ ?_ | (refine saI ?_ ?_; intros) | (refine ari ?_; first | omega | (simp only [DD, LL] <;> omega) | (go_unwrap; omega) | (simp only [DD] at hg; omega)) | (refine stq ?_; focus (simp only [hlen, hd, hgn, hRl, hRt, jS7, List.length_cons, List.length_nil, Nat.zero_add, SA, reduceAdd, reduceIte, reduceEqDiff, Nat.reduceBEq, reduceCtorEq]; (try go_unwrap; try simp only [hlen, hd, hgn, hRl, hRt, jS7, List.length_cons, List.length_nil, Nat.zero_add, RR, reduceCtorEq]))) | refine And.intro ?_ ?_)
  all_goals exact ⟨i + 1, (by first | rfl | (simp only [TT, jAF.kill, PV.kill, Nat.reduceLeDiff, reduceIte, Nat.le_refl, Nat.zero_le, Nat.not_le, Nat.lt_irrefl]; done) | (simp [jBE, jAZ, jAF.kill, PV.kill]; done)), (by rw [hst]; exact (by first | rfl | (simp only [TT, jAF.kill, PV.kill, Nat.reduceLeDiff, reduceIte, Nat.le_refl, Nat.zero_le, Nat.not_le, Nat.lt_irrefl]; done) | (simp [jBE, jAZ, jAF.kill, PV.kill]; done))), by omega, by omega⟩
 ·have hd : decide ((i : Int) < rs.length) = false := by simp only [decide_eq_false_iff_not]; omega
  have hi' : i = rs.length := by omega
  subst hi'
  rw [List.take_length] at hRl hRt ⊢
  have h94 := V12 (rs.map edR) (by simp; omega) (fun e he => by
   obtain ⟨r, hr', rfl⟩ := List.mem_map.1 he
   have := jZK (hr r hr').2
   show (jG0 r.tree).length <= _
   omega)
  generalize jAV (rs.map edR) = S at *
  simp only [edL] at h94
  repeat' (first | exact clo | (refine PW.stop (x := .seq (.region false (⟨some 23, none, .rd .mov [.tmp 4]⟩ :: _) _) _) ?_) | (refine sqI ?_; intros) | refine stp ?_ | (refine cnd rfl ?_ ?_ <;> intro hcond <;> (try contradiction) <;> try simp only [DD] at hcond) | (refine jAG ?_; intro hg; try simp only [hg]) | (refine saI ?_ ?_; intros) | (refine ari ?_; first | omega | (simp only [DD, LL] <;> omega) | (go_unwrap; omega) | (simp only [DD] at hg; omega)) | (refine stq ?_; focus (simp only [hlen, hd, SA, reduceAdd, reduceIte, reduceEqDiff, Nat.reduceBEq, reduceCtorEq]; (try go_unwrap; try simp only [hlen, hd, RR, reduceCtorEq]))) | refine And.intro ?_ ?_)
  refine ⟨?_⟩
  refine PW.frz 0 (.row (some 2) ((rs.map edR).map edP)) ?_ ?_ ?_
  ·rfl
  ·rfl
  simp only [SA, reduceAdd, reduceIte, reduceEqDiff, Nat.reduceBEq, reduceCtorEq, PV.frz, jAF.frz, jPF, jFC, hRl, hRt, Nat.le_refl, and_self, if_true]
  repeat' (first | exact clo | (refine sqI ?_; intros) | refine stp ?_ | (refine cnd rfl ?_ ?_ <;> intro hcond <;> (try contradiction) <;> try simp only [DD] at hcond) | (refine jAG ?_; intro hg; try simp only [hg]) | refine jAA E12 (h94) ?_ ?_ ?_ ?_ | (refine saI ?_ ?_; intros) | (refine ari ?_; first | omega | (simp only [DD, LL] <;> omega) | (go_unwrap; omega) | (simp only [DD] at hg; omega)) | (refine stq ?_; focus (simp only [SA, reduceAdd, reduceIte, reduceEqDiff, Nat.reduceBEq, reduceCtorEq]; (try go_unwrap; try simp only [RR, reduceCtorEq]))) | refine And.intro ?_ ?_)
end Go.Proofs.YthjkmhfiffojeaaGreatDoor
