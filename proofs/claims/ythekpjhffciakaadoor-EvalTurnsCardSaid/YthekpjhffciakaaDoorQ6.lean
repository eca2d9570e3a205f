import Derived.Test.YthekpjhffciakaaDoorProg
import Derived.KernelRfl
import Derived.Handy
import Derived.Shelf.Strings.Search1
import Derived.Shelf.Strings.Count
import Derived.Test.YthekpjhffciakaaDoorQ5
import Derived.Test.YthekpjhffciakaaDoorP4
namespace Go.Proofs.YthekpjhffciakaaDoor
open Go PG Go.Proofs
set_option linter.unusedSimpArgs false
set_option linter.unusedVariables false
set_option maxHeartbeats 4000000
set_option maxRecDepth 100000
variable {G : Globs}
theorem ndP1 (n : Nd) : ndP n = .agg [.int .i64 n.op, .int .i64 n.num, .str n.name, .list none (n.kids.map (PV.int .i64))] := rfl
theorem v42 (l : List Nd) (hl : l.length ≤ 256) (hne : l ≠ []) (hw : wfK l 0) (hkl : ∀ n ∈ l, n.kids.length ≤ 256) : VCalls Tryd.prog G 42 [treeP l] (.int .i64 (depthM l)) := by
  refine VCalls.of_PW Tryd.func42 k42 mix (by simp [c42]) ?_
  simp only [c42, L42, CC, argE, treeP]
  have hl0 : 0 < l.length := List.length_pos_iff.2 hne
  have hm1 : ((8 : Nat) : Int) * (l.length : Int) ≤ 281474976710656 := by omega
  have hm2 : (l.length : Int) ≤ 9223372036854775807 := by omega
  have hm3 : 0 ≤ (l.length : Int) := by omega
  repeat' (first | refine PW.seq ?_ | refine PW.block ?_ | refine PW.regionA ?_ | exact schedW_stop_i | ((first | refine PW.region ?_ | refine PW.regionQ ?_ | refine PW.exit ?_ | refine PW.ret ?_ | refine PW.skip ?_ | refine schedW_alt_i ?_ ?_ | refine schedW_done_i ?_); focus (simp only [List.length_map, hm1, hm2, hm3, Int.le_refl, SA, Nat.reduceAdd, reduceIte, Nat.reduceEqDiff, Nat.reduceBEq, reduceCtorEq]; (try go_unwrap; try simp only [List.length_map, hm1, hm2, hm3, Int.le_refl, RR, reduceCtorEq]))) | (refine PW.cond rfl ?_ ?_ <;> intro hcond <;> (try contradiction) <;> try simp only [DD] at hcond) | refine And.intro ?_ ?_ | exact Or.inr ⟨rfl, Nat.le_refl _⟩ | exact (fun h => Bool.noConfusion h) | omega | (simp only [DD, LL] <;> omega) | (go_unwrap; omega))
  refine PW.loopG (σ := Nat × List Int) 2 (fun _ _ => rfl) [3, 13, 14, 15] (fun s => [.sl none 1 l.length, .list (some 4) (l.map ndP), .int .i64 l.length, .int .i64 s.1])
    (fun s => [some (.var (some 1) (.agg [.list (some 4) (l.map ndP)])), some (.row none (rowV s.2 l.length))])
    (fun s => s.1 ≤ l.length ∧ s.2.length = s.1 ∧ (∀ x ∈ s.2, 0 ≤ x ∧ x ≤ s.1) ∧ wfK (l.drop s.1) s.1 ∧ depthsM l [] = depthsM (l.drop s.1) s.2) (fun s => l.length - s.1) (0, []) ?_ ?_ ⟨by simp, by simp, by simp, by simpa using hw, by simp⟩ ?_
  · simp only [SA, Nat.reduceAdd, reduceIte, Nat.reduceEqDiff, Nat.reduceBEq, reduceCtorEq, List.length_map, Int.toNat_natCast]; rfl
  · simp [rowV]
  rintro ⟨i, acc⟩ ⟨hi, hal, hb, hwf, hr⟩
  simp only at hi hal hb hwf hr
  simp only [List.zip_cons_cons, List.zip_nil_left]
  rcases Nat.lt_or_ge i l.length with h | h
  · obtain ⟨n, hd, hn, hg⟩ := drop_at h
    rw [hd] at hr hwf
    rw [depthsM] at hr
    obtain ⟨hwk, hwf⟩ := hwf
    have hd' : decide ((i : Int) < l.length) = true := by simp only [decide_eq_true_eq]; omega
    rw [rowV_M (by omega)]
    have hgn := ((hg ndP).1).trans (ndP1 n)
    have hkn := hkl n (List.mem_of_getElem? hn)
    repeat' (first | refine PW.seq ?_ | refine PW.block ?_ | refine PW.regionA ?_ | exact schedW_stop_i | ((first | refine PW.region ?_ | refine PW.regionQ ?_ | refine PW.exit ?_ | refine PW.ret ?_ | refine PW.skip ?_ | refine schedW_alt_i ?_ ?_ | refine schedW_done_i ?_); focus (simp only [hd', hgn, List.length_map, SA, Nat.reduceAdd, reduceIte, Nat.reduceEqDiff, Nat.reduceBEq, reduceCtorEq]; (try go_unwrap; try simp only [hd', hgn, List.length_map, RR, reduceCtorEq]))) | (refine PW.cond rfl ?_ ?_ <;> intro hcond <;> (try contradiction) <;> try simp only [DD] at hcond) | refine And.intro ?_ ?_ | exact Or.inr ⟨rfl, Nat.le_refl _⟩ | exact (fun h => Bool.noConfusion h) | omega | (simp only [DD, LL] <;> omega) | (go_unwrap; omega))
    refine PW.loop (σ := Nat × Int) [3, 4, 13, 14, 15, 21, 22, 23] (fun s => [.sl none 1 l.length, .int .i64 i, .list (some 4) (l.map ndP), .int .i64 l.length, .int .i64 i, .list none (n.kids.map (PV.int .i64)), .int .i64 n.kids.length, .int .i64 s.1])
      (fun s => [some (.var (some 1) (.agg [.list (some 4) (l.map ndP)])), some (.row none (rowM acc s.2 l.length)), some (.var (some 4) (.agg [.int .i64 n.op, .int .i64 n.num, .str n.name, .list none (n.kids.map (PV.int .i64))]))])
      (fun s => s.1 ≤ n.kids.length ∧ 0 ≤ s.2 ∧ s.2 ≤ i ∧ kidsMax acc n.kids 0 = kidsMax acc (n.kids.drop s.1) s.2) (fun s => n.kids.length - s.1) (0, 0) ?_ rfl ⟨by simp, by simp, by simp, by simp⟩ ?_
    · simp only [SA, Nat.reduceAdd, reduceIte, Nat.reduceEqDiff, Nat.reduceBEq, reduceCtorEq, List.length_map]; rfl
    rintro ⟨j, m⟩ ⟨hj, hm0, hmi, hk⟩
    simp only at hj hm0 hmi hk
    simp only [List.zip_cons_cons, List.zip_nil_left]
    rcases Nat.lt_or_ge j n.kids.length with h' | h'
    · obtain ⟨k, hkd, hkn', hkg⟩ := drop_at h'
      rw [hkd, kidsMax] at hk
      have hd2 : decide ((j : Int) < n.kids.length) = true := by simp only [decide_eq_true_eq]; omega
      obtain ⟨hk0, hki⟩ := hwk k (List.mem_of_getElem? hkn')
      have hkt : k.toNat < acc.length := by omega
      have ha := rowM_at acc m l.length
      rw [hal] at ha
      have hb' := rowM_lt m l.length hkt
      have hlen := rowM_len (m := m) (show acc.length < l.length by omega)
      have hset := rowM_set acc m (max m (acc.getD k.toNat 0)) l.length
      rw [hal] at hset
      have hgb := getD_bnd hb (by omega) k.toNat
      repeat' (first | refine PW.seq ?_ | refine PW.block ?_ | refine PW.regionA ?_ | exact schedW_stop_i | ((first | refine PW.region ?_ | refine PW.regionQ ?_ | refine PW.exit ?_ | refine PW.ret ?_ | refine PW.skip ?_ | refine schedW_alt_i ?_ ?_ | refine schedW_done_i ?_); focus (simp only [hd2, (hkg (PV.int .i64)).1, List.length_map, ha, hb', hlen, hset, SA, Nat.reduceAdd, reduceIte, Nat.reduceEqDiff, Nat.reduceBEq, reduceCtorEq]; (try go_unwrap; try simp only [hd2, (hkg (PV.int .i64)).1, List.length_map, ha, hb', hlen, hset, RR, reduceCtorEq]))) | (refine PW.cond rfl ?_ ?_ <;> intro hcond <;> (try contradiction) <;> try simp only [DD] at hcond) | refine And.intro ?_ ?_ | exact Or.inr ⟨rfl, Nat.le_refl _⟩ | exact (fun h => Bool.noConfusion h) | omega | (simp only [DD, LL] <;> omega) | (go_unwrap; omega))
      all_goals exact ⟨(j + 1, max m (acc.getD k.toNat 0)), rfl, rfl, ⟨h', by simp only; omega, by simp only; omega, hk⟩, by simp only; omega⟩
    · have hd2 : decide ((j : Int) < n.kids.length) = false := by simp only [decide_eq_false_iff_not]; omega
      rw [List.drop_eq_nil_of_le h', kidsMax] at hk
      have ha := rowM_at acc m l.length
      rw [hal] at ha
      have hlen := rowM_len (m := m) (show acc.length < l.length by omega)
      have hset := rowM_set acc m (m + 1) l.length
      rw [hal] at hset
      repeat' (first | refine PW.seq ?_ | refine PW.block ?_ | refine PW.regionA ?_ | exact schedW_stop_i | ((first | refine PW.region ?_ | refine PW.regionQ ?_ | refine PW.exit ?_ | refine PW.ret ?_ | refine PW.skip ?_ | refine schedW_alt_i ?_ ?_ | refine schedW_done_i ?_); focus (simp only [hd2, ha, hlen, hset, SA, Nat.reduceAdd, reduceIte, Nat.reduceEqDiff, Nat.reduceBEq, reduceCtorEq]; (try go_unwrap; try simp only [hd2, ha, hlen, hset, RR, reduceCtorEq]))) | (refine PW.cond rfl ?_ ?_ <;> intro hcond <;> (try contradiction) <;> try simp only [DD] at hcond) | refine And.intro ?_ ?_ | exact Or.inr ⟨rfl, Nat.le_refl _⟩ | exact (fun h => Bool.noConfusion h) | omega | (simp only [DD, LL] <;> omega) | (go_unwrap; omega))
      refine ⟨(i + 1, acc ++ [m + 1]), (by first | rfl | (simp only [TT, MObj.kill, PV.kill, Nat.reduceLeDiff, reduceIte, Nat.le_refl, Nat.zero_le, Nat.not_le, Nat.lt_irrefl]; done) | (simp [trimE, trimM, MObj.kill, PV.kill]; done)), ?_, ⟨h, by simp [hal], ?_, hwf, by rw [hr, hk]⟩, by simp only; omega⟩
      · rw [← rowM_V]; exact (by first | rfl | (simp only [TT, MObj.kill, PV.kill, Nat.reduceLeDiff, reduceIte, Nat.le_refl, Nat.zero_le, Nat.not_le, Nat.lt_irrefl]; done) | (simp [trimE, trimM, MObj.kill, PV.kill]; done))
      · intro x hx
        rcases List.mem_append.1 hx with hx | hx
        · have := hb x hx; simp only; omega
        · simp at hx; subst hx; simp only; omega
  · have hd' : decide ((i : Int) < l.length) = false := by simp only [decide_eq_false_iff_not]; omega
    rw [List.drop_eq_nil_of_le h, depthsM] at hr
    have hlast : (rowV acc l.length)[l.length - 1]? = some (.int .i64 (acc.getD (l.length - 1) 0)) := rowV_lt _ (by omega)
    have hti : ((l.length : Int) - 1).toNat = l.length - 1 := by omega
    repeat' (first | refine PW.seq ?_ | refine PW.block ?_ | refine PW.regionA ?_ | exact schedW_stop_i | ((first | refine PW.region ?_ | refine PW.regionQ ?_ | refine PW.exit ?_ | refine PW.ret ?_ | refine PW.skip ?_ | refine schedW_alt_i ?_ ?_ | refine schedW_done_i ?_); focus (simp only [hd', hti, hlast, List.length_map, SA, Nat.reduceAdd, reduceIte, Nat.reduceEqDiff, Nat.reduceBEq, reduceCtorEq]; (try go_unwrap; try simp only [hd', hti, hlast, List.length_map, RR, reduceCtorEq]))) | (refine PW.cond rfl ?_ ?_ <;> intro hcond <;> (try contradiction) <;> try simp only [DD] at hcond) | refine And.intro ?_ ?_ | exact Or.inr ⟨rfl, Nat.le_refl _⟩ | exact (fun h => Bool.noConfusion h) | omega | (simp only [DD, LL] <;> omega) | (go_unwrap; omega))
    · exact .inl ⟨rfl, rfl⟩
    · rw [depthM, hr]
end Go.Proofs.YthekpjhffciakaaDoor

namespace Go.Proofs.YthekpjhffciakaaDoor
open Go PG Go.Proofs
set_option linter.unusedSimpArgs false
set_option linter.unusedVariables false
set_option maxHeartbeats 4000000
set_option maxRecDepth 100000
variable {G : Globs}
def kidsStep (i : Nat) : List Int → List Bool → Option (List Bool)
  | [], t => some t
  | k :: ks, t => if k < 0 ∨ (i : Int) ≤ k ∨ t.getD k.toNat false = true then none else kidsStep i ks (t.set k.toNat true)
def checkNodes : List Nd → Nat → List Bool → Except Int (List Bool)
  | [], _, t => .ok t
  | n :: ns, i, t => if formE n ≠ 0 then .error (formE n) else
    match kidsStep i n.kids t with
    | none => .error 8
    | some t' => if restE n ≠ 0 then .error (restE n) else checkNodes ns (i + 1) t'
def checkM (l : List Nd) : Int :=
  if l.length = 0 then 10 else if 256 < l.length then 5 else
  match checkNodes l 0 (List.replicate l.length false) with
  | .error e => e
  | .ok t => if (t.take (l.length - 1)).contains false = true then 3 else if 16 < depthM l then 14 else 0
theorem kidsStep_len {i : Nat} : ∀ {ks : List Int} {t t' : List Bool}, kidsStep i ks t = some t' → t'.length = t.length ∧ ∀ k ∈ ks, 0 ≤ k ∧ k < (i : Int)
  | [], t, t', h => by simp [kidsStep] at h; simp [h]
  | k :: ks, t, t', h => by
    unfold kidsStep at h
    split at h
    · cases h
    · rename_i hk
      obtain ⟨h1, h2⟩ := kidsStep_len h
      refine ⟨by rw [h1]; simp, fun x hx => ?_⟩
      rcases List.mem_cons.1 hx with rfl | hx
      · omega
      · exact h2 x hx
theorem kidsTab_le (i : Nat) : kidsTab.getD i 0 ≤ 3 := by
  by_cases h : i < 10
  · have : ∀ j, j < 10 → kidsTab.getD j 0 ≤ 3 := by decide
    exact this i h
  · have hl : kidsTab.length = 10 := rfl
    rw [List.getD_eq_getElem?_getD, List.getElem?_eq_none (by omega)]; simp
theorem formE_ok {n : Nd} (h : formE n = 0) : 0 ≤ n.op ∧ n.op ≤ 9 ∧ (n.kids.length : Int) = kidsTab.getD n.op.toNat 0 ∧ n.kids.length ≤ 3 := by
  unfold formE at h
  split at h
  · cases h
  · split at h
    · cases h
    · rename_i h1 h2
      have h3 := kidsTab_le n.op.toNat
      simp only [ne_eq, Decidable.not_not] at h2
      omega
theorem checkNodes_ok : ∀ {ns : List Nd} {i : Nat} {t t' : List Bool}, checkNodes ns i t = .ok t' → t'.length = t.length ∧ wfK ns i ∧ ∀ n ∈ ns, formE n = 0 ∧ restE n = 0
  | [], i, t, t', h => by simp [checkNodes] at h; simp [h, wfK]
  | n :: ns, i, t, t', h => by
    unfold checkNodes at h
    split at h
    · cases h
    · rename_i hf
      split at h
      · cases h
      · rename_i t1 hk
        split at h
        · cases h
        · rename_i hr
          obtain ⟨h1, h2, h3⟩ := checkNodes_ok h
          obtain ⟨h4, h5⟩ := kidsStep_len hk
          refine ⟨by rw [h1, h4], ⟨h5, h2⟩, fun x hx => ?_⟩
          rcases List.mem_cons.1 hx with rfl | hx
          · exact ⟨by omega, by omega⟩
          · exact h3 x hx
theorem v29 (hG : HasKids G) (l : List Nd) (hl : l.length ≤ 9223372036854775807) (hs : ∀ n ∈ l, n.name.length ≤ 9223372036854775807 ∧ n.kids.length ≤ 9223372036854775807) : VCalls Tryd.prog G 29 [treeP l] (.int .i64 (checkM l)) := by
  refine VCalls.of_PW Tryd.func29 k29 mix (by simp [c29]) ?_
  simp only [c29, L29, CC, argE, treeP]
  by_cases h0 : l.length = 0
  · have hd : decide ((l.length : Int) = 0) = true := by simp only [decide_eq_true_eq]; omega
    repeat' (first | refine PW.seq ?_ | refine PW.block ?_ | refine PW.regionA ?_ | exact schedW_stop_i | ((first | refine PW.region ?_ | refine PW.regionQ ?_ | refine PW.exit ?_ | refine PW.ret ?_ | refine PW.skip ?_ | refine schedW_alt_i ?_ ?_ | refine schedW_done_i ?_); focus (simp only [hd, List.length_map, SA, Nat.reduceAdd, reduceIte, Nat.reduceEqDiff, Nat.reduceBEq, reduceCtorEq]; (try go_unwrap; try simp only [hd, List.length_map, RR, reduceCtorEq]))) | (refine PW.cond rfl ?_ ?_ <;> intro hcond <;> (try contradiction) <;> try simp only [DD] at hcond) | refine And.intro ?_ ?_ | exact Or.inr ⟨rfl, Nat.le_refl _⟩ | exact (fun h => Bool.noConfusion h) | omega | (simp only [DD, LL] <;> omega) | (go_unwrap; omega))
    rw [checkM, if_pos h0]
  have hd0 : decide ((l.length : Int) = 0) = false := by simp only [decide_eq_false_iff_not]; omega
  by_cases h256 : 256 < l.length
  · have hd1 : decide (256 < (l.length : Int)) = true := by simp only [decide_eq_true_eq]; omega
    repeat' (first | refine PW.seq ?_ | refine PW.block ?_ | refine PW.regionA ?_ | exact schedW_stop_i | ((first | refine PW.region ?_ | refine PW.regionQ ?_ | refine PW.exit ?_ | refine PW.ret ?_ | refine PW.skip ?_ | refine schedW_alt_i ?_ ?_ | refine schedW_done_i ?_); focus (simp only [hd0, hd1, List.length_map, SA, Nat.reduceAdd, reduceIte, Nat.reduceEqDiff, Nat.reduceBEq, reduceCtorEq]; (try go_unwrap; try simp only [hd0, hd1, List.length_map, RR, reduceCtorEq]))) | (refine PW.cond rfl ?_ ?_ <;> intro hcond <;> (try contradiction) <;> try simp only [DD] at hcond) | refine And.intro ?_ ?_ | exact Or.inr ⟨rfl, Nat.le_refl _⟩ | exact (fun h => Bool.noConfusion h) | omega | (simp only [DD, LL] <;> omega) | (go_unwrap; omega))
    rw [checkM, if_neg h0, if_pos h256]
  have hd1 : decide (256 < (l.length : Int)) = false := by simp only [decide_eq_false_iff_not]; omega
  have hm1 : ((1 : Nat) : Int) * (l.length : Int) ≤ 281474976710656 := by omega
  have hm2 : (l.length : Int) ≤ 9223372036854775807 := by omega
  have hm3 : 0 ≤ (l.length : Int) := by omega
  repeat' (first | refine PW.seq ?_ | refine PW.block ?_ | refine PW.regionA ?_ | exact schedW_stop_i | ((first | refine PW.region ?_ | refine PW.regionQ ?_ | refine PW.exit ?_ | refine PW.ret ?_ | refine PW.skip ?_ | refine schedW_alt_i ?_ ?_ | refine schedW_done_i ?_); focus (simp only [hd0, hd1, List.length_map, hm1, hm2, hm3, Int.le_refl, SA, Nat.reduceAdd, reduceIte, Nat.reduceEqDiff, Nat.reduceBEq, reduceCtorEq]; (try go_unwrap; try simp only [hd0, hd1, List.length_map, hm1, hm2, hm3, Int.le_refl, RR, reduceCtorEq]))) | (refine PW.cond rfl ?_ ?_ <;> intro hcond <;> (try contradiction) <;> try simp only [DD] at hcond) | refine And.intro ?_ ?_ | exact Or.inr ⟨rfl, Nat.le_refl _⟩ | exact (fun h => Bool.noConfusion h) | omega | (simp only [DD, LL] <;> omega) | (go_unwrap; omega))
  have hC : checkM l = (match checkNodes l 0 (List.replicate l.length false) with
    | .error e => e
    | .ok t => if (t.take (l.length - 1)).contains false = true then 3 else if 16 < depthM l then 14 else 0) := by rw [checkM, if_neg h0, if_neg h256]
  refine PW.loopG (σ := Nat × List Bool) 2 (fun _ _ => rfl) [1, 3, 25, 26, 27] (fun s => [.ref 0 0, .sl none 1 l.length, .list (some 4) (l.map ndP), .int .i64 l.length, .int .i64 s.1])
    (fun s => [some (.var (some 1) (.agg [.list (some 4) (l.map ndP)])), some (.row none (s.2.map PV.bool))])
    (fun s => s.1 ≤ l.length ∧ s.2.length = l.length ∧ checkNodes l 0 (List.replicate l.length false) = checkNodes (l.drop s.1) s.1 s.2) (fun s => l.length - s.1) (0, List.replicate l.length false) ?_ ?_ ⟨by simp, by simp, by simp⟩ ?_
  · simp only [SA, Nat.reduceAdd, reduceIte, Nat.reduceEqDiff, Nat.reduceBEq, reduceCtorEq, List.length_map, Int.toNat_natCast]; rfl
  · simp
  rintro ⟨i, t⟩ ⟨hi, htl, hr⟩
  simp only at hi htl hr
  simp only [List.zip_cons_cons, List.zip_nil_left]
  rcases Nat.lt_or_ge i l.length with h | h
  · obtain ⟨n, hd, hn, hg⟩ := drop_at h
    rw [hd, checkNodes] at hr
    have hd' : decide ((i : Int) < l.length) = true := by simp only [decide_eq_true_eq]; omega
    have hgn := ((hg ndP).1).trans (ndP1 n)
    have hsn := hs n (List.mem_of_getElem? hn)
    have h60 := v60 hG n hsn.1
    rw [ndP1] at h60
    by_cases hf : formE n = 0
    · rw [if_neg (by omega)] at hr
      have hf' : decide (formE n = 0) = true := by simpa using hf
      repeat' (first | refine PW.seq ?_ | refine PW.block ?_ | refine PW.regionA ?_ | exact schedW_stop_i | ((first | refine PW.region ?_ | refine PW.regionQ ?_ | refine PW.exit ?_ | refine PW.ret ?_ | refine PW.skip ?_ | refine schedW_alt_i ?_ ?_ | refine schedW_done_i ?_); focus (simp only [hd', hgn, hf', List.length_map, SA, Nat.reduceAdd, reduceIte, Nat.reduceEqDiff, Nat.reduceBEq, reduceCtorEq]; (try go_unwrap; try simp only [hd', hgn, hf', List.length_map, RR, reduceCtorEq]))) | (refine PW.cond rfl ?_ ?_ <;> intro hcond <;> (try contradiction) <;> try simp only [DD] at hcond) | (apply goCall_V e60; (case hV => (simp only [hd', hgn, hf', List.length_map, SA, Nat.reduceAdd, reduceIte, Nat.reduceEqDiff, Nat.reduceBEq, reduceCtorEq]; (try go_unwrap; try simp only [hd', hgn, hf', List.length_map, RR, reduceCtorEq]); exact h60)); (try (case hs => rfl)); (try (case hf => first | exact Or.inl rfl | exact Or.inr ⟨rfl, rfl⟩ | (refine Or.inl ?_; simp only [hd', hgn, hf', List.length_map, SA, Nat.reduceAdd, reduceIte, Nat.reduceEqDiff, Nat.reduceBEq, reduceCtorEq]; done) | (refine Or.inr ⟨rfl, ?_⟩; simp only [hd', hgn, hf', List.length_map, SA, Nat.reduceAdd, reduceIte, Nat.reduceEqDiff, Nat.reduceBEq, reduceCtorEq]; done))); all_goals (simp only [hd', hgn, hf', List.length_map, SA, Nat.reduceAdd, reduceIte, Nat.reduceEqDiff, Nat.reduceBEq, reduceCtorEq]; (try go_unwrap; try simp only [hd', hgn, hf', List.length_map, RR, reduceCtorEq]))) | refine And.intro ?_ ?_ | exact Or.inr ⟨rfl, Nat.le_refl _⟩ | exact (fun h => Bool.noConfusion h) | omega | (simp only [DD, LL] <;> omega) | (go_unwrap; omega))
      refine PW.loop (σ := Nat × List Bool) [1, 3, 4, 7, 25, 26, 27, 41, 42, 43] (fun s => [.ref 0 0, .sl none 1 l.length, .int .i64 i, .int .i64 (restE n), .list (some 4) (l.map ndP), .int .i64 l.length, .int .i64 i, .list none (n.kids.map (PV.int .i64)), .int .i64 n.kids.length, .int .i64 s.1])
        (fun s => [some (.var (some 1) (.agg [.list (some 4) (l.map ndP)])), some (.row none (s.2.map PV.bool)), some (.var (some 4) (.agg [.int .i64 n.op, .int .i64 n.num, .str n.name, .list none (n.kids.map (PV.int .i64))]))])
        (fun s => s.1 ≤ n.kids.length ∧ s.2.length = l.length ∧ kidsStep i n.kids t = kidsStep i (n.kids.drop s.1) s.2) (fun s => n.kids.length - s.1) (0, t) ?_ rfl ⟨by simp, htl, by simp⟩ ?_
      · simp only [SA, Nat.reduceAdd, reduceIte, Nat.reduceEqDiff, Nat.reduceBEq, reduceCtorEq, List.length_map]; rfl
      rintro ⟨j, u⟩ ⟨hj, hul, hk⟩
      simp only at hj hul hk
      simp only [List.zip_cons_cons, List.zip_nil_left]
      rcases Nat.lt_or_ge j n.kids.length with h' | h'
      · obtain ⟨k, hkd, hkn', hkg⟩ := drop_at h'
        rw [hkd, kidsStep] at hk
        have hd2 : decide ((j : Int) < n.kids.length) = true := by simp only [decide_eq_true_eq]; omega
        by_cases hk1 : k < 0 ∨ (i : Int) ≤ k
        · have hd3 : (decide (k < 0) || decide ((i : Int) ≤ k)) = true := by simpa using hk1
          have hb : k < 0 ∨ (i : Int) ≤ k ∨ u.getD k.toNat false = true := hk1.imp id Or.inl
          rw [if_pos hb] at hk
          rw [hk] at hr
          repeat' (first | refine PW.seq ?_ | refine PW.block ?_ | refine PW.regionA ?_ | exact schedW_stop_i | ((first | refine PW.region ?_ | refine PW.regionQ ?_ | refine PW.exit ?_ | refine PW.ret ?_ | refine PW.skip ?_ | refine schedW_alt_i ?_ ?_ | refine schedW_done_i ?_); focus (simp only [hd2, (hkg (PV.int .i64)).1, List.length_map, hd3, SA, Nat.reduceAdd, reduceIte, Nat.reduceEqDiff, Nat.reduceBEq, reduceCtorEq]; (try go_unwrap; try simp only [hd2, (hkg (PV.int .i64)).1, List.length_map, hd3, RR, reduceCtorEq]))) | (refine PW.cond rfl ?_ ?_ <;> intro hcond <;> (try contradiction) <;> try simp only [DD] at hcond) | refine And.intro ?_ ?_ | exact Or.inr ⟨rfl, Nat.le_refl _⟩ | exact (fun h => Bool.noConfusion h) | omega | (simp only [DD, LL] <;> omega) | (go_unwrap; omega))
          all_goals (first | (rw [hC, hr]; done) | (clear hG hC hr hgn h60; simp_all; done))
        · have hd3 : (decide (k < 0) || decide ((i : Int) ≤ k)) = false := by simpa using hk1
          have hku : k.toNat < u.length := by omega
          have hug : (u.map PV.bool)[k.toNat]? = some (.bool (u.getD k.toNat false)) := by simp [List.getD, hku]
          have hus : (u.map PV.bool).set k.toNat (.bool true) = (u.set k.toNat true).map PV.bool := by rw [List.map_set]
          cases htk : u.getD k.toNat false with
          | true =>
            rw [if_pos (.inr (.inr htk))] at hk
            rw [hk] at hr
            rw [htk] at hug
            repeat' (first | refine PW.seq ?_ | refine PW.block ?_ | refine PW.regionA ?_ | exact schedW_stop_i | ((first | refine PW.region ?_ | refine PW.regionQ ?_ | refine PW.exit ?_ | refine PW.ret ?_ | refine PW.skip ?_ | refine schedW_alt_i ?_ ?_ | refine schedW_done_i ?_); focus (simp only [hd2, (hkg (PV.int .i64)).1, List.length_map, hd3, hug, SA, Nat.reduceAdd, reduceIte, Nat.reduceEqDiff, Nat.reduceBEq, reduceCtorEq]; (try go_unwrap; try simp only [hd2, (hkg (PV.int .i64)).1, List.length_map, hd3, hug, RR, reduceCtorEq]))) | (refine PW.cond rfl ?_ ?_ <;> intro hcond <;> (try contradiction) <;> try simp only [DD] at hcond) | refine And.intro ?_ ?_ | exact Or.inr ⟨rfl, Nat.le_refl _⟩ | exact (fun h => Bool.noConfusion h) | omega | (simp only [DD, LL] <;> omega) | (go_unwrap; omega))
            rw [hC, hr]
          | false =>
            rw [if_neg (by rw [htk]; simpa using hk1)] at hk
            rw [htk] at hug
            repeat' (first | refine PW.seq ?_ | refine PW.block ?_ | refine PW.regionA ?_ | exact schedW_stop_i | ((first | refine PW.region ?_ | refine PW.regionQ ?_ | refine PW.exit ?_ | refine PW.ret ?_ | refine PW.skip ?_ | refine schedW_alt_i ?_ ?_ | refine schedW_done_i ?_); focus (simp only [hd2, (hkg (PV.int .i64)).1, List.length_map, hd3, hug, hus, SA, Nat.reduceAdd, reduceIte, Nat.reduceEqDiff, Nat.reduceBEq, reduceCtorEq]; (try go_unwrap; try simp only [hd2, (hkg (PV.int .i64)).1, List.length_map, hd3, hug, hus, RR, reduceCtorEq]))) | (refine PW.cond rfl ?_ ?_ <;> intro hcond <;> (try contradiction) <;> try simp only [DD] at hcond) | refine And.intro ?_ ?_ | exact Or.inr ⟨rfl, Nat.le_refl _⟩ | exact (fun h => Bool.noConfusion h) | omega | (simp only [DD, LL] <;> omega) | (go_unwrap; omega))
            exact ⟨(j + 1, u.set k.toNat true), rfl, rfl, ⟨h', by simpa using hul, hk⟩, by simp only; omega⟩
      · have hd2 : decide ((j : Int) < n.kids.length) = false := by simp only [decide_eq_false_iff_not]; omega
        rw [List.drop_eq_nil_of_le h', kidsStep] at hk
        rw [hk] at hr
        by_cases hre : restE n = 0
        · simp only [hre, ne_eq, not_true_eq_false, if_false] at hr
          have hre' : decide (restE n = 0) = true := by simpa using hre
          repeat' (first | refine PW.seq ?_ | refine PW.block ?_ | refine PW.regionA ?_ | exact schedW_stop_i | ((first | refine PW.region ?_ | refine PW.regionQ ?_ | refine PW.exit ?_ | refine PW.ret ?_ | refine PW.skip ?_ | refine schedW_alt_i ?_ ?_ | refine schedW_done_i ?_); focus (simp only [hd2, hre', SA, Nat.reduceAdd, reduceIte, Nat.reduceEqDiff, Nat.reduceBEq, reduceCtorEq]; (try go_unwrap; try simp only [hd2, hre', RR, reduceCtorEq]))) | (refine PW.cond rfl ?_ ?_ <;> intro hcond <;> (try contradiction) <;> try simp only [DD] at hcond) | refine And.intro ?_ ?_ | exact Or.inr ⟨rfl, Nat.le_refl _⟩ | exact (fun h => Bool.noConfusion h) | omega | (simp only [DD, LL] <;> omega) | (go_unwrap; omega))
          exact ⟨(i + 1, u), (by first | rfl | (simp only [TT, MObj.kill, PV.kill, Nat.reduceLeDiff, reduceIte, Nat.le_refl, Nat.zero_le, Nat.not_le, Nat.lt_irrefl]; done) | (simp [trimE, trimM, MObj.kill, PV.kill]; done)), (by first | rfl | (simp only [TT, MObj.kill, PV.kill, Nat.reduceLeDiff, reduceIte, Nat.le_refl, Nat.zero_le, Nat.not_le, Nat.lt_irrefl]; done) | (simp [trimE, trimM, MObj.kill, PV.kill]; done)), ⟨h, hul, hr⟩, by simp only; omega⟩
        · simp only [hre, ne_eq, not_false_eq_true, if_true] at hr
          have hre' : decide (restE n = 0) = false := by simpa using hre
          repeat' (first | refine PW.seq ?_ | refine PW.block ?_ | refine PW.regionA ?_ | exact schedW_stop_i | ((first | refine PW.region ?_ | refine PW.regionQ ?_ | refine PW.exit ?_ | refine PW.ret ?_ | refine PW.skip ?_ | refine schedW_alt_i ?_ ?_ | refine schedW_done_i ?_); focus (simp only [hd2, hre', SA, Nat.reduceAdd, reduceIte, Nat.reduceEqDiff, Nat.reduceBEq, reduceCtorEq]; (try go_unwrap; try simp only [hd2, hre', RR, reduceCtorEq]))) | (refine PW.cond rfl ?_ ?_ <;> intro hcond <;> (try contradiction) <;> try simp only [DD] at hcond) | refine And.intro ?_ ?_ | exact Or.inr ⟨rfl, Nat.le_refl _⟩ | exact (fun h => Bool.noConfusion h) | omega | (simp only [DD, LL] <;> omega) | (go_unwrap; omega))
          rw [hC, hr]
    · rw [if_pos (by omega)] at hr
      have hf' : decide (formE n = 0) = false := by simpa using hf
      repeat' (first | refine PW.seq ?_ | refine PW.block ?_ | refine PW.regionA ?_ | exact schedW_stop_i | ((first | refine PW.region ?_ | refine PW.regionQ ?_ | refine PW.exit ?_ | refine PW.ret ?_ | refine PW.skip ?_ | refine schedW_alt_i ?_ ?_ | refine schedW_done_i ?_); focus (simp only [hd', hgn, hf', List.length_map, SA, Nat.reduceAdd, reduceIte, Nat.reduceEqDiff, Nat.reduceBEq, reduceCtorEq]; (try go_unwrap; try simp only [hd', hgn, hf', List.length_map, RR, reduceCtorEq]))) | (refine PW.cond rfl ?_ ?_ <;> intro hcond <;> (try contradiction) <;> try simp only [DD] at hcond) | (apply goCall_V e60; (case hV => (simp only [hd', hgn, hf', List.length_map, SA, Nat.reduceAdd, reduceIte, Nat.reduceEqDiff, Nat.reduceBEq, reduceCtorEq]; (try go_unwrap; try simp only [hd', hgn, hf', List.length_map, RR, reduceCtorEq]); exact h60)); (try (case hs => rfl)); (try (case hf => first | exact Or.inl rfl | exact Or.inr ⟨rfl, rfl⟩ | (refine Or.inl ?_; simp only [hd', hgn, hf', List.length_map, SA, Nat.reduceAdd, reduceIte, Nat.reduceEqDiff, Nat.reduceBEq, reduceCtorEq]; done) | (refine Or.inr ⟨rfl, ?_⟩; simp only [hd', hgn, hf', List.length_map, SA, Nat.reduceAdd, reduceIte, Nat.reduceEqDiff, Nat.reduceBEq, reduceCtorEq]; done))); all_goals (simp only [hd', hgn, hf', List.length_map, SA, Nat.reduceAdd, reduceIte, Nat.reduceEqDiff, Nat.reduceBEq, reduceCtorEq]; (try go_unwrap; try simp only [hd', hgn, hf', List.length_map, RR, reduceCtorEq]))) | refine And.intro ?_ ?_ | exact Or.inr ⟨rfl, Nat.le_refl _⟩ | exact (fun h => Bool.noConfusion h) | omega | (simp only [DD, LL] <;> omega) | (go_unwrap; omega))
      rw [hC, hr]
  · have hd' : decide ((i : Int) < l.length) = false := by simp only [decide_eq_false_iff_not]; omega
    rw [List.drop_eq_nil_of_le h, checkNodes] at hr
    obtain ⟨-, hwf, hall⟩ := checkNodes_ok hr
    have h42 := v42 (G := G) l (by omega) (by intro hh; simp [hh] at h0) hwf (fun n hn => by have := (formE_ok (hall n hn).1).2.2.2; omega)
    simp only [treeP] at h42
    have h61 := v61 (G := G) (t.take (l.length - 1)) false (by rw [List.length_take]; omega)
    rw [List.map_take] at h61
    have hti : ((l.length : Int) - 1).toNat = l.length - 1 := by omega
    rw [hr] at hC
    simp only at hC
    cases hct : (t.take (l.length - 1)).contains false with
    | true =>
      rw [if_pos hct] at hC
      rw [hct] at h61
      repeat' (first | refine PW.seq ?_ | refine PW.block ?_ | refine PW.regionA ?_ | exact schedW_stop_i | ((first | refine PW.region ?_ | refine PW.regionQ ?_ | refine PW.exit ?_ | refine PW.ret ?_ | refine PW.skip ?_ | refine schedW_alt_i ?_ ?_ | refine schedW_done_i ?_); focus (simp only [hd', hti, List.length_map, htl, Nat.sub_le, SA, Nat.reduceAdd, reduceIte, Nat.reduceEqDiff, Nat.reduceBEq, reduceCtorEq]; (try go_unwrap; try simp only [hd', hti, List.length_map, htl, Nat.sub_le, RR, reduceCtorEq]))) | (refine PW.cond rfl ?_ ?_ <;> intro hcond <;> (try contradiction) <;> try simp only [DD] at hcond) | (apply goCall_V e61; (case hV => (simp only [hd', hti, List.length_map, htl, Nat.sub_le, SA, Nat.reduceAdd, reduceIte, Nat.reduceEqDiff, Nat.reduceBEq, reduceCtorEq]; (try go_unwrap; try simp only [hd', hti, List.length_map, htl, Nat.sub_le, RR, reduceCtorEq]); exact h61)); (try (case hs => rfl)); (try (case hf => first | exact Or.inl rfl | exact Or.inr ⟨rfl, rfl⟩ | (refine Or.inl ?_; simp only [hd', hti, List.length_map, htl, Nat.sub_le, SA, Nat.reduceAdd, reduceIte, Nat.reduceEqDiff, Nat.reduceBEq, reduceCtorEq]; done) | (refine Or.inr ⟨rfl, ?_⟩; simp only [hd', hti, List.length_map, htl, Nat.sub_le, SA, Nat.reduceAdd, reduceIte, Nat.reduceEqDiff, Nat.reduceBEq, reduceCtorEq]; done))); all_goals (simp only [hd', hti, List.length_map, htl, Nat.sub_le, SA, Nat.reduceAdd, reduceIte, Nat.reduceEqDiff, Nat.reduceBEq, reduceCtorEq]; (try go_unwrap; try simp only [hd', hti, List.length_map, htl, Nat.sub_le, RR, reduceCtorEq]))) | refine And.intro ?_ ?_ | exact Or.inr ⟨rfl, Nat.le_refl _⟩ | exact (fun h => Bool.noConfusion h) | omega | (simp only [DD, LL] <;> omega) | (go_unwrap; omega))
      rw [hC]
    | false =>
      rw [if_neg (by rw [hct]; simp)] at hC
      rw [hct] at h61
      rw [hC]
      repeat' (first | refine PW.seq ?_ | refine PW.block ?_ | refine PW.regionA ?_ | exact schedW_stop_i | ((first | refine PW.region ?_ | refine PW.regionQ ?_ | refine PW.exit ?_ | refine PW.ret ?_ | refine PW.skip ?_ | refine schedW_alt_i ?_ ?_ | refine schedW_done_i ?_); focus (simp only [hd', hti, List.length_map, htl, Nat.sub_le, SA, Nat.reduceAdd, reduceIte, Nat.reduceEqDiff, Nat.reduceBEq, reduceCtorEq]; (try go_unwrap; try simp only [hd', hti, List.length_map, htl, Nat.sub_le, RR, reduceCtorEq]))) | (refine PW.cond rfl ?_ ?_ <;> intro hcond <;> (try contradiction) <;> try simp only [DD] at hcond) | (apply goCall_V e61; (case hV => (simp only [hd', hti, List.length_map, htl, Nat.sub_le, SA, Nat.reduceAdd, reduceIte, Nat.reduceEqDiff, Nat.reduceBEq, reduceCtorEq]; (try go_unwrap; try simp only [hd', hti, List.length_map, htl, Nat.sub_le, RR, reduceCtorEq]); exact h61)); (try (case hs => rfl)); (try (case hf => first | exact Or.inl rfl | exact Or.inr ⟨rfl, rfl⟩ | (refine Or.inl ?_; simp only [hd', hti, List.length_map, htl, Nat.sub_le, SA, Nat.reduceAdd, reduceIte, Nat.reduceEqDiff, Nat.reduceBEq, reduceCtorEq]; done) | (refine Or.inr ⟨rfl, ?_⟩; simp only [hd', hti, List.length_map, htl, Nat.sub_le, SA, Nat.reduceAdd, reduceIte, Nat.reduceEqDiff, Nat.reduceBEq, reduceCtorEq]; done))); all_goals (simp only [hd', hti, List.length_map, htl, Nat.sub_le, SA, Nat.reduceAdd, reduceIte, Nat.reduceEqDiff, Nat.reduceBEq, reduceCtorEq]; (try go_unwrap; try simp only [hd', hti, List.length_map, htl, Nat.sub_le, RR, reduceCtorEq]))) | (apply goCall_V e42; (case hV => (simp only [hd', hti, List.length_map, htl, Nat.sub_le, SA, Nat.reduceAdd, reduceIte, Nat.reduceEqDiff, Nat.reduceBEq, reduceCtorEq]; (try go_unwrap; try simp only [hd', hti, List.length_map, htl, Nat.sub_le, RR, reduceCtorEq]); exact h42)); (try (case hs => rfl)); (try (case hf => first | exact Or.inl rfl | exact Or.inr ⟨rfl, rfl⟩ | (refine Or.inl ?_; simp only [hd', hti, List.length_map, htl, Nat.sub_le, SA, Nat.reduceAdd, reduceIte, Nat.reduceEqDiff, Nat.reduceBEq, reduceCtorEq]; done) | (refine Or.inr ⟨rfl, ?_⟩; simp only [hd', hti, List.length_map, htl, Nat.sub_le, SA, Nat.reduceAdd, reduceIte, Nat.reduceEqDiff, Nat.reduceBEq, reduceCtorEq]; done))); all_goals (simp only [hd', hti, List.length_map, htl, Nat.sub_le, SA, Nat.reduceAdd, reduceIte, Nat.reduceEqDiff, Nat.reduceBEq, reduceCtorEq]; (try go_unwrap; try simp only [hd', hti, List.length_map, htl, Nat.sub_le, RR, reduceCtorEq]))) | refine And.intro ?_ ?_ | exact Or.inr ⟨rfl, Nat.le_refl _⟩ | exact (fun h => Bool.noConfusion h) | omega | (simp only [DD, LL] <;> omega) | (go_unwrap; omega))
      · rw [if_pos hcond]
      · rw [if_neg hcond]
end Go.Proofs.YthekpjhffciakaaDoor

namespace Go.Proofs.YthekpjhffciakaaDoor
open PG Go.Proofs
-- (*wagebook/expr.reader).sum
def L22 : List Nat := [0, 1, 4, 5, 6, 11, 15, 69, 77, 96]
def c22 : CF := ⟨97,
 .seq (.region false [⟨some 4, none, .rd .mov [.pv (.bool false)]⟩] L22)
 (.seq (.seq (.region false [oM 7 0,
 ⟨some 8, none, .rd .lenL [.tmp 7]⟩,
 oM 9 1,
 ⟨some 10, none, .rd .lenL [.tmp 9]⟩,
 ⟨some 11, none, .rd (.bin .neq) [.tmp 8, .tmp 10]⟩] L22)
 (.cond (.tmp 11)
 (.seq (.region false [⟨some 4, none, .rd .mov [.pv (.bool false)]⟩] L22)
 (.ret))
 (.skip)))
 (.seq (.seq (.region false [⟨some 5, none, .rd .mov [.pv (.int .i64 0)]⟩] L22)
 (.block 0
 (.loop
 (.seq (.seq (.region false [oM 12 5,
 oM 13 0,
 ⟨some 14, none, .rd .lenL [.tmp 13]⟩,
 ⟨some 15, none, .rd (.bin .lss) [.tmp 12, .tmp 14]⟩] L22)
 (.cond (.tmp 15)
 (.skip)
 (.exit 0)))
 (.seq (.block 1
 (.seq (.seq (.region true [oM 18 0,
 oM 19 5,
 ⟨some 20, none, .rd (.idxAddr (some 4)) [.tmp 18, .tmp 19]⟩,
 oF 0 21 20,
 oL 22 21,
 oM 23 1,
 oM 24 5,
 ⟨some 25, none, .rd (.idxAddr (some 4)) [.tmp 23, .tmp 24]⟩,
 oF 0 26 25,
 oL 27 26,
 ⟨some 28, none, .rd (.bin .neq) [.tmp 22, .tmp 27]⟩,
 oM 29 28,
 qM 29 false 30 0,
 qM 29 false 31 5,
 ⟨some 32, some (29, false), .rd (.idxAddr (some 4)) [.tmp 30, .tmp 31]⟩,
 qF 1 29 false 33 32,
 qL 29 false 34 33,
 qM 29 false 35 1,
 qM 29 false 36 5,
 ⟨some 37, some (29, false), .rd (.idxAddr (some 4)) [.tmp 35, .tmp 36]⟩,
 qF 1 29 false 38 37,
 qL 29 false 39 38,
 ⟨some 40, some (29, false), .rd (.bin .neq) [.tmp 34, .tmp 39]⟩,
 ⟨some 41, none, .rd .pick [.tmp 29, .pv (.bool true), .tmp 40]⟩,
 oM 42 41,
 qM 42 false 43 0,
 qM 42 false 44 5,
 ⟨some 45, some (42, false), .rd (.idxAddr (some 4)) [.tmp 43, .tmp 44]⟩,
 qF 2 42 false 46 45,
 qL 42 false 47 46,
 qM 42 false 48 1,
 qM 42 false 49 5,
 ⟨some 50, some (42, false), .rd (.idxAddr (some 4)) [.tmp 48, .tmp 49]⟩,
 qF 2 42 false 51 50,
 qL 42 false 52 51,
 ⟨some 53, some (42, false), .rd (.bin .neq) [.tmp 47, .tmp 52]⟩,
 ⟨some 54, none, .rd .pick [.tmp 42, .pv (.bool true), .tmp 53]⟩,
 oM 55 54,
 qM 55 false 56 0,
 qM 55 false 57 5,
 ⟨some 58, some (55, false), .rd (.idxAddr (some 4)) [.tmp 56, .tmp 57]⟩,
 qF 3 55 false 59 58,
 qL 55 false 60 59,
 ⟨some 61, some (55, false), .rd .lenL [.tmp 60]⟩,
 qM 55 false 62 1,
 qM 55 false 63 5,
 ⟨some 64, some (55, false), .rd (.idxAddr (some 4)) [.tmp 62, .tmp 63]⟩,
 qF 3 55 false 65 64,
 qL 55 false 66 65,
 ⟨some 67, some (55, false), .rd .lenL [.tmp 66]⟩,
 ⟨some 68, some (55, false), .rd (.bin .neq) [.tmp 61, .tmp 67]⟩,
 ⟨some 69, none, .rd .pick [.tmp 55, .pv (.bool true), .tmp 68]⟩] L22)
 (.cond (.tmp 69)
 (.seq (.region false [⟨some 4, none, .rd .mov [.pv (.bool false)]⟩] L22)
 (.ret))
 (.skip)))
 (.seq (.region false [⟨some 6, none, .rd .mov [.pv (.int .i64 0)]⟩] L22)
 (.block 2
 (.loop
 (.seq (.seq (.region false [oM 70 6,
 oM 71 0,
 oM 72 5,
 ⟨some 73, none, .rd (.idxAddr (some 4)) [.tmp 71, .tmp 72]⟩,
 oF 3 74 73,
 oL 75 74,
 ⟨some 76, none, .rd .lenL [.tmp 75]⟩,
 ⟨some 77, none, .rd (.bin .lss) [.tmp 70, .tmp 76]⟩] L22)
 (.cond (.tmp 77)
 (.skip)
 (.exit 2)))
 (.seq (.block 3
 (.seq (.region true [oM 80 0,
 oM 81 5,
 ⟨some 82, none, .rd (.idxAddr (some 4)) [.tmp 80, .tmp 81]⟩,
 oF 3 83 82,
 oL 84 83,
 oM 85 6,
 ⟨some 86, none, .rd (.idxAddr none) [.tmp 84, .tmp 85]⟩,
 oL 87 86,
 oM 88 1,
 oM 89 5,
 ⟨some 90, none, .rd (.idxAddr (some 4)) [.tmp 88, .tmp 89]⟩,
 oF 3 91 90,
 oL 92 91,
 oM 93 6,
 ⟨some 94, none, .rd (.idxAddr none) [.tmp 92, .tmp 93]⟩,
 oL 95 94,
 ⟨some 96, none, .rd (.bin .neq) [.tmp 87, .tmp 95]⟩] L22)
 (.cond (.tmp 96)
 (.seq (.region false [⟨some 4, none, .rd .mov [.pv (.bool false)]⟩] L22)
 (.ret))
 (.skip))))
 (.region false [oM 78 6,
 ⟨some 79, none, .rd (.bin .add) [.tmp 78, .pv (.int .i64 1)]⟩,
 oM 6 79] L22))))))))
 (.region false [oM 16 5,
 ⟨some 17, none, .rd (.bin .add) [.tmp 16, .pv (.int .i64 1)]⟩,
 oM 5 17] L22))))))
 (.seq (.region false [⟨some 4, none, .rd .mov [.pv (.bool true)]⟩] L22)
 (.ret)))),
 [.tmp 4]⟩

-- wagebook/wagebooklaw13.nodes
def L5 : List Nat := [0, 2, 3, 4, 5, 6, 7, 8, 9, 10, 11, 12, 13, 14, 15, 16, 17, 20, 35, 56, 65, 68, 76]
def c5 : CF := ⟨114,
 .seq (.region false [⟨some 2, none, .rd .mov [.pv (.bool false)]⟩] L5)
 (.seq (.seq (.region false [oM 18 0,
 ⟨some 19, none, .rd .lenS [.tmp 18]⟩,
 ⟨some 20, none, .rd (.bin .gtr) [.tmp 19, .pv (.int .i64 600)]⟩] L5)
 (.cond (.tmp 20)
 (.seq (.region false [⟨some 21, none, .call (.pv (.fn 17 [] [])) []⟩,
 oM 2 21] L5)
 (.ret))
 (.skip)))
 (.seq (.region false [oM 23 0,
 ⟨some 24, none, .call (.pv (.fn 18 [] [])) [.tmp 23]⟩,
 oM 22 24,
 ⟨some 25, none, .rd (.ext 0) [.tmp 22]⟩,
 ⟨some 26, none, .rd (.ext 1) [.tmp 22]⟩,
 ⟨some 27, none, .rd (.ext 2) [.tmp 22]⟩,
 ⟨some 3, none, .eff (.alloc (some 1) (.agg [.nilSl])) []⟩,
 ⟨none, none, .eff (.store (some 1)) [.tmp 3, .tmp 25]⟩,
 oM 4 26,
 oM 5 27] L5)
 (.seq (.region false [oM 29 0,
 ⟨some 30, none, .call (.pv (.fn 19 [] [])) [.tmp 29]⟩,
 oM 28 30,
 ⟨some 31, none, .rd (.ext 0) [.tmp 28]⟩,
 ⟨some 32, none, .rd (.ext 1) [.tmp 28]⟩,
 ⟨some 33, none, .rd (.ext 2) [.tmp 28]⟩,
 oM 6 31,
 oM 7 32,
 oM 8 33] L5)
 (.seq (.seq (.region false [oM 34 8,
 ⟨some 35, none, .rd (.bin .neq) [.tmp 34, .pv (.int .i64 0)]⟩] L5)
 (.cond (.tmp 35)
 (.seq (.region false [oF 0 36 3,
 oL 37 36,
 ⟨some 38, none, .rd .lenL [.tmp 37]⟩,
 ⟨some 39, none, .rd (.bin .eql) [.tmp 38, .pv (.int .i64 0)]⟩,
 oM 40 39,
 qM 40 true 41 4,
 qM 40 true 42 7,
 ⟨some 43, some (40, true), .rd (.bin .eql) [.tmp 41, .tmp 42]⟩,
 ⟨some 44, none, .rd .pick [.tmp 40, .tmp 43, .pv (.bool false)]⟩,
 oM 45 44,
 qM 45 true 46 5,
 qM 45 true 47 8,
 ⟨some 48, some (45, true), .rd (.bin .eql) [.tmp 46, .tmp 47]⟩,
 ⟨some 49, none, .rd .pick [.tmp 45, .tmp 48, .pv (.bool false)]⟩,
 oM 50 49,
 ⟨some 51, some (50, true), .call (.pv (.fn 17 [] [])) []⟩,
 ⟨some 52, none, .rd .pick [.tmp 50, .tmp 51, .pv (.bool false)]⟩,
 oM 2 52] L5)
 (.ret))
 (.skip)))
 (.seq (.region false [⟨some 9, none, .rd .mov [.pv .nilSl]⟩] L5)
 (.seq (.seq (.region false [⟨some 10, none, .rd .mov [.pv (.int .i64 0)]⟩] L5)
 (.block 0
 (.loop
 (.seq (.seq (.region false [oM 53 10,
 oM 54 6,
 ⟨some 55, none, .rd .lenL [.tmp 54]⟩,
 ⟨some 56, none, .rd (.bin .lss) [.tmp 53, .tmp 55]⟩] L5)
 (.cond (.tmp 56)
 (.skip)
 (.exit 0)))
 (.seq (.block 1
 (.seq (.region false [oM 59 6,
 oM 60 10,
 ⟨some 61, none, .rd (.idxAddr (some 3)) [.tmp 59, .tmp 60]⟩,
 ⟨some 62, none, .rd (.load (some 3)) [.tmp 61]⟩,
 ⟨some 11, none, .eff (.alloc (some 3) (.agg [(.int .i64 0), (.str []), (.int .i64 0)])) []⟩,
 ⟨none, none, .eff (.store (some 3)) [.tmp 11, .tmp 62]⟩] L5)
 (.seq (.seq (.region false [oF 0 63 11,
 oL 64 63,
 ⟨some 65, none, .rd (.bin .eql) [.tmp 64, .pv (.int .i64 0)]⟩] L5)
 (.cond (.tmp 65)
 (.exit 1)
 (.skip)))
 (.seq (.region false [⟨some 12, none, .rd .mov [.pv (.int .i64 0)]⟩] L5)
 (.seq (.seq (.region false [oF 0 66 11,
 oL 67 66,
 ⟨some 68, none, .rd (.bin .eql) [.tmp 67, .pv (.int .i64 2)]⟩] L5)
 (.cond (.tmp 68)
 (.seq (.region false [oF 1 70 11,
 oL 71 70,
 ⟨some 72, none, .call (.pv (.fn 20 [] [])) [.tmp 71]⟩,
 oM 69 72,
 ⟨some 73, none, .rd (.ext 0) [.tmp 69]⟩,
 ⟨some 74, none, .rd (.ext 1) [.tmp 69]⟩,
 oM 13 73,
 oM 14 74] L5)
 (.seq (.seq (.region false [oM 75 14,
 ⟨some 76, none, .rd (.bin .neq) [.tmp 75, .pv (.int .i64 0)]⟩] L5)
 (.cond (.tmp 76)
 (.seq (.region false [⟨some 2, none, .rd .mov [.pv (.bool false)]⟩] L5)
 (.ret))
 (.skip)))
 (.region false [oM 77 13,
 oM 12 77] L5)))
 (.skip)))
 (.region false [oM 78 9,
 oF 0 79 11,
 oL 80 79,
 oF 1 81 11,
 oL 82 81,
 oM 83 12,
 oF 2 84 11,
 oL 85 84,
 ⟨some 86, none, .rd (.build [(.int .i64 0), (.str []), (.int .i64 0), (.int .i64 0)] [(0, 1), (1, 1), (2, 1), (3, 1)]) [.tmp 80, .tmp 82, .tmp 83, .tmp 85]⟩,
 ⟨some 87, none, .eff (.lit (some 4) false) [.tmp 86]⟩,
 ⟨some 88, none, .eff (.append (some 4) 40) [.tmp 78, .tmp 87]⟩,
 oM 9 88] L5))))))
 (.region false [oM 57 10,
 ⟨some 58, none, .rd (.bin .add) [.tmp 57, .pv (.int .i64 1)]⟩,
 oM 10 58] L5))))))
 (.seq (.region false [oM 90 9,
 oM 91 0,
 ⟨some 92, none, .rd .lenS [.tmp 91]⟩,
 ⟨some 93, none, .call (.pv (.fn 21 [] [])) [.tmp 90, .tmp 92]⟩,
 oM 89 93,
 ⟨some 94, none, .rd (.ext 0) [.tmp 89]⟩,
 ⟨some 95, none, .rd (.ext 1) [.tmp 89]⟩,
 ⟨some 96, none, .rd (.ext 2) [.tmp 89]⟩,
 oM 15 94,
 oM 16 95,
 oM 17 96] L5)
 (.seq (.region false [⟨some 97, none, .rd (.load (some 1)) [.tmp 3]⟩,
 ⟨some 98, none, .call (.pv (.fn 23 [] [])) [.tmp 97]⟩,
 oM 99 15,
 ⟨some 100, none, .call (.pv (.fn 22 [] [])) [.tmp 98, .tmp 99]⟩,
 oM 101 100,
 qM 101 true 102 4,
 qM 101 true 103 16,
 ⟨some 104, some (101, true), .rd (.bin .eql) [.tmp 102, .tmp 103]⟩,
 ⟨some 105, none, .rd .pick [.tmp 101, .tmp 104, .pv (.bool false)]⟩,
 oM 106 105,
 qM 106 true 107 5,
 qM 106 true 108 17,
 ⟨some 109, some (106, true), .rd (.bin .eql) [.tmp 107, .tmp 108]⟩,
 ⟨some 110, none, .rd .pick [.tmp 106, .tmp 109, .pv (.bool false)]⟩,
 oM 111 110,
 ⟨some 112, some (111, true), .call (.pv (.fn 17 [] [])) []⟩,
 ⟨some 113, none, .rd .pick [.tmp 111, .tmp 112, .pv (.bool false)]⟩,
 oM 2 113] L5)
 (.ret))))))))),
 [.tmp 2]⟩

-- wagebook/wagebooklaw13.awake
theorem k5 : compileF Tryd.prog [] L5 Tryd.f5 = some c5 := by kernel_rfl
end Go.Proofs.YthekpjhffciakaaDoor

namespace Go.Proofs.YthekpjhffciakaaDoor
open Go PG Go.Proofs
set_option linter.unusedSimpArgs false
set_option linter.unusedVariables false
set_option maxHeartbeats 4000000
set_option maxRecDepth 100000
variable {G : Globs}
end Go.Proofs.YthekpjhffciakaaDoor

namespace Go.Proofs.YthekpjhffciakaaDoor
open Go PG Go.Proofs
set_option linter.unusedSimpArgs false
set_option linter.unusedVariables false
set_option maxHeartbeats 4000000
set_option maxRecDepth 100000
variable {G : Globs}
end Go.Proofs.YthekpjhffciakaaDoor

namespace Go.Proofs.YthekpjhffciakaaDoor
open PG Go.Proofs
-- (wagebook/expr.Tree).Text$1
end Go.Proofs.YthekpjhffciakaaDoor

namespace Go.Proofs.YthekpjhffciakaaDoor
open Go PG Go.Proofs
set_option linter.unusedSimpArgs false
set_option linter.unusedVariables false
set_option maxHeartbeats 4000000
set_option maxRecDepth 100000
variable {G : Globs}
theorem zt : (0 : Int).toNat = 0 := rfl
end Go.Proofs.YthekpjhffciakaaDoor

namespace Go.Proofs.YthekpjhffciakaaDoor
open Go PG Go.Proofs
set_option linter.unusedSimpArgs false
set_option linter.unusedVariables false
set_option maxHeartbeats 4000000
set_option maxRecDepth 100000
variable {G : Globs}
end Go.Proofs.YthekpjhffciakaaDoor

namespace Go.Proofs.YthekpjhffciakaaDoor
open Go PG Go.Proofs
set_option linter.unusedSimpArgs false
set_option linter.unusedVariables false
set_option maxHeartbeats 4000000
set_option maxRecDepth 100000
variable {G : Globs}
end Go.Proofs.YthekpjhffciakaaDoor

namespace Go.Proofs.YthekpjhffciakaaDoor
open Go PG Go.Proofs
set_option linter.unusedSimpArgs false
set_option linter.unusedVariables false
set_option maxHeartbeats 4000000
set_option maxRecDepth 100000
variable {G : Globs}
def tokP (t : Tok) : PV := .agg [.int .i64 t.1, .str t.2.1, .int .i64 t.2.2]
end Go.Proofs.YthekpjhffciakaaDoor

namespace Go.Proofs.YthekpjhffciakaaDoor
open Go PG Go.Proofs
set_option linter.unusedSimpArgs false
set_option linter.unusedVariables false
set_option maxHeartbeats 4000000
set_option maxRecDepth 100000
/-! The program's reader: its leaves -/
def wordsP : PV := .agg [.str [], .str [], .str [43], .str [45], .str [42], .str [108, 101, 97, 115, 116], .str [109, 111, 115, 116], .str [105, 102], .str [108, 101, 115, 115], .str [101, 113, 117, 97, 108]]
abbrev G0 : Globs := fun g => if g = 0 then some (some 10, wordsP) else if g = 1 then some (some 10, kidsTabP) else none
abbrev tksP (l : List Tok) : PV := .list (some 3) (l.map tokP)
def rdP (l : List Tok) (s : PS) : MObj := .var (some 4) (.agg [tksP l, .sl (some 4) 1 s.out.length, .int .i64 s.at_, .int .i64 s.e])
def rowO (s : PS) : MObj := .row (some 4) (s.out.map ndP)
/-- A reading, as a contract: the reader and its nodes, and whatever stands behind. -/
def RdC (l : List Tok) (f : Nat) (as_ : List PV) (ν : Mem) (s : PS) (r : Int × PS) : Prop :=
  PCalls Tryd.prog G0 f as_ (some (rdP l s) :: some (rowO s) :: ν) (killTag 1) (fun p μ' => p = .int .i64 r.1 ∧ μ' = some (rdP l r.2) :: some (rowO r.2) :: ν)
theorem RdC.frame {l : List Tok} {f : Nat} {as_ : List PV} {s : PS} {r : Int × PS} (h : RdC l f as_ [] s r) (ν : Mem) (hν : ν.map (Option.map (MObj.kill (killTag 1))) = ν) (ha : as_.map (PV.kill fun t => decide (2 ≤ t)) = as_) : RdC l f as_ ν s r := by
  have := PCalls.frame h ν (by rintro p μ' ⟨-, rfl⟩; rfl) ha (by simp [rdP, rowO, MObj.kill, PV.kill]) hν
  intro w κ vs hS hG hr
  refine (this w κ vs hS hG hr).mono ?_
  rintro e w' ⟨v, p, μ', κ', rfl, ⟨μ1, ⟨rfl, rfl⟩, rfl⟩, hS', hv, hg⟩
  exact ⟨v, _, _, κ', rfl, ⟨rfl, rfl⟩, hS', hv, hg⟩
theorem q1 (a b c d : PV) (sh : Sh) (t n : Nat) : putPart (some 4) none (.agg [a, b, c, d]) 1 (.sl sh t n) = .agg [a, .sl sh t n, c, d] := rfl
theorem q2 (a b c d : PV) (k : IntKind) (v : Int) : putPart (some 4) none (.agg [a, b, c, d]) 2 (.int k v) = .agg [a, b, .int k v, d] := rfl
theorem q3 (a b c d : PV) (k : IntKind) (v : Int) : putPart (some 4) none (.agg [a, b, c, d]) 3 (.int k v) = .agg [a, b, c, .int k v] := rfl
end Go.Proofs.YthekpjhffciakaaDoor

