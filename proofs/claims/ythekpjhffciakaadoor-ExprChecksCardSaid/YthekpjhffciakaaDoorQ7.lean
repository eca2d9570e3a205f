import Derived.Handy
import Derived.Shelf.Strings.Search1
import Derived.Shelf.Strings.Count
import Derived.Test.YthekpjhffciakaaDoorQ6
import Derived.Test.YthekpjhffciakaaDoorQ5
namespace Go.Proofs.YthekpjhffciakaaDoor
open Go PG Go.Proofs
set_option linter.unusedSimpArgs false
set_option linter.unusedVariables false
set_option maxHeartbeats 4000000
set_option maxRecDepth 100000
variable {G : Globs}
def kidsStep (i : Nat) : List Int → List Bool → Option (List Bool)
  | [], t => some t
  | k :: ks, t => if k < 0 ∨ (i : Int) ≤ k ∨ t.getD k.toNat false = true then none else kidsStep i ks (t.set k.toNat true)
def checkNodes : List Nd → Nat → List Bool → Except Int (List Bool)
  | [], _, t => .ok t
  | n :: ns, i, t => if formE n ≠ 0 then .error (formE n) else
    match kidsStep i n.kids t with
    | none => .error 8
    | some t' => if restE n ≠ 0 then .error (restE n) else checkNodes ns (i + 1) t'
def checkM (l : List Nd) : Int :=
  if l.length = 0 then 10 else if 256 < l.length then 5 else
  match checkNodes l 0 (List.replicate l.length false) with
  | .error e => e
  | .ok t => if (t.take (l.length - 1)).contains false = true then 3 else if 16 < depthM l then 14 else 0
theorem kidsStep_len {i : Nat} : ∀ {ks : List Int} {t t' : List Bool}, kidsStep i ks t = some t' → t'.length = t.length ∧ ∀ k ∈ ks, 0 ≤ k ∧ k < (i : Int)
  | [], t, t', h => by simp [kidsStep] at h; simp [h]
  | k :: ks, t, t', h => by
    unfold kidsStep at h
    split at h
    · cases h
    · rename_i hk
      obtain ⟨h1, h2⟩ := kidsStep_len h
      refine ⟨by rw [h1]; simp, fun x hx => ?_⟩
      rcases List.mem_cons.1 hx with rfl | hx
      · omega
      · exact h2 x hx
theorem kidsTab_le (i : Nat) : kidsTab.getD i 0 ≤ 3 := by
  by_cases h : i < 10
  · have : ∀ j, j < 10 → kidsTab.getD j 0 ≤ 3 := by decide
    exact this i h
  · have hl : kidsTab.length = 10 := rfl
    rw [List.getD_eq_getElem?_getD, List.getElem?_eq_none (by omega)]; simp
theorem formE_ok {n : Nd} (h : formE n = 0) : 0 ≤ n.op ∧ n.op ≤ 9 ∧ (n.kids.length : Int) = kidsTab.getD n.op.toNat 0 ∧ n.kids.length ≤ 3 := by
  unfold formE at h
  split at h
  · cases h
  · split at h
    · cases h
    · rename_i h1 h2
      have h3 := kidsTab_le n.op.toNat
      simp only [ne_eq, Decidable.not_not] at h2
      omega
theorem checkNodes_ok : ∀ {ns : List Nd} {i : Nat} {t t' : List Bool}, checkNodes ns i t = .ok t' → t'.length = t.length ∧ wfK ns i ∧ ∀ n ∈ ns, formE n = 0 ∧ restE n = 0
  | [], i, t, t', h => by simp [checkNodes] at h; simp [h, wfK]
  | n :: ns, i, t, t', h => by
    unfold checkNodes at h
    split at h
    · cases h
    · rename_i hf
      split at h
      · cases h
      · rename_i t1 hk
        split at h
        · cases h
        · rename_i hr
          obtain ⟨h1, h2, h3⟩ := checkNodes_ok h
          obtain ⟨h4, h5⟩ := kidsStep_len hk
          refine ⟨by rw [h1, h4], ⟨h5, h2⟩, fun x hx => ?_⟩
          rcases List.mem_cons.1 hx with rfl | hx
          · exact ⟨by omega, by omega⟩
          · exact h3 x hx
theorem v29 (hG : HasKids G) (l : List Nd) (hl : l.length ≤ 9223372036854775807) (hs : ∀ n ∈ l, n.name.length ≤ 9223372036854775807 ∧ n.kids.length ≤ 9223372036854775807) : VCalls Tryd.prog G 29 [treeP l] (.int .i64 (checkM l)) := by
  refine VCalls.of_PW Tryd.func29 k29 mix (by simp [c29]) ?_
  simp only [c29, L29, CC, argE, treeP]
  by_cases h0 : l.length = 0
  · have hd : decide ((l.length : Int) = 0) = true := by simp only [decide_eq_true_eq]; omega
    repeat' (first | refine PW.seq ?_ | refine PW.block ?_ | ((first | refine PW.region ?_ | refine PW.regionQ ?_ | refine PW.exit ?_ | refine PW.ret ?_ | refine PW.skip ?_); simp only [hd, List.length_map, SA, Nat.reduceAdd, reduceIte, Nat.reduceEqDiff, Nat.reduceBEq, reduceCtorEq]; (try go_unwrap; try simp only [hd, List.length_map, RR, reduceCtorEq])) | refine PW.regionA ?_ | exact schedW_stop_i | ((first | refine schedW_alt_i ?_ ?_ | refine schedW_done_i ?_); focus (simp only [hd, List.length_map, SA, Nat.reduceAdd, reduceIte, Nat.reduceEqDiff, Nat.reduceBEq, reduceCtorEq]; (try go_unwrap; try simp only [hd, List.length_map, RR, reduceCtorEq]))) | (refine PW.cond rfl ?_ ?_ <;> intro hcond <;> (try contradiction) <;> try simp only [DD] at hcond) | refine And.intro ?_ ?_ | exact Or.inr ⟨rfl, Nat.le_refl _⟩ | exact (fun h => Bool.noConfusion h) | omega | (simp only [decide_eq_true_eq, decide_eq_false_iff_not, List.length_cons, List.length_nil, List.length_append, List.length_map, Sh.size] <;> omega) | (go_unwrap; omega))
    rw [checkM, if_pos h0]
  have hd0 : decide ((l.length : Int) = 0) = false := by simp only [decide_eq_false_iff_not]; omega
  by_cases h256 : 256 < l.length
  · have hd1 : decide (256 < (l.length : Int)) = true := by simp only [decide_eq_true_eq]; omega
    repeat' (first | refine PW.seq ?_ | refine PW.block ?_ | ((first | refine PW.region ?_ | refine PW.regionQ ?_ | refine PW.exit ?_ | refine PW.ret ?_ | refine PW.skip ?_); simp only [hd0, hd1, List.length_map, SA, Nat.reduceAdd, reduceIte, Nat.reduceEqDiff, Nat.reduceBEq, reduceCtorEq]; (try go_unwrap; try simp only [hd0, hd1, List.length_map, RR, reduceCtorEq])) | refine PW.regionA ?_ | exact schedW_stop_i | ((first | refine schedW_alt_i ?_ ?_ | refine schedW_done_i ?_); focus (simp only [hd0, hd1, List.length_map, SA, Nat.reduceAdd, reduceIte, Nat.reduceEqDiff, Nat.reduceBEq, reduceCtorEq]; (try go_unwrap; try simp only [hd0, hd1, List.length_map, RR, reduceCtorEq]))) | (refine PW.cond rfl ?_ ?_ <;> intro hcond <;> (try contradiction) <;> try simp only [DD] at hcond) | refine And.intro ?_ ?_ | exact Or.inr ⟨rfl, Nat.le_refl _⟩ | exact (fun h => Bool.noConfusion h) | omega | (simp only [decide_eq_true_eq, decide_eq_false_iff_not, List.length_cons, List.length_nil, List.length_append, List.length_map, Sh.size] <;> omega) | (go_unwrap; omega))
    rw [checkM, if_neg h0, if_pos h256]
  have hd1 : decide (256 < (l.length : Int)) = false := by simp only [decide_eq_false_iff_not]; omega
  have hm1 : ((1 : Nat) : Int) * (l.length : Int) ≤ 281474976710656 := by omega
  have hm2 : (l.length : Int) ≤ 9223372036854775807 := by omega
  have hm3 : 0 ≤ (l.length : Int) := by omega
  repeat' (first | refine PW.seq ?_ | refine PW.block ?_ | ((first | refine PW.region ?_ | refine PW.regionQ ?_ | refine PW.exit ?_ | refine PW.ret ?_ | refine PW.skip ?_); simp only [hd0, hd1, List.length_map, hm1, hm2, hm3, Int.le_refl, SA, Nat.reduceAdd, reduceIte, Nat.reduceEqDiff, Nat.reduceBEq, reduceCtorEq]; (try go_unwrap; try simp only [hd0, hd1, List.length_map, hm1, hm2, hm3, Int.le_refl, RR, reduceCtorEq])) | refine PW.regionA ?_ | exact schedW_stop_i | ((first | refine schedW_alt_i ?_ ?_ | refine schedW_done_i ?_); focus (simp only [hd0, hd1, List.length_map, hm1, hm2, hm3, Int.le_refl, SA, Nat.reduceAdd, reduceIte, Nat.reduceEqDiff, Nat.reduceBEq, reduceCtorEq]; (try go_unwrap; try simp only [hd0, hd1, List.length_map, hm1, hm2, hm3, Int.le_refl, RR, reduceCtorEq]))) | (refine PW.cond rfl ?_ ?_ <;> intro hcond <;> (try contradiction) <;> try simp only [DD] at hcond) | refine And.intro ?_ ?_ | exact Or.inr ⟨rfl, Nat.le_refl _⟩ | exact (fun h => Bool.noConfusion h) | omega | (simp only [decide_eq_true_eq, decide_eq_false_iff_not, List.length_cons, List.length_nil, List.length_append, List.length_map, Sh.size] <;> omega) | (go_unwrap; omega))
  have hC : checkM l = (match checkNodes l 0 (List.replicate l.length false) with
    | .error e => e
    | .ok t => if (t.take (l.length - 1)).contains false = true then 3 else if 16 < depthM l then 14 else 0) := by rw [checkM, if_neg h0, if_neg h256]
  refine PW.loopG (σ := Nat × List Bool) 2 (fun _ _ => rfl) [1, 3, 25, 26, 27] (fun s => [.ref 0 0, .sl none 1 l.length, .list (some 4) (l.map ndP), .int .i64 l.length, .int .i64 s.1])
    (fun s => [some (.var (some 1) (.agg [.list (some 4) (l.map ndP)])), some (.row none (s.2.map PV.bool))])
    (fun s => s.1 ≤ l.length ∧ s.2.length = l.length ∧ checkNodes l 0 (List.replicate l.length false) = checkNodes (l.drop s.1) s.1 s.2) (fun s => l.length - s.1) (0, List.replicate l.length false) ?_ ?_ ⟨by simp, by simp, by simp⟩ ?_
  · simp only [SA, Nat.reduceAdd, reduceIte, Nat.reduceEqDiff, Nat.reduceBEq, reduceCtorEq, List.length_map, Int.toNat_natCast]; rfl
  · simp
  rintro ⟨i, t⟩ ⟨hi, htl, hr⟩
  simp only at hi htl hr
  simp only [List.zip_cons_cons, List.zip_nil_left]
  rcases Nat.lt_or_ge i l.length with h | h
  · obtain ⟨n, hd, hn, hg⟩ := drop_at h
    rw [hd, checkNodes] at hr
    have hd' : decide ((i : Int) < l.length) = true := by simp only [decide_eq_true_eq]; omega
    have hgn := ((hg ndP).1).trans (ndP1 n)
    have hsn := hs n (List.mem_of_getElem? hn)
    have h60 := v60 hG n hsn.1
    rw [ndP1] at h60
    by_cases hf : formE n = 0
    · rw [if_neg (by omega)] at hr
      have hf' : decide (formE n = 0) = true := by simpa using hf
      repeat' (first | refine PW.seq ?_ | refine PW.block ?_ | ((first | refine PW.region ?_ | refine PW.regionQ ?_ | refine PW.exit ?_ | refine PW.ret ?_ | refine PW.skip ?_); simp only [hd', hgn, hf', List.length_map, SA, Nat.reduceAdd, reduceIte, Nat.reduceEqDiff, Nat.reduceBEq, reduceCtorEq]; (try go_unwrap; try simp only [hd', hgn, hf', List.length_map, RR, reduceCtorEq])) | refine PW.regionA ?_ | exact schedW_stop_i | ((first | refine schedW_alt_i ?_ ?_ | refine schedW_done_i ?_); focus (simp only [hd', hgn, hf', List.length_map, SA, Nat.reduceAdd, reduceIte, Nat.reduceEqDiff, Nat.reduceBEq, reduceCtorEq]; (try go_unwrap; try simp only [hd', hgn, hf', List.length_map, RR, reduceCtorEq]))) | (refine PW.cond rfl ?_ ?_ <;> intro hcond <;> (try contradiction) <;> try simp only [DD] at hcond) | (apply goCall_V e60; (case hV => (simp only [hd', hgn, hf', List.length_map, SA, Nat.reduceAdd, reduceIte, Nat.reduceEqDiff, Nat.reduceBEq, reduceCtorEq]; (try go_unwrap; try simp only [hd', hgn, hf', List.length_map, RR, reduceCtorEq]); exact h60)); (try (case hs => rfl)); (try (case hf => first | exact Or.inl rfl | exact Or.inr ⟨rfl, rfl⟩ | (refine Or.inl ?_; simp only [hd', hgn, hf', List.length_map, SA, Nat.reduceAdd, reduceIte, Nat.reduceEqDiff, Nat.reduceBEq, reduceCtorEq]; done) | (refine Or.inr ⟨rfl, ?_⟩; simp only [hd', hgn, hf', List.length_map, SA, Nat.reduceAdd, reduceIte, Nat.reduceEqDiff, Nat.reduceBEq, reduceCtorEq]; done))); all_goals (simp only [hd', hgn, hf', List.length_map, SA, Nat.reduceAdd, reduceIte, Nat.reduceEqDiff, Nat.reduceBEq, reduceCtorEq]; (try go_unwrap; try simp only [hd', hgn, hf', List.length_map, RR, reduceCtorEq]))) | refine And.intro ?_ ?_ | exact Or.inr ⟨rfl, Nat.le_refl _⟩ | exact (fun h => Bool.noConfusion h) | omega | (simp only [decide_eq_true_eq, decide_eq_false_iff_not, List.length_cons, List.length_nil, List.length_append, List.length_map, Sh.size] <;> omega) | (go_unwrap; omega))
      refine PW.loop (σ := Nat × List Bool) [1, 3, 4, 7, 25, 26, 27, 41, 42, 43] (fun s => [.ref 0 0, .sl none 1 l.length, .int .i64 i, .int .i64 (restE n), .list (some 4) (l.map ndP), .int .i64 l.length, .int .i64 i, .list none (n.kids.map (PV.int .i64)), .int .i64 n.kids.length, .int .i64 s.1])
        (fun s => [some (.var (some 1) (.agg [.list (some 4) (l.map ndP)])), some (.row none (s.2.map PV.bool)), some (.var (some 4) (.agg [.int .i64 n.op, .int .i64 n.num, .str n.name, .list none (n.kids.map (PV.int .i64))]))])
        (fun s => s.1 ≤ n.kids.length ∧ s.2.length = l.length ∧ kidsStep i n.kids t = kidsStep i (n.kids.drop s.1) s.2) (fun s => n.kids.length - s.1) (0, t) ?_ rfl ⟨by simp, htl, by simp⟩ ?_
      · simp only [SA, Nat.reduceAdd, reduceIte, Nat.reduceEqDiff, Nat.reduceBEq, reduceCtorEq, List.length_map]; rfl
      rintro ⟨j, u⟩ ⟨hj, hul, hk⟩
      simp only at hj hul hk
      simp only [List.zip_cons_cons, List.zip_nil_left]
      rcases Nat.lt_or_ge j n.kids.length with h' | h'
      · obtain ⟨k, hkd, hkn', hkg⟩ := drop_at h'
        rw [hkd, kidsStep] at hk
        have hd2 : decide ((j : Int) < n.kids.length) = true := by simp only [decide_eq_true_eq]; omega
        by_cases hk1 : k < 0 ∨ (i : Int) ≤ k
        · have hd3 : (decide (k < 0) || decide ((i : Int) ≤ k)) = true := by simpa using hk1
          have hb : k < 0 ∨ (i : Int) ≤ k ∨ u.getD k.toNat false = true := hk1.imp id Or.inl
          rw [if_pos hb] at hk
          rw [hk] at hr
          repeat' (first | refine PW.seq ?_ | refine PW.block ?_ | ((first | refine PW.region ?_ | refine PW.regionQ ?_ | refine PW.exit ?_ | refine PW.ret ?_ | refine PW.skip ?_); simp only [hd2, (hkg (PV.int .i64)).1, List.length_map, hd3, SA, Nat.reduceAdd, reduceIte, Nat.reduceEqDiff, Nat.reduceBEq, reduceCtorEq]; (try go_unwrap; try simp only [hd2, (hkg (PV.int .i64)).1, List.length_map, hd3, RR, reduceCtorEq])) | refine PW.regionA ?_ | exact schedW_stop_i | ((first | refine schedW_alt_i ?_ ?_ | refine schedW_done_i ?_); focus (simp only [hd2, (hkg (PV.int .i64)).1, List.length_map, hd3, SA, Nat.reduceAdd, reduceIte, Nat.reduceEqDiff, Nat.reduceBEq, reduceCtorEq]; (try go_unwrap; try simp only [hd2, (hkg (PV.int .i64)).1, List.length_map, hd3, RR, reduceCtorEq]))) | (refine PW.cond rfl ?_ ?_ <;> intro hcond <;> (try contradiction) <;> try simp only [DD] at hcond) | refine And.intro ?_ ?_ | exact Or.inr ⟨rfl, Nat.le_refl _⟩ | exact (fun h => Bool.noConfusion h) | omega | (simp only [decide_eq_true_eq, decide_eq_false_iff_not, List.length_cons, List.length_nil, List.length_append, List.length_map, Sh.size] <;> omega) | (go_unwrap; omega))
          all_goals (first | (rw [hC, hr]; done) | (clear hG hC hr hgn h60; simp_all; done))
        · have hd3 : (decide (k < 0) || decide ((i : Int) ≤ k)) = false := by simpa using hk1
          have hku : k.toNat < u.length := by omega
          have hug : (u.map PV.bool)[k.toNat]? = some (.bool (u.getD k.toNat false)) := by simp [List.getD, hku]
          have hus : (u.map PV.bool).set k.toNat (.bool true) = (u.set k.toNat true).map PV.bool := by rw [List.map_set]
          cases htk : u.getD k.toNat false with
          | true =>
            rw [if_pos (.inr (.inr htk))] at hk
            rw [hk] at hr
            rw [htk] at hug
            repeat' (first | refine PW.seq ?_ | refine PW.block ?_ | ((first | refine PW.region ?_ | refine PW.regionQ ?_ | refine PW.exit ?_ | refine PW.ret ?_ | refine PW.skip ?_); simp only [hd2, (hkg (PV.int .i64)).1, List.length_map, hd3, hug, SA, Nat.reduceAdd, reduceIte, Nat.reduceEqDiff, Nat.reduceBEq, reduceCtorEq]; (try go_unwrap; try simp only [hd2, (hkg (PV.int .i64)).1, List.length_map, hd3, hug, RR, reduceCtorEq])) | refine PW.regionA ?_ | exact schedW_stop_i | ((first | refine schedW_alt_i ?_ ?_ | refine schedW_done_i ?_); focus (simp only [hd2, (hkg (PV.int .i64)).1, List.length_map, hd3, hug, SA, Nat.reduceAdd, reduceIte, Nat.reduceEqDiff, Nat.reduceBEq, reduceCtorEq]; (try go_unwrap; try simp only [hd2, (hkg (PV.int .i64)).1, List.length_map, hd3, hug, RR, reduceCtorEq]))) | (refine PW.cond rfl ?_ ?_ <;> intro hcond <;> (try contradiction) <;> try simp only [DD] at hcond) | refine And.intro ?_ ?_ | exact Or.inr ⟨rfl, Nat.le_refl _⟩ | exact (fun h => Bool.noConfusion h) | omega | (simp only [decide_eq_true_eq, decide_eq_false_iff_not, List.length_cons, List.length_nil, List.length_append, List.length_map, Sh.size] <;> omega) | (go_unwrap; omega))
            rw [hC, hr]
          | false =>
            rw [if_neg (by rw [htk]; simpa using hk1)] at hk
            rw [htk] at hug
            repeat' (first | refine PW.seq ?_ | refine PW.block ?_ | ((first | refine PW.region ?_ | refine PW.regionQ ?_ | refine PW.exit ?_ | refine PW.ret ?_ | refine PW.skip ?_); simp only [hd2, (hkg (PV.int .i64)).1, List.length_map, hd3, hug, hus, SA, Nat.reduceAdd, reduceIte, Nat.reduceEqDiff, Nat.reduceBEq, reduceCtorEq]; (try go_unwrap; try simp only [hd2, (hkg (PV.int .i64)).1, List.length_map, hd3, hug, hus, RR, reduceCtorEq])) | refine PW.regionA ?_ | exact schedW_stop_i | ((first | refine schedW_alt_i ?_ ?_ | refine schedW_done_i ?_); focus (simp only [hd2, (hkg (PV.int .i64)).1, List.length_map, hd3, hug, hus, SA, Nat.reduceAdd, reduceIte, Nat.reduceEqDiff, Nat.reduceBEq, reduceCtorEq]; (try go_unwrap; try simp only [hd2, (hkg (PV.int .i64)).1, List.length_map, hd3, hug, hus, RR, reduceCtorEq]))) | (refine PW.cond rfl ?_ ?_ <;> intro hcond <;> (try contradiction) <;> try simp only [DD] at hcond) | refine And.intro ?_ ?_ | exact Or.inr ⟨rfl, Nat.le_refl _⟩ | exact (fun h => Bool.noConfusion h) | omega | (simp only [decide_eq_true_eq, decide_eq_false_iff_not, List.length_cons, List.length_nil, List.length_append, List.length_map, Sh.size] <;> omega) | (go_unwrap; omega))
            exact ⟨(j + 1, u.set k.toNat true), rfl, rfl, ⟨h', by simpa using hul, hk⟩, by simp only; omega⟩
      · have hd2 : decide ((j : Int) < n.kids.length) = false := by simp only [decide_eq_false_iff_not]; omega
        rw [List.drop_eq_nil_of_le h', kidsStep] at hk
        rw [hk] at hr
        by_cases hre : restE n = 0
        · simp only [hre, ne_eq, not_true_eq_false, if_false] at hr
          have hre' : decide (restE n = 0) = true := by simpa using hre
          repeat' (first | refine PW.seq ?_ | refine PW.block ?_ | ((first | refine PW.region ?_ | refine PW.regionQ ?_ | refine PW.exit ?_ | refine PW.ret ?_ | refine PW.skip ?_); simp only [hd2, hre', SA, Nat.reduceAdd, reduceIte, Nat.reduceEqDiff, Nat.reduceBEq, reduceCtorEq]; (try go_unwrap; try simp only [hd2, hre', RR, reduceCtorEq])) | refine PW.regionA ?_ | exact schedW_stop_i | ((first | refine schedW_alt_i ?_ ?_ | refine schedW_done_i ?_); focus (simp only [hd2, hre', SA, Nat.reduceAdd, reduceIte, Nat.reduceEqDiff, Nat.reduceBEq, reduceCtorEq]; (try go_unwrap; try simp only [hd2, hre', RR, reduceCtorEq]))) | (refine PW.cond rfl ?_ ?_ <;> intro hcond <;> (try contradiction) <;> try simp only [DD] at hcond) | refine And.intro ?_ ?_ | exact Or.inr ⟨rfl, Nat.le_refl _⟩ | exact (fun h => Bool.noConfusion h) | omega | (simp only [decide_eq_true_eq, decide_eq_false_iff_not, List.length_cons, List.length_nil, List.length_append, List.length_map, Sh.size] <;> omega) | (go_unwrap; omega))
          exact ⟨(i + 1, u), (by first | rfl | (simp only [trimE, trimM, List.take_succ_cons, List.take_zero, List.take_nil, List.map_cons, List.map_nil, Option.map_some, Option.map_none, MObj.kill, PV.kill, Nat.reduceLeDiff, decide_true, decide_false, dec_true, dec_false, Bool.false_eq_true, if_false, if_true, reduceIte, List.zip_cons_cons, List.zip_nil_left, Nat.le_refl, Nat.zero_le, Nat.not_le, Nat.lt_irrefl]; done) | (simp [trimE, trimM, MObj.kill, PV.kill]; done)), (by first | rfl | (simp only [trimE, trimM, List.take_succ_cons, List.take_zero, List.take_nil, List.map_cons, List.map_nil, Option.map_some, Option.map_none, MObj.kill, PV.kill, Nat.reduceLeDiff, decide_true, decide_false, dec_true, dec_false, Bool.false_eq_true, if_false, if_true, reduceIte, List.zip_cons_cons, List.zip_nil_left, Nat.le_refl, Nat.zero_le, Nat.not_le, Nat.lt_irrefl]; done) | (simp [trimE, trimM, MObj.kill, PV.kill]; done)), ⟨h, hul, hr⟩, by simp only; omega⟩
        · simp only [hre, ne_eq, not_false_eq_true, if_true] at hr
          have hre' : decide (restE n = 0) = false := by simpa using hre
          repeat' (first | refine PW.seq ?_ | refine PW.block ?_ | ((first | refine PW.region ?_ | refine PW.regionQ ?_ | refine PW.exit ?_ | refine PW.ret ?_ | refine PW.skip ?_); simp only [hd2, hre', SA, Nat.reduceAdd, reduceIte, Nat.reduceEqDiff, Nat.reduceBEq, reduceCtorEq]; (try go_unwrap; try simp only [hd2, hre', RR, reduceCtorEq])) | refine PW.regionA ?_ | exact schedW_stop_i | ((first | refine schedW_alt_i ?_ ?_ | refine schedW_done_i ?_); focus (simp only [hd2, hre', SA, Nat.reduceAdd, reduceIte, Nat.reduceEqDiff, Nat.reduceBEq, reduceCtorEq]; (try go_unwrap; try simp only [hd2, hre', RR, reduceCtorEq]))) | (refine PW.cond rfl ?_ ?_ <;> intro hcond <;> (try contradiction) <;> try simp only [DD] at hcond) | refine And.intro ?_ ?_ | exact Or.inr ⟨rfl, Nat.le_refl _⟩ | exact (fun h => Bool.noConfusion h) | omega | (simp only [decide_eq_true_eq, decide_eq_false_iff_not, List.length_cons, List.length_nil, List.length_append, List.length_map, Sh.size] <;> omega) | (go_unwrap; omega))
          rw [hC, hr]
    · rw [if_pos (by omega)] at hr
      have hf' : decide (formE n = 0) = false := by simpa using hf
      repeat' (first | refine PW.seq ?_ | refine PW.block ?_ | ((first | refine PW.region ?_ | refine PW.regionQ ?_ | refine PW.exit ?_ | refine PW.ret ?_ | refine PW.skip ?_); simp only [hd', hgn, hf', List.length_map, SA, Nat.reduceAdd, reduceIte, Nat.reduceEqDiff, Nat.reduceBEq, reduceCtorEq]; (try go_unwrap; try simp only [hd', hgn, hf', List.length_map, RR, reduceCtorEq])) | refine PW.regionA ?_ | exact schedW_stop_i | ((first | refine schedW_alt_i ?_ ?_ | refine schedW_done_i ?_); focus (simp only [hd', hgn, hf', List.length_map, SA, Nat.reduceAdd, reduceIte, Nat.reduceEqDiff, Nat.reduceBEq, reduceCtorEq]; (try go_unwrap; try simp only [hd', hgn, hf', List.length_map, RR, reduceCtorEq]))) | (refine PW.cond rfl ?_ ?_ <;> intro hcond <;> (try contradiction) <;> try simp only [DD] at hcond) | (apply goCall_V e60; (case hV => (simp only [hd', hgn, hf', List.length_map, SA, Nat.reduceAdd, reduceIte, Nat.reduceEqDiff, Nat.reduceBEq, reduceCtorEq]; (try go_unwrap; try simp only [hd', hgn, hf', List.length_map, RR, reduceCtorEq]); exact h60)); (try (case hs => rfl)); (try (case hf => first | exact Or.inl rfl | exact Or.inr ⟨rfl, rfl⟩ | (refine Or.inl ?_; simp only [hd', hgn, hf', List.length_map, SA, Nat.reduceAdd, reduceIte, Nat.reduceEqDiff, Nat.reduceBEq, reduceCtorEq]; done) | (refine Or.inr ⟨rfl, ?_⟩; simp only [hd', hgn, hf', List.length_map, SA, Nat.reduceAdd, reduceIte, Nat.reduceEqDiff, Nat.reduceBEq, reduceCtorEq]; done))); all_goals (simp only [hd', hgn, hf', List.length_map, SA, Nat.reduceAdd, reduceIte, Nat.reduceEqDiff, Nat.reduceBEq, reduceCtorEq]; (try go_unwrap; try simp only [hd', hgn, hf', List.length_map, RR, reduceCtorEq]))) | refine And.intro ?_ ?_ | exact Or.inr ⟨rfl, Nat.le_refl _⟩ | exact (fun h => Bool.noConfusion h) | omega | (simp only [decide_eq_true_eq, decide_eq_false_iff_not, List.length_cons, List.length_nil, List.length_append, List.length_map, Sh.size] <;> omega) | (go_unwrap; omega))
      rw [hC, hr]
  · have hd' : decide ((i : Int) < l.length) = false := by simp only [decide_eq_false_iff_not]; omega
    rw [List.drop_eq_nil_of_le h, checkNodes] at hr
    obtain ⟨-, hwf, hall⟩ := checkNodes_ok hr
    have h42 := v42 (G := G) l (by omega) (by intro hh; simp [hh] at h0) hwf (fun n hn => by have := (formE_ok (hall n hn).1).2.2.2; omega)
    simp only [treeP] at h42
    have h61 := v61 (G := G) (t.take (l.length - 1)) false (by rw [List.length_take]; omega)
    rw [List.map_take] at h61
    have hti : ((l.length : Int) - 1).toNat = l.length - 1 := by omega
    rw [hr] at hC
    simp only at hC
    cases hct : (t.take (l.length - 1)).contains false with
    | true =>
      rw [if_pos hct] at hC
      rw [hct] at h61
      repeat' (first | refine PW.seq ?_ | refine PW.block ?_ | ((first | refine PW.region ?_ | refine PW.regionQ ?_ | refine PW.exit ?_ | refine PW.ret ?_ | refine PW.skip ?_); simp only [hd', hti, List.length_map, htl, Nat.sub_le, SA, Nat.reduceAdd, reduceIte, Nat.reduceEqDiff, Nat.reduceBEq, reduceCtorEq]; (try go_unwrap; try simp only [hd', hti, List.length_map, htl, Nat.sub_le, RR, reduceCtorEq])) | refine PW.regionA ?_ | exact schedW_stop_i | ((first | refine schedW_alt_i ?_ ?_ | refine schedW_done_i ?_); focus (simp only [hd', hti, List.length_map, htl, Nat.sub_le, SA, Nat.reduceAdd, reduceIte, Nat.reduceEqDiff, Nat.reduceBEq, reduceCtorEq]; (try go_unwrap; try simp only [hd', hti, List.length_map, htl, Nat.sub_le, RR, reduceCtorEq]))) | (refine PW.cond rfl ?_ ?_ <;> intro hcond <;> (try contradiction) <;> try simp only [DD] at hcond) | (apply goCall_V e61; (case hV => (simp only [hd', hti, List.length_map, htl, Nat.sub_le, SA, Nat.reduceAdd, reduceIte, Nat.reduceEqDiff, Nat.reduceBEq, reduceCtorEq]; (try go_unwrap; try simp only [hd', hti, List.length_map, htl, Nat.sub_le, RR, reduceCtorEq]); exact h61)); (try (case hs => rfl)); (try (case hf => first | exact Or.inl rfl | exact Or.inr ⟨rfl, rfl⟩ | (refine Or.inl ?_; simp only [hd', hti, List.length_map, htl, Nat.sub_le, SA, Nat.reduceAdd, reduceIte, Nat.reduceEqDiff, Nat.reduceBEq, reduceCtorEq]; done) | (refine Or.inr ⟨rfl, ?_⟩; simp only [hd', hti, List.length_map, htl, Nat.sub_le, SA, Nat.reduceAdd, reduceIte, Nat.reduceEqDiff, Nat.reduceBEq, reduceCtorEq]; done))); all_goals (simp only [hd', hti, List.length_map, htl, Nat.sub_le, SA, Nat.reduceAdd, reduceIte, Nat.reduceEqDiff, Nat.reduceBEq, reduceCtorEq]; (try go_unwrap; try simp only [hd', hti, List.length_map, htl, Nat.sub_le, RR, reduceCtorEq]))) | refine And.intro ?_ ?_ | exact Or.inr ⟨rfl, Nat.le_refl _⟩ | exact (fun h => Bool.noConfusion h) | omega | (simp only [decide_eq_true_eq, decide_eq_false_iff_not, List.length_cons, List.length_nil, List.length_append, List.length_map, Sh.size] <;> omega) | (go_unwrap; omega))
      rw [hC]
    | false =>
      rw [if_neg (by rw [hct]; simp)] at hC
      rw [hct] at h61
      rw [hC]
      repeat' (first | refine PW.seq ?_ | refine PW.block ?_ | ((first | refine PW.region ?_ | refine PW.regionQ ?_ | refine PW.exit ?_ | refine PW.ret ?_ | refine PW.skip ?_); simp only [hd', hti, List.length_map, htl, Nat.sub_le, SA, Nat.reduceAdd, reduceIte, Nat.reduceEqDiff, Nat.reduceBEq, reduceCtorEq]; (try go_unwrap; try simp only [hd', hti, List.length_map, htl, Nat.sub_le, RR, reduceCtorEq])) | refine PW.regionA ?_ | exact schedW_stop_i | ((first | refine schedW_alt_i ?_ ?_ | refine schedW_done_i ?_); focus (simp only [hd', hti, List.length_map, htl, Nat.sub_le, SA, Nat.reduceAdd, reduceIte, Nat.reduceEqDiff, Nat.reduceBEq, reduceCtorEq]; (try go_unwrap; try simp only [hd', hti, List.length_map, htl, Nat.sub_le, RR, reduceCtorEq]))) | (refine PW.cond rfl ?_ ?_ <;> intro hcond <;> (try contradiction) <;> try simp only [DD] at hcond) | (apply goCall_V e61; (case hV => (simp only [hd', hti, List.length_map, htl, Nat.sub_le, SA, Nat.reduceAdd, reduceIte, Nat.reduceEqDiff, Nat.reduceBEq, reduceCtorEq]; (try go_unwrap; try simp only [hd', hti, List.length_map, htl, Nat.sub_le, RR, reduceCtorEq]); exact h61)); (try (case hs => rfl)); (try (case hf => first | exact Or.inl rfl | exact Or.inr ⟨rfl, rfl⟩ | (refine Or.inl ?_; simp only [hd', hti, List.length_map, htl, Nat.sub_le, SA, Nat.reduceAdd, reduceIte, Nat.reduceEqDiff, Nat.reduceBEq, reduceCtorEq]; done) | (refine Or.inr ⟨rfl, ?_⟩; simp only [hd', hti, List.length_map, htl, Nat.sub_le, SA, Nat.reduceAdd, reduceIte, Nat.reduceEqDiff, Nat.reduceBEq, reduceCtorEq]; done))); all_goals (simp only [hd', hti, List.length_map, htl, Nat.sub_le, SA, Nat.reduceAdd, reduceIte, Nat.reduceEqDiff, Nat.reduceBEq, reduceCtorEq]; (try go_unwrap; try simp only [hd', hti, List.length_map, htl, Nat.sub_le, RR, reduceCtorEq]))) | (apply goCall_V e42; (case hV => (simp only [hd', hti, List.length_map, htl, Nat.sub_le, SA, Nat.reduceAdd, reduceIte, Nat.reduceEqDiff, Nat.reduceBEq, reduceCtorEq]; (try go_unwrap; try simp only [hd', hti, List.length_map, htl, Nat.sub_le, RR, reduceCtorEq]); exact h42)); (try (case hs => rfl)); (try (case hf => first | exact Or.inl rfl | exact Or.inr ⟨rfl, rfl⟩ | (refine Or.inl ?_; simp only [hd', hti, List.length_map, htl, Nat.sub_le, SA, Nat.reduceAdd, reduceIte, Nat.reduceEqDiff, Nat.reduceBEq, reduceCtorEq]; done) | (refine Or.inr ⟨rfl, ?_⟩; simp only [hd', hti, List.length_map, htl, Nat.sub_le, SA, Nat.reduceAdd, reduceIte, Nat.reduceEqDiff, Nat.reduceBEq, reduceCtorEq]; done))); all_goals (simp only [hd', hti, List.length_map, htl, Nat.sub_le, SA, Nat.reduceAdd, reduceIte, Nat.reduceEqDiff, Nat.reduceBEq, reduceCtorEq]; (try go_unwrap; try simp only [hd', hti, List.length_map, htl, Nat.sub_le, RR, reduceCtorEq]))) | refine And.intro ?_ ?_ | exact Or.inr ⟨rfl, Nat.le_refl _⟩ | exact (fun h => Bool.noConfusion h) | omega | (simp only [decide_eq_true_eq, decide_eq_false_iff_not, List.length_cons, List.length_nil, List.length_append, List.length_map, Sh.size] <;> omega) | (go_unwrap; omega))
      · rw [if_pos hcond]
      · rw [if_neg hcond]
end Go.Proofs.YthekpjhffciakaaDoor

namespace Go.Proofs.YthekpjhffciakaaDoor
open Go PG Go.Proofs
set_option linter.unusedSimpArgs false
set_option linter.unusedVariables false
set_option maxHeartbeats 4000000
set_option maxRecDepth 100000
variable {G : Globs}
/-- A contract of the shelf's, as one by value. -/
theorem VCalls.shelf {P : Program} {G : Globs} {f : Nat} {as_ : List PV} {res : PV} {va : Array Value} {v : Value}
  (hva : ∀ w ex vs, RepCs w ex vs as_ → vs = va) (hv : ∀ w ex, RepC w ex v res) (h : ∀ w, Calls P f va w fun e w' => e = .returned v ∧ w' = w) : VCalls P G f as_ res := by
  intro w ex vs _ _ hr
  rw [hva w ex vs hr]
  refine (h w).mono ?_
  rintro e w' ⟨rfl, rfl⟩
  exact ⟨v, rfl, RowKit.Below.refl _ _, hv _ _⟩

theorem repCs_str_int {w ex vs} {s : List UInt8} {k : IntKind} {c : Int} (h : RepCs w ex vs [.str s, .int k c]) : vs = #[.string ⟨⟨s⟩⟩, .int k c] := by
  obtain ⟨hs, hr⟩ := h
  obtain ⟨l⟩ := vs
  match l, hs with
  | [x, y], _ =>
    have h0 := hr 0 x _ rfl rfl
    have h1 := hr 1 y _ rfl rfl
    cases h0; cases h1; rfl
theorem repCs_str_str {w ex vs} {s t : List UInt8} (h : RepCs w ex vs [.str s, .str t]) : vs = #[.string ⟨⟨s⟩⟩, .string ⟨⟨t⟩⟩] := by
  obtain ⟨hs, hr⟩ := h
  obtain ⟨l⟩ := vs
  match l, hs with
  | [x, y], _ =>
    have h0 := hr 0 x _ rfl rfl
    have h1 := hr 1 y _ rfl rfl
    cases h0; cases h1; rfl
theorem w101 (s : ByteArray) (c : Int) (w : World) :
    Calls Tryd.prog 101 #[.string s, .int .u8 c] w fun e w' => e = .returned (.int .i64 (Lib.indexByte s.data.toList c.toNat.toUInt8)) ∧ w' = w := by
  go_enter Tryd.func101, Tryd.ntmps101
  go_wp2
  rw [run_callFunc_extern Tryd.func127 (by kernel_rfl) (by kernel_rfl) (by kernel_rfl) (e := Extern.BytealgIndexByte.indexByte) (by kernel_rfl), Lib.run_indexByteString]
  simp only [Result.andThen]
  rw [Oper.upon_value]
  go_wp2
  go_ret
  exact ⟨rfl, rfl⟩
theorem w48 (s : ByteArray) (c : UInt8) (w : World) :
    Calls Tryd.prog 48 #[.string s, .string ⟨#[c]⟩] w fun e w' => e = .returned (.int .i64 (Lib.countByte s.data.toList c)) ∧ w' = w := by
  go_enter Tryd.func48, Tryd.ntmps48
  go_wp2
  rw [run_callFunc_extern Tryd.func78 (by kernel_rfl) (by kernel_rfl) (by kernel_rfl) (e := Extern.BytealgCount.count) (by kernel_rfl), Lib.run_countString]
  simp only [Result.andThen]
  rw [Oper.upon_value]
  go_wp2
  go_ret
  exact ⟨rfl, rfl⟩
theorem v101 (s : List UInt8) (b : UInt8) : VCalls Tryd.prog G 101 [.str s, .int .u8 b.toNat] (.int .i64 (Lib.indexByte s b)) := by
  refine VCalls.shelf (fun w ex vs h => repCs_str_int h) (fun w ex => .int _ _) (fun w => ?_)
  have h := w101 ⟨⟨s⟩⟩ (b.toNat : Int) w
  simpa using h
theorem v48 (s : List UInt8) (b : UInt8) : VCalls Tryd.prog G 48 [.str s, .str [b]] (.int .i64 (Lib.countByte s b)) := by
  exact VCalls.shelf (fun w ex vs h => repCs_str_str h) (fun w ex => .int _ _) (fun w => w48 ⟨⟨s⟩⟩ b w)
theorem e48 : Ent Tryd.prog 48 := ⟨Tryd.f48, Tryd.func48, by kernel_rfl, by kernel_rfl⟩
theorem e101 : Ent Tryd.prog 101 := ⟨Tryd.f101, Tryd.func101, by kernel_rfl, by kernel_rfl⟩
theorem e102 : Ent Tryd.prog 102 := ⟨Tryd.f102, Tryd.func102, by kernel_rfl, by kernel_rfl⟩
theorem e103 : Ent Tryd.prog 103 := ⟨Tryd.f103, Tryd.func103, by kernel_rfl, by kernel_rfl⟩
theorem e80 : Ent Tryd.prog 80 := ⟨Tryd.f80, Tryd.func80, by kernel_rfl, by kernel_rfl⟩
theorem e76 : Ent Tryd.prog 76 := ⟨Tryd.f76, Tryd.func76, by kernel_rfl, by kernel_rfl⟩

theorem len1 (b : UInt8) : (([b].length : Nat) : Int) = 1 := rfl
theorem d10 : decide ((1 : Int) = 0) = false := rfl
theorem d11 : decide ((1 : Int) = 1) = true := rfl
theorem zt : (0 : Int).toNat = 0 := rfl
theorem getD0 (b : UInt8) (l : List UInt8) : (b :: l).getD 0 0 = b := rfl
theorem v102 (s : List UInt8) (b : UInt8) : VCalls Tryd.prog G 102 [.str s, .str [b]] (.int .i64 (Lib.indexByte s b)) := by
  refine VCalls.of_PW Tryd.func102 k102 mix (by simp [c102]) ?_
  simp only [c102, L102, CC, argE]
  repeat' (first | refine PW.seq ?_ | refine PW.block ?_ | ((first | refine PW.region ?_ | refine PW.regionQ ?_ | refine PW.exit ?_ | refine PW.ret ?_ | refine PW.skip ?_); simp only [len1, d10, d11, zt, getD0, Bool.not_false, Bool.not_true, SA, Nat.reduceAdd, reduceIte, Nat.reduceEqDiff, Nat.reduceBEq, reduceCtorEq]; (try go_unwrap; try simp only [len1, d10, d11, zt, getD0, Bool.not_false, Bool.not_true, RR, reduceCtorEq])) | refine PW.regionA ?_ | exact schedW_stop_i | ((first | refine schedW_alt_i ?_ ?_ | refine schedW_done_i ?_); focus (simp only [len1, d10, d11, zt, getD0, Bool.not_false, Bool.not_true, SA, Nat.reduceAdd, reduceIte, Nat.reduceEqDiff, Nat.reduceBEq, reduceCtorEq]; (try go_unwrap; try simp only [len1, d10, d11, zt, getD0, Bool.not_false, Bool.not_true, RR, reduceCtorEq]))) | (refine PW.cond rfl ?_ ?_ <;> intro hcond <;> (try contradiction) <;> try simp only [DD] at hcond) | (apply goCall_V e101; (case hV => (simp only [len1, d10, d11, zt, getD0, Bool.not_false, Bool.not_true, SA, Nat.reduceAdd, reduceIte, Nat.reduceEqDiff, Nat.reduceBEq, reduceCtorEq]; (try go_unwrap; try simp only [len1, d10, d11, zt, getD0, Bool.not_false, Bool.not_true, RR, reduceCtorEq]); exact v101 _ _)); (try (case hs => rfl)); (try (case hf => first | exact Or.inl rfl | exact Or.inr ⟨rfl, rfl⟩ | (refine Or.inl ?_; simp only [len1, d10, d11, zt, getD0, Bool.not_false, Bool.not_true, SA, Nat.reduceAdd, reduceIte, Nat.reduceEqDiff, Nat.reduceBEq, reduceCtorEq]; done) | (refine Or.inr ⟨rfl, ?_⟩; simp only [len1, d10, d11, zt, getD0, Bool.not_false, Bool.not_true, SA, Nat.reduceAdd, reduceIte, Nat.reduceEqDiff, Nat.reduceBEq, reduceCtorEq]; done))); all_goals (simp only [len1, d10, d11, zt, getD0, Bool.not_false, Bool.not_true, SA, Nat.reduceAdd, reduceIte, Nat.reduceEqDiff, Nat.reduceBEq, reduceCtorEq]; (try go_unwrap; try simp only [len1, d10, d11, zt, getD0, Bool.not_false, Bool.not_true, RR, reduceCtorEq]))) | refine And.intro ?_ ?_ | exact Or.inr ⟨rfl, Nat.le_refl _⟩ | exact (fun h => Bool.noConfusion h) | omega | (simp only [decide_eq_true_eq, decide_eq_false_iff_not, List.length_cons, List.length_nil, List.length_append, List.length_map, Sh.size] <;> omega) | (go_unwrap; omega))
  · try simp only [Bool.false_or, decide_eq_true_eq] at hcond
    simp [← hcond, Lib.indexByte]
def cutS (s : List UInt8) (b : UInt8) : List UInt8 × List UInt8 × Bool :=
  if 0 ≤ Lib.indexByte s b then (s.take (Lib.indexByte s b).toNat, s.drop ((Lib.indexByte s b).toNat + 1), true) else (s, [], false)
theorem indexByte_lt (s : List UInt8) (b : UInt8) : Lib.indexByte s b < s.length := by
  induction s with
  | nil => simp [Lib.indexByte]
  | cons x l ih =>
    unfold Lib.indexByte
    simp only [List.length_cons]
    split
    · omega
    · split <;> omega
theorem v103 (s : List UInt8) (b : UInt8) (hs : s.length ≤ 9223372036854775806) : VCalls Tryd.prog G 103 [.str s, .str [b]] (.tup [.str (cutS s b).1, .str (cutS s b).2.1, .bool (cutS s b).2.2]) := by
  refine VCalls.of_PW Tryd.func103 k103 mix (by simp [c103]) ?_
  have h1 := indexByte_lt s b
  simp only [c103, L103, CC, argE]
  repeat' (first | refine PW.seq ?_ | refine PW.block ?_ | ((first | refine PW.region ?_ | refine PW.regionQ ?_ | refine PW.exit ?_ | refine PW.ret ?_ | refine PW.skip ?_); simp only [len1, SA, Nat.reduceAdd, reduceIte, Nat.reduceEqDiff, Nat.reduceBEq, reduceCtorEq]; (try go_unwrap; try simp only [len1, RR, reduceCtorEq])) | refine PW.regionA ?_ | exact schedW_stop_i | ((first | refine schedW_alt_i ?_ ?_ | refine schedW_done_i ?_); focus (simp only [len1, SA, Nat.reduceAdd, reduceIte, Nat.reduceEqDiff, Nat.reduceBEq, reduceCtorEq]; (try go_unwrap; try simp only [len1, RR, reduceCtorEq]))) | (refine PW.cond rfl ?_ ?_ <;> intro hcond <;> (try contradiction) <;> try simp only [DD] at hcond) | (apply goCall_V e102; (case hV => (simp only [len1, SA, Nat.reduceAdd, reduceIte, Nat.reduceEqDiff, Nat.reduceBEq, reduceCtorEq]; (try go_unwrap; try simp only [len1, RR, reduceCtorEq]); exact v102 _ _)); (try (case hs => rfl)); (try (case hf => first | exact Or.inl rfl | exact Or.inr ⟨rfl, rfl⟩ | (refine Or.inl ?_; simp only [len1, SA, Nat.reduceAdd, reduceIte, Nat.reduceEqDiff, Nat.reduceBEq, reduceCtorEq]; done) | (refine Or.inr ⟨rfl, ?_⟩; simp only [len1, SA, Nat.reduceAdd, reduceIte, Nat.reduceEqDiff, Nat.reduceBEq, reduceCtorEq]; done))); all_goals (simp only [len1, SA, Nat.reduceAdd, reduceIte, Nat.reduceEqDiff, Nat.reduceBEq, reduceCtorEq]; (try go_unwrap; try simp only [len1, RR, reduceCtorEq]))) | refine And.intro ?_ ?_ | exact Or.inr ⟨rfl, Nat.le_refl _⟩ | exact (fun h => Bool.noConfusion h) | omega | (simp only [decide_eq_true_eq, decide_eq_false_iff_not, List.length_cons, List.length_nil, List.length_append, List.length_map, Sh.size] <;> omega) | (go_unwrap; omega))
  all_goals (try simp only [decide_eq_true_eq, decide_eq_false_iff_not] at hcond)
  all_goals (try simp only [cutS, hcond, if_true, if_false])
  all_goals (try go_unwrap)
  all_goals try (go_unwrap; omega)
  rw [show (Lib.indexByte s b + 1).toNat = (Lib.indexByte s b).toNat + 1 by omega]

theorem v80 (s : List UInt8) (b : UInt8) (hs : s.length ≤ 9223372036854775806) : VCalls Tryd.prog G 80 [.str s, .str [b]] (.tup [.str (cutS s b).1, .str (cutS s b).2.1, .bool (cutS s b).2.2]) := by
  refine VCalls.of_PW Tryd.func80 k80 mix (by simp [c80]) ?_
  simp only [c80, L80, CC, argE]
  repeat' (first | refine PW.seq ?_ | refine PW.block ?_ | ((first | refine PW.region ?_ | refine PW.regionQ ?_ | refine PW.exit ?_ | refine PW.ret ?_ | refine PW.skip ?_); simp only [SA, Nat.reduceAdd, reduceIte, Nat.reduceEqDiff, Nat.reduceBEq, reduceCtorEq]; (try go_unwrap; try simp only [RR, reduceCtorEq])) | refine PW.regionA ?_ | exact schedW_stop_i | ((first | refine schedW_alt_i ?_ ?_ | refine schedW_done_i ?_); focus (simp only [SA, Nat.reduceAdd, reduceIte, Nat.reduceEqDiff, Nat.reduceBEq, reduceCtorEq]; (try go_unwrap; try simp only [RR, reduceCtorEq]))) | (refine PW.cond rfl ?_ ?_ <;> intro hcond <;> (try contradiction) <;> try simp only [DD] at hcond) | (apply goCall_V e103; (case hV => (simp only [SA, Nat.reduceAdd, reduceIte, Nat.reduceEqDiff, Nat.reduceBEq, reduceCtorEq]; (try go_unwrap; try simp only [RR, reduceCtorEq]); exact v103 _ _ hs)); (try (case hs => rfl)); (try (case hf => first | exact Or.inl rfl | exact Or.inr ⟨rfl, rfl⟩ | (refine Or.inl ?_; simp only [SA, Nat.reduceAdd, reduceIte, Nat.reduceEqDiff, Nat.reduceBEq, reduceCtorEq]; done) | (refine Or.inr ⟨rfl, ?_⟩; simp only [SA, Nat.reduceAdd, reduceIte, Nat.reduceEqDiff, Nat.reduceBEq, reduceCtorEq]; done))); all_goals (simp only [SA, Nat.reduceAdd, reduceIte, Nat.reduceEqDiff, Nat.reduceBEq, reduceCtorEq]; (try go_unwrap; try simp only [RR, reduceCtorEq]))) | refine And.intro ?_ ?_ | exact Or.inr ⟨rfl, Nat.le_refl _⟩ | exact (fun h => Bool.noConfusion h) | omega | (simp only [decide_eq_true_eq, decide_eq_false_iff_not, List.length_cons, List.length_nil, List.length_append, List.length_map, Sh.size] <;> omega) | (go_unwrap; omega))
theorem v76 (s : List UInt8) (b : UInt8) : VCalls Tryd.prog G 76 [.str s, .int .u8 b.toNat] (.int .i64 (Lib.indexByte s b)) := by
  refine VCalls.of_PW Tryd.func76 k76 mix (by simp [c76]) ?_
  simp only [c76, L76, CC, argE]
  repeat' (first | refine PW.seq ?_ | refine PW.block ?_ | ((first | refine PW.region ?_ | refine PW.regionQ ?_ | refine PW.exit ?_ | refine PW.ret ?_ | refine PW.skip ?_); simp only [SA, Nat.reduceAdd, reduceIte, Nat.reduceEqDiff, Nat.reduceBEq, reduceCtorEq]; (try go_unwrap; try simp only [RR, reduceCtorEq])) | refine PW.regionA ?_ | exact schedW_stop_i | ((first | refine schedW_alt_i ?_ ?_ | refine schedW_done_i ?_); focus (simp only [SA, Nat.reduceAdd, reduceIte, Nat.reduceEqDiff, Nat.reduceBEq, reduceCtorEq]; (try go_unwrap; try simp only [RR, reduceCtorEq]))) | (refine PW.cond rfl ?_ ?_ <;> intro hcond <;> (try contradiction) <;> try simp only [DD] at hcond) | (apply goCall_V e101; (case hV => (simp only [SA, Nat.reduceAdd, reduceIte, Nat.reduceEqDiff, Nat.reduceBEq, reduceCtorEq]; (try go_unwrap; try simp only [RR, reduceCtorEq]); exact v101 _ _)); (try (case hs => rfl)); (try (case hf => first | exact Or.inl rfl | exact Or.inr ⟨rfl, rfl⟩ | (refine Or.inl ?_; simp only [SA, Nat.reduceAdd, reduceIte, Nat.reduceEqDiff, Nat.reduceBEq, reduceCtorEq]; done) | (refine Or.inr ⟨rfl, ?_⟩; simp only [SA, Nat.reduceAdd, reduceIte, Nat.reduceEqDiff, Nat.reduceBEq, reduceCtorEq]; done))); all_goals (simp only [SA, Nat.reduceAdd, reduceIte, Nat.reduceEqDiff, Nat.reduceBEq, reduceCtorEq]; (try go_unwrap; try simp only [RR, reduceCtorEq]))) | refine And.intro ?_ ?_ | exact Or.inr ⟨rfl, Nat.le_refl _⟩ | exact (fun h => Bool.noConfusion h) | omega | (simp only [decide_eq_true_eq, decide_eq_false_iff_not, List.length_cons, List.length_nil, List.length_append, List.length_map, Sh.size] <;> omega) | (go_unwrap; omega))

def signs : List UInt8 := [43, 45, 42, 40, 41, 44, 60, 61]
def signB (b : UInt8) : Bool := signs.contains b
end Go.Proofs.YthekpjhffciakaaDoor

namespace Go.Proofs.YthekpjhffciakaaDoor
open Go PG Go.Proofs
set_option linter.unusedSimpArgs false
set_option linter.unusedVariables false
set_option maxHeartbeats 4000000
set_option maxRecDepth 100000
variable {G : Globs}
theorem e49 : Ent Tryd.prog 49 := ⟨Tryd.f49, Tryd.func49, by kernel_rfl, by kernel_rfl⟩
/-- The whole part, held at one more than the most. -/
def capV : Nat → List UInt8 → Nat
  | n, [] => n
  | n, b :: l => if 10 * n + (b - 48).toNat > 1000000000000 then capV 1000000000001 l else capV (10 * n + (b - 48).toNat) l
/-- The whole part, given up where it is more. -/
def lexV : Nat → List UInt8 → Option Nat
  | n, [] => some n
  | n, b :: l => if 10 * n + (b - 48).toNat > 1000000000000 then none else lexV (10 * n + (b - 48).toNat) l
/-- Behind the point. -/
def partV : Nat → List UInt8 → Nat
  | _, [] => 0
  | u, b :: l => u * (b - 48).toNat + partV (u / 10) l
theorem partV_le (u : Nat) (l : List UInt8) : partV u l ≤ 284 * u := by
  induction l generalizing u with
  | nil => simp [partV]
  | cons b l ih =>
    have h := ih (u / 10)
    have h1 : (b - 48).toNat ≤ 255 := by have := (b - 48).toNat_lt; omega
    have h2 : u * (b - 48).toNat ≤ u * 255 := Nat.mul_le_mul_left u h1
    simp only [partV]
    omega
theorem capV_over (l : List UInt8) : capV 1000000000001 l = 1000000000001 := by
  induction l with
  | nil => rfl
  | cons b l ih => simp only [capV]; rw [if_pos (by omega)]; exact ih
theorem lexV_capV {n : Nat} {l : List UInt8} (h : n ≤ 1000000000000) : (lexV n l = none ∧ capV n l = 1000000000001) ∨ (∃ m, lexV n l = some m ∧ capV n l = m ∧ m ≤ 1000000000000) := by
  induction l generalizing n with
  | nil => exact .inr ⟨n, rfl, rfl, h⟩
  | cons b l ih =>
    simp only [lexV, capV]
    split
    · exact .inl ⟨rfl, capV_over l⟩
    · exact ih (by omega)
def milV (w r : List UInt8) : Nat := capV 0 w * 1000000 + partV 100000 r
def valV (s : List UInt8) : PV :=
  match lexV 0 (cutS s 46).1 with
  | none => .tup [.int .i64 0, .bool false]
  | some n => if n = 1000000000000 ∧ 0 < partV 100000 (cutS s 46).2.1 then .tup [.int .i64 0, .bool false] else .tup [.int .i64 (n * 1000000 + partV 100000 (cutS s 46).2.1 : Nat), .bool true]
theorem drop_cons {s : List UInt8} {i : Nat} (h : i < s.length) : s.drop i = s.getD i 0 :: s.drop (i + 1) := by
  rw [List.drop_eq_getElem_cons h]
  simp [List.getD, h]

theorem v49 (s : List UInt8) (hs : s.length ≤ 9223372036854775806) : VCalls Tryd.prog G 49 [.str s] (valV s) := by
  refine VCalls.of_PW Tryd.func49 k49 mix (by simp [c49]) ?_
  have hcut : (cutS s 46).1.length ≤ s.length ∧ (cutS s 46).2.1.length ≤ s.length := by
    unfold cutS
    split
    · simp; omega
    · simp
  have hv : ∀ x y, (cutS s 46).1 = x → (cutS s 46).2.1 = y → valV s = (match lexV 0 x with
      | none => .tup [.int .i64 0, .bool false]
      | some n => if n = 1000000000000 ∧ 0 < partV 100000 y then .tup [.int .i64 0, .bool false] else .tup [.int .i64 (n * 1000000 + partV 100000 y : Nat), .bool true]) := by
    rintro x y rfl rfl; rfl
  have hcall := v80 (G := G) s 46 hs
  generalize (cutS s 46).1 = w at *
  generalize (cutS s 46).2.1 = r at *
  generalize (cutS s 46).2.2 = fd at *
  rw [hv w r rfl rfl]
  simp only [c49, L49, CC, argE]
  repeat' (first | refine PW.seq ?_ | refine PW.block ?_ | ((first | refine PW.region ?_ | refine PW.regionQ ?_ | refine PW.exit ?_ | refine PW.ret ?_ | refine PW.skip ?_); simp only [SA, Nat.reduceAdd, reduceIte, Nat.reduceEqDiff, Nat.reduceBEq, reduceCtorEq]; (try go_unwrap; try simp only [RR, reduceCtorEq])) | refine PW.regionA ?_ | exact schedW_stop_i | ((first | refine schedW_alt_i ?_ ?_ | refine schedW_done_i ?_); focus (simp only [SA, Nat.reduceAdd, reduceIte, Nat.reduceEqDiff, Nat.reduceBEq, reduceCtorEq]; (try go_unwrap; try simp only [RR, reduceCtorEq]))) | (refine PW.cond rfl ?_ ?_ <;> intro hcond <;> (try contradiction) <;> try simp only [DD] at hcond) | (apply goCall_V e80; (case hV => (simp only [SA, Nat.reduceAdd, reduceIte, Nat.reduceEqDiff, Nat.reduceBEq, reduceCtorEq]; (try go_unwrap; try simp only [RR, reduceCtorEq]); exact hcall)); (try (case hs => rfl)); (try (case hf => first | exact Or.inl rfl | exact Or.inr ⟨rfl, rfl⟩ | (refine Or.inl ?_; simp only [SA, Nat.reduceAdd, reduceIte, Nat.reduceEqDiff, Nat.reduceBEq, reduceCtorEq]; done) | (refine Or.inr ⟨rfl, ?_⟩; simp only [SA, Nat.reduceAdd, reduceIte, Nat.reduceEqDiff, Nat.reduceBEq, reduceCtorEq]; done))); all_goals (simp only [SA, Nat.reduceAdd, reduceIte, Nat.reduceEqDiff, Nat.reduceBEq, reduceCtorEq]; (try go_unwrap; try simp only [RR, reduceCtorEq]))) | refine And.intro ?_ ?_ | exact Or.inr ⟨rfl, Nat.le_refl _⟩ | exact (fun h => Bool.noConfusion h) | omega | (simp only [decide_eq_true_eq, decide_eq_false_iff_not, List.length_cons, List.length_nil, List.length_append, List.length_map, Sh.size] <;> omega) | (go_unwrap; omega))
  refine PW.loop (σ := Nat × Nat) [5, 7, 20, 21, 22] (fun j => [.str r, .int .i64 j.2, .list none (u8s w), .int .i64 w.length, .int .i64 j.1]) (fun _ => []) (fun j => j.1 ≤ w.length ∧ j.2 ≤ 1000000000000 ∧ lexV 0 w = lexV j.2 (w.drop j.1)) (fun j => w.length - j.1) (0, 0) ?_ rfl ⟨by simp, by simp, by simp⟩ ?_
  · simp only [SA, Nat.reduceAdd, reduceIte, Nat.reduceEqDiff, Nat.reduceBEq, reduceCtorEq]; rfl
  rintro ⟨j, n⟩ ⟨hj, hn, hc⟩
  simp only at hj hn hc
  simp only [List.zip_cons_cons, List.zip_nil_left]
  rcases Nat.lt_or_ge j w.length with hlt | hlt
  · have hd : decide ((j : Int) < w.length) = true := by simp only [decide_eq_true_eq]; omega
    have hb : (w.getD j 0 - 48).toNat < 256 := UInt8.toNat_lt _
    have hx := u8s_getD w j hlt
    rw [drop_cons hlt, lexV] at hc
    repeat' (first | refine PW.seq ?_ | refine PW.block ?_ | ((first | refine PW.region ?_ | refine PW.regionQ ?_ | refine PW.exit ?_ | refine PW.ret ?_ | refine PW.skip ?_); simp only [hd, hx, SA, Nat.reduceAdd, reduceIte, Nat.reduceEqDiff, Nat.reduceBEq, reduceCtorEq]; (try go_unwrap; try simp only [hd, hx, RR, reduceCtorEq])) | refine PW.regionA ?_ | exact schedW_stop_i | ((first | refine schedW_alt_i ?_ ?_ | refine schedW_done_i ?_); focus (simp only [hd, hx, SA, Nat.reduceAdd, reduceIte, Nat.reduceEqDiff, Nat.reduceBEq, reduceCtorEq]; (try go_unwrap; try simp only [hd, hx, RR, reduceCtorEq]))) | (refine PW.cond rfl ?_ ?_ <;> intro hcond <;> (try contradiction) <;> try simp only [DD] at hcond) | refine And.intro ?_ ?_ | exact Or.inr ⟨rfl, Nat.le_refl _⟩ | exact (fun h => Bool.noConfusion h) | omega | (simp only [decide_eq_true_eq, decide_eq_false_iff_not, List.length_cons, List.length_nil, List.length_append, List.length_map, Sh.size] <;> omega) | (go_unwrap; omega))
    · rw [if_pos (by omega)] at hc
      rw [hc]
    · rw [if_neg (by omega)] at hc
      exact ⟨(j + 1, 10 * n + (w.getD j 0 - 48).toNat), rfl, ⟨hlt, by simp only; omega, hc⟩, by simp only; omega⟩
  · have hd : decide ((j : Int) < w.length) = false := by simp only [decide_eq_false_iff_not]; omega
    rw [List.drop_eq_nil_of_le hlt, lexV] at hc
    rw [hc]
    repeat' (first | refine PW.seq ?_ | refine PW.block ?_ | ((first | refine PW.region ?_ | refine PW.regionQ ?_ | refine PW.exit ?_ | refine PW.ret ?_ | refine PW.skip ?_); simp only [hd, SA, Nat.reduceAdd, reduceIte, Nat.reduceEqDiff, Nat.reduceBEq, reduceCtorEq]; (try go_unwrap; try simp only [hd, RR, reduceCtorEq])) | refine PW.regionA ?_ | exact schedW_stop_i | ((first | refine schedW_alt_i ?_ ?_ | refine schedW_done_i ?_); focus (simp only [hd, SA, Nat.reduceAdd, reduceIte, Nat.reduceEqDiff, Nat.reduceBEq, reduceCtorEq]; (try go_unwrap; try simp only [hd, RR, reduceCtorEq]))) | (refine PW.cond rfl ?_ ?_ <;> intro hcond <;> (try contradiction) <;> try simp only [DD] at hcond) | refine And.intro ?_ ?_ | exact Or.inr ⟨rfl, Nat.le_refl _⟩ | exact (fun h => Bool.noConfusion h) | omega | (simp only [decide_eq_true_eq, decide_eq_false_iff_not, List.length_cons, List.length_nil, List.length_append, List.length_map, Sh.size] <;> omega) | (go_unwrap; omega))
    have hp := partV_le 100000 r
    refine PW.loop (σ := Nat × Nat × Nat) [5, 7, 10, 11, 12] (fun j => [.str r, .int .i64 n, .int .i64 j.2.1, .int .i64 j.1, .int .i64 j.2.2]) (fun _ => []) (fun j => j.1 ≤ r.length ∧ j.2.2 ≤ 100000 ∧ j.2.1 + partV j.2.2 (r.drop j.1) = partV 100000 r) (fun j => r.length - j.1) (0, 0, 100000) ?_ rfl ⟨by simp, by simp, by simp⟩ ?_
    · simp only [SA, Nat.reduceAdd, reduceIte, Nat.reduceEqDiff, Nat.reduceBEq, reduceCtorEq]; rfl
    rintro ⟨i, m, u⟩ ⟨hi, hu, hm⟩
    simp only at hi hu hm
    simp only [List.zip_cons_cons, List.zip_nil_left]
    rcases Nat.lt_or_ge i r.length with hlt' | hlt'
    · have hd' : decide ((i : Int) < r.length) = true := by simp only [decide_eq_true_eq]; omega
      rw [drop_cons hlt', partV] at hm
      have h0 : ((u : Int) * ((r.getD i 0 - 48).toNat : Int)) = ((u * (r.getD i 0 - 48).toNat : Nat) : Int) := by rw [Int.natCast_mul]
      have h1 : u * (r.getD i 0 - 48).toNat ≤ 28400000 := by omega
      generalize hz : u * (r.getD i 0 - 48).toNat = z at *
      repeat' (first | refine PW.seq ?_ | refine PW.block ?_ | ((first | refine PW.region ?_ | refine PW.regionQ ?_ | refine PW.exit ?_ | refine PW.ret ?_ | refine PW.skip ?_); simp only [hd', h0, tdiv10, SA, Nat.reduceAdd, reduceIte, Nat.reduceEqDiff, Nat.reduceBEq, reduceCtorEq]; (try go_unwrap; try simp only [hd', h0, tdiv10, RR, reduceCtorEq])) | refine PW.regionA ?_ | exact schedW_stop_i | ((first | refine schedW_alt_i ?_ ?_ | refine schedW_done_i ?_); focus (simp only [hd', h0, tdiv10, SA, Nat.reduceAdd, reduceIte, Nat.reduceEqDiff, Nat.reduceBEq, reduceCtorEq]; (try go_unwrap; try simp only [hd', h0, tdiv10, RR, reduceCtorEq]))) | (refine PW.cond rfl ?_ ?_ <;> intro hcond <;> (try contradiction) <;> try simp only [DD] at hcond) | refine And.intro ?_ ?_ | exact Or.inr ⟨rfl, Nat.le_refl _⟩ | exact (fun h => Bool.noConfusion h) | omega | (simp only [decide_eq_true_eq, decide_eq_false_iff_not, List.length_cons, List.length_nil, List.length_append, List.length_map, Sh.size] <;> omega) | (go_unwrap; omega))
      exact ⟨(i + 1, m + z, u / 10), rfl, ⟨hlt', by simp only; omega, by simp only; omega⟩, by simp only; omega⟩
    · have hd' : decide ((i : Int) < r.length) = false := by simp only [decide_eq_false_iff_not]; omega
      rw [List.drop_eq_nil_of_le hlt', partV] at hm
      repeat' (first | refine PW.seq ?_ | refine PW.block ?_ | ((first | refine PW.region ?_ | refine PW.regionQ ?_ | refine PW.exit ?_ | refine PW.ret ?_ | refine PW.skip ?_); simp only [hd', SA, Nat.reduceAdd, reduceIte, Nat.reduceEqDiff, Nat.reduceBEq, reduceCtorEq]; (try go_unwrap; try simp only [hd', RR, reduceCtorEq])) | refine PW.regionA ?_ | exact schedW_stop_i | ((first | refine schedW_alt_i ?_ ?_ | refine schedW_done_i ?_); focus (simp only [hd', SA, Nat.reduceAdd, reduceIte, Nat.reduceEqDiff, Nat.reduceBEq, reduceCtorEq]; (try go_unwrap; try simp only [hd', RR, reduceCtorEq]))) | (refine PW.cond rfl ?_ ?_ <;> intro hcond <;> (try contradiction) <;> try simp only [DD] at hcond) | refine And.intro ?_ ?_ | exact Or.inr ⟨rfl, Nat.le_refl _⟩ | exact (fun h => Bool.noConfusion h) | omega | (simp only [decide_eq_true_eq, decide_eq_false_iff_not, List.length_cons, List.length_nil, List.length_append, List.length_map, Sh.size] <;> omega) | (go_unwrap; omega))
      · simp only [Bool.and_eq_true, decide_eq_true_eq] at hcond
        rw [if_pos ⟨by omega, by omega⟩]
      · simp only [Bool.and_eq_false_iff, decide_eq_false_iff_not] at hcond
        rw [if_neg (by omega)]
        rw [← hm]; rfl
end Go.Proofs.YthekpjhffciakaaDoor

