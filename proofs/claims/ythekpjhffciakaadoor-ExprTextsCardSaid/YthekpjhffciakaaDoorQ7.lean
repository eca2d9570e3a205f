import Derived.Test.YthekpjhffciakaaDoorQ6
namespace Go.Proofs.YthekpjhffciakaaDoor
open Go PG Go.Proofs
set_option linter.unusedSimpArgs false
set_option linter.unusedVariables false
set_option maxHeartbeats 4000000
set_option maxRecDepth 100000
variable {G : Globs}
def kidsStep (i : Nat) : List Int → List Bool → Option (List Bool)
  | [], t => some t
  | k :: ks, t => if k < 0 ∨ (i : Int) ≤ k ∨ t.getD k.toNat false = true then none else kidsStep i ks (t.set k.toNat true)
def checkNodes : List Nd → Nat → List Bool → Except Int (List Bool)
  | [], _, t => .ok t
  | n :: ns, i, t => if formE n ≠ 0 then .error (formE n) else
    match kidsStep i n.kids t with
    | none => .error 8
    | some t' => if restE n ≠ 0 then .error (restE n) else checkNodes ns (i + 1) t'
def checkM (l : List Nd) : Int :=
  if l.length = 0 then 10 else if 256 < l.length then 5 else
  match checkNodes l 0 (List.replicate l.length false) with
  | .error e => e
  | .ok t => if (t.take (l.length - 1)).contains false = true then 3 else if 16 < depthM l then 14 else 0
theorem kidsStep_len {i : Nat} : ∀ {ks : List Int} {t t' : List Bool}, kidsStep i ks t = some t' → t'.length = t.length ∧ ∀ k ∈ ks, 0 ≤ k ∧ k < (i : Int)
  | [], t, t', h => by simp [kidsStep] at h; simp [h]
  | k :: ks, t, t', h => by
    unfold kidsStep at h
    split at h
    · cases h
    · rename_i hk
      obtain ⟨h1, h2⟩ := kidsStep_len h
      refine ⟨by rw [h1]; simp, fun x hx => ?_⟩
      rcases List.mem_cons.1 hx with rfl | hx
      · omega
      · exact h2 x hx
theorem kidsTab_le (i : Nat) : kidsTab.getD i 0 ≤ 3 := by
  by_cases h : i < 10
  · have : ∀ j, j < 10 → kidsTab.getD j 0 ≤ 3 := by decide
    exact this i h
  · have hl : kidsTab.length = 10 := rfl
    rw [List.getD_eq_getElem?_getD, List.getElem?_eq_none (by omega)]; simp
theorem formE_ok {n : Nd} (h : formE n = 0) : 0 ≤ n.op ∧ n.op ≤ 9 ∧ (n.kids.length : Int) = kidsTab.getD n.op.toNat 0 ∧ n.kids.length ≤ 3 := by
  unfold formE at h
  split at h
  · cases h
  · split at h
    · cases h
    · rename_i h1 h2
      have h3 := kidsTab_le n.op.toNat
      simp only [ne_eq, Decidable.not_not] at h2
      omega
theorem checkNodes_ok : ∀ {ns : List Nd} {i : Nat} {t t' : List Bool}, checkNodes ns i t = .ok t' → t'.length = t.length ∧ wfK ns i ∧ ∀ n ∈ ns, formE n = 0 ∧ restE n = 0
  | [], i, t, t', h => by simp [checkNodes] at h; simp [h, wfK]
  | n :: ns, i, t, t', h => by
    unfold checkNodes at h
    split at h
    · cases h
    · rename_i hf
      split at h
      · cases h
      · rename_i t1 hk
        split at h
        · cases h
        · rename_i hr
          obtain ⟨h1, h2, h3⟩ := checkNodes_ok h
          obtain ⟨h4, h5⟩ := kidsStep_len hk
          refine ⟨by rw [h1, h4], ⟨h5, h2⟩, fun x hx => ?_⟩
          rcases List.mem_cons.1 hx with rfl | hx
          · exact ⟨by omega, by omega⟩
          · exact h3 x hx
theorem v29 (hG : HasKids G) (l : List Nd) (hl : l.length ≤ 9223372036854775807) (hs : ∀ n ∈ l, n.name.length ≤ 9223372036854775807 ∧ n.kids.length ≤ 9223372036854775807) : VCalls Tryd.prog G 29 [treeP l] (.int .i64 (checkM l)) := by
  refine VCalls.of_PW Tryd.func29 k29 mix (by simp [c29]) ?_
  simp only [c29, L29, CC, argE, treeP]
  by_cases h0 : l.length = 0
  · have hd : decide ((l.length : Int) = 0) = true := by simp only [decide_eq_true_eq]; omega
    repeat' (first | refine PW.seq ?_ | refine PW.block ?_ | refine PW.regionA ?_ | exact schedW_stop_i | ((first | refine PW.region ?_ | refine PW.regionQ ?_ | refine PW.exit ?_ | refine PW.ret ?_ | refine PW.skip ?_ | refine schedW_alt_i ?_ ?_ | refine schedW_done_i ?_); focus (simp only [hd, List.length_map, SA, Nat.reduceAdd, reduceIte, Nat.reduceEqDiff, Nat.reduceBEq, reduceCtorEq]; (try go_unwrap; try simp only [hd, List.length_map, RR, reduceCtorEq]))) | (refine PW.cond rfl ?_ ?_ <;> intro hcond <;> (try contradiction) <;> try simp only [DD] at hcond) | refine And.intro ?_ ?_ | exact Or.inr ⟨rfl, Nat.le_refl _⟩ | exact (fun h => Bool.noConfusion h) | omega | (simp only [DD, LL] <;> omega) | (go_unwrap; omega))
    rw [checkM, if_pos h0]
  have hd0 : decide ((l.length : Int) = 0) = false := by simp only [decide_eq_false_iff_not]; omega
  by_cases h256 : 256 < l.length
  · have hd1 : decide (256 < (l.length : Int)) = true := by simp only [decide_eq_true_eq]; omega
    repeat' (first | refine PW.seq ?_ | refine PW.block ?_ | refine PW.regionA ?_ | exact schedW_stop_i | ((first | refine PW.region ?_ | refine PW.regionQ ?_ | refine PW.exit ?_ | refine PW.ret ?_ | refine PW.skip ?_ | refine schedW_alt_i ?_ ?_ | refine schedW_done_i ?_); focus (simp only [hd0, hd1, List.length_map, SA, Nat.reduceAdd, reduceIte, Nat.reduceEqDiff, Nat.reduceBEq, reduceCtorEq]; (try go_unwrap; try simp only [hd0, hd1, List.length_map, RR, reduceCtorEq]))) | (refine PW.cond rfl ?_ ?_ <;> intro hcond <;> (try contradiction) <;> try simp only [DD] at hcond) | refine And.intro ?_ ?_ | exact Or.inr ⟨rfl, Nat.le_refl _⟩ | exact (fun h => Bool.noConfusion h) | omega | (simp only [DD, LL] <;> omega) | (go_unwrap; omega))
    rw [checkM, if_neg h0, if_pos h256]
  have hd1 : decide (256 < (l.length : Int)) = false := by simp only [decide_eq_false_iff_not]; omega
  have hm1 : ((1 : Nat) : Int) * (l.length : Int) ≤ 281474976710656 := by omega
  have hm2 : (l.length : Int) ≤ 9223372036854775807 := by omega
  have hm3 : 0 ≤ (l.length : Int) := by omega
  repeat' (first | refine PW.seq ?_ | refine PW.block ?_ | refine PW.regionA ?_ | exact schedW_stop_i | ((first | refine PW.region ?_ | refine PW.regionQ ?_ | refine PW.exit ?_ | refine PW.ret ?_ | refine PW.skip ?_ | refine schedW_alt_i ?_ ?_ | refine schedW_done_i ?_); focus (simp only [hd0, hd1, List.length_map, hm1, hm2, hm3, Int.le_refl, SA, Nat.reduceAdd, reduceIte, Nat.reduceEqDiff, Nat.reduceBEq, reduceCtorEq]; (try go_unwrap; try simp only [hd0, hd1, List.length_map, hm1, hm2, hm3, Int.le_refl, RR, reduceCtorEq]))) | (refine PW.cond rfl ?_ ?_ <;> intro hcond <;> (try contradiction) <;> try simp only [DD] at hcond) | refine And.intro ?_ ?_ | exact Or.inr ⟨rfl, Nat.le_refl _⟩ | exact (fun h => Bool.noConfusion h) | omega | (simp only [DD, LL] <;> omega) | (go_unwrap; omega))
  have hC : checkM l = (match checkNodes l 0 (List.replicate l.length false) with
    | .error e => e
    | .ok t => if (t.take (l.length - 1)).contains false = true then 3 else if 16 < depthM l then 14 else 0) := by rw [checkM, if_neg h0, if_neg h256]
  refine PW.loopG (σ := Nat × List Bool) 2 (fun _ _ => rfl) [1, 3, 25, 26, 27] (fun s => [.ref 0 0, .sl none 1 l.length, .list (some 4) (l.map ndP), .int .i64 l.length, .int .i64 s.1])
    (fun s => [some (.var (some 1) (.agg [.list (some 4) (l.map ndP)])), some (.row none (s.2.map PV.bool))])
    (fun s => s.1 ≤ l.length ∧ s.2.length = l.length ∧ checkNodes l 0 (List.replicate l.length false) = checkNodes (l.drop s.1) s.1 s.2) (fun s => l.length - s.1) (0, List.replicate l.length false) ?_ ?_ ⟨by simp, by simp, by simp⟩ ?_
  · simp only [SA, Nat.reduceAdd, reduceIte, Nat.reduceEqDiff, Nat.reduceBEq, reduceCtorEq, List.length_map, Int.toNat_natCast]; rfl
  · simp
  rintro ⟨i, t⟩ ⟨hi, htl, hr⟩
  simp only at hi htl hr
  simp only [List.zip_cons_cons, List.zip_nil_left]
  rcases Nat.lt_or_ge i l.length with h | h
  · obtain ⟨n, hd, hn, hg⟩ := drop_at h
    rw [hd, checkNodes] at hr
    have hd' : decide ((i : Int) < l.length) = true := by simp only [decide_eq_true_eq]; omega
    have hgn := ((hg ndP).1).trans (ndP1 n)
    have hsn := hs n (List.mem_of_getElem? hn)
    have h60 := v60 hG n hsn.1
    rw [ndP1] at h60
    by_cases hf : formE n = 0
    · rw [if_neg (by omega)] at hr
      have hf' : decide (formE n = 0) = true := by simpa using hf
      repeat' (first | refine PW.seq ?_ | refine PW.block ?_ | refine PW.regionA ?_ | exact schedW_stop_i | ((first | refine PW.region ?_ | refine PW.regionQ ?_ | refine PW.exit ?_ | refine PW.ret ?_ | refine PW.skip ?_ | refine schedW_alt_i ?_ ?_ | refine schedW_done_i ?_); focus (simp only [hd', hgn, hf', List.length_map, SA, Nat.reduceAdd, reduceIte, Nat.reduceEqDiff, Nat.reduceBEq, reduceCtorEq]; (try go_unwrap; try simp only [hd', hgn, hf', List.length_map, RR, reduceCtorEq]))) | (refine PW.cond rfl ?_ ?_ <;> intro hcond <;> (try contradiction) <;> try simp only [DD] at hcond) | (apply goCall_V e60; (case hV => (simp only [hd', hgn, hf', List.length_map, SA, Nat.reduceAdd, reduceIte, Nat.reduceEqDiff, Nat.reduceBEq, reduceCtorEq]; (try go_unwrap; try simp only [hd', hgn, hf', List.length_map, RR, reduceCtorEq]); exact h60)); (try (case hs => rfl)); (try (case hf => first | exact Or.inl rfl | exact Or.inr ⟨rfl, rfl⟩ | (refine Or.inl ?_; simp only [hd', hgn, hf', List.length_map, SA, Nat.reduceAdd, reduceIte, Nat.reduceEqDiff, Nat.reduceBEq, reduceCtorEq]; done) | (refine Or.inr ⟨rfl, ?_⟩; simp only [hd', hgn, hf', List.length_map, SA, Nat.reduceAdd, reduceIte, Nat.reduceEqDiff, Nat.reduceBEq, reduceCtorEq]; done))); all_goals (simp only [hd', hgn, hf', List.length_map, SA, Nat.reduceAdd, reduceIte, Nat.reduceEqDiff, Nat.reduceBEq, reduceCtorEq]; (try go_unwrap; try simp only [hd', hgn, hf', List.length_map, RR, reduceCtorEq]))) | refine And.intro ?_ ?_ | exact Or.inr ⟨rfl, Nat.le_refl _⟩ | exact (fun h => Bool.noConfusion h) | omega | (simp only [DD, LL] <;> omega) | (go_unwrap; omega))
      refine PW.loop (σ := Nat × List Bool) [1, 3, 4, 7, 25, 26, 27, 41, 42, 43] (fun s => [.ref 0 0, .sl none 1 l.length, .int .i64 i, .int .i64 (restE n), .list (some 4) (l.map ndP), .int .i64 l.length, .int .i64 i, .list none (n.kids.map (PV.int .i64)), .int .i64 n.kids.length, .int .i64 s.1])
        (fun s => [some (.var (some 1) (.agg [.list (some 4) (l.map ndP)])), some (.row none (s.2.map PV.bool)), some (.var (some 4) (.agg [.int .i64 n.op, .int .i64 n.num, .str n.name, .list none (n.kids.map (PV.int .i64))]))])
        (fun s => s.1 ≤ n.kids.length ∧ s.2.length = l.length ∧ kidsStep i n.kids t = kidsStep i (n.kids.drop s.1) s.2) (fun s => n.kids.length - s.1) (0, t) ?_ rfl ⟨by simp, htl, by simp⟩ ?_
      · simp only [SA, Nat.reduceAdd, reduceIte, Nat.reduceEqDiff, Nat.reduceBEq, reduceCtorEq, List.length_map]; rfl
      rintro ⟨j, u⟩ ⟨hj, hul, hk⟩
      simp only at hj hul hk
      simp only [List.zip_cons_cons, List.zip_nil_left]
      rcases Nat.lt_or_ge j n.kids.length with h' | h'
      · obtain ⟨k, hkd, hkn', hkg⟩ := drop_at h'
        rw [hkd, kidsStep] at hk
        have hd2 : decide ((j : Int) < n.kids.length) = true := by simp only [decide_eq_true_eq]; omega
        by_cases hk1 : k < 0 ∨ (i : Int) ≤ k
        · have hd3 : (decide (k < 0) || decide ((i : Int) ≤ k)) = true := by simpa using hk1
          have hb : k < 0 ∨ (i : Int) ≤ k ∨ u.getD k.toNat false = true := hk1.imp id Or.inl
          rw [if_pos hb] at hk
          rw [hk] at hr
          repeat' (first | refine PW.seq ?_ | refine PW.block ?_ | refine PW.regionA ?_ | exact schedW_stop_i | ((first | refine PW.region ?_ | refine PW.regionQ ?_ | refine PW.exit ?_ | refine PW.ret ?_ | refine PW.skip ?_ | refine schedW_alt_i ?_ ?_ | refine schedW_done_i ?_); focus (simp only [hd2, (hkg (PV.int .i64)).1, List.length_map, hd3, SA, Nat.reduceAdd, reduceIte, Nat.reduceEqDiff, Nat.reduceBEq, reduceCtorEq]; (try go_unwrap; try simp only [hd2, (hkg (PV.int .i64)).1, List.length_map, hd3, RR, reduceCtorEq]))) | (refine PW.cond rfl ?_ ?_ <;> intro hcond <;> (try contradiction) <;> try simp only [DD] at hcond) | refine And.intro ?_ ?_ | exact Or.inr ⟨rfl, Nat.le_refl _⟩ | exact (fun h => Bool.noConfusion h) | omega | (simp only [DD, LL] <;> omega) | (go_unwrap; omega))
          all_goals (first | (rw [hC, hr]; done) | (clear hG hC hr hgn h60; simp_all; done))
        · have hd3 : (decide (k < 0) || decide ((i : Int) ≤ k)) = false := by simpa using hk1
          have hku : k.toNat < u.length := by omega
          have hug : (u.map PV.bool)[k.toNat]? = some (.bool (u.getD k.toNat false)) := by simp [List.getD, hku]
          have hus : (u.map PV.bool).set k.toNat (.bool true) = (u.set k.toNat true).map PV.bool := by rw [List.map_set]
          cases htk : u.getD k.toNat false with
          | true =>
            rw [if_pos (.inr (.inr htk))] at hk
            rw [hk] at hr
            rw [htk] at hug
            repeat' (first | refine PW.seq ?_ | refine PW.block ?_ | refine PW.regionA ?_ | exact schedW_stop_i | ((first | refine PW.region ?_ | refine PW.regionQ ?_ | refine PW.exit ?_ | refine PW.ret ?_ | refine PW.skip ?_ | refine schedW_alt_i ?_ ?_ | refine schedW_done_i ?_); focus (simp only [hd2, (hkg (PV.int .i64)).1, List.length_map, hd3, hug, SA, Nat.reduceAdd, reduceIte, Nat.reduceEqDiff, Nat.reduceBEq, reduceCtorEq]; (try go_unwrap; try simp only [hd2, (hkg (PV.int .i64)).1, List.length_map, hd3, hug, RR, reduceCtorEq]))) | (refine PW.cond rfl ?_ ?_ <;> intro hcond <;> (try contradiction) <;> try simp only [DD] at hcond) | refine And.intro ?_ ?_ | exact Or.inr ⟨rfl, Nat.le_refl _⟩ | exact (fun h => Bool.noConfusion h) | omega | (simp only [DD, LL] <;> omega) | (go_unwrap; omega))
            rw [hC, hr]
          | false =>
            rw [if_neg (by rw [htk]; simpa using hk1)] at hk
            rw [htk] at hug
            repeat' (first | refine PW.seq ?_ | refine PW.block ?_ | refine PW.regionA ?_ | exact schedW_stop_i | ((first | refine PW.region ?_ | refine PW.regionQ ?_ | refine PW.exit ?_ | refine PW.ret ?_ | refine PW.skip ?_ | refine schedW_alt_i ?_ ?_ | refine schedW_done_i ?_); focus (simp only [hd2, (hkg (PV.int .i64)).1, List.length_map, hd3, hug, hus, SA, Nat.reduceAdd, reduceIte, Nat.reduceEqDiff, Nat.reduceBEq, reduceCtorEq]; (try go_unwrap; try simp only [hd2, (hkg (PV.int .i64)).1, List.length_map, hd3, hug, hus, RR, reduceCtorEq]))) | (refine PW.cond rfl ?_ ?_ <;> intro hcond <;> (try contradiction) <;> try simp only [DD] at hcond) | refine And.intro ?_ ?_ | exact Or.inr ⟨rfl, Nat.le_refl _⟩ | exact (fun h => Bool.noConfusion h) | omega | (simp only [DD, LL] <;> omega) | (go_unwrap; omega))
            exact ⟨(j + 1, u.set k.toNat true), rfl, rfl, ⟨h', by simpa using hul, hk⟩, by simp only; omega⟩
      · have hd2 : decide ((j : Int) < n.kids.length) = false := by simp only [decide_eq_false_iff_not]; omega
        rw [List.drop_eq_nil_of_le h', kidsStep] at hk
        rw [hk] at hr
        by_cases hre : restE n = 0
        · simp only [hre, ne_eq, not_true_eq_false, if_false] at hr
          have hre' : decide (restE n = 0) = true := by simpa using hre
          repeat' (first | refine PW.seq ?_ | refine PW.block ?_ | refine PW.regionA ?_ | exact schedW_stop_i | ((first | refine PW.region ?_ | refine PW.regionQ ?_ | refine PW.exit ?_ | refine PW.ret ?_ | refine PW.skip ?_ | refine schedW_alt_i ?_ ?_ | refine schedW_done_i ?_); focus (simp only [hd2, hre', SA, Nat.reduceAdd, reduceIte, Nat.reduceEqDiff, Nat.reduceBEq, reduceCtorEq]; (try go_unwrap; try simp only [hd2, hre', RR, reduceCtorEq]))) | (refine PW.cond rfl ?_ ?_ <;> intro hcond <;> (try contradiction) <;> try simp only [DD] at hcond) | refine And.intro ?_ ?_ | exact Or.inr ⟨rfl, Nat.le_refl _⟩ | exact (fun h => Bool.noConfusion h) | omega | (simp only [DD, LL] <;> omega) | (go_unwrap; omega))
          exact ⟨(i + 1, u), (by first | rfl | (simp only [TT, MObj.kill, PV.kill, Nat.reduceLeDiff, reduceIte, Nat.le_refl, Nat.zero_le, Nat.not_le, Nat.lt_irrefl]; done) | (simp [trimE, trimM, MObj.kill, PV.kill]; done)), (by first | rfl | (simp only [TT, MObj.kill, PV.kill, Nat.reduceLeDiff, reduceIte, Nat.le_refl, Nat.zero_le, Nat.not_le, Nat.lt_irrefl]; done) | (simp [trimE, trimM, MObj.kill, PV.kill]; done)), ⟨h, hul, hr⟩, by simp only; omega⟩
        · simp only [hre, ne_eq, not_false_eq_true, if_true] at hr
          have hre' : decide (restE n = 0) = false := by simpa using hre
          repeat' (first | refine PW.seq ?_ | refine PW.block ?_ | refine PW.regionA ?_ | exact schedW_stop_i | ((first | refine PW.region ?_ | refine PW.regionQ ?_ | refine PW.exit ?_ | refine PW.ret ?_ | refine PW.skip ?_ | refine schedW_alt_i ?_ ?_ | refine schedW_done_i ?_); focus (simp only [hd2, hre', SA, Nat.reduceAdd, reduceIte, Nat.reduceEqDiff, Nat.reduceBEq, reduceCtorEq]; (try go_unwrap; try simp only [hd2, hre', RR, reduceCtorEq]))) | (refine PW.cond rfl ?_ ?_ <;> intro hcond <;> (try contradiction) <;> try simp only [DD] at hcond) | refine And.intro ?_ ?_ | exact Or.inr ⟨rfl, Nat.le_refl _⟩ | exact (fun h => Bool.noConfusion h) | omega | (simp only [DD, LL] <;> omega) | (go_unwrap; omega))
          rw [hC, hr]
    · rw [if_pos (by omega)] at hr
      have hf' : decide (formE n = 0) = false := by simpa using hf
      repeat' (first | refine PW.seq ?_ | refine PW.block ?_ | refine PW.regionA ?_ | exact schedW_stop_i | ((first | refine PW.region ?_ | refine PW.regionQ ?_ | refine PW.exit ?_ | refine PW.ret ?_ | refine PW.skip ?_ | refine schedW_alt_i ?_ ?_ | refine schedW_done_i ?_); focus (simp only [hd', hgn, hf', List.length_map, SA, Nat.reduceAdd, reduceIte, Nat.reduceEqDiff, Nat.reduceBEq, reduceCtorEq]; (try go_unwrap; try simp only [hd', hgn, hf', List.length_map, RR, reduceCtorEq]))) | (refine PW.cond rfl ?_ ?_ <;> intro hcond <;> (try contradiction) <;> try simp only [DD] at hcond) | (apply goCall_V e60; (case hV => (simp only [hd', hgn, hf', List.length_map, SA, Nat.reduceAdd, reduceIte, Nat.reduceEqDiff, Nat.reduceBEq, reduceCtorEq]; (try go_unwrap; try simp only [hd', hgn, hf', List.length_map, RR, reduceCtorEq]); exact h60)); (try (case hs => rfl)); (try (case hf => first | exact Or.inl rfl | exact Or.inr ⟨rfl, rfl⟩ | (refine Or.inl ?_; simp only [hd', hgn, hf', List.length_map, SA, Nat.reduceAdd, reduceIte, Nat.reduceEqDiff, Nat.reduceBEq, reduceCtorEq]; done) | (refine Or.inr ⟨rfl, ?_⟩; simp only [hd', hgn, hf', List.length_map, SA, Nat.reduceAdd, reduceIte, Nat.reduceEqDiff, Nat.reduceBEq, reduceCtorEq]; done))); all_goals (simp only [hd', hgn, hf', List.length_map, SA, Nat.reduceAdd, reduceIte, Nat.reduceEqDiff, Nat.reduceBEq, reduceCtorEq]; (try go_unwrap; try simp only [hd', hgn, hf', List.length_map, RR, reduceCtorEq]))) | refine And.intro ?_ ?_ | exact Or.inr ⟨rfl, Nat.le_refl _⟩ | exact (fun h => Bool.noConfusion h) | omega | (simp only [DD, LL] <;> omega) | (go_unwrap; omega))
      rw [hC, hr]
  · have hd' : decide ((i : Int) < l.length) = false := by simp only [decide_eq_false_iff_not]; omega
    rw [List.drop_eq_nil_of_le h, checkNodes] at hr
    obtain ⟨-, hwf, hall⟩ := checkNodes_ok hr
    have h42 := v42 (G := G) l (by omega) (by intro hh; simp [hh] at h0) hwf (fun n hn => by have := (formE_ok (hall n hn).1).2.2.2; omega)
    simp only [treeP] at h42
    have h61 := v61 (G := G) (t.take (l.length - 1)) false (by rw [List.length_take]; omega)
    rw [List.map_take] at h61
    have hti : ((l.length : Int) - 1).toNat = l.length - 1 := by omega
    rw [hr] at hC
    simp only at hC
    cases hct : (t.take (l.length - 1)).contains false with
    | true =>
      rw [if_pos hct] at hC
      rw [hct] at h61
      repeat' (first | refine PW.seq ?_ | refine PW.block ?_ | refine PW.regionA ?_ | exact schedW_stop_i | ((first | refine PW.region ?_ | refine PW.regionQ ?_ | refine PW.exit ?_ | refine PW.ret ?_ | refine PW.skip ?_ | refine schedW_alt_i ?_ ?_ | refine schedW_done_i ?_); focus (simp only [hd', hti, List.length_map, htl, Nat.sub_le, SA, Nat.reduceAdd, reduceIte, Nat.reduceEqDiff, Nat.reduceBEq, reduceCtorEq]; (try go_unwrap; try simp only [hd', hti, List.length_map, htl, Nat.sub_le, RR, reduceCtorEq]))) | (refine PW.cond rfl ?_ ?_ <;> intro hcond <;> (try contradiction) <;> try simp only [DD] at hcond) | (apply goCall_V e61; (case hV => (simp only [hd', hti, List.length_map, htl, Nat.sub_le, SA, Nat.reduceAdd, reduceIte, Nat.reduceEqDiff, Nat.reduceBEq, reduceCtorEq]; (try go_unwrap; try simp only [hd', hti, List.length_map, htl, Nat.sub_le, RR, reduceCtorEq]); exact h61)); (try (case hs => rfl)); (try (case hf => first | exact Or.inl rfl | exact Or.inr ⟨rfl, rfl⟩ | (refine Or.inl ?_; simp only [hd', hti, List.length_map, htl, Nat.sub_le, SA, Nat.reduceAdd, reduceIte, Nat.reduceEqDiff, Nat.reduceBEq, reduceCtorEq]; done) | (refine Or.inr ⟨rfl, ?_⟩; simp only [hd', hti, List.length_map, htl, Nat.sub_le, SA, Nat.reduceAdd, reduceIte, Nat.reduceEqDiff, Nat.reduceBEq, reduceCtorEq]; done))); all_goals (simp only [hd', hti, List.length_map, htl, Nat.sub_le, SA, Nat.reduceAdd, reduceIte, Nat.reduceEqDiff, Nat.reduceBEq, reduceCtorEq]; (try go_unwrap; try simp only [hd', hti, List.length_map, htl, Nat.sub_le, RR, reduceCtorEq]))) | refine And.intro ?_ ?_ | exact Or.inr ⟨rfl, Nat.le_refl _⟩ | exact (fun h => Bool.noConfusion h) | omega | (simp only [DD, LL] <;> omega) | (go_unwrap; omega))
      rw [hC]
    | false =>
      rw [if_neg (by rw [hct]; simp)] at hC
      rw [hct] at h61
      rw [hC]
      repeat' (first | refine PW.seq ?_ | refine PW.block ?_ | refine PW.regionA ?_ | exact schedW_stop_i | ((first | refine PW.region ?_ | refine PW.regionQ ?_ | refine PW.exit ?_ | refine PW.ret ?_ | refine PW.skip ?_ | refine schedW_alt_i ?_ ?_ | refine schedW_done_i ?_); focus (simp only [hd', hti, List.length_map, htl, Nat.sub_le, SA, Nat.reduceAdd, reduceIte, Nat.reduceEqDiff, Nat.reduceBEq, reduceCtorEq]; (try go_unwrap; try simp only [hd', hti, List.length_map, htl, Nat.sub_le, RR, reduceCtorEq]))) | (refine PW.cond rfl ?_ ?_ <;> intro hcond <;> (try contradiction) <;> try simp only [DD] at hcond) | (apply goCall_V e61; (case hV => (simp only [hd', hti, List.length_map, htl, Nat.sub_le, SA, Nat.reduceAdd, reduceIte, Nat.reduceEqDiff, Nat.reduceBEq, reduceCtorEq]; (try go_unwrap; try simp only [hd', hti, List.length_map, htl, Nat.sub_le, RR, reduceCtorEq]); exact h61)); (try (case hs => rfl)); (try (case hf => first | exact Or.inl rfl | exact Or.inr ⟨rfl, rfl⟩ | (refine Or.inl ?_; simp only [hd', hti, List.length_map, htl, Nat.sub_le, SA, Nat.reduceAdd, reduceIte, Nat.reduceEqDiff, Nat.reduceBEq, reduceCtorEq]; done) | (refine Or.inr ⟨rfl, ?_⟩; simp only [hd', hti, List.length_map, htl, Nat.sub_le, SA, Nat.reduceAdd, reduceIte, Nat.reduceEqDiff, Nat.reduceBEq, reduceCtorEq]; done))); all_goals (simp only [hd', hti, List.length_map, htl, Nat.sub_le, SA, Nat.reduceAdd, reduceIte, Nat.reduceEqDiff, Nat.reduceBEq, reduceCtorEq]; (try go_unwrap; try simp only [hd', hti, List.length_map, htl, Nat.sub_le, RR, reduceCtorEq]))) | (apply goCall_V e42; (case hV => (simp only [hd', hti, List.length_map, htl, Nat.sub_le, SA, Nat.reduceAdd, reduceIte, Nat.reduceEqDiff, Nat.reduceBEq, reduceCtorEq]; (try go_unwrap; try simp only [hd', hti, List.length_map, htl, Nat.sub_le, RR, reduceCtorEq]); exact h42)); (try (case hs => rfl)); (try (case hf => first | exact Or.inl rfl | exact Or.inr ⟨rfl, rfl⟩ | (refine Or.inl ?_; simp only [hd', hti, List.length_map, htl, Nat.sub_le, SA, Nat.reduceAdd, reduceIte, Nat.reduceEqDiff, Nat.reduceBEq, reduceCtorEq]; done) | (refine Or.inr ⟨rfl, ?_⟩; simp only [hd', hti, List.length_map, htl, Nat.sub_le, SA, Nat.reduceAdd, reduceIte, Nat.reduceEqDiff, Nat.reduceBEq, reduceCtorEq]; done))); all_goals (simp only [hd', hti, List.length_map, htl, Nat.sub_le, SA, Nat.reduceAdd, reduceIte, Nat.reduceEqDiff, Nat.reduceBEq, reduceCtorEq]; (try go_unwrap; try simp only [hd', hti, List.length_map, htl, Nat.sub_le, RR, reduceCtorEq]))) | refine And.intro ?_ ?_ | exact Or.inr ⟨rfl, Nat.le_refl _⟩ | exact (fun h => Bool.noConfusion h) | omega | (simp only [DD, LL] <;> omega) | (go_unwrap; omega))
      · rw [if_pos hcond]
      · rw [if_neg hcond]
end Go.Proofs.YthekpjhffciakaaDoor

