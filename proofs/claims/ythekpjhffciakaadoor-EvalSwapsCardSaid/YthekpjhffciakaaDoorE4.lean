import Derived.Test.YthekpjhffciakaaDoorE3b
namespace Go.Proofs.YthekpjhffciakaaDoor
open Go PG Go.Proofs
set_option linter.unusedSimpArgs false
set_option linter.unusedVariables false
set_option maxHeartbeats 4000000
set_option maxRecDepth 100000
variable {G : Globs}
def kidsMax (acc : List Int) : List Int → Int → Int
  | [], m => m
  | k :: ks, m => kidsMax acc ks (max m (acc.getD k.toNat 0))
def depthsM : List Nd → List Int → List Int
  | [], acc => acc
  | n :: ns, acc => depthsM ns (acc ++ [kidsMax acc n.kids 0 + 1])
def depthM (l : List Nd) : Int := (depthsM l []).getD (l.length - 1) 0
/-- Each node's kids stand ahead of it. -/
def wfK : List Nd → Nat → Prop
  | [], _ => True
  | n :: ns, i => (∀ k ∈ n.kids, 0 ≤ k ∧ k < (i : Int)) ∧ wfK ns (i + 1)
theorem depthsM_len : ∀ (l : List Nd) (acc : List Int), (depthsM l acc).length = acc.length + l.length
  | [], acc => by simp [depthsM]
  | n :: ns, acc => by rw [depthsM, depthsM_len ns]; simp; omega
/-- A row that is filled from the front. -/
def rowV (acc : List Int) (N : Nat) : List PV := acc.map (PV.int .i64) ++ List.replicate (N - acc.length) (.int .i64 0)
def rowM (acc : List Int) (m : Int) (N : Nat) : List PV := acc.map (PV.int .i64) ++ .int .i64 m :: List.replicate (N - acc.length - 1) (.int .i64 0)
theorem rowV_M {acc : List Int} {N : Nat} (h : acc.length < N) : rowV acc N = rowM acc 0 N := by
  obtain ⟨d, hd⟩ : ∃ d, N - acc.length = d + 1 := ⟨N - acc.length - 1, by omega⟩
  simp [rowV, rowM, hd, List.replicate_succ]
theorem rowM_len {acc : List Int} {m : Int} {N : Nat} (h : acc.length < N) : (rowM acc m N).length = N := by simp [rowM]; omega
theorem rowV_len {acc : List Int} {N : Nat} (h : acc.length ≤ N) : (rowV acc N).length = N := by simp [rowV]; omega
theorem rowM_at (acc : List Int) (m : Int) (N : Nat) : (rowM acc m N)[acc.length]? = some (.int .i64 m) := by simp [rowM]
theorem rowM_lt {acc : List Int} (m : Int) (N : Nat) {k : Nat} (h : k < acc.length) : (rowM acc m N)[k]? = some (.int .i64 (acc.getD k 0)) := by
  simp [rowM, List.getElem?_append_left, h, List.getD]
theorem rowV_lt {acc : List Int} (N : Nat) {k : Nat} (h : k < acc.length) : (rowV acc N)[k]? = some (.int .i64 (acc.getD k 0)) := by
  simp [rowV, List.getElem?_append_left, h, List.getD]
theorem rowM_set (acc : List Int) (m m' : Int) (N : Nat) : (rowM acc m N).set acc.length (.int .i64 m') = rowM acc m' N := by simp [rowM]
theorem rowM_V {acc : List Int} {m : Int} {N : Nat} : rowM acc m N = rowV (acc ++ [m]) N := by
  simp only [rowM, rowV, List.map_append, List.map_cons, List.map_nil, List.append_assoc, List.length_append, List.length_cons, List.length_nil]
  rw [Nat.sub_add_eq]; rfl
theorem kidsMax_le {acc : List Int} {B : Int} (hB : ∀ x ∈ acc, 0 ≤ x ∧ x ≤ B) (h0 : 0 ≤ B) : ∀ (ks : List Int) (m : Int), 0 ≤ m → m ≤ B → 0 ≤ kidsMax acc ks m ∧ kidsMax acc ks m ≤ B
  | [], m, h, h' => ⟨h, h'⟩
  | k :: ks, m, h, h' => by
    have : 0 ≤ acc.getD k.toNat 0 ∧ acc.getD k.toNat 0 ≤ B := by
      rw [List.getD_eq_getElem?_getD]
      cases hk : acc[k.toNat]? with
      | none => simpa using h0
      | some x => simpa using hB x (List.mem_of_getElem? hk)
    exact kidsMax_le hB h0 ks _ (by omega) (by omega)
theorem getD_bnd {acc : List Int} {B : Int} (hB : ∀ x ∈ acc, 0 ≤ x ∧ x ≤ B) (h0 : 0 ≤ B) (k : Nat) : 0 ≤ acc.getD k 0 ∧ acc.getD k 0 ≤ B := by
  rw [List.getD_eq_getElem?_getD]
  cases hk : acc[k]? with
  | none => simpa using h0
  | some x => simpa using hB x (List.mem_of_getElem? hk)
theorem ndP1 (n : Nd) : ndP n = .agg [.int .i64 n.op, .int .i64 n.num, .str n.name, .list none (n.kids.map (PV.int .i64))] := rfl
theorem v42 (l : List Nd) (hl : l.length ≤ 256) (hne : l ≠ []) (hw : wfK l 0) (hkl : ∀ n ∈ l, n.kids.length ≤ 256) : VCalls Tryd.prog G 42 [treeP l] (.int .i64 (depthM l)) := by
  refine VCalls.of_PW Tryd.func42 k42 mix (by simp [c42]) ?_
  simp only [c42, L42, argE, treeP]
  have hl0 : 0 < l.length := List.length_pos_iff.2 hne
  have hm1 : ((8 : Nat) : Int) * (l.length : Int) ≤ 281474976710656 := by omega
  have hm2 : (l.length : Int) ≤ 9223372036854775807 := by omega
  have hm3 : 0 ≤ (l.length : Int) := by omega
  repeat' (first | refine PW.seq ?_ | refine PW.block ?_ | ((first | refine PW.region ?_ | refine PW.regionQ ?_ | refine PW.exit ?_ | refine PW.ret ?_ | refine PW.skip ?_); simp only [List.length_map, hm1, hm2, hm3, Int.le_refl, SS, SS2, SS3, Option.map_some, gArgs, gOk, Nat.reduceAdd, PV.shift, MObj.shift, rdV, rdD, reduceIte, Nat.reduceEqDiff, Nat.reduceBEq, PV.bin, PV.binOk, binI, binS, PV.withInt, PV.withIntP, okAll, PV.under, PV.okUnder, eq_self, implies_true, deadOk, ne_eq, allOk, RVar.val, RVar.ok, retV, PV.seen, PV.view, beq_self_eq_true, PV.flat, PV.noOwn, id_eq, behind, PV.kill, MObj.kill, killTag, reduceCtorEq, nilB]; (try go_unwrap; try simp only [List.length_map, hm1, hm2, hm3, Int.le_refl, toNat_add2, toNat_add1, Int.toNat_natCast, Bool.false_and, Bool.true_and, true_implies, true_and, Bool.false_eq_true, reduceCtorEq, false_implies, Bool.not_false, Bool.not_true, Bool.true_or, Bool.false_or])) | refine PW.regionA ?_ | exact schedW_stop_i | ((first | refine schedW_alt_i ?_ ?_ | refine schedW_done_i ?_); focus (simp only [List.length_map, hm1, hm2, hm3, Int.le_refl, SS, SS2, SS3, Option.map_some, gArgs, gOk, Nat.reduceAdd, PV.shift, MObj.shift, rdV, rdD, reduceIte, Nat.reduceEqDiff, Nat.reduceBEq, PV.bin, PV.binOk, binI, binS, PV.withInt, PV.withIntP, okAll, PV.under, PV.okUnder, eq_self, implies_true, deadOk, ne_eq, allOk, RVar.val, RVar.ok, retV, PV.seen, PV.view, beq_self_eq_true, PV.flat, PV.noOwn, id_eq, behind, PV.kill, MObj.kill, killTag, reduceCtorEq, nilB]; (try go_unwrap; try simp only [List.length_map, hm1, hm2, hm3, Int.le_refl, toNat_add2, toNat_add1, Int.toNat_natCast, Bool.false_and, Bool.true_and, true_implies, true_and, Bool.false_eq_true, reduceCtorEq, false_implies, Bool.not_false, Bool.not_true, Bool.true_or, Bool.false_or]))) | (refine PW.cond rfl ?_ ?_ <;> intro hcond <;> (try contradiction) <;> try simp only [decide_eq_true_eq, decide_eq_false_iff_not] at hcond) | refine And.intro ?_ ?_ | exact Or.inr ⟨rfl, Nat.le_refl _⟩ | exact (fun h => Bool.noConfusion h) | omega | (simp only [decide_eq_true_eq, decide_eq_false_iff_not, List.length_cons, List.length_nil, List.length_append, List.length_map, Sh.size] <;> omega) | (go_unwrap; omega))
  refine PW.loopG (σ := Nat × List Int) 2 (fun _ _ => rfl) [3, 13, 14, 15] (fun s => [.sl none 1 l.length, .list (some 4) (l.map ndP), .int .i64 l.length, .int .i64 s.1])
    (fun s => [some (.var (some 1) (.agg [.list (some 4) (l.map ndP)])), some (.row none (rowV s.2 l.length))])
    (fun s => s.1 ≤ l.length ∧ s.2.length = s.1 ∧ (∀ x ∈ s.2, 0 ≤ x ∧ x ≤ s.1) ∧ wfK (l.drop s.1) s.1 ∧ depthsM l [] = depthsM (l.drop s.1) s.2) (fun s => l.length - s.1) (0, []) ?_ ?_ ⟨by simp, by simp, by simp, by simpa using hw, by simp⟩ ?_
  · simp only [SS, SS2, SS3, Option.map_some, gArgs, gOk, Nat.reduceAdd, PV.shift, MObj.shift, rdV, rdD, reduceIte, Nat.reduceEqDiff, Nat.reduceBEq, PV.bin, PV.binOk, binI, binS, PV.withInt, PV.withIntP, okAll, PV.under, PV.okUnder, eq_self, implies_true, deadOk, ne_eq, allOk, RVar.val, RVar.ok, retV, PV.seen, PV.view, beq_self_eq_true, PV.flat, PV.noOwn, id_eq, behind, PV.kill, MObj.kill, killTag, reduceCtorEq, nilB, List.length_map, Int.toNat_natCast]; rfl
  · simp [rowV]
  rintro ⟨i, acc⟩ ⟨hi, hal, hb, hwf, hr⟩
  simp only at hi hal hb hwf hr
  simp only [List.zip_cons_cons, List.zip_nil_left]
  rcases Nat.lt_or_ge i l.length with h | h
  · obtain ⟨n, hd, hn, hg⟩ := drop_at h
    rw [hd] at hr hwf
    rw [depthsM] at hr
    obtain ⟨hwk, hwf⟩ := hwf
    have hd' : decide ((i : Int) < l.length) = true := by simp only [decide_eq_true_eq]; omega
    rw [rowV_M (by omega)]
    have hgn := ((hg ndP).1).trans (ndP1 n)
    have hkn := hkl n (List.mem_of_getElem? hn)
    repeat' (first | refine PW.seq ?_ | refine PW.block ?_ | ((first | refine PW.region ?_ | refine PW.regionQ ?_ | refine PW.exit ?_ | refine PW.ret ?_ | refine PW.skip ?_); simp only [hd', hgn, List.length_map, SS, SS2, SS3, Option.map_some, gArgs, gOk, Nat.reduceAdd, PV.shift, MObj.shift, rdV, rdD, reduceIte, Nat.reduceEqDiff, Nat.reduceBEq, PV.bin, PV.binOk, binI, binS, PV.withInt, PV.withIntP, okAll, PV.under, PV.okUnder, eq_self, implies_true, deadOk, ne_eq, allOk, RVar.val, RVar.ok, retV, PV.seen, PV.view, beq_self_eq_true, PV.flat, PV.noOwn, id_eq, behind, PV.kill, MObj.kill, killTag, reduceCtorEq, nilB]; (try go_unwrap; try simp only [hd', hgn, List.length_map, toNat_add2, toNat_add1, Int.toNat_natCast, Bool.false_and, Bool.true_and, true_implies, true_and, Bool.false_eq_true, reduceCtorEq, false_implies, Bool.not_false, Bool.not_true, Bool.true_or, Bool.false_or])) | refine PW.regionA ?_ | exact schedW_stop_i | ((first | refine schedW_alt_i ?_ ?_ | refine schedW_done_i ?_); focus (simp only [hd', hgn, List.length_map, SS, SS2, SS3, Option.map_some, gArgs, gOk, Nat.reduceAdd, PV.shift, MObj.shift, rdV, rdD, reduceIte, Nat.reduceEqDiff, Nat.reduceBEq, PV.bin, PV.binOk, binI, binS, PV.withInt, PV.withIntP, okAll, PV.under, PV.okUnder, eq_self, implies_true, deadOk, ne_eq, allOk, RVar.val, RVar.ok, retV, PV.seen, PV.view, beq_self_eq_true, PV.flat, PV.noOwn, id_eq, behind, PV.kill, MObj.kill, killTag, reduceCtorEq, nilB]; (try go_unwrap; try simp only [hd', hgn, List.length_map, toNat_add2, toNat_add1, Int.toNat_natCast, Bool.false_and, Bool.true_and, true_implies, true_and, Bool.false_eq_true, reduceCtorEq, false_implies, Bool.not_false, Bool.not_true, Bool.true_or, Bool.false_or]))) | (refine PW.cond rfl ?_ ?_ <;> intro hcond <;> (try contradiction) <;> try simp only [decide_eq_true_eq, decide_eq_false_iff_not] at hcond) | refine And.intro ?_ ?_ | exact Or.inr ⟨rfl, Nat.le_refl _⟩ | exact (fun h => Bool.noConfusion h) | omega | (simp only [decide_eq_true_eq, decide_eq_false_iff_not, List.length_cons, List.length_nil, List.length_append, List.length_map, Sh.size] <;> omega) | (go_unwrap; omega))
    refine PW.loop (σ := Nat × Int) [3, 4, 13, 14, 15, 21, 22, 23] (fun s => [.sl none 1 l.length, .int .i64 i, .list (some 4) (l.map ndP), .int .i64 l.length, .int .i64 i, .list none (n.kids.map (PV.int .i64)), .int .i64 n.kids.length, .int .i64 s.1])
      (fun s => [some (.var (some 1) (.agg [.list (some 4) (l.map ndP)])), some (.row none (rowM acc s.2 l.length)), some (.var (some 4) (.agg [.int .i64 n.op, .int .i64 n.num, .str n.name, .list none (n.kids.map (PV.int .i64))]))])
      (fun s => s.1 ≤ n.kids.length ∧ 0 ≤ s.2 ∧ s.2 ≤ i ∧ kidsMax acc n.kids 0 = kidsMax acc (n.kids.drop s.1) s.2) (fun s => n.kids.length - s.1) (0, 0) ?_ rfl ⟨by simp, by simp, by simp, by simp⟩ ?_
    · simp only [SS, SS2, SS3, Option.map_some, gArgs, gOk, Nat.reduceAdd, PV.shift, MObj.shift, rdV, rdD, reduceIte, Nat.reduceEqDiff, Nat.reduceBEq, PV.bin, PV.binOk, binI, binS, PV.withInt, PV.withIntP, okAll, PV.under, PV.okUnder, eq_self, implies_true, deadOk, ne_eq, allOk, RVar.val, RVar.ok, retV, PV.seen, PV.view, beq_self_eq_true, PV.flat, PV.noOwn, id_eq, behind, PV.kill, MObj.kill, killTag, reduceCtorEq, nilB, List.length_map]; rfl
    rintro ⟨j, m⟩ ⟨hj, hm0, hmi, hk⟩
    simp only at hj hm0 hmi hk
    simp only [List.zip_cons_cons, List.zip_nil_left]
    rcases Nat.lt_or_ge j n.kids.length with h' | h'
    · obtain ⟨k, hkd, hkn', hkg⟩ := drop_at h'
      rw [hkd, kidsMax] at hk
      have hd2 : decide ((j : Int) < n.kids.length) = true := by simp only [decide_eq_true_eq]; omega
      obtain ⟨hk0, hki⟩ := hwk k (List.mem_of_getElem? hkn')
      have hkt : k.toNat < acc.length := by omega
      have ha := rowM_at acc m l.length
      rw [hal] at ha
      have hb' := rowM_lt m l.length hkt
      have hlen := rowM_len (m := m) (show acc.length < l.length by omega)
      have hset := rowM_set acc m (max m (acc.getD k.toNat 0)) l.length
      rw [hal] at hset
      have hgb := getD_bnd hb (by omega) k.toNat
      repeat' (first | refine PW.seq ?_ | refine PW.block ?_ | ((first | refine PW.region ?_ | refine PW.regionQ ?_ | refine PW.exit ?_ | refine PW.ret ?_ | refine PW.skip ?_); simp only [hd2, (hkg (PV.int .i64)).1, List.length_map, ha, hb', hlen, hset, SS, SS2, SS3, Option.map_some, gArgs, gOk, Nat.reduceAdd, PV.shift, MObj.shift, rdV, rdD, reduceIte, Nat.reduceEqDiff, Nat.reduceBEq, PV.bin, PV.binOk, binI, binS, PV.withInt, PV.withIntP, okAll, PV.under, PV.okUnder, eq_self, implies_true, deadOk, ne_eq, allOk, RVar.val, RVar.ok, retV, PV.seen, PV.view, beq_self_eq_true, PV.flat, PV.noOwn, id_eq, behind, PV.kill, MObj.kill, killTag, reduceCtorEq, nilB]; (try go_unwrap; try simp only [hd2, (hkg (PV.int .i64)).1, List.length_map, ha, hb', hlen, hset, toNat_add2, toNat_add1, Int.toNat_natCast, Bool.false_and, Bool.true_and, true_implies, true_and, Bool.false_eq_true, reduceCtorEq, false_implies, Bool.not_false, Bool.not_true, Bool.true_or, Bool.false_or])) | refine PW.regionA ?_ | exact schedW_stop_i | ((first | refine schedW_alt_i ?_ ?_ | refine schedW_done_i ?_); focus (simp only [hd2, (hkg (PV.int .i64)).1, List.length_map, ha, hb', hlen, hset, SS, SS2, SS3, Option.map_some, gArgs, gOk, Nat.reduceAdd, PV.shift, MObj.shift, rdV, rdD, reduceIte, Nat.reduceEqDiff, Nat.reduceBEq, PV.bin, PV.binOk, binI, binS, PV.withInt, PV.withIntP, okAll, PV.under, PV.okUnder, eq_self, implies_true, deadOk, ne_eq, allOk, RVar.val, RVar.ok, retV, PV.seen, PV.view, beq_self_eq_true, PV.flat, PV.noOwn, id_eq, behind, PV.kill, MObj.kill, killTag, reduceCtorEq, nilB]; (try go_unwrap; try simp only [hd2, (hkg (PV.int .i64)).1, List.length_map, ha, hb', hlen, hset, toNat_add2, toNat_add1, Int.toNat_natCast, Bool.false_and, Bool.true_and, true_implies, true_and, Bool.false_eq_true, reduceCtorEq, false_implies, Bool.not_false, Bool.not_true, Bool.true_or, Bool.false_or]))) | (refine PW.cond rfl ?_ ?_ <;> intro hcond <;> (try contradiction) <;> try simp only [decide_eq_true_eq, decide_eq_false_iff_not] at hcond) | refine And.intro ?_ ?_ | exact Or.inr ⟨rfl, Nat.le_refl _⟩ | exact (fun h => Bool.noConfusion h) | omega | (simp only [decide_eq_true_eq, decide_eq_false_iff_not, List.length_cons, List.length_nil, List.length_append, List.length_map, Sh.size] <;> omega) | (go_unwrap; omega))
      all_goals exact ⟨(j + 1, max m (acc.getD k.toNat 0)), rfl, rfl, ⟨h', by simp only; omega, by simp only; omega, hk⟩, by simp only; omega⟩
    · have hd2 : decide ((j : Int) < n.kids.length) = false := by simp only [decide_eq_false_iff_not]; omega
      rw [List.drop_eq_nil_of_le h', kidsMax] at hk
      have ha := rowM_at acc m l.length
      rw [hal] at ha
      have hlen := rowM_len (m := m) (show acc.length < l.length by omega)
      have hset := rowM_set acc m (m + 1) l.length
      rw [hal] at hset
      repeat' (first | refine PW.seq ?_ | refine PW.block ?_ | ((first | refine PW.region ?_ | refine PW.regionQ ?_ | refine PW.exit ?_ | refine PW.ret ?_ | refine PW.skip ?_); simp only [hd2, ha, hlen, hset, SS, SS2, SS3, Option.map_some, gArgs, gOk, Nat.reduceAdd, PV.shift, MObj.shift, rdV, rdD, reduceIte, Nat.reduceEqDiff, Nat.reduceBEq, PV.bin, PV.binOk, binI, binS, PV.withInt, PV.withIntP, okAll, PV.under, PV.okUnder, eq_self, implies_true, deadOk, ne_eq, allOk, RVar.val, RVar.ok, retV, PV.seen, PV.view, beq_self_eq_true, PV.flat, PV.noOwn, id_eq, behind, PV.kill, MObj.kill, killTag, reduceCtorEq, nilB]; (try go_unwrap; try simp only [hd2, ha, hlen, hset, toNat_add2, toNat_add1, Int.toNat_natCast, Bool.false_and, Bool.true_and, true_implies, true_and, Bool.false_eq_true, reduceCtorEq, false_implies, Bool.not_false, Bool.not_true, Bool.true_or, Bool.false_or])) | refine PW.regionA ?_ | exact schedW_stop_i | ((first | refine schedW_alt_i ?_ ?_ | refine schedW_done_i ?_); focus (simp only [hd2, ha, hlen, hset, SS, SS2, SS3, Option.map_some, gArgs, gOk, Nat.reduceAdd, PV.shift, MObj.shift, rdV, rdD, reduceIte, Nat.reduceEqDiff, Nat.reduceBEq, PV.bin, PV.binOk, binI, binS, PV.withInt, PV.withIntP, okAll, PV.under, PV.okUnder, eq_self, implies_true, deadOk, ne_eq, allOk, RVar.val, RVar.ok, retV, PV.seen, PV.view, beq_self_eq_true, PV.flat, PV.noOwn, id_eq, behind, PV.kill, MObj.kill, killTag, reduceCtorEq, nilB]; (try go_unwrap; try simp only [hd2, ha, hlen, hset, toNat_add2, toNat_add1, Int.toNat_natCast, Bool.false_and, Bool.true_and, true_implies, true_and, Bool.false_eq_true, reduceCtorEq, false_implies, Bool.not_false, Bool.not_true, Bool.true_or, Bool.false_or]))) | (refine PW.cond rfl ?_ ?_ <;> intro hcond <;> (try contradiction) <;> try simp only [decide_eq_true_eq, decide_eq_false_iff_not] at hcond) | refine And.intro ?_ ?_ | exact Or.inr ⟨rfl, Nat.le_refl _⟩ | exact (fun h => Bool.noConfusion h) | omega | (simp only [decide_eq_true_eq, decide_eq_false_iff_not, List.length_cons, List.length_nil, List.length_append, List.length_map, Sh.size] <;> omega) | (go_unwrap; omega))
      refine ⟨(i + 1, acc ++ [m + 1]), (by first | rfl | (simp only [trimE, trimM, List.take_succ_cons, List.take_zero, List.take_nil, List.map_cons, List.map_nil, Option.map_some, Option.map_none, MObj.kill, PV.kill, Nat.reduceLeDiff, decide_true, decide_false, dec_true, dec_false, Bool.false_eq_true, if_false, if_true, reduceIte, List.zip_cons_cons, List.zip_nil_left, Nat.le_refl, Nat.zero_le, Nat.not_le, Nat.lt_irrefl]; done) | (simp [trimE, trimM, MObj.kill, PV.kill]; done)), ?_, ⟨h, by simp [hal], ?_, hwf, by rw [hr, hk]⟩, by simp only; omega⟩
      · rw [← rowM_V]; exact (by first | rfl | (simp only [trimE, trimM, List.take_succ_cons, List.take_zero, List.take_nil, List.map_cons, List.map_nil, Option.map_some, Option.map_none, MObj.kill, PV.kill, Nat.reduceLeDiff, decide_true, decide_false, dec_true, dec_false, Bool.false_eq_true, if_false, if_true, reduceIte, List.zip_cons_cons, List.zip_nil_left, Nat.le_refl, Nat.zero_le, Nat.not_le, Nat.lt_irrefl]; done) | (simp [trimE, trimM, MObj.kill, PV.kill]; done))
      · intro x hx
        rcases List.mem_append.1 hx with hx | hx
        · have := hb x hx; simp only; omega
        · simp at hx; subst hx; simp only; omega
  · have hd' : decide ((i : Int) < l.length) = false := by simp only [decide_eq_false_iff_not]; omega
    rw [List.drop_eq_nil_of_le h, depthsM] at hr
    have hlast : (rowV acc l.length)[l.length - 1]? = some (.int .i64 (acc.getD (l.length - 1) 0)) := rowV_lt _ (by omega)
    have hti : ((l.length : Int) - 1).toNat = l.length - 1 := by omega
    repeat' (first | refine PW.seq ?_ | refine PW.block ?_ | ((first | refine PW.region ?_ | refine PW.regionQ ?_ | refine PW.exit ?_ | refine PW.ret ?_ | refine PW.skip ?_); simp only [hd', hti, hlast, List.length_map, SS, SS2, SS3, Option.map_some, gArgs, gOk, Nat.reduceAdd, PV.shift, MObj.shift, rdV, rdD, reduceIte, Nat.reduceEqDiff, Nat.reduceBEq, PV.bin, PV.binOk, binI, binS, PV.withInt, PV.withIntP, okAll, PV.under, PV.okUnder, eq_self, implies_true, deadOk, ne_eq, allOk, RVar.val, RVar.ok, retV, PV.seen, PV.view, beq_self_eq_true, PV.flat, PV.noOwn, id_eq, behind, PV.kill, MObj.kill, killTag, reduceCtorEq, nilB]; (try go_unwrap; try simp only [hd', hti, hlast, List.length_map, toNat_add2, toNat_add1, Int.toNat_natCast, Bool.false_and, Bool.true_and, true_implies, true_and, Bool.false_eq_true, reduceCtorEq, false_implies, Bool.not_false, Bool.not_true, Bool.true_or, Bool.false_or])) | refine PW.regionA ?_ | exact schedW_stop_i | ((first | refine schedW_alt_i ?_ ?_ | refine schedW_done_i ?_); focus (simp only [hd', hti, hlast, List.length_map, SS, SS2, SS3, Option.map_some, gArgs, gOk, Nat.reduceAdd, PV.shift, MObj.shift, rdV, rdD, reduceIte, Nat.reduceEqDiff, Nat.reduceBEq, PV.bin, PV.binOk, binI, binS, PV.withInt, PV.withIntP, okAll, PV.under, PV.okUnder, eq_self, implies_true, deadOk, ne_eq, allOk, RVar.val, RVar.ok, retV, PV.seen, PV.view, beq_self_eq_true, PV.flat, PV.noOwn, id_eq, behind, PV.kill, MObj.kill, killTag, reduceCtorEq, nilB]; (try go_unwrap; try simp only [hd', hti, hlast, List.length_map, toNat_add2, toNat_add1, Int.toNat_natCast, Bool.false_and, Bool.true_and, true_implies, true_and, Bool.false_eq_true, reduceCtorEq, false_implies, Bool.not_false, Bool.not_true, Bool.true_or, Bool.false_or]))) | (refine PW.cond rfl ?_ ?_ <;> intro hcond <;> (try contradiction) <;> try simp only [decide_eq_true_eq, decide_eq_false_iff_not] at hcond) | refine And.intro ?_ ?_ | exact Or.inr ⟨rfl, Nat.le_refl _⟩ | exact (fun h => Bool.noConfusion h) | omega | (simp only [decide_eq_true_eq, decide_eq_false_iff_not, List.length_cons, List.length_nil, List.length_append, List.length_map, Sh.size] <;> omega) | (go_unwrap; omega))
    · exact .inl ⟨rfl, rfl⟩
    · rw [depthM, hr]
end Go.Proofs.YthekpjhffciakaaDoor
