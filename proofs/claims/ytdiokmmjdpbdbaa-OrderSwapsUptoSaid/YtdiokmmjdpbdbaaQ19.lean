import Derived.Test.YtdiokmmjdpbdbaaRows
import Derived.Test.YtdiokmmjdpbdbaaQ18
import Derived.Test.YtdiokmmjdpbdbaaQ7
import Derived.Test.YtdiokmmjdpbdbaaP4
namespace Go.Proofs.Ytdiokmmjdpbdbaa
open Go PG Go.Proofs
set_option linter.unusedSimpArgs false
set_option linter.unusedVariables false
set_option maxHeartbeats 4000000
set_option maxRecDepth 100000
theorem drop00 {α : Type} (xs : List α) : xs.drop (Int.toNat 0) = xs := rfl
theorem v22 (l : List Ed) (hl : l.length ≤ 1000000000) (hnl : ∀ e ∈ l, e.needs.length ≤ 9223372036854775807) (r : List St) (hrl : r.length ≤ 1000000000)
    (hr : ∀ i (h : i < r.length), ¬ r[i] < r[0]'(by omega) ∧ r[i] ∉ r.take i ∧ r[(i + 1) % r.length]'(Nat.mod_lt _ (by omega)) ∈ ndM l r[i]) : VCalls Try.prog G0 22 [txL r, edL l] (.bool true) := by
  refine VCalls.of_PW Try.func22 k22 mix (by simp [c22]) ?_
  simp only [c22, L22, argE]
  have hlen : ((r.map PV.str).length : Nat) = r.length := by simp
  repeat' (first | exact True.intro | (refine PW.seqK ?_; intro K hK) | refine PW.block ?_ | refine PW.scope ?_ | refine PW.label ?_ | refine PW.exit ?_ | refine PW.ret ?_ | refine PW.skip ?_ | refine seqK_n (by assumption) ?_ | refine seqK_r (by assumption) ?_ | refine seqK_e (by assumption) ?_ | refine PW.regionA ?_ | exact schedW_stop_i | refine schK_n (by assumption) ?_ | (refine schedW_alt_k ?_ ?_; focus (intro K hK; simp only [hlen, SS, SS2, SS3, SS4, scopeQ_normal, scopeQ_ret, scopeQ_exit, Option.map_some, Bool.not_false, Bool.not_true, gArgs, gOk, Nat.reduceAdd, PV.shift, MObj.shift, rdV, rdD, reduceIte, Nat.reduceEqDiff, Nat.reduceBEq, PV.bin, PV.binOk, binI, binS, PV.withInt, PV.withIntP, okAll, PV.under, PV.okUnder, eq_self, implies_true, deadOk, ne_eq, allOk, RVar.val, RVar.ok, retV, PV.seen, PV.view, beq_self_eq_true, PV.flat, PV.noOwn, id_eq, behind, PV.kill, MObj.kill, killTag, reduceCtorEq, nilB]; (try go_unwrap; try simp only [hlen, toNat_add2, toNat_add1, Int.toNat_natCast, Bool.false_and, Bool.true_and, true_implies, true_and, Bool.false_eq_true, reduceCtorEq, false_implies, Bool.not_false, Bool.not_true, Bool.true_or, Bool.false_or]))) | (refine PW.cond rfl ?_ ?_ <;> intro hcond <;> (try contradiction) <;> try simp only [decide_eq_true_eq, decide_eq_false_iff_not] at hcond) | (refine gd_i ?_; intro hg; try simp only [hg]) | ((first | show @LE.le Nat _ _ _ | show @LT.lt Nat _ _ _ | show @LE.le Int _ _ _ | show @LT.lt Int _ _ _ | show @Eq Nat _ _ | show @Eq Int _ _ | show @Eq Bool _ _ | show _ ∨ _ | show ¬ _); first | omega | (simp only [decide_eq_true_eq, decide_eq_false_iff_not, List.length_cons, List.length_nil, List.length_append, List.length_map, Sh.size] <;> omega) | (go_unwrap; omega)) | ((first | refine PW.region ?_ | refine PW.regionQ ?_ | refine schedW_done_i ?_ | show (_ : Post) _ _ _ | show @Eq (List PV) _ _ | show @Eq Bool _ _ | show opsW _ _ _ _ _ _ _ _ | show okAll _ | show @Eq Bool _ _ ∨ _); focus (simp only [hlen, SS, SS2, SS3, SS4, scopeQ_normal, scopeQ_ret, scopeQ_exit, Option.map_some, Bool.not_false, Bool.not_true, gArgs, gOk, Nat.reduceAdd, PV.shift, MObj.shift, rdV, rdD, reduceIte, Nat.reduceEqDiff, Nat.reduceBEq, PV.bin, PV.binOk, binI, binS, PV.withInt, PV.withIntP, okAll, PV.under, PV.okUnder, eq_self, implies_true, deadOk, ne_eq, allOk, RVar.val, RVar.ok, retV, PV.seen, PV.view, beq_self_eq_true, PV.flat, PV.noOwn, id_eq, behind, PV.kill, MObj.kill, killTag, reduceCtorEq, nilB]; (try go_unwrap; try simp only [hlen, toNat_add2, toNat_add1, Int.toNat_natCast, Bool.false_and, Bool.true_and, true_implies, true_and, Bool.false_eq_true, reduceCtorEq, false_implies, Bool.not_false, Bool.not_true, Bool.true_or, Bool.false_or]))) | refine And.intro ?_ ?_ | exact Or.inr ⟨rfl, Nat.le_refl _⟩ | exact (fun h => Bool.noConfusion h))
  refine PW.loop (σ := Nat) [0, 1, 4, 5] (fun i => [txL r, edL l, .bool false, .int .i64 i]) (fun _ => []) (fun i => i ≤ r.length) (fun i => r.length - i) 0 ?_ rfl (by omega) ?_
  · simp only [SS, SS2, SS3, SS4, scopeQ_normal, scopeQ_ret, scopeQ_exit, Option.map_some, Bool.not_false, Bool.not_true, gArgs, gOk, Nat.reduceAdd, PV.shift, MObj.shift, rdV, rdD, reduceIte, Nat.reduceEqDiff, Nat.reduceBEq, PV.bin, PV.binOk, binI, binS, PV.withInt, PV.withIntP, okAll, PV.under, PV.okUnder, eq_self, implies_true, deadOk, ne_eq, allOk, RVar.val, RVar.ok, retV, PV.seen, PV.view, beq_self_eq_true, PV.flat, PV.noOwn, id_eq, behind, PV.kill, MObj.kill, killTag, reduceCtorEq, nilB]; rfl
  rintro i hi
  simp only [List.zip_cons_cons, List.zip_nil_left]
  rcases Nat.lt_or_ge i r.length with h | h
  · have hd : decide ((i : Int) < r.length) = true := by simp only [decide_eq_true_eq]; omega
    have hg := tx_getD r i h
    have hg0 : (r.map PV.str).getD (Int.toNat 0) PV.junk = PV.str (r[0]'(by omega)) := tx_getD r 0 (by omega)
    have hmod : (i + 1) % r.length < r.length := Nat.mod_lt _ (by omega)
    have hgn := tx_getD r ((i + 1) % r.length) hmod
    obtain ⟨a, b, c⟩ := hr i h
    have h23 := v23 (r.take i) r[i] (by simp; omega)
    have h24 := v24 l hl hnl r[i] (r[(i + 1) % r.length]'hmod)
    rw [decide_eq_false b] at h23
    rw [decide_eq_true c] at h24
    have hb : Op.bytesLess r[i] (r[0]'(by omega)) = false := (bl_not _ _).2 a
    have hwr : IntKind.i64.wrap ((i : Int) + 1) = (i : Int) + 1 := IntWalk.i64_in _ (by omega)
    have htm : ((i : Int) + 1).tmod (r.length : Int) = (((i + 1) % r.length : Nat) : Int) := by
      rw [Int.tmod_eq_emod_of_nonneg (by omega)]; simp
    have hne : ¬ ((r.length : Int) = 0) := by omega
    have hm1 : (((i + 1) % r.length : Nat) : Int) < r.length := by omega
    have s1 : (r.map PV.str).take i = (r.take i).map PV.str := by rw [List.map_take]
    obtain ⟨x, hx⟩ : ∃ x, r[i] = x := ⟨_, rfl⟩
    obtain ⟨z, hz⟩ : ∃ z, r[0]'(by omega) = z := ⟨_, rfl⟩
    obtain ⟨y, hy⟩ : ∃ y, r[(i + 1) % r.length]'hmod = y := ⟨_, rfl⟩
    rw [hx] at hg hb h23 h24
    rw [hz] at hg0 hb
    rw [hy] at hgn h24
    clear hx hy hz a b c hr
    obtain ⟨q, hq⟩ : ∃ q, (i + 1) % r.length = q := ⟨_, rfl⟩
    rw [hq] at htm hm1 hgn
    clear hmod hq
    repeat' (first | exact True.intro | (refine PW.seqK ?_; intro K hK) | refine PW.block ?_ | refine PW.scope ?_ | refine PW.label ?_ | refine PW.exit ?_ | refine PW.ret ?_ | refine PW.skip ?_ | refine seqK_n (by assumption) ?_ | refine seqK_r (by assumption) ?_ | refine seqK_e (by assumption) ?_ | refine PW.regionA ?_ | exact schedW_stop_i | refine schK_n (by assumption) ?_ | (refine schedW_alt_k ?_ ?_; focus (intro K hK; simp only [hd, hlen, hg, hg0, hgn, hb, hwr, htm, hne, s1, drop00, SS, SS2, SS3, SS4, scopeQ_normal, scopeQ_ret, scopeQ_exit, Option.map_some, Bool.not_false, Bool.not_true, gArgs, gOk, Nat.reduceAdd, PV.shift, MObj.shift, rdV, rdD, reduceIte, Nat.reduceEqDiff, Nat.reduceBEq, PV.bin, PV.binOk, binI, binS, PV.withInt, PV.withIntP, okAll, PV.under, PV.okUnder, eq_self, implies_true, deadOk, ne_eq, allOk, RVar.val, RVar.ok, retV, PV.seen, PV.view, beq_self_eq_true, PV.flat, PV.noOwn, id_eq, behind, PV.kill, MObj.kill, killTag, reduceCtorEq, nilB]; (try go_unwrap; try simp only [hd, hlen, hg, hg0, hgn, hb, hwr, htm, hne, s1, drop00, toNat_add2, toNat_add1, Int.toNat_natCast, Bool.false_and, Bool.true_and, true_implies, true_and, Bool.false_eq_true, reduceCtorEq, false_implies, Bool.not_false, Bool.not_true, Bool.true_or, Bool.false_or]))) | (refine PW.cond rfl ?_ ?_ <;> intro hcond <;> (try contradiction) <;> try simp only [decide_eq_true_eq, decide_eq_false_iff_not] at hcond) | (refine gd_i ?_; intro hg; try simp only [hg]) | refine goCallG_W e23 (h23) ?_ ?_ ?_ ?_ ?_ | refine goCallG_W e24 (h24) ?_ ?_ ?_ ?_ ?_ | ((first | show @LE.le Nat _ _ _ | show @LT.lt Nat _ _ _ | show @LE.le Int _ _ _ | show @LT.lt Int _ _ _ | show @Eq Nat _ _ | show @Eq Int _ _ | show @Eq Bool _ _ | show _ ∨ _ | show ¬ _); first | omega | (simp only [decide_eq_true_eq, decide_eq_false_iff_not, List.length_cons, List.length_nil, List.length_append, List.length_map, Sh.size] <;> omega) | (go_unwrap; omega)) | ((first | refine PW.region ?_ | refine PW.regionQ ?_ | refine schedW_done_i ?_ | show (_ : Post) _ _ _ | show @Eq (List PV) _ _ | show @Eq Bool _ _ | show opsW _ _ _ _ _ _ _ _ | show okAll _ | show @Eq Bool _ _ ∨ _); focus (simp only [hd, hlen, hg, hg0, hgn, hb, hwr, htm, hne, s1, drop00, SS, SS2, SS3, SS4, scopeQ_normal, scopeQ_ret, scopeQ_exit, Option.map_some, Bool.not_false, Bool.not_true, gArgs, gOk, Nat.reduceAdd, PV.shift, MObj.shift, rdV, rdD, reduceIte, Nat.reduceEqDiff, Nat.reduceBEq, PV.bin, PV.binOk, binI, binS, PV.withInt, PV.withIntP, okAll, PV.under, PV.okUnder, eq_self, implies_true, deadOk, ne_eq, allOk, RVar.val, RVar.ok, retV, PV.seen, PV.view, beq_self_eq_true, PV.flat, PV.noOwn, id_eq, behind, PV.kill, MObj.kill, killTag, reduceCtorEq, nilB]; (try go_unwrap; try simp only [hd, hlen, hg, hg0, hgn, hb, hwr, htm, hne, s1, drop00, toNat_add2, toNat_add1, Int.toNat_natCast, Bool.false_and, Bool.true_and, true_implies, true_and, Bool.false_eq_true, reduceCtorEq, false_implies, Bool.not_false, Bool.not_true, Bool.true_or, Bool.false_or]))) | refine And.intro ?_ ?_ | exact Or.inr ⟨rfl, Nat.le_refl _⟩ | exact (fun h => Bool.noConfusion h))
    all_goals first | rfl | exact ⟨i + 1, rfl, by omega, by omega⟩ | skip
  · have hd : decide ((i : Int) < r.length) = false := by simp only [decide_eq_false_iff_not]; omega
    repeat' (first | exact True.intro | (refine PW.seqK ?_; intro K hK) | refine PW.block ?_ | refine PW.scope ?_ | refine PW.label ?_ | refine PW.exit ?_ | refine PW.ret ?_ | refine PW.skip ?_ | refine seqK_n (by assumption) ?_ | refine seqK_r (by assumption) ?_ | refine seqK_e (by assumption) ?_ | refine PW.regionA ?_ | exact schedW_stop_i | refine schK_n (by assumption) ?_ | (refine schedW_alt_k ?_ ?_; focus (intro K hK; simp only [hd, hlen, SS, SS2, SS3, SS4, scopeQ_normal, scopeQ_ret, scopeQ_exit, Option.map_some, Bool.not_false, Bool.not_true, gArgs, gOk, Nat.reduceAdd, PV.shift, MObj.shift, rdV, rdD, reduceIte, Nat.reduceEqDiff, Nat.reduceBEq, PV.bin, PV.binOk, binI, binS, PV.withInt, PV.withIntP, okAll, PV.under, PV.okUnder, eq_self, implies_true, deadOk, ne_eq, allOk, RVar.val, RVar.ok, retV, PV.seen, PV.view, beq_self_eq_true, PV.flat, PV.noOwn, id_eq, behind, PV.kill, MObj.kill, killTag, reduceCtorEq, nilB]; (try go_unwrap; try simp only [hd, hlen, toNat_add2, toNat_add1, Int.toNat_natCast, Bool.false_and, Bool.true_and, true_implies, true_and, Bool.false_eq_true, reduceCtorEq, false_implies, Bool.not_false, Bool.not_true, Bool.true_or, Bool.false_or]))) | (refine PW.cond rfl ?_ ?_ <;> intro hcond <;> (try contradiction) <;> try simp only [decide_eq_true_eq, decide_eq_false_iff_not] at hcond) | (refine gd_i ?_; intro hg; try simp only [hg]) | ((first | show @LE.le Nat _ _ _ | show @LT.lt Nat _ _ _ | show @LE.le Int _ _ _ | show @LT.lt Int _ _ _ | show @Eq Nat _ _ | show @Eq Int _ _ | show @Eq Bool _ _ | show _ ∨ _ | show ¬ _); first | omega | (simp only [decide_eq_true_eq, decide_eq_false_iff_not, List.length_cons, List.length_nil, List.length_append, List.length_map, Sh.size] <;> omega) | (go_unwrap; omega)) | ((first | refine PW.region ?_ | refine PW.regionQ ?_ | refine schedW_done_i ?_ | show (_ : Post) _ _ _ | show @Eq (List PV) _ _ | show @Eq Bool _ _ | show opsW _ _ _ _ _ _ _ _ | show okAll _ | show @Eq Bool _ _ ∨ _); focus (simp only [hd, hlen, SS, SS2, SS3, SS4, scopeQ_normal, scopeQ_ret, scopeQ_exit, Option.map_some, Bool.not_false, Bool.not_true, gArgs, gOk, Nat.reduceAdd, PV.shift, MObj.shift, rdV, rdD, reduceIte, Nat.reduceEqDiff, Nat.reduceBEq, PV.bin, PV.binOk, binI, binS, PV.withInt, PV.withIntP, okAll, PV.under, PV.okUnder, eq_self, implies_true, deadOk, ne_eq, allOk, RVar.val, RVar.ok, retV, PV.seen, PV.view, beq_self_eq_true, PV.flat, PV.noOwn, id_eq, behind, PV.kill, MObj.kill, killTag, reduceCtorEq, nilB]; (try go_unwrap; try simp only [hd, hlen, toNat_add2, toNat_add1, Int.toNat_natCast, Bool.false_and, Bool.true_and, true_implies, true_and, Bool.false_eq_true, reduceCtorEq, false_implies, Bool.not_false, Bool.not_true, Bool.true_or, Bool.false_or]))) | refine And.intro ?_ ?_ | exact Or.inr ⟨rfl, Nat.le_refl _⟩ | exact (fun h => Bool.noConfusion h))
theorem v5 (l : List Ed) (hl : l.length ≤ 1048576) (hnl : ∀ e ∈ l, e.needs.length ≤ 9223372036854775807) : VCalls Try.prog G0 5 [edL l] (.bool true) := by
  refine VCalls.of_PW Try.func5 k5 mix (by simp [c5]) ?_
  simp only [c5, L5, argE]
  have h10 := v10
  have h11 : VCalls Try.prog G0 11 [edL l, .int .i64 24] (.bool (shortM l 24)) := v11 l 24 (by omega) (by omega)
  cases hs : shortM l 24 with
  | false =>
    rw [hs] at h11
    repeat' (first | exact True.intro | (refine PW.seqK ?_; intro K hK) | refine PW.block ?_ | refine PW.scope ?_ | refine PW.label ?_ | refine PW.exit ?_ | refine PW.ret ?_ | refine PW.skip ?_ | refine seqK_n (by assumption) ?_ | refine seqK_r (by assumption) ?_ | refine seqK_e (by assumption) ?_ | refine PW.regionA ?_ | exact schedW_stop_i | refine schK_n (by assumption) ?_ | (refine schedW_alt_k ?_ ?_; focus (intro K hK; simp only [SS, SS2, SS3, SS4, scopeQ_normal, scopeQ_ret, scopeQ_exit, Option.map_some, Bool.not_false, Bool.not_true, gArgs, gOk, Nat.reduceAdd, PV.shift, MObj.shift, rdV, rdD, reduceIte, Nat.reduceEqDiff, Nat.reduceBEq, PV.bin, PV.binOk, binI, binS, PV.withInt, PV.withIntP, okAll, PV.under, PV.okUnder, eq_self, implies_true, deadOk, ne_eq, allOk, RVar.val, RVar.ok, retV, PV.seen, PV.view, beq_self_eq_true, PV.flat, PV.noOwn, id_eq, behind, PV.kill, MObj.kill, killTag, reduceCtorEq, nilB]; (try go_unwrap; try simp only [toNat_add2, toNat_add1, Int.toNat_natCast, Bool.false_and, Bool.true_and, true_implies, true_and, Bool.false_eq_true, reduceCtorEq, false_implies, Bool.not_false, Bool.not_true, Bool.true_or, Bool.false_or]))) | (refine PW.cond rfl ?_ ?_ <;> intro hcond <;> (try contradiction) <;> try simp only [decide_eq_true_eq, decide_eq_false_iff_not] at hcond) | (refine gd_i ?_; intro hg; try simp only [hg]) | refine goCall_W e10 (h10) ?_ ?_ ?_ ?_ | refine goCall_W e11 (h11) ?_ ?_ ?_ ?_ | ((first | show @LE.le Nat _ _ _ | show @LT.lt Nat _ _ _ | show @LE.le Int _ _ _ | show @LT.lt Int _ _ _ | show @Eq Nat _ _ | show @Eq Int _ _ | show @Eq Bool _ _ | show _ ∨ _ | show ¬ _); first | omega | (simp only [decide_eq_true_eq, decide_eq_false_iff_not, List.length_cons, List.length_nil, List.length_append, List.length_map, Sh.size] <;> omega) | (go_unwrap; omega)) | ((first | refine PW.region ?_ | refine PW.regionQ ?_ | refine schedW_done_i ?_ | show (_ : Post) _ _ _ | show @Eq (List PV) _ _ | show @Eq Bool _ _ | show opsW _ _ _ _ _ _ _ _ | show okAll _ | show @Eq Bool _ _ ∨ _); focus (simp only [SS, SS2, SS3, SS4, scopeQ_normal, scopeQ_ret, scopeQ_exit, Option.map_some, Bool.not_false, Bool.not_true, gArgs, gOk, Nat.reduceAdd, PV.shift, MObj.shift, rdV, rdD, reduceIte, Nat.reduceEqDiff, Nat.reduceBEq, PV.bin, PV.binOk, binI, binS, PV.withInt, PV.withIntP, okAll, PV.under, PV.okUnder, eq_self, implies_true, deadOk, ne_eq, allOk, RVar.val, RVar.ok, retV, PV.seen, PV.view, beq_self_eq_true, PV.flat, PV.noOwn, id_eq, behind, PV.kill, MObj.kill, killTag, reduceCtorEq, nilB]; (try go_unwrap; try simp only [toNat_add2, toNat_add1, Int.toNat_natCast, Bool.false_and, Bool.true_and, true_implies, true_and, Bool.false_eq_true, reduceCtorEq, false_implies, Bool.not_false, Bool.not_true, Bool.true_or, Bool.false_or]))) | refine And.intro ?_ ?_ | exact Or.inr ⟨rfl, Nat.le_refl _⟩ | exact (fun h => Bool.noConfusion h))
  | true =>
  rw [hs] at h11
  have h20 := v20 l (by omega) hnl
  have h13 := v13 l (by omega) hnl
  have hsl : (sortM l).1.length ≤ 1000000000 := by
    rcases sort_two l with h | h | h
    · obtain ⟨hw, -, hp⟩ := sort_spec h
      rw [hp.length_eq, ns_len]; omega
    · rw [(sort_ring h).2.2]; simp
    · rw [sort_wrong h.1]; simp
  have h21 := v21 l (by omega) hnl (sortM l).1 hsl
  rcases sort_two l with h | h | ⟨hw, h⟩
  · obtain ⟨a, b⟩ := sorts_ok h
    rw [h] at h20
    rw [a] at h13
    rw [b] at h21
    generalize (sortM l).1 = x at h20 h21
    have d0 : decide ((0 : Int) = 0) = true := rfl
    have hz : decide (((([] : List St).map PV.str).length : Int) = 0) = true := rfl
    repeat' (first | exact True.intro | (refine PW.seqK ?_; intro K hK) | refine PW.block ?_ | refine PW.scope ?_ | refine PW.label ?_ | refine PW.exit ?_ | refine PW.ret ?_ | refine PW.skip ?_ | refine seqK_n (by assumption) ?_ | refine seqK_r (by assumption) ?_ | refine seqK_e (by assumption) ?_ | refine PW.regionA ?_ | exact schedW_stop_i | refine schK_n (by assumption) ?_ | (refine schedW_alt_k ?_ ?_; focus (intro K hK; simp only [d0, hz, SS, SS2, SS3, SS4, scopeQ_normal, scopeQ_ret, scopeQ_exit, Option.map_some, Bool.not_false, Bool.not_true, gArgs, gOk, Nat.reduceAdd, PV.shift, MObj.shift, rdV, rdD, reduceIte, Nat.reduceEqDiff, Nat.reduceBEq, PV.bin, PV.binOk, binI, binS, PV.withInt, PV.withIntP, okAll, PV.under, PV.okUnder, eq_self, implies_true, deadOk, ne_eq, allOk, RVar.val, RVar.ok, retV, PV.seen, PV.view, beq_self_eq_true, PV.flat, PV.noOwn, id_eq, behind, PV.kill, MObj.kill, killTag, reduceCtorEq, nilB]; (try go_unwrap; try simp only [d0, hz, toNat_add2, toNat_add1, Int.toNat_natCast, Bool.false_and, Bool.true_and, true_implies, true_and, Bool.false_eq_true, reduceCtorEq, false_implies, Bool.not_false, Bool.not_true, Bool.true_or, Bool.false_or]))) | (refine PW.cond rfl ?_ ?_ <;> intro hcond <;> (try contradiction) <;> try simp only [decide_eq_true_eq, decide_eq_false_iff_not] at hcond) | (refine gd_i ?_; intro hg; try simp only [hg]) | refine goCall_W e10 (h10) ?_ ?_ ?_ ?_ | refine goCall_W e11 (h11) ?_ ?_ ?_ ?_ | refine goCall_W e20 (h20) ?_ ?_ ?_ ?_ | refine goCall_W e13 (h13) ?_ ?_ ?_ ?_ | refine goCallG_W e21 (h21) ?_ ?_ ?_ ?_ ?_ | ((first | show @LE.le Nat _ _ _ | show @LT.lt Nat _ _ _ | show @LE.le Int _ _ _ | show @LT.lt Int _ _ _ | show @Eq Nat _ _ | show @Eq Int _ _ | show @Eq Bool _ _ | show _ ∨ _ | show ¬ _); first | omega | (simp only [decide_eq_true_eq, decide_eq_false_iff_not, List.length_cons, List.length_nil, List.length_append, List.length_map, Sh.size] <;> omega) | (go_unwrap; omega)) | ((first | refine PW.region ?_ | refine PW.regionQ ?_ | refine schedW_done_i ?_ | show (_ : Post) _ _ _ | show @Eq (List PV) _ _ | show @Eq Bool _ _ | show opsW _ _ _ _ _ _ _ _ | show okAll _ | show @Eq Bool _ _ ∨ _); focus (simp only [d0, hz, SS, SS2, SS3, SS4, scopeQ_normal, scopeQ_ret, scopeQ_exit, Option.map_some, Bool.not_false, Bool.not_true, gArgs, gOk, Nat.reduceAdd, PV.shift, MObj.shift, rdV, rdD, reduceIte, Nat.reduceEqDiff, Nat.reduceBEq, PV.bin, PV.binOk, binI, binS, PV.withInt, PV.withIntP, okAll, PV.under, PV.okUnder, eq_self, implies_true, deadOk, ne_eq, allOk, RVar.val, RVar.ok, retV, PV.seen, PV.view, beq_self_eq_true, PV.flat, PV.noOwn, id_eq, behind, PV.kill, MObj.kill, killTag, reduceCtorEq, nilB]; (try go_unwrap; try simp only [d0, hz, toNat_add2, toNat_add1, Int.toNat_natCast, Bool.false_and, Bool.true_and, true_implies, true_and, Bool.false_eq_true, reduceCtorEq, false_implies, Bool.not_false, Bool.not_true, Bool.true_or, Bool.false_or]))) | refine And.intro ?_ ?_ | exact Or.inr ⟨rfl, Nat.le_refl _⟩ | exact (fun h => Bool.noConfusion h))
  · obtain ⟨a, b, c⟩ := sorts_ring h
    have hrl : (ringM l).length ≤ 1000000000 := by
      obtain ⟨s, T, e, hsN, -, hT, hn⟩ := c.some
      have hw := (sort_ring h).1
      have := nodup_len (a := ringM l) (b := nsM l) (by
        rw [e, List.nodup_cons]
        exact ⟨fun hm => lt_irr _ (hT s hm).1, hn⟩) (fun y hy => by
        rw [e] at hy
        rcases List.mem_cons.1 hy with rfl | hy
        · exact hsN
        · exact (hT y hy).2)
      rw [ns_len] at this; omega
    have h22 := v22 l (by omega) hnl (ringM l) hrl (fun i hi => isring_at c i hi)
    rw [h, a] at h20
    generalize ringM l = R at h13 h22 b
    obtain ⟨x, X, rfl⟩ := List.exists_cons_of_ne_nil b
    have hX : (((PV.str x :: X.map PV.str) : List PV).length : Nat) = X.length + 1 := by simp
    have dX : decide ((0 : Int) < ((X.length + 1 : Nat) : Int)) = true := by simp only [decide_eq_true_eq]; omega
    simp only [txL, List.map_cons] at h13 h22
    have d0 : decide ((13 : Int) = 0) = false := rfl
    have d1 : decide ((13 : Int) = 13) = true := rfl
    have hz : decide (((([] : List St).map PV.str).length : Int) = 0) = true := rfl
    repeat' (first | exact True.intro | (refine PW.seqK ?_; intro K hK) | refine PW.block ?_ | refine PW.scope ?_ | refine PW.label ?_ | refine PW.exit ?_ | refine PW.ret ?_ | refine PW.skip ?_ | refine seqK_n (by assumption) ?_ | refine seqK_r (by assumption) ?_ | refine seqK_e (by assumption) ?_ | refine PW.regionA ?_ | exact schedW_stop_i | refine schK_n (by assumption) ?_ | (refine schedW_alt_k ?_ ?_; focus (intro K hK; simp only [d0, d1, hX, dX, hz, SS, SS2, SS3, SS4, scopeQ_normal, scopeQ_ret, scopeQ_exit, Option.map_some, Bool.not_false, Bool.not_true, gArgs, gOk, Nat.reduceAdd, PV.shift, MObj.shift, rdV, rdD, reduceIte, Nat.reduceEqDiff, Nat.reduceBEq, PV.bin, PV.binOk, binI, binS, PV.withInt, PV.withIntP, okAll, PV.under, PV.okUnder, eq_self, implies_true, deadOk, ne_eq, allOk, RVar.val, RVar.ok, retV, PV.seen, PV.view, beq_self_eq_true, PV.flat, PV.noOwn, id_eq, behind, PV.kill, MObj.kill, killTag, reduceCtorEq, nilB]; (try go_unwrap; try simp only [d0, d1, hX, dX, hz, toNat_add2, toNat_add1, Int.toNat_natCast, Bool.false_and, Bool.true_and, true_implies, true_and, Bool.false_eq_true, reduceCtorEq, false_implies, Bool.not_false, Bool.not_true, Bool.true_or, Bool.false_or]))) | (refine PW.cond rfl ?_ ?_ <;> intro hcond <;> (try contradiction) <;> try simp only [decide_eq_true_eq, decide_eq_false_iff_not] at hcond) | (refine gd_i ?_; intro hg; try simp only [hg]) | refine goCall_W e10 (h10) ?_ ?_ ?_ ?_ | refine goCall_W e11 (h11) ?_ ?_ ?_ ?_ | refine goCall_W e20 (h20) ?_ ?_ ?_ ?_ | refine goCall_W e13 (h13) ?_ ?_ ?_ ?_ | refine goCallG_W e22 (h22) ?_ ?_ ?_ ?_ ?_ | ((first | show @LE.le Nat _ _ _ | show @LT.lt Nat _ _ _ | show @LE.le Int _ _ _ | show @LT.lt Int _ _ _ | show @Eq Nat _ _ | show @Eq Int _ _ | show @Eq Bool _ _ | show _ ∨ _ | show ¬ _); first | omega | (simp only [decide_eq_true_eq, decide_eq_false_iff_not, List.length_cons, List.length_nil, List.length_append, List.length_map, Sh.size] <;> omega) | (go_unwrap; omega)) | ((first | refine PW.region ?_ | refine PW.regionQ ?_ | refine schedW_done_i ?_ | show (_ : Post) _ _ _ | show @Eq (List PV) _ _ | show @Eq Bool _ _ | show opsW _ _ _ _ _ _ _ _ | show okAll _ | show @Eq Bool _ _ ∨ _); focus (simp only [d0, d1, hX, dX, hz, SS, SS2, SS3, SS4, scopeQ_normal, scopeQ_ret, scopeQ_exit, Option.map_some, Bool.not_false, Bool.not_true, gArgs, gOk, Nat.reduceAdd, PV.shift, MObj.shift, rdV, rdD, reduceIte, Nat.reduceEqDiff, Nat.reduceBEq, PV.bin, PV.binOk, binI, binS, PV.withInt, PV.withIntP, okAll, PV.under, PV.okUnder, eq_self, implies_true, deadOk, ne_eq, allOk, RVar.val, RVar.ok, retV, PV.seen, PV.view, beq_self_eq_true, PV.flat, PV.noOwn, id_eq, behind, PV.kill, MObj.kill, killTag, reduceCtorEq, nilB]; (try go_unwrap; try simp only [d0, d1, hX, dX, hz, toNat_add2, toNat_add1, Int.toNat_natCast, Bool.false_and, Bool.true_and, true_implies, true_and, Bool.false_eq_true, reduceCtorEq, false_implies, Bool.not_false, Bool.not_true, Bool.true_or, Bool.false_or]))) | refine And.intro ?_ ?_ | exact Or.inr ⟨rfl, Nat.le_refl _⟩ | exact (fun h => Bool.noConfusion h))
  · obtain ⟨a, b, c⟩ := sorts_else hw
    have h21 := v21 l (by omega) hnl [] (by simp)
    rw [c] at h21
    have h21 := VCalls.sub h21 (SubL.cons (p := .nilSl) (Sub.nil none) (SubL.refl _))
    rw [a, h] at h20
    rw [b] at h13
    have hv := wrongM_vals l
    generalize wrongM l = e at h20 hv hw
    have d0 : decide (e = 0) = false := by simpa using hw
    have d1 : decide (e = 13) = false := by simp only [decide_eq_false_iff_not]; omega
    have hz : decide (((([] : List St).map PV.str).length : Int) = 0) = true := rfl
    repeat' (first | exact True.intro | (refine PW.seqK ?_; intro K hK) | refine PW.block ?_ | refine PW.scope ?_ | refine PW.label ?_ | refine PW.exit ?_ | refine PW.ret ?_ | refine PW.skip ?_ | refine seqK_n (by assumption) ?_ | refine seqK_r (by assumption) ?_ | refine seqK_e (by assumption) ?_ | refine PW.regionA ?_ | exact schedW_stop_i | refine schK_n (by assumption) ?_ | (refine schedW_alt_k ?_ ?_; focus (intro K hK; simp only [d0, d1, hz, SS, SS2, SS3, SS4, scopeQ_normal, scopeQ_ret, scopeQ_exit, Option.map_some, Bool.not_false, Bool.not_true, gArgs, gOk, Nat.reduceAdd, PV.shift, MObj.shift, rdV, rdD, reduceIte, Nat.reduceEqDiff, Nat.reduceBEq, PV.bin, PV.binOk, binI, binS, PV.withInt, PV.withIntP, okAll, PV.under, PV.okUnder, eq_self, implies_true, deadOk, ne_eq, allOk, RVar.val, RVar.ok, retV, PV.seen, PV.view, beq_self_eq_true, PV.flat, PV.noOwn, id_eq, behind, PV.kill, MObj.kill, killTag, reduceCtorEq, nilB]; (try go_unwrap; try simp only [d0, d1, hz, toNat_add2, toNat_add1, Int.toNat_natCast, Bool.false_and, Bool.true_and, true_implies, true_and, Bool.false_eq_true, reduceCtorEq, false_implies, Bool.not_false, Bool.not_true, Bool.true_or, Bool.false_or]))) | (refine PW.cond rfl ?_ ?_ <;> intro hcond <;> (try contradiction) <;> try simp only [decide_eq_true_eq, decide_eq_false_iff_not] at hcond) | (refine gd_i ?_; intro hg; try simp only [hg]) | refine goCall_W e10 (h10) ?_ ?_ ?_ ?_ | refine goCall_W e11 (h11) ?_ ?_ ?_ ?_ | refine goCall_W e20 (h20) ?_ ?_ ?_ ?_ | refine goCall_W e13 (h13) ?_ ?_ ?_ ?_ | refine goCallG_W e21 (h21) ?_ ?_ ?_ ?_ ?_ | ((first | show @LE.le Nat _ _ _ | show @LT.lt Nat _ _ _ | show @LE.le Int _ _ _ | show @LT.lt Int _ _ _ | show @Eq Nat _ _ | show @Eq Int _ _ | show @Eq Bool _ _ | show _ ∨ _ | show ¬ _); first | omega | (simp only [decide_eq_true_eq, decide_eq_false_iff_not, List.length_cons, List.length_nil, List.length_append, List.length_map, Sh.size] <;> omega) | (go_unwrap; omega)) | ((first | refine PW.region ?_ | refine PW.regionQ ?_ | refine schedW_done_i ?_ | show (_ : Post) _ _ _ | show @Eq (List PV) _ _ | show @Eq Bool _ _ | show opsW _ _ _ _ _ _ _ _ | show okAll _ | show @Eq Bool _ _ ∨ _); focus (simp only [d0, d1, hz, SS, SS2, SS3, SS4, scopeQ_normal, scopeQ_ret, scopeQ_exit, Option.map_some, Bool.not_false, Bool.not_true, gArgs, gOk, Nat.reduceAdd, PV.shift, MObj.shift, rdV, rdD, reduceIte, Nat.reduceEqDiff, Nat.reduceBEq, PV.bin, PV.binOk, binI, binS, PV.withInt, PV.withIntP, okAll, PV.under, PV.okUnder, eq_self, implies_true, deadOk, ne_eq, allOk, RVar.val, RVar.ok, retV, PV.seen, PV.view, beq_self_eq_true, PV.flat, PV.noOwn, id_eq, behind, PV.kill, MObj.kill, killTag, reduceCtorEq, nilB]; (try go_unwrap; try simp only [d0, d1, hz, toNat_add2, toNat_add1, Int.toNat_natCast, Bool.false_and, Bool.true_and, true_implies, true_and, Bool.false_eq_true, reduceCtorEq, false_implies, Bool.not_false, Bool.not_true, Bool.true_or, Bool.false_or]))) | refine And.intro ?_ ?_ | exact Or.inr ⟨rfl, Nat.le_refl _⟩ | exact (fun h => Bool.noConfusion h))
end Go.Proofs.Ytdiokmmjdpbdbaa

namespace Go.Proofs.Ytdiokmmjdpbdbaa
open Go PG Go.Proofs
set_option linter.unusedSimpArgs false
set_option linter.unusedVariables false
set_option maxRecDepth 100000
theorem ownB : ownKnob Try.prog.godebug = none := by kernel_rfl
theorem laidB : laidOutB Try.prog = true := by kernel_rfl
theorem globsB (w : World) (ex : Nat → Prop) : GlobsIn w ex G0 := by intro g sh x h; cases h
theorem bulk_part {H : Type} {d : DataW H} : ∀ {l : List (DataW H)}, d ∈ l → Rows.uptoBulk d ≤ Rows.uptoBulkAll l
  | [], h => by cases h
  | x :: r, h => by
    simp only [Rows.uptoBulkAll]
    cases List.mem_cons.1 h with
    | inl e => subst e; omega
    | inr e => have := bulk_part e; omega
theorem bulk_one {H : Type} (d : DataW H) : 1 ≤ Rows.uptoBulk d := by
  cases d with
  | lit l => cases l <;> simp [Rows.uptoBulk]
  | nil => simp [Rows.uptoBulk]
  | ptr d => simp [Rows.uptoBulk]
  | slice elems spare => simp [Rows.uptoBulk]
  | agg parts => simp [Rows.uptoBulk]
  | iface t d => simp [Rows.uptoBulk]
  | map entries => simp [Rows.uptoBulk]
  | held h => simp [Rows.uptoBulk]
theorem bulk_len {H : Type} : ∀ l : List (DataW H), l.length ≤ Rows.uptoBulkAll l
  | [] => by simp [Rows.uptoBulkAll]
  | x :: r => by have := bulk_one x; have := bulk_len r; simp only [Rows.uptoBulkAll, List.length_cons]; omega
theorem szOk {H : Type} : SzOk (H := H) (fun n => n ≤ 1048576) (fun d => Rows.uptoBulk d ≤ 1048576) where
  zero := by omega
  str l h := by simp only [Rows.uptoBulk] at h; omega
  slice es sp h := by
    simp only [Rows.uptoBulk] at h
    have := bulk_len es
    exact ⟨by omega, fun e he => by have := bulk_part he; omega⟩
  agg ps h p hp := by
    simp only [Rows.uptoBulk] at h
    have := bulk_part hp; omega
theorem bulk_app {H : Type} : ∀ (l r : List (DataW H)), Rows.uptoBulkAll (l ++ r) = Rows.uptoBulkAll l + Rows.uptoBulkAll r
  | [], r => by simp [Rows.uptoBulkAll]
  | x :: l, r => by simp only [List.cons_append, Rows.uptoBulkAll, bulk_app l r]; omega
theorem small_of {H : Type} {ds gs : List (DataW H)} (h : Rows.uptoSmall H (ds ++ gs) = true) : ∀ d ∈ ds, Rows.uptoBulk d ≤ 1048576 := by
  have h := of_decide_eq_true h
  rw [bulk_app] at h
  intro d hd
  have := bulk_part hd; omega
abbrev Qb : Nat → Prop := fun n => n ≤ 1048576
theorem shBs1 {P : Program} {Q : Nat → Prop} {n : Nat} {a : TypeId} {ps : List PV} (h : ShBs P Q n [a] ps) : ∃ p, ps = [p] ∧ ShB P Q n a p := by
  match ps, h with
  | [p], h => exact ⟨p, rfl, h.1⟩
def edSz (e : Ed) : Prop := e.name.length ≤ 1048576 ∧ e.needs.length ≤ 1048576 ∧ ∀ s ∈ e.needs, s.length ≤ 1048576
theorem ed_cells {n : Nat} {cs : List PV} (h : ShZ Try.prog Qb (n + 3) 41 cs) : ∃ e : Ed, .agg cs = edP e ∧ edSz e := by
  obtain ⟨hl, hf⟩ := shZ_struct Try.underlying41 h
  have c41 : Try.prog.cellsOf 41 = 2 := by kernel_rfl
  have c9 : Try.prog.cellsOf 9 = 1 := by kernel_rfl
  have c26 : Try.prog.cellsOf 26 = 1 := by kernel_rfl
  rw [c41] at hl
  simp only [List.mem_cons, List.not_mem_nil, or_false, forall_eq_or_imp, forall_eq, c9, c26, PV.cells] at hf
  match cs, hl with
  | [a, b], _ =>
    obtain ⟨h1, h2⟩ := hf
    obtain ⟨s, e1, b1⟩ := shZ_str Try.underlying9 h1
    obtain ⟨sh, xs, hs, e2, b2, hx⟩ := shZ_slice Try.underlying26 h2
    have hsh : shOf Try.prog 9 = some none := by kernel_rfl
    obtain rfl := Option.some.inj (hsh.symm.trans hs)
    simp at e1 e2
    subst e1; subst e2
    obtain ⟨l, rfl, hl⟩ := list_of PV.str (fun s => s.length ≤ 1048576) (xs := xs) (fun x hx' => by
      obtain ⟨f1, f2⟩ := hx x hx'
      rw [fits_cells f1] at f2
      obtain ⟨s, e, b⟩ := shZ_str Try.underlying9 f2
      cases e; exact ⟨s, rfl, b⟩)
    exact ⟨⟨s, l⟩, rfl, b1, by simpa using b2, hl⟩
theorem read_eds {n : Nat} {p : PV} (h : ShB Try.prog Qb (n + 4) 22 p) : ∃ l : List Ed, p = edL l ∧ l.length ≤ 1048576 ∧ ∀ e ∈ l, edSz e := by
  obtain ⟨sh, xs, hs, rfl, b, hx⟩ := shB_slice Try.underlying22 h
  have hsh : shOf Try.prog 41 = some (some 2) := by kernel_rfl
  obtain rfl := Option.some.inj (hsh.symm.trans hs)
  obtain ⟨l, rfl, hl⟩ := list_of edP edSz (xs := xs) (fun x hx' => by
    obtain ⟨f1, f2⟩ := hx x hx'
    obtain ⟨cs, rfl, e, -⟩ := fits_cells f1
    exact ed_cells f2)
  exact ⟨l, rfl, by simpa using b, hl⟩
theorem eds_ok {l : List Ed} (h : ∀ e ∈ l, edSz e) : ∀ e ∈ l, e.needs.length ≤ 9223372036854775807 := fun e he => by have := (h e he).2.1; omega
end Go.Proofs.Ytdiokmmjdpbdbaa

