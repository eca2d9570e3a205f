/-
  OrderSwaps: of a right order two neighbours may change places just if the second one does not need the first one straight. Condition: what is read is of bulk at most 1048576 (the second form).
-/
import Derived.Test.YtdiokmmjdpbdbaaRows
import Derived.Test.YtdiokmmjdpbdbaaQ19
namespace Go.Proofs.Ytdiokmmjdpbdbaa
open Go PG Go.Proofs
set_option linter.unusedSimpArgs false
set_option linter.unusedVariables false
set_option maxHeartbeats 4000000
set_option maxRecDepth 100000
section
variable {P : Program} {Q : Nat → Prop} {n : Nat} {t : TypeId} {ps : List PV}
theorem shZ_int {k : IntKind} (hu : P.underlying t = some (.int k)) (h : ShZ P Q (n + 1) t ps) : ∃ m, ps = [.int k m] ∧ k.min ≤ m ∧ m ≤ k.max := by
  unfold ShZ at h; rw [hu] at h
  obtain ⟨m, h1, h2⟩ := h
  simp only [Lit.wf, Bool.and_eq_true, decide_eq_true_eq] at h2
  exact ⟨m, h1, h2⟩
end
section
variable {P : Program} {Q : Nat → Prop} {n : Nat} {t : TypeId} {ps : List PV}
theorem shB_int {k : IntKind} {p : PV} (hu : P.underlying t = some (.int k)) (h : ShB P Q (n + 1) t p) : ∃ m, p = .int k m ∧ k.min ≤ m ∧ m ≤ k.max := by
  unfold ShB at h; rw [hu] at h
  obtain ⟨m, h1, h2⟩ := shZ_int hu h
  cases h1; exact ⟨m, rfl, h2⟩
end
theorem swaps {l : List Ed} {a b : List St} {p q : St} (h : rightM l (a ++ p :: q :: b) = true) : rightM l (a ++ q :: p :: b) = !decide (p ∈ ndM l q) := by
  obtain ⟨hw, hs, ho⟩ := right_iff.1 h
  have hperm : (a ++ q :: p :: b).Perm (a ++ p :: q :: b) := List.Perm.append_left a (List.Perm.swap p q b)
  have hn : (a ++ p :: q :: b).Nodup := (perm_sort hs).nodup_iff.2 (ns_rise hw).nodup
  have hs' : sortT (a ++ q :: p :: b) = nsM l := sort_perm hw (hperm.trans (perm_sort hs))
  rw [List.nodup_append] at hn
  obtain ⟨n1, n2, n3⟩ := hn
  have hpa : p ∉ a := fun h => n3 p h p (by simp) rfl
  have hqa : q ∉ a := fun h => n3 q h q (by simp) rfl
  have hpq : p ≠ q := fun e => by subst e; simp at n2
  have hpb : p ∉ b := fun h => by simp [h] at n2
  have hqb : q ∉ b := fun h => by simp [h] at n2
  have hne : ∀ z ∈ b, z ∉ a := fun z hz hza => n3 z hza z (by simp [hz]) rfl
  have i1 : ∀ u v z, z ∈ a → (a ++ u :: v :: b).idxOf z = a.idxOf z := fun u v z hz => by rw [List.idxOf_append, if_pos hz]
  have ip : ∀ u v, u ∉ a → (a ++ u :: v :: b).idxOf u = a.length := fun u v hu => by rw [List.idxOf_append, if_neg hu]; simp
  have iq : ∀ u v, v ∉ a → u ≠ v → (a ++ u :: v :: b).idxOf v = a.length + 1 := fun u v hv huv => by
    have e1 : (u == v) = false := by simpa using huv
    rw [List.idxOf_append, if_neg hv]; simp [List.idxOf_cons, e1]; omega
  have ib : ∀ u v z, z ∈ b → z ∉ a → u ≠ z → v ≠ z → (a ++ u :: v :: b).idxOf z = a.length + 2 + b.idxOf z := fun u v z hz hza hu hv => by
    have e1 : (u == z) = false := by simpa using hu
    have e2 : (v == z) = false := by simpa using hv
    rw [List.idxOf_append, if_neg hza]; simp [List.idxOf_cons, e1, e2]; omega
  by_cases hc : p ∈ ndM l q
  · rw [decide_eq_true hc]
    show _ = false
    rw [Bool.eq_false_iff]
    intro hr
    have hqN : q ∈ nsM l := (nd_in hc).1
    have := (right_iff.1 hr).2.2 q hqN p hc (by simp)
    rw [ip q p hqa, iq q p hpa (Ne.symm hpq)] at this
    omega
  · rw [decide_eq_false hc]
    refine right_iff.2 ⟨hw, hs', fun s hsN x hx hm => ?_⟩
    have hold := ho s hsN x hx (hperm.mem_iff.1 hm)
    have hso : s ∈ a ++ p :: q :: b := (perm_sort hs).mem_iff.2 hsN
    have hxo := hperm.mem_iff.1 hm
    have cl : ∀ z, z ∈ a ++ p :: q :: b → ((a ++ p :: q :: b).idxOf z = (a ++ q :: p :: b).idxOf z ∧ ((a ++ p :: q :: b).idxOf z < a.length ∨ a.length + 2 ≤ (a ++ p :: q :: b).idxOf z)) ∨
        (z = p ∧ (a ++ p :: q :: b).idxOf z = a.length ∧ (a ++ q :: p :: b).idxOf z = a.length + 1) ∨ (z = q ∧ (a ++ p :: q :: b).idxOf z = a.length + 1 ∧ (a ++ q :: p :: b).idxOf z = a.length) := by
      intro z hz
      have hz' : z ∈ a ∨ z = p ∨ z = q ∨ z ∈ b := by simpa using hz
      rcases hz' with h1 | rfl | rfl | h1
      · have := List.idxOf_lt_length_of_mem h1
        rw [i1 p q z h1, i1 q p z h1]; exact .inl ⟨rfl, .inl this⟩
      · rw [ip z q hpa, iq q z hpa (Ne.symm hpq)]; exact .inr (.inl ⟨rfl, rfl, rfl⟩)
      · rw [ip z p hqa, iq p z hqa hpq]; exact .inr (.inr ⟨rfl, rfl, rfl⟩)
      · have e1 : p ≠ z := fun e => hpb (e ▸ h1)
        have e2 : q ≠ z := fun e => hqb (e ▸ h1)
        rw [ib p q z h1 (hne z h1) e1 e2, ib q p z h1 (hne z h1) e2 e1]; exact .inl ⟨rfl, .inr (by omega)⟩
    rcases cl s hso with ⟨e1, e2⟩ | ⟨rfl, e1, e2⟩ | ⟨rfl, e1, e2⟩ <;> rcases cl x hxo with ⟨f1, f2⟩ | ⟨rfl, f1, f2⟩ | ⟨rfl, f1, f2⟩
    all_goals first | omega | exact absurd hx hc
theorem k9 : compileF Try.prog [] L9 Try.f9 = some c9 := by kernel_rfl
theorem shBs2 {P : Program} {Q : Nat → Prop} {n : Nat} {a b : TypeId} {ps : List PV} (h : ShBs P Q n [a, b] ps) : ∃ p q, ps = [p, q] ∧ ShB P Q n a p ∧ ShB P Q n b q := by
  match ps, h with
  | [p, q], h => exact ⟨p, q, rfl, h.1, h.2.1⟩
theorem read_u8 {n : Nat} {p : PV} (h : ShB Try.prog Qb (n + 1) 5 p) : ∃ x : Nat, p = .int .u8 x ∧ x ≤ 255 := by
  obtain ⟨m, rfl, h1, h2⟩ := shB_int (k := .u8) Try.underlying5 h
  have h1 : 0 ≤ m := h1
  have h2 : m ≤ 255 := h2
  exact ⟨m.toNat, by rw [Int.toNat_of_nonneg h1], by omega⟩
theorem sort_limS {l : List Ed} (hl : l.length ≤ 1048576) : (sortM l).1.length ≤ 1048576 := by
  rcases sort_two l with h | h | h
  · obtain ⟨hw, -, hp⟩ := sort_spec h
    rw [hp.length_eq, ns_len]; omega
  · rw [(sort_ring h).2.2]; simp
  · rw [sort_wrong h.1]; simp
theorem cut2 {α : Type} (x : List α) (k : Nat) (h : k + 1 < x.length) : ∃ a b p q, x = a ++ p :: q :: b ∧ a.length = k := by
  refine ⟨x.take k, x.drop (k + 2), x[k], x[k + 1], ?_, by simp; omega⟩
  conv => lhs; rw [← List.take_append_drop k x, List.drop_eq_getElem_cons (by omega), List.drop_eq_getElem_cons (by omega)]
theorem set2 (a b : List St) (p q : St) : (((a ++ p :: q :: b).map PV.str).set a.length (.str q)).set (a.length + 1) (.str p) = (a ++ q :: p :: b).map PV.str := by
  simp [List.set_append]
theorem set2' (a b : List St) (p q : St) : (((a ++ p :: q :: b).map PV.str).set (a.length + 1) (.str p)).set a.length (.str q) = (a ++ q :: p :: b).map PV.str := by
  simp [List.set_append]
theorem v9 (l : List Ed) (hl : l.length ≤ 1048576) (hnl : ∀ e ∈ l, e.needs.length ≤ 9223372036854775807) (n : Nat) (hn : n ≤ 255) : VCalls Try.prog G0 9 [edL l, .int .u8 n] (.bool true) := by
  refine VCalls.of_PW Try.func9 k9 mix (by simp [c9]) ?_
  simp only [c9, L9, argE]
  have h10 := v10
  have h11 : VCalls Try.prog G0 11 [edL l, .int .i64 20] (.bool (shortM l 20)) := v11 l 20 (by omega) (by omega)
  cases hs : shortM l 20 with
  | false =>
    rw [hs] at h11
    repeat' (first | exact True.intro | (refine PW.seqK ?_; intro K hK) | refine PW.block ?_ | refine PW.scope ?_ | refine PW.label ?_ | refine PW.exit ?_ | refine PW.ret ?_ | refine PW.skip ?_ | refine seqK_n (by assumption) ?_ | refine seqK_r (by assumption) ?_ | refine seqK_e (by assumption) ?_ | refine PW.regionA ?_ | exact schedW_stop_i | refine schK_n (by assumption) ?_ | (refine schedW_alt_k ?_ ?_; focus (intro K hK; simp only [SS, SS2, SS3, SS4, scopeQ_normal, scopeQ_ret, scopeQ_exit, Option.map_some, Bool.not_false, Bool.not_true, gArgs, gOk, Nat.reduceAdd, PV.shift, MObj.shift, rdV, rdD, reduceIte, Nat.reduceEqDiff, Nat.reduceBEq, PV.bin, PV.binOk, binI, binS, PV.withInt, PV.withIntP, okAll, PV.under, PV.okUnder, eq_self, implies_true, deadOk, ne_eq, allOk, RVar.val, RVar.ok, retV, PV.seen, PV.view, beq_self_eq_true, PV.flat, PV.noOwn, id_eq, behind, PV.kill, MObj.kill, killTag, reduceCtorEq, nilB]; (try go_unwrap; try simp only [toNat_add2, toNat_add1, Int.toNat_natCast, Bool.false_and, Bool.true_and, true_implies, true_and, Bool.false_eq_true, reduceCtorEq, false_implies, Bool.not_false, Bool.not_true, Bool.true_or, Bool.false_or]))) | (refine PW.cond rfl ?_ ?_ <;> intro hcond <;> (try contradiction) <;> try simp only [decide_eq_true_eq, decide_eq_false_iff_not] at hcond) | (refine gd_i ?_; intro hg; try simp only [hg]) | refine goCall_W e10 (h10) ?_ ?_ ?_ ?_ | refine goCall_W e11 (h11) ?_ ?_ ?_ ?_ | ((first | show @LE.le Nat _ _ _ | show @LT.lt Nat _ _ _ | show @LE.le Int _ _ _ | show @LT.lt Int _ _ _ | show @Eq Nat _ _ | show @Eq Int _ _ | show @Eq Bool _ _ | show _ ∨ _ | show ¬ _); first | omega | (simp only [decide_eq_true_eq, decide_eq_false_iff_not, List.length_cons, List.length_nil, List.length_append, List.length_map, Sh.size] <;> omega) | (go_unwrap; omega)) | ((first | refine PW.region ?_ | refine PW.regionQ ?_ | refine schedW_done_i ?_ | show (_ : Post) _ _ _ | show @Eq (List PV) _ _ | show @Eq Bool _ _ | show opsW _ _ _ _ _ _ _ _ | show okAll _ | show @Eq Bool _ _ ∨ _); focus (simp only [SS, SS2, SS3, SS4, scopeQ_normal, scopeQ_ret, scopeQ_exit, Option.map_some, Bool.not_false, Bool.not_true, gArgs, gOk, Nat.reduceAdd, PV.shift, MObj.shift, rdV, rdD, reduceIte, Nat.reduceEqDiff, Nat.reduceBEq, PV.bin, PV.binOk, binI, binS, PV.withInt, PV.withIntP, okAll, PV.under, PV.okUnder, eq_self, implies_true, deadOk, ne_eq, allOk, RVar.val, RVar.ok, retV, PV.seen, PV.view, beq_self_eq_true, PV.flat, PV.noOwn, id_eq, behind, PV.kill, MObj.kill, killTag, reduceCtorEq, nilB]; (try go_unwrap; try simp only [toNat_add2, toNat_add1, Int.toNat_natCast, Bool.false_and, Bool.true_and, true_implies, true_and, Bool.false_eq_true, reduceCtorEq, false_implies, Bool.not_false, Bool.not_true, Bool.true_or, Bool.false_or]))) | refine And.intro ?_ ?_ | exact Or.inr ⟨rfl, Nat.le_refl _⟩ | exact (fun h => Bool.noConfusion h))
  | true =>
  rw [hs] at h11
  have h20 := v20 l (by omega) hnl
  have hlim := sort_limS (l := l) hl
  have hok := sorts_ok (l := l)
  obtain ⟨⟨X, e⟩, hX⟩ : ∃ R, sortM l = R := ⟨_, rfl⟩
  rw [hX] at h20 hlim
  simp only [hX] at hok
  simp only at h20 hlim
  have hXl : ((X.map PV.str).length : Nat) = X.length := by simp
  by_cases he : e = 0
  case neg =>
    have de : decide (e = 0) = false := by simpa using he
    repeat' (first | exact True.intro | (refine PW.seqK ?_; intro K hK) | refine PW.block ?_ | refine PW.scope ?_ | refine PW.label ?_ | refine PW.exit ?_ | refine PW.ret ?_ | refine PW.skip ?_ | refine seqK_n (by assumption) ?_ | refine seqK_r (by assumption) ?_ | refine seqK_e (by assumption) ?_ | refine PW.regionA ?_ | exact schedW_stop_i | refine schK_n (by assumption) ?_ | (refine schedW_alt_k ?_ ?_; focus (intro K hK; simp only [de, hXl, SS, SS2, SS3, SS4, scopeQ_normal, scopeQ_ret, scopeQ_exit, Option.map_some, Bool.not_false, Bool.not_true, gArgs, gOk, Nat.reduceAdd, PV.shift, MObj.shift, rdV, rdD, reduceIte, Nat.reduceEqDiff, Nat.reduceBEq, PV.bin, PV.binOk, binI, binS, PV.withInt, PV.withIntP, okAll, PV.under, PV.okUnder, eq_self, implies_true, deadOk, ne_eq, allOk, RVar.val, RVar.ok, retV, PV.seen, PV.view, beq_self_eq_true, PV.flat, PV.noOwn, id_eq, behind, PV.kill, MObj.kill, killTag, reduceCtorEq, nilB]; (try go_unwrap; try simp only [de, hXl, toNat_add2, toNat_add1, Int.toNat_natCast, Bool.false_and, Bool.true_and, true_implies, true_and, Bool.false_eq_true, reduceCtorEq, false_implies, Bool.not_false, Bool.not_true, Bool.true_or, Bool.false_or]))) | (refine PW.cond rfl ?_ ?_ <;> intro hcond <;> (try contradiction) <;> try simp only [decide_eq_true_eq, decide_eq_false_iff_not] at hcond) | (refine gd_i ?_; intro hg; try simp only [hg]) | refine goCall_W e10 (h10) ?_ ?_ ?_ ?_ | refine goCall_W e11 (h11) ?_ ?_ ?_ ?_ | refine goCall_W e20 (h20) ?_ ?_ ?_ ?_ | ((first | show @LE.le Nat _ _ _ | show @LT.lt Nat _ _ _ | show @LE.le Int _ _ _ | show @LT.lt Int _ _ _ | show @Eq Nat _ _ | show @Eq Int _ _ | show @Eq Bool _ _ | show _ ∨ _ | show ¬ _); first | omega | (simp only [decide_eq_true_eq, decide_eq_false_iff_not, List.length_cons, List.length_nil, List.length_append, List.length_map, Sh.size] <;> omega) | (go_unwrap; omega)) | ((first | refine PW.region ?_ | refine PW.regionQ ?_ | refine schedW_done_i ?_ | show (_ : Post) _ _ _ | show @Eq (List PV) _ _ | show @Eq Bool _ _ | show opsW _ _ _ _ _ _ _ _ | show okAll _ | show @Eq Bool _ _ ∨ _); focus (simp only [de, hXl, SS, SS2, SS3, SS4, scopeQ_normal, scopeQ_ret, scopeQ_exit, Option.map_some, Bool.not_false, Bool.not_true, gArgs, gOk, Nat.reduceAdd, PV.shift, MObj.shift, rdV, rdD, reduceIte, Nat.reduceEqDiff, Nat.reduceBEq, PV.bin, PV.binOk, binI, binS, PV.withInt, PV.withIntP, okAll, PV.under, PV.okUnder, eq_self, implies_true, deadOk, ne_eq, allOk, RVar.val, RVar.ok, retV, PV.seen, PV.view, beq_self_eq_true, PV.flat, PV.noOwn, id_eq, behind, PV.kill, MObj.kill, killTag, reduceCtorEq, nilB]; (try go_unwrap; try simp only [de, hXl, toNat_add2, toNat_add1, Int.toNat_natCast, Bool.false_and, Bool.true_and, true_implies, true_and, Bool.false_eq_true, reduceCtorEq, false_implies, Bool.not_false, Bool.not_true, Bool.true_or, Bool.false_or]))) | refine And.intro ?_ ?_ | exact Or.inr ⟨rfl, Nat.le_refl _⟩ | exact (fun h => Bool.noConfusion h))
  have hok2 := (hok he).2
  clear hok
  subst he
  clear hX
  have de : decide ((0 : Int) = 0) = true := rfl
  by_cases hl2 : X.length < 2
  · have d2 : decide ((X.length : Int) < 2) = true := by simp only [decide_eq_true_eq]; omega
    repeat' (first | exact True.intro | (refine PW.seqK ?_; intro K hK) | refine PW.block ?_ | refine PW.scope ?_ | refine PW.label ?_ | refine PW.exit ?_ | refine PW.ret ?_ | refine PW.skip ?_ | refine seqK_n (by assumption) ?_ | refine seqK_r (by assumption) ?_ | refine seqK_e (by assumption) ?_ | refine PW.regionA ?_ | exact schedW_stop_i | refine schK_n (by assumption) ?_ | (refine schedW_alt_k ?_ ?_; focus (intro K hK; simp only [de, d2, hXl, SS, SS2, SS3, SS4, scopeQ_normal, scopeQ_ret, scopeQ_exit, Option.map_some, Bool.not_false, Bool.not_true, gArgs, gOk, Nat.reduceAdd, PV.shift, MObj.shift, rdV, rdD, reduceIte, Nat.reduceEqDiff, Nat.reduceBEq, PV.bin, PV.binOk, binI, binS, PV.withInt, PV.withIntP, okAll, PV.under, PV.okUnder, eq_self, implies_true, deadOk, ne_eq, allOk, RVar.val, RVar.ok, retV, PV.seen, PV.view, beq_self_eq_true, PV.flat, PV.noOwn, id_eq, behind, PV.kill, MObj.kill, killTag, reduceCtorEq, nilB]; (try go_unwrap; try simp only [de, d2, hXl, toNat_add2, toNat_add1, Int.toNat_natCast, Bool.false_and, Bool.true_and, true_implies, true_and, Bool.false_eq_true, reduceCtorEq, false_implies, Bool.not_false, Bool.not_true, Bool.true_or, Bool.false_or]))) | (refine PW.cond rfl ?_ ?_ <;> intro hcond <;> (try contradiction) <;> try simp only [decide_eq_true_eq, decide_eq_false_iff_not] at hcond) | (refine gd_i ?_; intro hg; try simp only [hg]) | refine goCall_W e10 (h10) ?_ ?_ ?_ ?_ | refine goCall_W e11 (h11) ?_ ?_ ?_ ?_ | refine goCall_W e20 (h20) ?_ ?_ ?_ ?_ | ((first | show @LE.le Nat _ _ _ | show @LT.lt Nat _ _ _ | show @LE.le Int _ _ _ | show @LT.lt Int _ _ _ | show @Eq Nat _ _ | show @Eq Int _ _ | show @Eq Bool _ _ | show _ ∨ _ | show ¬ _); first | omega | (simp only [decide_eq_true_eq, decide_eq_false_iff_not, List.length_cons, List.length_nil, List.length_append, List.length_map, Sh.size] <;> omega) | (go_unwrap; omega)) | ((first | refine PW.region ?_ | refine PW.regionQ ?_ | refine schedW_done_i ?_ | show (_ : Post) _ _ _ | show @Eq (List PV) _ _ | show @Eq Bool _ _ | show opsW _ _ _ _ _ _ _ _ | show okAll _ | show @Eq Bool _ _ ∨ _); focus (simp only [de, d2, hXl, SS, SS2, SS3, SS4, scopeQ_normal, scopeQ_ret, scopeQ_exit, Option.map_some, Bool.not_false, Bool.not_true, gArgs, gOk, Nat.reduceAdd, PV.shift, MObj.shift, rdV, rdD, reduceIte, Nat.reduceEqDiff, Nat.reduceBEq, PV.bin, PV.binOk, binI, binS, PV.withInt, PV.withIntP, okAll, PV.under, PV.okUnder, eq_self, implies_true, deadOk, ne_eq, allOk, RVar.val, RVar.ok, retV, PV.seen, PV.view, beq_self_eq_true, PV.flat, PV.noOwn, id_eq, behind, PV.kill, MObj.kill, killTag, reduceCtorEq, nilB]; (try go_unwrap; try simp only [de, d2, hXl, toNat_add2, toNat_add1, Int.toNat_natCast, Bool.false_and, Bool.true_and, true_implies, true_and, Bool.false_eq_true, reduceCtorEq, false_implies, Bool.not_false, Bool.not_true, Bool.true_or, Bool.false_or]))) | refine And.intro ?_ ?_ | exact Or.inr ⟨rfl, Nat.le_refl _⟩ | exact (fun h => Bool.noConfusion h))
  have d2 : decide ((X.length : Int) < 2) = false := by simp only [decide_eq_false_iff_not]; omega
  have hk : n % (X.length - 1) < X.length - 1 := Nat.mod_lt _ (by omega)
  have w1 : IntKind.i64.wrap ((X.length : Int) - 1) = ((X.length - 1 : Nat) : Int) := by rw [IntWalk.i64_in _ (by omega)]; omega
  have w0 : IntKind.i64.wrap (n : Int) = n := IntWalk.i64_in _ (by omega)
  have htm : (n : Int).tmod ((X.length - 1 : Nat) : Int) = ((n % (X.length - 1) : Nat) : Int) := by
    rw [Int.tmod_eq_emod_of_nonneg (by omega)]; simp
  have hne : ¬ (((X.length - 1 : Nat) : Int) = 0) := by omega
  obtain ⟨k, hkk⟩ : ∃ k, n % (X.length - 1) = k := ⟨_, rfl⟩
  rw [hkk] at hk htm
  obtain ⟨a, b, p, q, hXX, hal⟩ := cut2 X k (by omega)
  have hL : X.length = a.length + 2 + b.length := by rw [hXX]; simp; omega
  obtain ⟨m, hm⟩ : ∃ m, X.length - 1 = m := ⟨_, rfl⟩
  obtain ⟨N, hN⟩ : ∃ N, X.length = N := ⟨_, rfl⟩
  rw [hm] at hk htm w1 hne
  rw [hN] at hm w1 d2 hXl hL hl2
  subst hXX
  subst hal
  have wk : IntKind.i64.wrap ((a.length : Int) + 1) = ((a.length + 1 : Nat) : Int) := by rw [IntWalk.i64_in _ (by omega)]; omega
  have h21 := v21 l (by omega) hnl (a ++ p :: q :: b) (by simp at hlim ⊢; omega)
  have h21' := v21 l (by omega) hnl (a ++ q :: p :: b) (by simp at hlim ⊢; omega)
  have h24 := v24 l (by omega) hnl q p
  rw [swaps hok2] at h21'
  rw [hok2] at h21
  have hg0 : ((a ++ p :: q :: b).map PV.str).getD a.length PV.junk = .str p := by simp [List.getD_eq_getElem?_getD]
  have hg1 : ((a ++ p :: q :: b).map PV.str).getD (a.length + 1) PV.junk = .str q := by simp [List.getD_eq_getElem?_getD, List.getElem?_append]
  have hs1 := set2 a b p q
  generalize decide (p ∈ ndM l q) = d at h21' h24
  have hpp : ∀ u v, putPart none none (.str u) 0 (.str v) = .str v := fun _ _ => rfl
  have dl0 : decide (((a.length : Nat) : Int) < N) = true := by simp only [decide_eq_true_eq]; omega
  have dl1 : decide (((a.length + 1 : Nat) : Int) < N) = true := by simp only [decide_eq_true_eq]; omega
  obtain ⟨Y, hY⟩ : ∃ Y, a ++ q :: p :: b = Y := ⟨_, rfl⟩
  obtain ⟨Z, hZ⟩ : ∃ Z, a ++ p :: q :: b = Z := ⟨_, rfl⟩
  rw [hY] at h21' hs1
  rw [hZ] at h21 hs1 hg0 hg1 h20 hXl hN
  have dl0' : a.length < Z.length := by omega
  have dl1' : a.length + 1 < Z.length := by omega
  have hNl : N ≤ 1048576 := by rw [hZ] at hlim; omega
  have dN0 : a.length < N := by omega
  have dN1 : a.length + 1 < N := by omega
  have hYN : (Y.map PV.str).take N = Y.map PV.str := List.take_of_length_le (by rw [← hY]; rw [← hZ] at hN; simp at hN ⊢; omega)
  have hYc : (N ≤ (Y.map PV.str).length) = True := eq_true (by rw [← hY]; rw [← hZ] at hN; simp at hN ⊢; omega)
  have nF : ¬ False := fun h => h
  clear hY hZ
  repeat' (first | exact True.intro | (refine PW.seqK ?_; intro K hK) | refine PW.block ?_ | refine PW.scope ?_ | refine PW.label ?_ | refine PW.exit ?_ | refine PW.ret ?_ | refine PW.skip ?_ | refine seqK_n (by assumption) ?_ | refine seqK_r (by assumption) ?_ | refine seqK_e (by assumption) ?_ | refine PW.regionA ?_ | exact schedW_stop_i | refine schK_n (by assumption) ?_ | (refine schedW_alt_k ?_ ?_; focus (intro K hK; simp only [de, d2, hXl, w1, w0, htm, hne, wk, hg0, hg1, hs1, hpp, dl0, dl1, cut, hYN, hYc, List.length_nil, Nat.zero_add, List.take_nil, List.nil_append, List.length_set, SS, SS2, SS3, SS4, scopeQ_normal, scopeQ_ret, scopeQ_exit, Option.map_some, Bool.not_false, Bool.not_true, gArgs, gOk, Nat.reduceAdd, PV.shift, MObj.shift, rdV, rdD, reduceIte, Nat.reduceEqDiff, Nat.reduceBEq, PV.bin, PV.binOk, binI, binS, PV.withInt, PV.withIntP, okAll, PV.under, PV.okUnder, eq_self, implies_true, deadOk, ne_eq, allOk, RVar.val, RVar.ok, retV, PV.seen, PV.view, beq_self_eq_true, PV.flat, PV.noOwn, id_eq, behind, PV.kill, MObj.kill, killTag, reduceCtorEq, nilB]; (try go_unwrap; try simp only [de, d2, hXl, w1, w0, htm, hne, wk, hg0, hg1, hs1, hpp, dl0, dl1, cut, hYN, hYc, List.length_nil, Nat.zero_add, List.take_nil, List.nil_append, List.length_set, toNat_add2, toNat_add1, Int.toNat_natCast, Bool.false_and, Bool.true_and, true_implies, true_and, Bool.false_eq_true, reduceCtorEq, false_implies, Bool.not_false, Bool.not_true, Bool.true_or, Bool.false_or]))) | (refine PW.cond rfl ?_ ?_ <;> intro hcond <;> (try contradiction) <;> try simp only [decide_eq_true_eq, decide_eq_false_iff_not] at hcond) | (apply goCall_V e21; (case hV => (simp only [de, d2, hXl, w1, w0, htm, hne, wk, hg0, hg1, hs1, hpp, dl0, dl1, cut, hYN, hYc, List.length_nil, Nat.zero_add, List.take_nil, List.nil_append, List.length_set, SS, SS2, SS3, SS4, scopeQ_normal, scopeQ_ret, scopeQ_exit, Option.map_some, Bool.not_false, Bool.not_true, gArgs, gOk, Nat.reduceAdd, PV.shift, MObj.shift, rdV, rdD, reduceIte, Nat.reduceEqDiff, Nat.reduceBEq, PV.bin, PV.binOk, binI, binS, PV.withInt, PV.withIntP, okAll, PV.under, PV.okUnder, eq_self, implies_true, deadOk, ne_eq, allOk, RVar.val, RVar.ok, retV, PV.seen, PV.view, beq_self_eq_true, PV.flat, PV.noOwn, id_eq, behind, PV.kill, MObj.kill, killTag, reduceCtorEq, nilB]; (try go_unwrap; try simp only [de, d2, hXl, w1, w0, htm, hne, wk, hg0, hg1, hs1, hpp, dl0, dl1, cut, hYN, hYc, List.length_nil, Nat.zero_add, List.take_nil, List.nil_append, List.length_set, toNat_add2, toNat_add1, Int.toNat_natCast, Bool.false_and, Bool.true_and, true_implies, true_and, Bool.false_eq_true, reduceCtorEq, false_implies, Bool.not_false, Bool.not_true, Bool.true_or, Bool.false_or]); exact h21)); (try (case hs => rfl)); (try (case hf => first | exact Or.inl rfl | exact Or.inr ⟨rfl, rfl⟩ | (refine Or.inl ?_; simp only [de, d2, hXl, w1, w0, htm, hne, wk, hg0, hg1, hs1, hpp, dl0, dl1, cut, hYN, hYc, List.length_nil, Nat.zero_add, List.take_nil, List.nil_append, List.length_set, SS, SS2, SS3, SS4, scopeQ_normal, scopeQ_ret, scopeQ_exit, Option.map_some, Bool.not_false, Bool.not_true, gArgs, gOk, Nat.reduceAdd, PV.shift, MObj.shift, rdV, rdD, reduceIte, Nat.reduceEqDiff, Nat.reduceBEq, PV.bin, PV.binOk, binI, binS, PV.withInt, PV.withIntP, okAll, PV.under, PV.okUnder, eq_self, implies_true, deadOk, ne_eq, allOk, RVar.val, RVar.ok, retV, PV.seen, PV.view, beq_self_eq_true, PV.flat, PV.noOwn, id_eq, behind, PV.kill, MObj.kill, killTag, reduceCtorEq, nilB]; done) | (refine Or.inr ⟨rfl, ?_⟩; simp only [de, d2, hXl, w1, w0, htm, hne, wk, hg0, hg1, hs1, hpp, dl0, dl1, cut, hYN, hYc, List.length_nil, Nat.zero_add, List.take_nil, List.nil_append, List.length_set, SS, SS2, SS3, SS4, scopeQ_normal, scopeQ_ret, scopeQ_exit, Option.map_some, Bool.not_false, Bool.not_true, gArgs, gOk, Nat.reduceAdd, PV.shift, MObj.shift, rdV, rdD, reduceIte, Nat.reduceEqDiff, Nat.reduceBEq, PV.bin, PV.binOk, binI, binS, PV.withInt, PV.withIntP, okAll, PV.under, PV.okUnder, eq_self, implies_true, deadOk, ne_eq, allOk, RVar.val, RVar.ok, retV, PV.seen, PV.view, beq_self_eq_true, PV.flat, PV.noOwn, id_eq, behind, PV.kill, MObj.kill, killTag, reduceCtorEq, nilB]; done))); all_goals (first | (simp only [de, d2, hXl, w1, w0, htm, hne, wk, hg0, hg1, hs1, hpp, dl0, dl1, cut, hYN, hYc, List.length_nil, Nat.zero_add, List.take_nil, List.nil_append, List.length_set, SS, SS2, SS3, SS4, scopeQ_normal, scopeQ_ret, scopeQ_exit, Option.map_some, Bool.not_false, Bool.not_true, gArgs, gOk, Nat.reduceAdd, PV.shift, MObj.shift, rdV, rdD, reduceIte, Nat.reduceEqDiff, Nat.reduceBEq, PV.bin, PV.binOk, binI, binS, PV.withInt, PV.withIntP, okAll, PV.under, PV.okUnder, eq_self, implies_true, deadOk, ne_eq, allOk, RVar.val, RVar.ok, retV, PV.seen, PV.view, beq_self_eq_true, PV.flat, PV.noOwn, id_eq, behind, PV.kill, MObj.kill, killTag, reduceCtorEq, nilB]; (try go_unwrap; try simp only [de, d2, hXl, w1, w0, htm, hne, wk, hg0, hg1, hs1, hpp, dl0, dl1, cut, hYN, hYc, List.length_nil, Nat.zero_add, List.take_nil, List.nil_append, List.length_set, toNat_add2, toNat_add1, Int.toNat_natCast, Bool.false_and, Bool.true_and, true_implies, true_and, Bool.false_eq_true, reduceCtorEq, false_implies, Bool.not_false, Bool.not_true, Bool.true_or, Bool.false_or])) | (show Env; skip) | (show Mem; skip))) | (apply goCallG_V e21; (case hV => (intro hg; simp only [hg, de, d2, hXl, w1, w0, htm, hne, wk, hg0, hg1, hs1, hpp, dl0, dl1, cut, hYN, hYc, List.length_nil, Nat.zero_add, List.take_nil, List.nil_append, List.length_set, SS, SS2, SS3, SS4, scopeQ_normal, scopeQ_ret, scopeQ_exit, Option.map_some, Bool.not_false, Bool.not_true, gArgs, gOk, Nat.reduceAdd, PV.shift, MObj.shift, rdV, rdD, reduceIte, Nat.reduceEqDiff, Nat.reduceBEq, PV.bin, PV.binOk, binI, binS, PV.withInt, PV.withIntP, okAll, PV.under, PV.okUnder, eq_self, implies_true, deadOk, ne_eq, allOk, RVar.val, RVar.ok, retV, PV.seen, PV.view, beq_self_eq_true, PV.flat, PV.noOwn, id_eq, behind, PV.kill, MObj.kill, killTag, reduceCtorEq, nilB]; (try go_unwrap; try simp only [de, d2, hXl, w1, w0, htm, hne, wk, hg0, hg1, hs1, hpp, dl0, dl1, cut, hYN, hYc, List.length_nil, Nat.zero_add, List.take_nil, List.nil_append, List.length_set, toNat_add2, toNat_add1, Int.toNat_natCast, Bool.false_and, Bool.true_and, true_implies, true_and, Bool.false_eq_true, reduceCtorEq, false_implies, Bool.not_false, Bool.not_true, Bool.true_or, Bool.false_or]); exact h21')); (case hok => (intro hg; first | (simp only [hg, de, d2, hXl, w1, w0, htm, hne, wk, hg0, hg1, hs1, hpp, dl0, dl1, cut, hYN, hYc, List.length_nil, Nat.zero_add, List.take_nil, List.nil_append, List.length_set, SS, SS2, SS3, SS4, scopeQ_normal, scopeQ_ret, scopeQ_exit, Option.map_some, Bool.not_false, Bool.not_true, gArgs, gOk, Nat.reduceAdd, PV.shift, MObj.shift, rdV, rdD, reduceIte, Nat.reduceEqDiff, Nat.reduceBEq, PV.bin, PV.binOk, binI, binS, PV.withInt, PV.withIntP, okAll, PV.under, PV.okUnder, eq_self, implies_true, deadOk, ne_eq, allOk, RVar.val, RVar.ok, retV, PV.seen, PV.view, beq_self_eq_true, PV.flat, PV.noOwn, id_eq, behind, PV.kill, MObj.kill, killTag, reduceCtorEq, nilB]; done) | (simp_all [okAll, PV.okUnder]; done))); (case hs => (intro hg; simp only [hg, de, d2, hXl, w1, w0, htm, hne, wk, hg0, hg1, hs1, hpp, dl0, dl1, cut, hYN, hYc, List.length_nil, Nat.zero_add, List.take_nil, List.nil_append, List.length_set, SS, SS2, SS3, SS4, scopeQ_normal, scopeQ_ret, scopeQ_exit, Option.map_some, Bool.not_false, Bool.not_true, gArgs, gOk, Nat.reduceAdd, PV.shift, MObj.shift, rdV, rdD, reduceIte, Nat.reduceEqDiff, Nat.reduceBEq, PV.bin, PV.binOk, binI, binS, PV.withInt, PV.withIntP, okAll, PV.under, PV.okUnder, eq_self, implies_true, deadOk, ne_eq, allOk, RVar.val, RVar.ok, retV, PV.seen, PV.view, beq_self_eq_true, PV.flat, PV.noOwn, id_eq, behind, PV.kill, MObj.kill, killTag, reduceCtorEq, nilB])); (case hf => first | rfl | simp only [de, d2, hXl, w1, w0, htm, hne, wk, hg0, hg1, hs1, hpp, dl0, dl1, cut, hYN, hYc, List.length_nil, Nat.zero_add, List.take_nil, List.nil_append, List.length_set, SS, SS2, SS3, SS4, scopeQ_normal, scopeQ_ret, scopeQ_exit, Option.map_some, Bool.not_false, Bool.not_true, gArgs, gOk, Nat.reduceAdd, PV.shift, MObj.shift, rdV, rdD, reduceIte, Nat.reduceEqDiff, Nat.reduceBEq, PV.bin, PV.binOk, binI, binS, PV.withInt, PV.withIntP, okAll, PV.under, PV.okUnder, eq_self, implies_true, deadOk, ne_eq, allOk, RVar.val, RVar.ok, retV, PV.seen, PV.view, beq_self_eq_true, PV.flat, PV.noOwn, id_eq, behind, PV.kill, MObj.kill, killTag, reduceCtorEq, nilB]); (simp only [de, d2, hXl, w1, w0, htm, hne, wk, hg0, hg1, hs1, hpp, dl0, dl1, cut, hYN, hYc, List.length_nil, Nat.zero_add, List.take_nil, List.nil_append, List.length_set, SS, SS2, SS3, SS4, scopeQ_normal, scopeQ_ret, scopeQ_exit, Option.map_some, Bool.not_false, Bool.not_true, gArgs, gOk, Nat.reduceAdd, PV.shift, MObj.shift, rdV, rdD, reduceIte, Nat.reduceEqDiff, Nat.reduceBEq, PV.bin, PV.binOk, binI, binS, PV.withInt, PV.withIntP, okAll, PV.under, PV.okUnder, eq_self, implies_true, deadOk, ne_eq, allOk, RVar.val, RVar.ok, retV, PV.seen, PV.view, beq_self_eq_true, PV.flat, PV.noOwn, id_eq, behind, PV.kill, MObj.kill, killTag, reduceCtorEq, nilB]; (try go_unwrap; try simp only [de, d2, hXl, w1, w0, htm, hne, wk, hg0, hg1, hs1, hpp, dl0, dl1, cut, hYN, hYc, List.length_nil, Nat.zero_add, List.take_nil, List.nil_append, List.length_set, toNat_add2, toNat_add1, Int.toNat_natCast, Bool.false_and, Bool.true_and, true_implies, true_and, Bool.false_eq_true, reduceCtorEq, false_implies, Bool.not_false, Bool.not_true, Bool.true_or, Bool.false_or]))) | (refine gd_i ?_; intro hg; try simp only [hg]) | refine goCall_W e10 (h10) ?_ ?_ ?_ ?_ | refine goCall_W e11 (h11) ?_ ?_ ?_ ?_ | refine goCall_W e20 (h20) ?_ ?_ ?_ ?_ | refine goCallG_W e24 (h24) ?_ ?_ ?_ ?_ ?_ | ((first | show @LE.le Nat _ _ _ | show @LT.lt Nat _ _ _ | show @LE.le Int _ _ _ | show @LT.lt Int _ _ _ | show @Eq Nat _ _ | show @Eq Int _ _ | show @Eq Bool _ _ | show _ ∨ _ | show ¬ _); first | omega | (simp only [decide_eq_true_eq, decide_eq_false_iff_not, List.length_cons, List.length_nil, List.length_append, List.length_map, Sh.size] <;> omega) | (go_unwrap; omega)) | ((first | refine PW.region ?_ | refine PW.regionQ ?_ | refine schedW_done_i ?_ | show (_ : Post) _ _ _ | show @Eq (List PV) _ _ | show @Eq Bool _ _ | show opsW _ _ _ _ _ _ _ _ | show okAll _ | show @Eq Bool _ _ ∨ _); focus (simp only [de, d2, hXl, w1, w0, htm, hne, wk, hg0, hg1, hs1, hpp, dl0, dl1, cut, hYN, hYc, List.length_nil, Nat.zero_add, List.take_nil, List.nil_append, List.length_set, SS, SS2, SS3, SS4, scopeQ_normal, scopeQ_ret, scopeQ_exit, Option.map_some, Bool.not_false, Bool.not_true, gArgs, gOk, Nat.reduceAdd, PV.shift, MObj.shift, rdV, rdD, reduceIte, Nat.reduceEqDiff, Nat.reduceBEq, PV.bin, PV.binOk, binI, binS, PV.withInt, PV.withIntP, okAll, PV.under, PV.okUnder, eq_self, implies_true, deadOk, ne_eq, allOk, RVar.val, RVar.ok, retV, PV.seen, PV.view, beq_self_eq_true, PV.flat, PV.noOwn, id_eq, behind, PV.kill, MObj.kill, killTag, reduceCtorEq, nilB]; (try go_unwrap; try simp only [de, d2, hXl, w1, w0, htm, hne, wk, hg0, hg1, hs1, hpp, dl0, dl1, cut, hYN, hYc, List.length_nil, Nat.zero_add, List.take_nil, List.nil_append, List.length_set, toNat_add2, toNat_add1, Int.toNat_natCast, Bool.false_and, Bool.true_and, true_implies, true_and, Bool.false_eq_true, reduceCtorEq, false_implies, Bool.not_false, Bool.not_true, Bool.true_or, Bool.false_or]))) | refine And.intro ?_ ?_ | exact Or.inr ⟨rfl, Nat.le_refl _⟩ | exact (fun h => Bool.noConfusion h))
  all_goals first | exact nF | rfl | skip
set_option maxRecDepth 100000 in
theorem swaps_lifted (os : Os) (started : os.Started) (H : Type) (enc : TypeId × Value → H) (F : Stop.Interp) :
    ReturnsInHanded {} Try.checked os 9 .any ((Rows.OpenSpec.upto Rows.orderSwapsSpec).pre6 enc Try.prog Try.f9 Rows.orderSwapsUptoRow.domain false) (((Rows.OpenSpec.upto Rows.orderSwapsSpec).at F).post enc Try.prog Try.f9 false true false false) := by
  refine returnsInHanded_of_cond (C := Try.checked) (s := Rows.OpenSpec.upto Rows.orderSwapsSpec) (k := Rows.uptoSmall) rfl ownB started (by kernel_rfl) Try.func9
    (OpenSpec.witness (enc := enc) (C := Try.checked) (s := Rows.OpenSpec.upto Rows.orderSwapsSpec) (k := Rows.uptoSmall) rfl false ⟨#[], #[.slice none 0 0, .int .u8 0], []⟩ 8 (by kernel_rfl) (by kernel_rfl) (by kernel_rfl)
      (x := ([.nil, .lit (.int .u8 0)], [], [])) (by kernel_rfl) rfl (by kernel_rfl)) ?_
  intro W base args ds gs before hval hW _ hk _
  refine law_of_Z (n := 8) szOk laidB (by kernel_rfl) rfl (fun ds hd => ?_) (tb := 4) (by kernel_rfl) (by kernel_rfl) (globsB W _) (fun ps hp => ?_) hval hW (small_of hk)
  · rw [Try.params9] at hd
    match ds, hd with
    | [d1, d2], _ => rfl
  · rw [Try.params9] at hp
    obtain ⟨p1, p2, rfl, k1, k2⟩ := shBs2 hp
    obtain ⟨l, rfl, h1, h2⟩ := read_eds (n := 4) k1
    obtain ⟨x, rfl, h3⟩ := read_u8 (n := 7) k2
    exact v9 l h1 (eds_ok h2) x h3
theorem swaps_holds : Rows.OrderSwapsUptoSaid :=
  OpenClaim.holds_of_cond 9 Try.f9 rfl rfl rfl rfl rfl rfl rfl ⟨rfl, rfl, rfl, rfl, rfl⟩ rfl rfl rfl rfl rfl (by kernel_rfl) Try.func9 (by kernel_rfl)
    (of_decide_eq_true (by kernel_rfl)) (by unfold Func.isWrapper; first | (rw [if_pos (by decide +kernel)]; kernel_rfl) | (rw [if_neg (by decide +kernel)]; exact ⟨rfl, rfl⟩))
    (fun os started H enc _ F => swaps_lifted os started H enc F)
end Go.Proofs.Ytdiokmmjdpbdbaa
