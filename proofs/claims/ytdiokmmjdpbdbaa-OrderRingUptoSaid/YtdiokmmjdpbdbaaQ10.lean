import Derived.Test.YtdiokmmjdpbdbaaQ9
namespace Go.Proofs.Ytdiokmmjdpbdbaa
open Go PG Go.Proofs
set_option linter.unusedSimpArgs false
set_option linter.unusedVariables false
set_option maxHeartbeats 4000000
set_option maxRecDepth 100000
def onesB (out : List St) : List (St × Bool) := out.map fun s => (s, true)
theorem onesB_get (out : List St) (s : St) : (aget (onesB out) s).getD false = decide (s ∈ out) := by
  induction out with
  | nil => simp [onesB, aget]
  | cons x l ih =>
    simp only [onesB, List.map_cons, aget] at ih ⊢
    by_cases h : x = s
    · simp [h]
    · simp only [h, if_false]
      rw [ih]
      have : (s ∈ x :: l) ↔ s ∈ l := by simp [Ne.symm h]
      simp only [this]
theorem onesB_set {out : List St} {s : St} (h : s ∉ out) : aset (onesB out) s true = onesB (out ++ [s]) := by
  induction out with
  | nil => rfl
  | cons x l ih =>
    have h1 : x ≠ s := fun e => h (by simp [e])
    have h2 : s ∉ l := fun e => h (by simp [e])
    simp only [onesB, List.map_cons, aset, List.cons_append, h1, if_false] at ih ⊢
    rw [ih h2]
theorem late_at {l : List Ed} (hw : wrongM l = 0) (out : List St) (s : St) : lateM (tabM l) (onesB out) s = (decide (s ∈ nsM l) && !decide (s ∈ out)) := by
  unfold lateM
  rw [onesB_get, tab_at hw]
  by_cases h : s ∈ nsM l
  · rw [if_pos h]; simp [h]
  · rw [if_neg h]; simp [h]
theorem redy_at {l : List Ed} (hw : wrongM l = 0) (out : List St) (s : St) : redyM (tabM l) (onesB out) s = readyG (nsM l) (ndM l) out s := by
  unfold redyM readyG
  rw [onesB_get, tab_nd hw]
  have : (ndM l s).any (lateM (tabM l) (onesB out)) = !((ndM l s).all fun x => !(decide (x ∈ nsM l)) || decide (x ∈ out)) := by
    rw [List.not_all_eq_any_not]
    congr 1
    funext x
    rw [late_at hw]; simp
  rw [this]; simp
theorem idxF_find {p : St → Bool} {N : List St} {s : St} (h : N.find? p = some s) : ∃ j, ∃ h : j < N.length, idxF p N = j ∧ N[j] = s ∧ p s = true := by
  obtain ⟨hp, as', bs, e, hall⟩ := List.find?_eq_some_iff_append.1 h
  subst e
  refine ⟨as'.length, by simp, ?_, by simp, hp⟩
  refine idxF_at (by simp) (by simpa using hp) fun j hj hlt => ?_
  rw [List.getElem_append_left hlt]
  have := hall as'[j] (List.getElem_mem hlt)
  simpa using this
theorem idxF_not {p : St → Bool} {N : List St} (h : N.find? p = none) : idxF p N = -1 :=
  idxF_none fun j hj => by have := List.find?_eq_none.1 h N[j] (List.getElem_mem hj); simpa using this
theorem lst_ok {l : List Ed} (hw : wrongM l = 0) {x : St} {ns : List St} (h : aget (tabM l) x = some ns) : ns.length ≤ 9223372036854775807 := by
  rw [tab_at hw] at h
  split at h
  · cases h
    rename_i hx
    obtain ⟨e, he, rfl⟩ := ns_mem.1 hx
    rw [nd_at (wrongM_0.1 hw).2.1 he]
    have := ((wrongM_0.1 hw).2.2 e he).2.1
    omega
  · cases h
theorem v20 (l : List Ed) (hl : l.length ≤ 1000000000) (hnl : ∀ e ∈ l, e.needs.length ≤ 9223372036854775807) : VCalls Try.prog G0 20 [edL l] (.tup [txL (sortM l).1, .int .i64 (sortM l).2]) := by
  refine VCalls.of_PW Try.func20 k20 mix (by simp [c20]) ?_
  simp only [c20, L20, argE]
  have h27 := v27 l (by omega) hnl
  have h28 := v28 l (by omega)
  have h29 := v29 l hl
  by_cases hw : wrongM l = 0
  case neg =>
    have d1 : decide (wrongM l = 0) = false := by simpa using hw
    have hS : sortM l = ([], wrongM l) := sort_wrong hw
    repeat' (first | exact True.intro | (refine PW.stop (x := .ret) ?_) | (refine PW.seqK ?_; intro K hK) | refine PW.block ?_ | refine PW.scope ?_ | refine PW.label ?_ | refine PW.exit ?_ | refine PW.ret ?_ | refine PW.skip ?_ | refine seqK_n (by assumption) ?_ | refine seqK_r (by assumption) ?_ | refine seqK_e (by assumption) ?_ | refine PW.regionA ?_ | exact schedW_stop_i | refine schK_n (by assumption) ?_ | (refine schedW_alt_k ?_ ?_; focus (intro K hK; simp only [d1, SS, SS2, SS3, SS4, SS5, Option.map_some, Nat.reduceAdd, reduceIte, Nat.reduceEqDiff, Nat.reduceBEq, eq_self, implies_true, ne_eq, beq_self_eq_true, id_eq, reduceCtorEq]; (try go_unwrap; try simp only [d1, RR, reduceCtorEq]))) | (refine PW.cond rfl ?_ ?_ <;> intro hcond <;> (try contradiction) <;> try simp only [decide_eq_true_eq, decide_eq_false_iff_not] at hcond) | (refine gd_i ?_; intro hg; try simp only [hg]) | refine goCall_W e27 (h27) ?_ ?_ ?_ ?_ | ((first | show @LE.le Nat _ _ _ | show @LT.lt Nat _ _ _ | show @LE.le Int _ _ _ | show @LT.lt Int _ _ _ | show @Eq Nat _ _ | show @Eq Int _ _ | show @Eq Bool _ _ | show _ ∨ _ | show ¬ _); first | omega | (simp only [decide_eq_true_eq, decide_eq_false_iff_not, List.length_cons, List.length_nil, List.length_append, List.length_map, Sh.size] <;> omega) | (go_unwrap; omega)) | ((first | refine PW.region ?_ | refine PW.regionQ ?_ | refine schedW_done_i ?_ | show (_ : Post) _ _ _ | show @Eq (List PV) _ _ | show @Eq Bool _ _ | show opsW _ _ _ _ _ _ _ _ | show okAll _ | show @Eq Bool _ _ ∨ _); focus (simp only [d1, SS, SS2, SS3, SS4, SS5, Option.map_some, Nat.reduceAdd, reduceIte, Nat.reduceEqDiff, Nat.reduceBEq, eq_self, implies_true, ne_eq, beq_self_eq_true, id_eq, reduceCtorEq]; (try go_unwrap; try simp only [d1, RR, reduceCtorEq]))) | refine And.intro ?_ ?_ | exact Or.inr ⟨rfl, Nat.le_refl _⟩ | exact (fun h => Bool.noConfusion h))
    all_goals
      refine ⟨?_⟩
      refine PW.subE none 2 rfl ?_
      repeat' (first | exact True.intro | (refine PW.seqK ?_; intro K hK) | refine PW.block ?_ | refine PW.scope ?_ | refine PW.label ?_ | refine PW.exit ?_ | refine PW.ret ?_ | refine PW.skip ?_ | refine seqK_n (by assumption) ?_ | refine seqK_r (by assumption) ?_ | refine seqK_e (by assumption) ?_ | refine PW.regionA ?_ | exact schedW_stop_i | refine schK_n (by assumption) ?_ | (refine schedW_alt_k ?_ ?_; focus (intro K hK; simp only [SS, SS2, SS3, SS4, SS5, Option.map_some, Nat.reduceAdd, reduceIte, Nat.reduceEqDiff, Nat.reduceBEq, eq_self, implies_true, ne_eq, beq_self_eq_true, id_eq, reduceCtorEq]; (try go_unwrap; try simp only [RR, reduceCtorEq]))) | (refine PW.cond rfl ?_ ?_ <;> intro hcond <;> (try contradiction) <;> try simp only [decide_eq_true_eq, decide_eq_false_iff_not] at hcond) | (refine gd_i ?_; intro hg; try simp only [hg]) | ((first | show @LE.le Nat _ _ _ | show @LT.lt Nat _ _ _ | show @LE.le Int _ _ _ | show @LT.lt Int _ _ _ | show @Eq Nat _ _ | show @Eq Int _ _ | show @Eq Bool _ _ | show _ ∨ _ | show ¬ _); first | omega | (simp only [decide_eq_true_eq, decide_eq_false_iff_not, List.length_cons, List.length_nil, List.length_append, List.length_map, Sh.size] <;> omega) | (go_unwrap; omega)) | ((first | refine PW.region ?_ | refine PW.regionQ ?_ | refine schedW_done_i ?_ | show (_ : Post) _ _ _ | show @Eq (List PV) _ _ | show @Eq Bool _ _ | show opsW _ _ _ _ _ _ _ _ | show okAll _ | show @Eq Bool _ _ ∨ _); focus (simp only [SS, SS2, SS3, SS4, SS5, Option.map_some, Nat.reduceAdd, reduceIte, Nat.reduceEqDiff, Nat.reduceBEq, eq_self, implies_true, ne_eq, beq_self_eq_true, id_eq, reduceCtorEq]; (try go_unwrap; try simp only [RR, reduceCtorEq]))) | refine And.intro ?_ ?_ | exact Or.inr ⟨rfl, Nat.le_refl _⟩ | exact (fun h => Bool.noConfusion h))
      rw [hS]; rfl
  rw [hw] at h27
  obtain ⟨R, hR⟩ : ∃ R, sortM l = R := ⟨_, rfl⟩
  have hS : sortM l = match sortG (nsM l) (ndM l) (nsM l).length [] with
    | none => ([], 13)
    | some o => (o, 0) := by unfold sortM; rw [if_neg (by simp [hw])]; rfl
  rw [hR] at hS ⊢
  clear hR
  have h42 := fun out x => v42 (tabM l) (onesB out) x (fun ns h => lst_ok hw h)
  have hrd := redy_at hw
  have hNl : (nsM l).length ≤ 64 := by rw [ns_len]; exact (wrongM_0.1 hw).1
  have hcl := clRedy (tabM l)
  generalize tabM l = T at h28 h42 hrd hcl
  generalize nsM l = N at h29 hS hrd hNl
  generalize ndM l = nd at hS hrd
  simp only [cpT, cpK] at h42 hcl
  have hN : ((N.map PV.str).length : Nat) = N.length := by simp
  repeat' (first | exact True.intro | (refine PW.seqK ?_; intro K hK) | refine PW.block ?_ | refine PW.scope ?_ | refine PW.label ?_ | refine PW.exit ?_ | refine PW.ret ?_ | refine PW.skip ?_ | refine seqK_n (by assumption) ?_ | refine seqK_r (by assumption) ?_ | refine seqK_e (by assumption) ?_ | refine PW.regionA ?_ | exact schedW_stop_i | refine schK_n (by assumption) ?_ | (refine schedW_alt_k ?_ ?_; focus (intro K hK; simp only [hN, SS, SS2, SS3, SS4, SS5, Option.map_some, Nat.reduceAdd, reduceIte, Nat.reduceEqDiff, Nat.reduceBEq, eq_self, implies_true, ne_eq, beq_self_eq_true, id_eq, reduceCtorEq]; (try go_unwrap; try simp only [hN, RR, reduceCtorEq]))) | (refine PW.cond rfl ?_ ?_ <;> intro hcond <;> (try contradiction) <;> try simp only [decide_eq_true_eq, decide_eq_false_iff_not] at hcond) | (refine gd_i ?_; intro hg; try simp only [hg]) | refine goCall_W e27 (h27) ?_ ?_ ?_ ?_ | refine goCall_W e28 (h28) ?_ ?_ ?_ ?_ | refine goCall_W e29 (h29) ?_ ?_ ?_ ?_ | ((first | show @LE.le Nat _ _ _ | show @LT.lt Nat _ _ _ | show @LE.le Int _ _ _ | show @LT.lt Int _ _ _ | show @Eq Nat _ _ | show @Eq Int _ _ | show @Eq Bool _ _ | show _ ∨ _ | show ¬ _); first | omega | (simp only [decide_eq_true_eq, decide_eq_false_iff_not, List.length_cons, List.length_nil, List.length_append, List.length_map, Sh.size] <;> omega) | (go_unwrap; omega)) | ((first | refine PW.region ?_ | refine PW.regionQ ?_ | refine schedW_done_i ?_ | show (_ : Post) _ _ _ | show @Eq (List PV) _ _ | show @Eq Bool _ _ | show opsW _ _ _ _ _ _ _ _ | show okAll _ | show @Eq Bool _ _ ∨ _); focus (simp only [hN, SS, SS2, SS3, SS4, SS5, Option.map_some, Nat.reduceAdd, reduceIte, Nat.reduceEqDiff, Nat.reduceBEq, eq_self, implies_true, ne_eq, beq_self_eq_true, id_eq, reduceCtorEq]; (try go_unwrap; try simp only [hN, RR, reduceCtorEq]))) | refine And.intro ?_ ?_ | exact Or.inr ⟨rfl, Nat.le_refl _⟩ | exact (fun h => Bool.noConfusion h))
  refine PW.own none 9 rfl ?_
  refine PW.loopG (σ := Nat × List St) 5 (fun _ _ => rfl) [2, 3, 5, 6, 7, 8, 9, 23, 24] (fun s => [.nilSl, .int .i64 0, .ref 0 0, txL N, .ref 2 0, .ref 3 0, .sl none 4 s.2.length, .int .i64 N.length, .int .i64 s.1])
    (fun s => [some (.var none (.cmap .str (strM lstV T))), some (.mp .str (strM boolV (onesB s.2))), some (.var none (.mref 1)), some (.var none (.fn 40 [] [.ref 0 0, .ref 2 0])), some (.row none (s.2.map PV.str))])
    (fun s => s.1 ≤ N.length ∧ s.2.length = s.1 ∧ sortG N nd N.length [] = sortG N nd (N.length - s.1) s.2) (fun s => N.length - s.1) (0, []) ?_ (by simp [onesB, mapP]) ⟨by simp, rfl, by simp⟩ ?_
  · simp only [SS, SS2, SS3, SS4, SS5, Option.map_some, Nat.reduceAdd, reduceIte, Nat.reduceEqDiff, Nat.reduceBEq, eq_self, implies_true, ne_eq, beq_self_eq_true, id_eq, reduceCtorEq]; rfl
  rintro ⟨i, out⟩ ⟨hi, hol, hg⟩
  simp only at hi hol hg
  simp only [List.zip_cons_cons, List.zip_nil_left]
  rcases Nat.lt_or_ge i N.length with h | h
  case inr =>
    have hd : decide ((i : Int) < N.length) = false := by simp only [decide_eq_false_iff_not]; omega
    rw [show N.length - i = 0 by omega] at hg
    rw [hg] at hS
    have hS : R = (out, 0) := hS
    subst hS
    have hoL : ((out.map PV.str).length : Nat) = out.length := by simp
    have htk : (out.map PV.str).take out.length = out.map PV.str := List.take_of_length_le (by simp)
    repeat' (first | exact True.intro | (refine PW.seqK ?_; intro K hK) | refine PW.block ?_ | refine PW.scope ?_ | refine PW.label ?_ | refine PW.exit ?_ | refine PW.ret ?_ | refine PW.skip ?_ | refine seqK_n (by assumption) ?_ | refine seqK_r (by assumption) ?_ | refine seqK_e (by assumption) ?_ | refine PW.regionA ?_ | exact schedW_stop_i | refine schK_n (by assumption) ?_ | (refine schedW_alt_k ?_ ?_; focus (intro K hK; simp only [hd, hN, SS, SS2, SS3, SS4, SS5, Option.map_some, Nat.reduceAdd, reduceIte, Nat.reduceEqDiff, Nat.reduceBEq, eq_self, implies_true, ne_eq, beq_self_eq_true, id_eq, reduceCtorEq]; (try go_unwrap; try simp only [hd, hN, RR, reduceCtorEq]))) | (refine PW.cond rfl ?_ ?_ <;> intro hcond <;> (try contradiction) <;> try simp only [decide_eq_true_eq, decide_eq_false_iff_not] at hcond) | (refine gd_i ?_; intro hg; try simp only [hg]) | ((first | show @LE.le Nat _ _ _ | show @LT.lt Nat _ _ _ | show @LE.le Int _ _ _ | show @LT.lt Int _ _ _ | show @Eq Nat _ _ | show @Eq Int _ _ | show @Eq Bool _ _ | show _ ∨ _ | show ¬ _); first | omega | (simp only [decide_eq_true_eq, decide_eq_false_iff_not, List.length_cons, List.length_nil, List.length_append, List.length_map, Sh.size] <;> omega) | (go_unwrap; omega)) | ((first | refine PW.region ?_ | refine PW.regionQ ?_ | refine schedW_done_i ?_ | show (_ : Post) _ _ _ | show @Eq (List PV) _ _ | show @Eq Bool _ _ | show opsW _ _ _ _ _ _ _ _ | show okAll _ | show @Eq Bool _ _ ∨ _); focus (simp only [hd, hN, SS, SS2, SS3, SS4, SS5, Option.map_some, Nat.reduceAdd, reduceIte, Nat.reduceEqDiff, Nat.reduceBEq, eq_self, implies_true, ne_eq, beq_self_eq_true, id_eq, reduceCtorEq]; (try go_unwrap; try simp only [hd, hN, RR, reduceCtorEq]))) | refine And.intro ?_ ?_ | exact Or.inr ⟨rfl, Nat.le_refl _⟩ | exact (fun h => Bool.noConfusion h))
    all_goals first | (simp [hoL, htk]; done) | skip
  have hd : decide ((i : Int) < N.length) = true := by simp only [decide_eq_true_eq]; omega
  obtain ⟨n, hn⟩ : ∃ n, N.length - i = n + 1 := ⟨N.length - i - 1, by omega⟩
  rw [hn, sortG] at hg
  have hfe : redyM T (onesB out) = readyG N nd out := funext (hrd out)
  have h41 := v41 N (redyM T (onesB out)) 42 _ e42 (hcl (onesB out)) (by omega) (fun x _ => h42 out x)
  rw [hfe] at h41
  cases hf : N.find? (readyG N nd out) with
  | none =>
    rw [hf] at hg
    rw [hg] at hS
    have hS : R = ([], 13) := hS
    rw [idxF_not hf] at h41
    have dn : decide ((-1 : Int) < 0) = true := rfl
    repeat' (first | exact True.intro | (refine PW.stop (x := .ret) ?_) | (refine PW.seqK ?_; intro K hK) | refine PW.block ?_ | refine PW.scope ?_ | refine PW.label ?_ | refine PW.exit ?_ | refine PW.ret ?_ | refine PW.skip ?_ | refine seqK_n (by assumption) ?_ | refine seqK_r (by assumption) ?_ | refine seqK_e (by assumption) ?_ | refine PW.regionA ?_ | exact schedW_stop_i | refine schK_n (by assumption) ?_ | (refine schedW_alt_k ?_ ?_; focus (intro K hK; simp only [hd, hN, dn, List.cons_append, List.nil_append, SS, SS2, SS3, SS4, SS5, Option.map_some, Nat.reduceAdd, reduceIte, Nat.reduceEqDiff, Nat.reduceBEq, eq_self, implies_true, ne_eq, beq_self_eq_true, id_eq, reduceCtorEq]; (try go_unwrap; try simp only [hd, hN, dn, List.cons_append, List.nil_append, RR, reduceCtorEq]))) | (refine PW.cond rfl ?_ ?_ <;> intro hcond <;> (try contradiction) <;> try simp only [decide_eq_true_eq, decide_eq_false_iff_not] at hcond) | (refine gd_i ?_; intro hg; try simp only [hg]) | refine goCall_L 6 e41 h41 (by simp [PV.lend, PV.view, Mem.get]) (by simp [PV.lends, PV.lend, PV.view, PV.seen, fitB, PV.scalar, Mem.get, Sh.size]) (by simp [PV.flat]) ?_ | ((first | show @LE.le Nat _ _ _ | show @LT.lt Nat _ _ _ | show @LE.le Int _ _ _ | show @LT.lt Int _ _ _ | show @Eq Nat _ _ | show @Eq Int _ _ | show @Eq Bool _ _ | show _ ∨ _ | show ¬ _); first | omega | (simp only [decide_eq_true_eq, decide_eq_false_iff_not, List.length_cons, List.length_nil, List.length_append, List.length_map, Sh.size] <;> omega) | (go_unwrap; omega)) | ((first | refine PW.region ?_ | refine PW.regionQ ?_ | refine schedW_done_i ?_ | show (_ : Post) _ _ _ | show @Eq (List PV) _ _ | show @Eq Bool _ _ | show opsW _ _ _ _ _ _ _ _ | show okAll _ | show @Eq Bool _ _ ∨ _); focus (simp only [hd, hN, dn, List.cons_append, List.nil_append, SS, SS2, SS3, SS4, SS5, Option.map_some, Nat.reduceAdd, reduceIte, Nat.reduceEqDiff, Nat.reduceBEq, eq_self, implies_true, ne_eq, beq_self_eq_true, id_eq, reduceCtorEq]; (try go_unwrap; try simp only [hd, hN, dn, List.cons_append, List.nil_append, RR, reduceCtorEq]))) | refine And.intro ?_ ?_ | exact Or.inr ⟨rfl, Nat.le_refl _⟩ | exact (fun h => Bool.noConfusion h))
    all_goals try rfl
    all_goals
      refine ⟨?_⟩
      refine PW.subE none 2 rfl ?_
      repeat' (first | exact True.intro | (refine PW.seqK ?_; intro K hK) | refine PW.block ?_ | refine PW.scope ?_ | refine PW.label ?_ | refine PW.exit ?_ | refine PW.ret ?_ | refine PW.skip ?_ | refine seqK_n (by assumption) ?_ | refine seqK_r (by assumption) ?_ | refine seqK_e (by assumption) ?_ | refine PW.regionA ?_ | exact schedW_stop_i | refine schK_n (by assumption) ?_ | (refine schedW_alt_k ?_ ?_; focus (intro K hK; simp only [SS, SS2, SS3, SS4, SS5, Option.map_some, Nat.reduceAdd, reduceIte, Nat.reduceEqDiff, Nat.reduceBEq, eq_self, implies_true, ne_eq, beq_self_eq_true, id_eq, reduceCtorEq]; (try go_unwrap; try simp only [RR, reduceCtorEq]))) | (refine PW.cond rfl ?_ ?_ <;> intro hcond <;> (try contradiction) <;> try simp only [decide_eq_true_eq, decide_eq_false_iff_not] at hcond) | (refine gd_i ?_; intro hg; try simp only [hg]) | ((first | show @LE.le Nat _ _ _ | show @LT.lt Nat _ _ _ | show @LE.le Int _ _ _ | show @LT.lt Int _ _ _ | show @Eq Nat _ _ | show @Eq Int _ _ | show @Eq Bool _ _ | show _ ∨ _ | show ¬ _); first | omega | (simp only [decide_eq_true_eq, decide_eq_false_iff_not, List.length_cons, List.length_nil, List.length_append, List.length_map, Sh.size] <;> omega) | (go_unwrap; omega)) | ((first | refine PW.region ?_ | refine PW.regionQ ?_ | refine schedW_done_i ?_ | show (_ : Post) _ _ _ | show @Eq (List PV) _ _ | show @Eq Bool _ _ | show opsW _ _ _ _ _ _ _ _ | show okAll _ | show @Eq Bool _ _ ∨ _); focus (simp only [SS, SS2, SS3, SS4, SS5, Option.map_some, Nat.reduceAdd, reduceIte, Nat.reduceEqDiff, Nat.reduceBEq, eq_self, implies_true, ne_eq, beq_self_eq_true, id_eq, reduceCtorEq]; (try go_unwrap; try simp only [RR, reduceCtorEq]))) | refine And.intro ?_ ?_ | exact Or.inr ⟨rfl, Nat.le_refl _⟩ | exact (fun h => Bool.noConfusion h))
      rw [hS]; rfl
  | some s =>
    rw [hf] at hg
    obtain ⟨j, hj, hjx, hNj, hps⟩ := idxF_find hf
    have hso := (ready_iff.1 hps).1
    rw [hjx] at h41
    have dn : decide ((j : Int) < 0) = false := by simp only [decide_eq_false_iff_not]; omega
    have hgt := tx_getD N j hj
    rw [hNj] at hgt
    have s1 : mset (strM boolV (onesB out)) (.str s) (.bool true) = strM boolV (onesB (out ++ [s])) := by rw [← onesB_set hso]; exact mset_str boolV _ _ _
    have ht : (out ++ [s]).map PV.str = out.map PV.str ++ [.str s] := by simp
    have hoL : ((out.map PV.str).length : Nat) = out.length := by simp
    have htk : (out.map PV.str).take out.length = out.map PV.str := List.take_of_length_le (by simp)
    have b1 : (out.length + 1) * 16 ≤ 140737488355328 := by omega
    repeat' (first | exact True.intro | (refine PW.seqA (E := ?_) (M := ?_) ?_ ?_; rotate_left 2) | exact mergeQ_mk _ _ | (refine PW.seqK ?_; intro K hK) | refine PW.block ?_ | refine PW.scope ?_ | refine PW.label ?_ | refine PW.exit ?_ | refine PW.ret ?_ | refine PW.skip ?_ | refine seqK_n (by assumption) ?_ | refine seqK_r (by assumption) ?_ | refine seqK_e (by assumption) ?_ | refine PW.regionA ?_ | exact schedW_stop_i | refine schK_n (by assumption) ?_ | (refine schedW_alt_k ?_ ?_; focus (intro K hK; simp only [hd, hN, dn, hgt, s1, hoL, htk, List.cons_append, List.nil_append, SS, SS2, SS3, SS4, SS5, Option.map_some, Nat.reduceAdd, reduceIte, Nat.reduceEqDiff, Nat.reduceBEq, eq_self, implies_true, ne_eq, beq_self_eq_true, id_eq, reduceCtorEq]; (try go_unwrap; try simp only [hd, hN, dn, hgt, s1, hoL, htk, List.cons_append, List.nil_append, RR, reduceCtorEq]))) | (refine PW.cond rfl ?_ ?_ <;> intro hcond <;> (try contradiction) <;> try simp only [decide_eq_true_eq, decide_eq_false_iff_not] at hcond) | (refine gd_i ?_; intro hg; try simp only [hg]) | refine goCall_L 6 e41 h41 (by simp [PV.lend, PV.view, Mem.get]) (by simp [PV.lends, PV.lend, PV.view, PV.seen, fitB, PV.scalar, Mem.get, Sh.size]) (by simp [PV.flat]) ?_ | ((first | show @LE.le Nat _ _ _ | show @LT.lt Nat _ _ _ | show @LE.le Int _ _ _ | show @LT.lt Int _ _ _ | show @Eq Nat _ _ | show @Eq Int _ _ | show @Eq Bool _ _ | show _ ∨ _ | show ¬ _); first | omega | (simp only [decide_eq_true_eq, decide_eq_false_iff_not, List.length_cons, List.length_nil, List.length_append, List.length_map, Sh.size] <;> omega) | (go_unwrap; omega)) | ((first | refine PW.region ?_ | refine PW.regionQ ?_ | refine schedW_done_i ?_ | show (_ : Post) _ _ _ | show @Eq (List PV) _ _ | show @Eq Bool _ _ | show opsW _ _ _ _ _ _ _ _ | show okAll _ | show @Eq Bool _ _ ∨ _); focus (simp only [hd, hN, dn, hgt, s1, hoL, htk, List.cons_append, List.nil_append, SS, SS2, SS3, SS4, SS5, Option.map_some, Nat.reduceAdd, reduceIte, Nat.reduceEqDiff, Nat.reduceBEq, eq_self, implies_true, ne_eq, beq_self_eq_true, id_eq, reduceCtorEq]; (try go_unwrap; try simp only [hd, hN, dn, hgt, s1, hoL, htk, List.cons_append, List.nil_append, RR, reduceCtorEq]))) | refine And.intro ?_ ?_ | exact Or.inr ⟨rfl, Nat.le_refl _⟩ | exact (fun h => Bool.noConfusion h))
    all_goals first | rfl | exact ⟨(i + 1, out ++ [s]), (by simp only [List.length_append, List.length_cons, List.length_nil]; exact (by first | rfl | (simp only [trimE, trimM, List.take_succ_cons, List.take_zero, List.take_nil, List.map_cons, List.map_nil, Option.map_some, Option.map_none, MObj.kill, PV.kill, Nat.reduceLeDiff, decide_true, decide_false, dec_true, dec_false, Bool.false_eq_true, if_false, if_true, reduceIte, List.zip_cons_cons, List.zip_nil_left, Nat.le_refl, Nat.zero_le, Nat.not_le, Nat.lt_irrefl]; done) | (simp [trimE, trimM, MObj.kill, PV.kill]; done))), (by rw [ht]; simp [trimM, MObj.kill, PV.kill]), ⟨by simp only; omega, by simp; omega, by simp only; rw [show N.length - (i + 1) = n by omega]; exact hg⟩, by simp only; omega⟩
end Go.Proofs.Ytdiokmmjdpbdbaa

namespace Go.Proofs.Ytdiokmmjdpbdbaa
open Go PG Go.Proofs
set_option linter.unusedSimpArgs false
set_option linter.unusedVariables false
set_option maxHeartbeats 4000000
set_option maxRecDepth 100000
/-! What a name needs, from one to the next -/
def visM (T : List (St × List St)) (out : List St) : Mem :=
  [some (.var none (.cmap .str (strM lstV T))), some (.mp .str (strM boolV (onesB out))), some (.var none (.mref 1)), some (.var none (.sl none 4 out.length)), some (.row none (out.map PV.str)),
    some (.var none (.fn 35 [] [.ref 0 0, .ref 2 0, .ref 3 0, .ref 5 0]))]
theorem rch_U {nd : St → List St} {U : List St} (hU : ∀ s x, x ∈ nd s → x ∈ U) {s y : St} (h : Rch nd s y) : y ∈ U := by
  induction h with
  | one s y h => exact hU s y h
  | more s x y h hr ih => exact ih
theorem dfsL_cons (nd : St → List St) (n : Nat) (x : St) (xs out : List St) : dfsL nd n (x :: xs) out = if x ∈ out then dfsL nd n xs out else dfsL nd n xs (dfs nd n x (out ++ [x])) := by rw [dfsL]
theorem snoc_nodup {o : List St} {x : St} (h : o.Nodup) (hx : x ∉ o) : (o ++ [x]).Nodup := by
  rw [List.nodup_append]
  refine ⟨h, by simp, fun y hy z hz e => ?_⟩
  simp at hz; subst hz; subst e; exact hx hy
theorem v35 (T : List (St × List St)) (nd : St → List St) (U : List St) (hU : ∀ s x, x ∈ nd s → x ∈ U) (hUl : U.length ≤ 1000000) (hT : ∀ s, (aget T s).getD [] = nd s) (hb : ∀ s, (nd s).length ≤ 1000000) : ∀ (n : Nat) (s : St) (out : List St), cntU U out < n → out.Nodup → (∀ x ∈ out, x ∈ U) →
    PCalls Try.prog G0 35 [.str s, .ref 0 0, .ref 2 0, .ref 3 0, .ref 5 0] (visM T out) (killTag 4) (fun p μ' => p = .tup [] ∧ μ' = visM T (dfs nd n s out)) := by
  intro n
  induction n with
  | zero => intro s out h; omega
  | succ n ih =>
    intro s out hc hn hin
    have hlk := look_lst T s
    have hTs := hT s
    have hxs : ∀ x ∈ nd s, x ∈ U := fun x hx => hU s x hx
    have hbs := hb s
    unfold dfs
    generalize nd s = xs at hTs hxs hbs
    have hE : Sub ((mget (strM lstV T) (.str s)).getD .nilSl) (txL xs) := by rw [← hTs]; exact sub_lst T s
    refine PCalls.moves (mv := fun t => t == 4 || decide (6 ≤ t)) (fun t ht h => ?_) ?_
    · simp only [visM, List.length_cons, List.length_nil] at ht
      simp only [Bool.or_eq_true, beq_iff_eq, decide_eq_true_eq] at h
      simp only [killTag, beq_iff_eq]; omega
    refine PCalls.of_PW Try.func35 k35 mix (by simp [c35]) ?_
    simp only [c35, L35, argE, visM]
    have hmv : ∀ t, 6 ≤ t → (t == 4 || decide (6 ≤ t)) = true := fun t h => by simp [h]
    rcases hq : aget T s with _ | ns
    · rw [hq] at hTs hlk
      have hx0 : xs = [] := hTs.symm
      subst hx0
      simp only at hlk
      have hd0 : dfsL nd n [] out = out := by unfold dfsL; rfl
      repeat' (first | exact True.intro | (refine PW.seqK ?_; intro K hK) | refine PW.block ?_ | refine PW.scope ?_ | refine PW.label ?_ | refine PW.exit ?_ | refine PW.ret ?_ | refine PW.skip ?_ | refine seqK_n (by assumption) ?_ | refine seqK_r (by assumption) ?_ | refine seqK_e (by assumption) ?_ | refine PW.regionA ?_ | exact schedW_stop_i | refine schK_n (by assumption) ?_ | (refine schedW_alt_k ?_ ?_; focus (intro K hK; simp only [hlk, lookV, cut, SS, SS2, SS3, SS4, SS5, Option.map_some, Nat.reduceAdd, reduceIte, Nat.reduceEqDiff, Nat.reduceBEq, eq_self, implies_true, ne_eq, beq_self_eq_true, id_eq, reduceCtorEq]; (try go_unwrap; try simp only [hlk, lookV, cut, RR, reduceCtorEq]))) | (refine PW.cond rfl ?_ ?_ <;> intro hcond <;> (try contradiction) <;> try simp only [decide_eq_true_eq, decide_eq_false_iff_not] at hcond) | (refine gd_i ?_; intro hg; try simp only [hg]) | ((first | show @LE.le Nat _ _ _ | show @LT.lt Nat _ _ _ | show @LE.le Int _ _ _ | show @LT.lt Int _ _ _ | show @Eq Nat _ _ | show @Eq Int _ _ | show @Eq Bool _ _ | show _ ∨ _ | show ¬ _); first | omega | (simp only [decide_eq_true_eq, decide_eq_false_iff_not, List.length_cons, List.length_nil, List.length_append, List.length_map, Sh.size] <;> omega) | (go_unwrap; omega)) | ((first | refine PW.region ?_ | refine PW.regionQ ?_ | refine schedW_done_i ?_ | show (_ : Post) _ _ _ | show @Eq (List PV) _ _ | show @Eq Bool _ _ | show opsW _ _ _ _ _ _ _ _ | show okAll _ | show @Eq Bool _ _ ∨ _); focus (simp only [hlk, lookV, cut, SS, SS2, SS3, SS4, SS5, Option.map_some, Nat.reduceAdd, reduceIte, Nat.reduceEqDiff, Nat.reduceBEq, eq_self, implies_true, ne_eq, beq_self_eq_true, id_eq, reduceCtorEq]; (try go_unwrap; try simp only [hlk, lookV, cut, RR, reduceCtorEq]))) | refine And.intro ?_ ?_ | exact Or.inr ⟨rfl, Nat.le_refl _⟩ | exact (fun h => Bool.noConfusion h))
      refine PW.loopG (σ := Unit) 6 hmv [0, 1, 2, 3, 4, 10, 11, 12] (fun _ => [.str s, .ref 0 0, .ref 2 0, .ref 3 0, .ref 5 0, .nilSl, .int .i64 0, .int .i64 0]) (fun _ => visM T out) (fun _ => True) (fun _ => 0) () ?_ rfl trivial ?_
      · simp only [SS, SS2, SS3, SS4, SS5, Option.map_some, Nat.reduceAdd, reduceIte, Nat.reduceEqDiff, Nat.reduceBEq, eq_self, implies_true, ne_eq, beq_self_eq_true, id_eq, reduceCtorEq]; rfl
      rintro ⟨⟩ -
      simp only [List.zip_cons_cons, List.zip_nil_left]
      repeat' (first | exact True.intro | (refine PW.seqK ?_; intro K hK) | refine PW.block ?_ | refine PW.scope ?_ | refine PW.label ?_ | refine PW.exit ?_ | refine PW.ret ?_ | refine PW.skip ?_ | refine seqK_n (by assumption) ?_ | refine seqK_r (by assumption) ?_ | refine seqK_e (by assumption) ?_ | refine PW.regionA ?_ | exact schedW_stop_i | refine schK_n (by assumption) ?_ | (refine schedW_alt_k ?_ ?_; focus (intro K hK; simp only [SS, SS2, SS3, SS4, SS5, Option.map_some, Nat.reduceAdd, reduceIte, Nat.reduceEqDiff, Nat.reduceBEq, eq_self, implies_true, ne_eq, beq_self_eq_true, id_eq, reduceCtorEq]; (try go_unwrap; try simp only [RR, reduceCtorEq]))) | (refine PW.cond rfl ?_ ?_ <;> intro hcond <;> (try contradiction) <;> try simp only [decide_eq_true_eq, decide_eq_false_iff_not] at hcond) | (refine gd_i ?_; intro hg; try simp only [hg]) | ((first | show @LE.le Nat _ _ _ | show @LT.lt Nat _ _ _ | show @LE.le Int _ _ _ | show @LT.lt Int _ _ _ | show @Eq Nat _ _ | show @Eq Int _ _ | show @Eq Bool _ _ | show _ ∨ _ | show ¬ _); first | omega | (simp only [decide_eq_true_eq, decide_eq_false_iff_not, List.length_cons, List.length_nil, List.length_append, List.length_map, Sh.size] <;> omega) | (go_unwrap; omega)) | ((first | refine PW.region ?_ | refine PW.regionQ ?_ | refine schedW_done_i ?_ | show (_ : Post) _ _ _ | show @Eq (List PV) _ _ | show @Eq Bool _ _ | show opsW _ _ _ _ _ _ _ _ | show okAll _ | show @Eq Bool _ _ ∨ _); focus (simp only [SS, SS2, SS3, SS4, SS5, Option.map_some, Nat.reduceAdd, reduceIte, Nat.reduceEqDiff, Nat.reduceBEq, eq_self, implies_true, ne_eq, beq_self_eq_true, id_eq, reduceCtorEq]; (try go_unwrap; try simp only [RR, reduceCtorEq]))) | refine And.intro ?_ ?_ | exact Or.inr ⟨rfl, Nat.le_refl _⟩ | exact (fun h => Bool.noConfusion h))
      all_goals first | rfl | (rw [hd0]; rfl)
    rw [hq] at hTs hlk
    have hx0 : ns = xs := hTs
    subst hx0
    simp only at hlk
    have hlen : ((ns.map PV.str).length : Nat) = ns.length := by simp
    repeat' (first | exact True.intro | (refine PW.seqK ?_; intro K hK) | refine PW.block ?_ | refine PW.scope ?_ | refine PW.label ?_ | refine PW.exit ?_ | refine PW.ret ?_ | refine PW.skip ?_ | refine seqK_n (by assumption) ?_ | refine seqK_r (by assumption) ?_ | refine seqK_e (by assumption) ?_ | refine PW.regionA ?_ | exact schedW_stop_i | refine schK_n (by assumption) ?_ | (refine schedW_alt_k ?_ ?_; focus (intro K hK; simp only [hlk, hlen, lookV, cut, SS, SS2, SS3, SS4, SS5, Option.map_some, Nat.reduceAdd, reduceIte, Nat.reduceEqDiff, Nat.reduceBEq, eq_self, implies_true, ne_eq, beq_self_eq_true, id_eq, reduceCtorEq]; (try go_unwrap; try simp only [hlk, hlen, lookV, cut, RR, reduceCtorEq]))) | (refine PW.cond rfl ?_ ?_ <;> intro hcond <;> (try contradiction) <;> try simp only [decide_eq_true_eq, decide_eq_false_iff_not] at hcond) | (refine gd_i ?_; intro hg; try simp only [hg]) | ((first | show @LE.le Nat _ _ _ | show @LT.lt Nat _ _ _ | show @LE.le Int _ _ _ | show @LT.lt Int _ _ _ | show @Eq Nat _ _ | show @Eq Int _ _ | show @Eq Bool _ _ | show _ ∨ _ | show ¬ _); first | omega | (simp only [decide_eq_true_eq, decide_eq_false_iff_not, List.length_cons, List.length_nil, List.length_append, List.length_map, Sh.size] <;> omega) | (go_unwrap; omega)) | ((first | refine PW.region ?_ | refine PW.regionQ ?_ | refine schedW_done_i ?_ | show (_ : Post) _ _ _ | show @Eq (List PV) _ _ | show @Eq Bool _ _ | show opsW _ _ _ _ _ _ _ _ | show okAll _ | show @Eq Bool _ _ ∨ _); focus (simp only [hlk, hlen, lookV, cut, SS, SS2, SS3, SS4, SS5, Option.map_some, Nat.reduceAdd, reduceIte, Nat.reduceEqDiff, Nat.reduceBEq, eq_self, implies_true, ne_eq, beq_self_eq_true, id_eq, reduceCtorEq]; (try go_unwrap; try simp only [hlk, hlen, lookV, cut, RR, reduceCtorEq]))) | refine And.intro ?_ ?_ | exact Or.inr ⟨rfl, Nat.le_refl _⟩ | exact (fun h => Bool.noConfusion h))
    refine PW.loopG (σ := Nat × List St) 6 hmv [0, 1, 2, 3, 4, 10, 11, 12] (fun s' => [.str s, .ref 0 0, .ref 2 0, .ref 3 0, .ref 5 0, txL ns, .int .i64 ns.length, .int .i64 s'.1]) (fun s' => visM T s'.2)
      (fun s' => s'.1 ≤ ns.length ∧ s'.2.Nodup ∧ (∀ x ∈ s'.2, x ∈ U) ∧ cntU U s'.2 ≤ n ∧ dfsL nd n ns out = dfsL nd n (ns.drop s'.1) s'.2) (fun s' => ns.length - s'.1) (0, out) ?_ rfl ⟨by simp, hn, hin, by simp only; omega, rfl⟩ ?_
    · simp only [SS, SS2, SS3, SS4, SS5, Option.map_some, Nat.reduceAdd, reduceIte, Nat.reduceEqDiff, Nat.reduceBEq, eq_self, implies_true, ne_eq, beq_self_eq_true, id_eq, reduceCtorEq]; rfl
    rintro ⟨i, o⟩ ⟨hi, hon, hoU, hoc, hod⟩
    simp only at hi hon hoU hoc hod
    simp only [List.zip_cons_cons, List.zip_nil_left, visM]
    rcases Nat.lt_or_ge i ns.length with h | h
    case inr =>
      have hd : decide ((i : Int) < ns.length) = false := by simp only [decide_eq_false_iff_not]; omega
      have hR : dfsL nd n ns out = o := by rw [hod, List.drop_of_length_le h]; unfold dfsL; rfl
      repeat' (first | exact True.intro | (refine PW.seqK ?_; intro K hK) | refine PW.block ?_ | refine PW.scope ?_ | refine PW.label ?_ | refine PW.exit ?_ | refine PW.ret ?_ | refine PW.skip ?_ | refine seqK_n (by assumption) ?_ | refine seqK_r (by assumption) ?_ | refine seqK_e (by assumption) ?_ | refine PW.regionA ?_ | exact schedW_stop_i | refine schK_n (by assumption) ?_ | (refine schedW_alt_k ?_ ?_; focus (intro K hK; simp only [hd, hlen, SS, SS2, SS3, SS4, SS5, Option.map_some, Nat.reduceAdd, reduceIte, Nat.reduceEqDiff, Nat.reduceBEq, eq_self, implies_true, ne_eq, beq_self_eq_true, id_eq, reduceCtorEq]; (try go_unwrap; try simp only [hd, hlen, RR, reduceCtorEq]))) | (refine PW.cond rfl ?_ ?_ <;> intro hcond <;> (try contradiction) <;> try simp only [decide_eq_true_eq, decide_eq_false_iff_not] at hcond) | (refine gd_i ?_; intro hg; try simp only [hg]) | ((first | show @LE.le Nat _ _ _ | show @LT.lt Nat _ _ _ | show @LE.le Int _ _ _ | show @LT.lt Int _ _ _ | show @Eq Nat _ _ | show @Eq Int _ _ | show @Eq Bool _ _ | show _ ∨ _ | show ¬ _); first | omega | (simp only [decide_eq_true_eq, decide_eq_false_iff_not, List.length_cons, List.length_nil, List.length_append, List.length_map, Sh.size] <;> omega) | (go_unwrap; omega)) | ((first | refine PW.region ?_ | refine PW.regionQ ?_ | refine schedW_done_i ?_ | show (_ : Post) _ _ _ | show @Eq (List PV) _ _ | show @Eq Bool _ _ | show opsW _ _ _ _ _ _ _ _ | show okAll _ | show @Eq Bool _ _ ∨ _); focus (simp only [hd, hlen, SS, SS2, SS3, SS4, SS5, Option.map_some, Nat.reduceAdd, reduceIte, Nat.reduceEqDiff, Nat.reduceBEq, eq_self, implies_true, ne_eq, beq_self_eq_true, id_eq, reduceCtorEq]; (try go_unwrap; try simp only [hd, hlen, RR, reduceCtorEq]))) | refine And.intro ?_ ?_ | exact Or.inr ⟨rfl, Nat.le_refl _⟩ | exact (fun h => Bool.noConfusion h))
      all_goals first | (rw [hR]; done) | (rw [hR]; rfl)
    have hd : decide ((i : Int) < ns.length) = true := by simp only [decide_eq_true_eq]; omega
    have hg := tx_getD ns i h
    have hxU := hxs ns[i] (List.getElem_mem h)
    rw [List.drop_eq_getElem_cons h] at hod
    generalize ns[i] = x at hg hxU hod
    have hl1 : (mget (strM boolV (onesB o)) (.str x)).getD (.bool false) = .bool (decide (x ∈ o)) := by rw [look_bool, onesB_get]
    rw [dfsL_cons] at hod
    by_cases hx : x ∈ o
    · rw [if_pos hx] at hod
      rw [decide_eq_true hx] at hl1
      repeat' (first | exact True.intro | (refine PW.seqK ?_; intro K hK) | refine PW.block ?_ | refine PW.scope ?_ | refine PW.label ?_ | refine PW.exit ?_ | refine PW.ret ?_ | refine PW.skip ?_ | refine seqK_n (by assumption) ?_ | refine seqK_r (by assumption) ?_ | refine seqK_e (by assumption) ?_ | refine PW.regionA ?_ | exact schedW_stop_i | refine schK_n (by assumption) ?_ | (refine schedW_alt_k ?_ ?_; focus (intro K hK; simp only [hd, hg, hlen, hl1, lookV, cut, SS, SS2, SS3, SS4, SS5, Option.map_some, Nat.reduceAdd, reduceIte, Nat.reduceEqDiff, Nat.reduceBEq, eq_self, implies_true, ne_eq, beq_self_eq_true, id_eq, reduceCtorEq]; (try go_unwrap; try simp only [hd, hg, hlen, hl1, lookV, cut, RR, reduceCtorEq]))) | (refine PW.cond rfl ?_ ?_ <;> intro hcond <;> (try contradiction) <;> try simp only [decide_eq_true_eq, decide_eq_false_iff_not] at hcond) | (refine gd_i ?_; intro hg; try simp only [hg]) | ((first | show @LE.le Nat _ _ _ | show @LT.lt Nat _ _ _ | show @LE.le Int _ _ _ | show @LT.lt Int _ _ _ | show @Eq Nat _ _ | show @Eq Int _ _ | show @Eq Bool _ _ | show _ ∨ _ | show ¬ _); first | omega | (simp only [decide_eq_true_eq, decide_eq_false_iff_not, List.length_cons, List.length_nil, List.length_append, List.length_map, Sh.size] <;> omega) | (go_unwrap; omega)) | ((first | refine PW.region ?_ | refine PW.regionQ ?_ | refine schedW_done_i ?_ | show (_ : Post) _ _ _ | show @Eq (List PV) _ _ | show @Eq Bool _ _ | show opsW _ _ _ _ _ _ _ _ | show okAll _ | show @Eq Bool _ _ ∨ _); focus (simp only [hd, hg, hlen, hl1, lookV, cut, SS, SS2, SS3, SS4, SS5, Option.map_some, Nat.reduceAdd, reduceIte, Nat.reduceEqDiff, Nat.reduceBEq, eq_self, implies_true, ne_eq, beq_self_eq_true, id_eq, reduceCtorEq]; (try go_unwrap; try simp only [hd, hg, hlen, hl1, lookV, cut, RR, reduceCtorEq]))) | refine And.intro ?_ ?_ | exact Or.inr ⟨rfl, Nat.le_refl _⟩ | exact (fun h => Bool.noConfusion h))
      all_goals exact ⟨(i + 1, o), (by first | rfl | (simp only [trimE, trimM, List.take_succ_cons, List.take_zero, List.take_nil, List.map_cons, List.map_nil, Option.map_some, Option.map_none, MObj.kill, PV.kill, Nat.reduceLeDiff, decide_true, decide_false, dec_true, dec_false, Bool.false_eq_true, if_false, if_true, reduceIte, List.zip_cons_cons, List.zip_nil_left, Nat.le_refl, Nat.zero_le, Nat.not_le, Nat.lt_irrefl]; done) | (simp [trimE, trimM, MObj.kill, PV.kill]; done)), (by simp [visM, trimM, MObj.kill, PV.kill]), ⟨by simp only; omega, hon, hoU, hoc, hod⟩, by simp only; omega⟩
    · rw [if_neg hx] at hod
      rw [decide_eq_false hx] at hl1
      have hlt := cnt_lt hxU hx
      have hon' := snoc_nodup hon hx
      have hoU' : ∀ y ∈ o ++ [x], y ∈ U := fun y hy => by
        rcases List.mem_append.1 hy with hy | hy
        · exact hoU y hy
        · simp at hy; subst hy; exact hxU
      have hih := ih x (o ++ [x]) (by omega) hon' hoU'
      obtain ⟨a, b, -, -, e⟩ := (dfs_spec hU n).1 x (o ++ [x]) (by omega) hon'
      have hsz := nodup_len hon hoU
      have s1 : mset (strM boolV (onesB o)) (.str x) (.bool true) = strM boolV (onesB (o ++ [x])) := by rw [← onesB_set hx]; exact mset_str boolV _ _ _
      have ht : o.map PV.str ++ [.str x] = (o ++ [x]).map PV.str := by simp
      have hoL : ((o.map PV.str).length : Nat) = o.length := by simp
      have htk : (o.map PV.str).take o.length = o.map PV.str := List.take_of_length_le (by simp)
      have b1 : (o.length + 1) * 16 ≤ 140737488355328 := by omega
      have hol' : (o ++ [x]).length = o.length + 1 := by simp
      have hm4 : ((4 : Nat) == 4 || decide (6 ≤ 4)) = true := rfl
      simp only [visM, hol'] at hih
      repeat' (first | exact True.intro | (refine PW.seqK ?_; intro K hK) | refine PW.block ?_ | refine PW.scope ?_ | refine PW.label ?_ | refine PW.exit ?_ | refine PW.ret ?_ | refine PW.skip ?_ | refine seqK_n (by assumption) ?_ | refine seqK_r (by assumption) ?_ | refine seqK_e (by assumption) ?_ | refine PW.regionA ?_ | exact schedW_stop_i | refine schK_n (by assumption) ?_ | (refine schedW_alt_k ?_ ?_; focus (intro K hK; simp only [hd, hg, hlen, hl1, s1, hoL, htk, ht, lookV, cut, SS, SS2, SS3, SS4, SS5, Option.map_some, Nat.reduceAdd, reduceIte, Nat.reduceEqDiff, Nat.reduceBEq, eq_self, implies_true, ne_eq, beq_self_eq_true, id_eq, reduceCtorEq]; (try go_unwrap; try simp only [hd, hg, hlen, hl1, s1, hoL, htk, ht, lookV, cut, RR, reduceCtorEq]))) | (refine PW.cond rfl ?_ ?_ <;> intro hcond <;> (try contradiction) <;> try simp only [decide_eq_true_eq, decide_eq_false_iff_not] at hcond) | (refine goCall_K 4 e35 hih rfl ?_; rintro p μ' ⟨rfl, rfl⟩; simp only [hd, hg, hlen, hl1, s1, hoL, htk, ht, lookV, cut, SS, SS2, SS3, SS4, SS5, Option.map_some, Nat.reduceAdd, reduceIte, Nat.reduceEqDiff, Nat.reduceBEq, eq_self, implies_true, ne_eq, beq_self_eq_true, id_eq, reduceCtorEq]) | (refine gd_i ?_; intro hg; try simp only [hg]) | ((first | show @LE.le Nat _ _ _ | show @LT.lt Nat _ _ _ | show @LE.le Int _ _ _ | show @LT.lt Int _ _ _ | show @Eq Nat _ _ | show @Eq Int _ _ | show @Eq Bool _ _ | show _ ∨ _ | show ¬ _); first | omega | (simp only [decide_eq_true_eq, decide_eq_false_iff_not, List.length_cons, List.length_nil, List.length_append, List.length_map, Sh.size] <;> omega) | (go_unwrap; omega)) | ((first | refine PW.region ?_ | refine PW.regionQ ?_ | refine schedW_done_i ?_ | show (_ : Post) _ _ _ | show @Eq (List PV) _ _ | show @Eq Bool _ _ | show opsW _ _ _ _ _ _ _ _ | show okAll _ | show @Eq Bool _ _ ∨ _); focus (simp only [hd, hg, hlen, hl1, s1, hoL, htk, ht, lookV, cut, SS, SS2, SS3, SS4, SS5, Option.map_some, Nat.reduceAdd, reduceIte, Nat.reduceEqDiff, Nat.reduceBEq, eq_self, implies_true, ne_eq, beq_self_eq_true, id_eq, reduceCtorEq]; (try go_unwrap; try simp only [hd, hg, hlen, hl1, s1, hoL, htk, ht, lookV, cut, RR, reduceCtorEq]))) | refine And.intro ?_ ?_ | exact Or.inr ⟨rfl, Nat.le_refl _⟩ | exact (fun h => Bool.noConfusion h))
      all_goals first | rfl | exact ⟨(i + 1, dfs nd n x (o ++ [x])), (by first | rfl | (simp only [trimE, trimM, List.take_succ_cons, List.take_zero, List.take_nil, List.map_cons, List.map_nil, Option.map_some, Option.map_none, MObj.kill, PV.kill, Nat.reduceLeDiff, decide_true, decide_false, dec_true, dec_false, Bool.false_eq_true, if_false, if_true, reduceIte, List.zip_cons_cons, List.zip_nil_left, Nat.le_refl, Nat.zero_le, Nat.not_le, Nat.lt_irrefl]; done) | (simp [trimE, trimM, MObj.kill, PV.kill]; done)), (by simp [visM, trimM, MObj.kill, PV.kill]), ⟨by simp only; omega, b, (fun y hy => by
        by_cases hy' : y ∈ o ++ [x]
        · exact hoU' y hy'
        · exact rch_U hU (e y hy hy')), Nat.le_trans (cnt_le (fun y hy => a y (by simp [hy]))) hoc, hod⟩, by simp only; omega⟩
end Go.Proofs.Ytdiokmmjdpbdbaa

