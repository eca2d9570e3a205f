import Derived.Shelf.SlIter.Sorted
import Derived.RangeFuncBox
import Derived.RangeFuncLeaves
import Derived.Shelf.Abstract
import Derived.WalkKit
import Derived.OwnWalkIn
import Derived.TacticsInMore
import Derived.LoopNIn
import Derived.LoopIn
import Derived.Test.YtdiokmmjdpbdbaaQ10
import Derived.Test.YtdiokmmjdpbdbaaP4
namespace Go.Proofs.Ytdiokmmjdpbdbaa
open Go PG Go.Proofs
set_option linter.unusedSimpArgs false
set_option linter.unusedVariables false
set_option maxHeartbeats 4000000
set_option maxRecDepth 100000
theorem allN_len {l : List Ed} (hw : wrongM l = 0) : (allN l).length ≤ 4096 := by
  obtain ⟨h1, -, h3⟩ := wrongM_0.1 hw
  have key : ∀ l : List Ed, (∀ e ∈ l, e.needs.length ≤ 64) → (allN l).length ≤ 64 * l.length := by
    intro l
    induction l with
    | nil => intro _; simp [allN]
    | cons e l ih =>
      intro h
      have a := ih (fun x hx => h x (by simp [hx]))
      have b := h e (by simp)
      simp only [allN, List.flatMap_cons, List.length_append, List.length_cons] at a ⊢
      omega
  have := key l (fun e he => (h3 e he).2.1)
  omega
theorem nd_len {l : List Ed} (hw : wrongM l = 0) (s : St) : (ndM l s).length ≤ 1000000 := by
  by_cases h : s ∈ nsM l
  · obtain ⟨e, he, rfl⟩ := ns_mem.1 h
    rw [nd_at (wrongM_0.1 hw).2.1 he]
    have := ((wrongM_0.1 hw).2.2 e he).2.1
    omega
  · rw [nd_out h]; simp
theorem v16 (l : List Ed) (hl : l.length ≤ 1000000000) (hnl : ∀ e ∈ l, e.needs.length ≤ 9223372036854775807) (s : St) : VCalls Try.prog G0 16 [.str s, edL l] (txL (belowM l s)) := by
  refine VCalls.of_PW Try.func16 k16 mix (by simp [c16]) ?_
  simp only [c16, L16, argE]
  have h27 := v27 l (by omega) hnl
  have h28 := v28 l (by omega)
  have hi := look_is lstV (tabM l) s
  obtain ⟨V, hV⟩ : ∃ V, (mget (strM lstV (tabM l)) (.str s)).getD .nilSl = V := ⟨_, rfl⟩
  by_cases hw : wrongM l = 0
  case neg =>
    have d1 : decide (wrongM l = 0) = false := by simpa using hw
    have hB : belowM l s = [] := below_out (.inr hw)
    generalize (aget (tabM l) s).isSome = b at hi
    cases b
    · repeat' (first | exact True.intro | (refine PW.stop (x := .ret) ?_) | (refine PW.seqK ?_; intro K hK) | refine PW.block ?_ | refine PW.scope ?_ | refine PW.label ?_ | refine PW.exit ?_ | refine PW.ret ?_ | refine PW.skip ?_ | refine seqK_n (by assumption) ?_ | refine seqK_r (by assumption) ?_ | refine seqK_e (by assumption) ?_ | refine PW.regionA ?_ | exact schedW_stop_i | refine schK_n (by assumption) ?_ | (refine schedW_alt_k ?_ ?_; focus (intro K hK; simp only [hi, hV, d1, lookV, cut, SS, SS2, SS3, SS4, SS5, Option.map_some, Nat.reduceAdd, reduceIte, Nat.reduceEqDiff, Nat.reduceBEq, eq_self, implies_true, ne_eq, beq_self_eq_true, id_eq, reduceCtorEq]; (try go_unwrap; try simp only [hi, hV, d1, lookV, cut, RR, reduceCtorEq]))) | (refine PW.cond rfl ?_ ?_ <;> intro hcond <;> (try contradiction) <;> try simp only [decide_eq_true_eq, decide_eq_false_iff_not] at hcond) | (refine goCallG_skip rfl ?_; simp only [hi, hV, d1, lookV, cut, SS, SS2, SS3, SS4, SS5, Option.map_some, Nat.reduceAdd, reduceIte, Nat.reduceEqDiff, Nat.reduceBEq, eq_self, implies_true, ne_eq, beq_self_eq_true, id_eq, reduceCtorEq]; (try go_unwrap; try simp only [hi, hV, d1, lookV, cut, RR, reduceCtorEq])) | (refine gd_i ?_; intro hg; try simp only [hg]) | refine goCall_W e28 (h28) ?_ ?_ ?_ ?_ | ((first | show @LE.le Nat _ _ _ | show @LT.lt Nat _ _ _ | show @LE.le Int _ _ _ | show @LT.lt Int _ _ _ | show @Eq Nat _ _ | show @Eq Int _ _ | show @Eq Bool _ _ | show _ ∨ _ | show ¬ _); first | omega | (simp only [decide_eq_true_eq, decide_eq_false_iff_not, List.length_cons, List.length_nil, List.length_append, List.length_map, Sh.size] <;> omega) | (go_unwrap; omega)) | ((first | refine PW.region ?_ | refine PW.regionQ ?_ | refine schedW_done_i ?_ | show (_ : Post) _ _ _ | show @Eq (List PV) _ _ | show @Eq Bool _ _ | show opsW _ _ _ _ _ _ _ _ | show okAll _ | show @Eq Bool _ _ ∨ _); focus (simp only [hi, hV, d1, lookV, cut, SS, SS2, SS3, SS4, SS5, Option.map_some, Nat.reduceAdd, reduceIte, Nat.reduceEqDiff, Nat.reduceBEq, eq_self, implies_true, ne_eq, beq_self_eq_true, id_eq, reduceCtorEq]; (try go_unwrap; try simp only [hi, hV, d1, lookV, cut, RR, reduceCtorEq]))) | refine And.intro ?_ ?_ | exact Or.inr ⟨rfl, Nat.le_refl _⟩ | exact (fun h => Bool.noConfusion h))
      all_goals
        refine ⟨?_⟩
        refine PW.subE none 4 rfl ?_
        repeat' (first | exact True.intro | (refine PW.seqK ?_; intro K hK) | refine PW.block ?_ | refine PW.scope ?_ | refine PW.label ?_ | refine PW.exit ?_ | refine PW.ret ?_ | refine PW.skip ?_ | refine seqK_n (by assumption) ?_ | refine seqK_r (by assumption) ?_ | refine seqK_e (by assumption) ?_ | refine PW.regionA ?_ | exact schedW_stop_i | refine schK_n (by assumption) ?_ | (refine schedW_alt_k ?_ ?_; focus (intro K hK; simp only [SS, SS2, SS3, SS4, SS5, Option.map_some, Nat.reduceAdd, reduceIte, Nat.reduceEqDiff, Nat.reduceBEq, eq_self, implies_true, ne_eq, beq_self_eq_true, id_eq, reduceCtorEq]; (try go_unwrap; try simp only [RR, reduceCtorEq]))) | (refine PW.cond rfl ?_ ?_ <;> intro hcond <;> (try contradiction) <;> try simp only [decide_eq_true_eq, decide_eq_false_iff_not] at hcond) | (refine gd_i ?_; intro hg; try simp only [hg]) | ((first | show @LE.le Nat _ _ _ | show @LT.lt Nat _ _ _ | show @LE.le Int _ _ _ | show @LT.lt Int _ _ _ | show @Eq Nat _ _ | show @Eq Int _ _ | show @Eq Bool _ _ | show _ ∨ _ | show ¬ _); first | omega | (simp only [decide_eq_true_eq, decide_eq_false_iff_not, List.length_cons, List.length_nil, List.length_append, List.length_map, Sh.size] <;> omega) | (go_unwrap; omega)) | ((first | refine PW.region ?_ | refine PW.regionQ ?_ | refine schedW_done_i ?_ | show (_ : Post) _ _ _ | show @Eq (List PV) _ _ | show @Eq Bool _ _ | show opsW _ _ _ _ _ _ _ _ | show okAll _ | show @Eq Bool _ _ ∨ _); focus (simp only [SS, SS2, SS3, SS4, SS5, Option.map_some, Nat.reduceAdd, reduceIte, Nat.reduceEqDiff, Nat.reduceBEq, eq_self, implies_true, ne_eq, beq_self_eq_true, id_eq, reduceCtorEq]; (try go_unwrap; try simp only [RR, reduceCtorEq]))) | refine And.intro ?_ ?_ | exact Or.inr ⟨rfl, Nat.le_refl _⟩ | exact (fun h => Bool.noConfusion h))
        rw [hB]; rfl
    · repeat' (first | exact True.intro | (refine PW.stop (x := .ret) ?_) | (refine PW.seqK ?_; intro K hK) | refine PW.block ?_ | refine PW.scope ?_ | refine PW.label ?_ | refine PW.exit ?_ | refine PW.ret ?_ | refine PW.skip ?_ | refine seqK_n (by assumption) ?_ | refine seqK_r (by assumption) ?_ | refine seqK_e (by assumption) ?_ | refine PW.regionA ?_ | exact schedW_stop_i | refine schK_n (by assumption) ?_ | (refine schedW_alt_k ?_ ?_; focus (intro K hK; simp only [hi, hV, d1, lookV, cut, SS, SS2, SS3, SS4, SS5, Option.map_some, Nat.reduceAdd, reduceIte, Nat.reduceEqDiff, Nat.reduceBEq, eq_self, implies_true, ne_eq, beq_self_eq_true, id_eq, reduceCtorEq]; (try go_unwrap; try simp only [hi, hV, d1, lookV, cut, RR, reduceCtorEq]))) | (refine PW.cond rfl ?_ ?_ <;> intro hcond <;> (try contradiction) <;> try simp only [decide_eq_true_eq, decide_eq_false_iff_not] at hcond) | (refine gd_i ?_; intro hg; try simp only [hg]) | refine goCall_W e28 (h28) ?_ ?_ ?_ ?_ | refine goCallG_W e27 (h27) ?_ ?_ ?_ ?_ ?_ | ((first | show @LE.le Nat _ _ _ | show @LT.lt Nat _ _ _ | show @LE.le Int _ _ _ | show @LT.lt Int _ _ _ | show @Eq Nat _ _ | show @Eq Int _ _ | show @Eq Bool _ _ | show _ ∨ _ | show ¬ _); first | omega | (simp only [decide_eq_true_eq, decide_eq_false_iff_not, List.length_cons, List.length_nil, List.length_append, List.length_map, Sh.size] <;> omega) | (go_unwrap; omega)) | ((first | refine PW.region ?_ | refine PW.regionQ ?_ | refine schedW_done_i ?_ | show (_ : Post) _ _ _ | show @Eq (List PV) _ _ | show @Eq Bool _ _ | show opsW _ _ _ _ _ _ _ _ | show okAll _ | show @Eq Bool _ _ ∨ _); focus (simp only [hi, hV, d1, lookV, cut, SS, SS2, SS3, SS4, SS5, Option.map_some, Nat.reduceAdd, reduceIte, Nat.reduceEqDiff, Nat.reduceBEq, eq_self, implies_true, ne_eq, beq_self_eq_true, id_eq, reduceCtorEq]; (try go_unwrap; try simp only [hi, hV, d1, lookV, cut, RR, reduceCtorEq]))) | refine And.intro ?_ ?_ | exact Or.inr ⟨rfl, Nat.le_refl _⟩ | exact (fun h => Bool.noConfusion h))
      all_goals
        refine ⟨?_⟩
        refine PW.subE none 4 rfl ?_
        repeat' (first | exact True.intro | (refine PW.seqK ?_; intro K hK) | refine PW.block ?_ | refine PW.scope ?_ | refine PW.label ?_ | refine PW.exit ?_ | refine PW.ret ?_ | refine PW.skip ?_ | refine seqK_n (by assumption) ?_ | refine seqK_r (by assumption) ?_ | refine seqK_e (by assumption) ?_ | refine PW.regionA ?_ | exact schedW_stop_i | refine schK_n (by assumption) ?_ | (refine schedW_alt_k ?_ ?_; focus (intro K hK; simp only [SS, SS2, SS3, SS4, SS5, Option.map_some, Nat.reduceAdd, reduceIte, Nat.reduceEqDiff, Nat.reduceBEq, eq_self, implies_true, ne_eq, beq_self_eq_true, id_eq, reduceCtorEq]; (try go_unwrap; try simp only [RR, reduceCtorEq]))) | (refine PW.cond rfl ?_ ?_ <;> intro hcond <;> (try contradiction) <;> try simp only [decide_eq_true_eq, decide_eq_false_iff_not] at hcond) | (refine gd_i ?_; intro hg; try simp only [hg]) | ((first | show @LE.le Nat _ _ _ | show @LT.lt Nat _ _ _ | show @LE.le Int _ _ _ | show @LT.lt Int _ _ _ | show @Eq Nat _ _ | show @Eq Int _ _ | show @Eq Bool _ _ | show _ ∨ _ | show ¬ _); first | omega | (simp only [decide_eq_true_eq, decide_eq_false_iff_not, List.length_cons, List.length_nil, List.length_append, List.length_map, Sh.size] <;> omega) | (go_unwrap; omega)) | ((first | refine PW.region ?_ | refine PW.regionQ ?_ | refine schedW_done_i ?_ | show (_ : Post) _ _ _ | show @Eq (List PV) _ _ | show @Eq Bool _ _ | show opsW _ _ _ _ _ _ _ _ | show okAll _ | show @Eq Bool _ _ ∨ _); focus (simp only [SS, SS2, SS3, SS4, SS5, Option.map_some, Nat.reduceAdd, reduceIte, Nat.reduceEqDiff, Nat.reduceBEq, eq_self, implies_true, ne_eq, beq_self_eq_true, id_eq, reduceCtorEq]; (try go_unwrap; try simp only [RR, reduceCtorEq]))) | refine And.intro ?_ ?_ | exact Or.inr ⟨rfl, Nat.le_refl _⟩ | exact (fun h => Bool.noConfusion h))
        rw [hB]; rfl
  rw [hw] at h27
  by_cases hs : s ∈ nsM l
  case neg =>
    have hB : belowM l s = [] := below_out (.inl hs)
    rw [tab_at hw, if_neg hs] at hi
    have hi : (mget (strM lstV (tabM l)) (.str s)).isSome = false := hi
    repeat' (first | exact True.intro | (refine PW.stop (x := .ret) ?_) | (refine PW.seqK ?_; intro K hK) | refine PW.block ?_ | refine PW.scope ?_ | refine PW.label ?_ | refine PW.exit ?_ | refine PW.ret ?_ | refine PW.skip ?_ | refine seqK_n (by assumption) ?_ | refine seqK_r (by assumption) ?_ | refine seqK_e (by assumption) ?_ | refine PW.regionA ?_ | exact schedW_stop_i | refine schK_n (by assumption) ?_ | (refine schedW_alt_k ?_ ?_; focus (intro K hK; simp only [hi, hV, lookV, cut, SS, SS2, SS3, SS4, SS5, Option.map_some, Nat.reduceAdd, reduceIte, Nat.reduceEqDiff, Nat.reduceBEq, eq_self, implies_true, ne_eq, beq_self_eq_true, id_eq, reduceCtorEq]; (try go_unwrap; try simp only [hi, hV, lookV, cut, RR, reduceCtorEq]))) | (refine PW.cond rfl ?_ ?_ <;> intro hcond <;> (try contradiction) <;> try simp only [decide_eq_true_eq, decide_eq_false_iff_not] at hcond) | (refine goCallG_skip rfl ?_; simp only [hi, hV, lookV, cut, SS, SS2, SS3, SS4, SS5, Option.map_some, Nat.reduceAdd, reduceIte, Nat.reduceEqDiff, Nat.reduceBEq, eq_self, implies_true, ne_eq, beq_self_eq_true, id_eq, reduceCtorEq]; (try go_unwrap; try simp only [hi, hV, lookV, cut, RR, reduceCtorEq])) | (refine gd_i ?_; intro hg; try simp only [hg]) | refine goCall_W e28 (h28) ?_ ?_ ?_ ?_ | ((first | show @LE.le Nat _ _ _ | show @LT.lt Nat _ _ _ | show @LE.le Int _ _ _ | show @LT.lt Int _ _ _ | show @Eq Nat _ _ | show @Eq Int _ _ | show @Eq Bool _ _ | show _ ∨ _ | show ¬ _); first | omega | (simp only [decide_eq_true_eq, decide_eq_false_iff_not, List.length_cons, List.length_nil, List.length_append, List.length_map, Sh.size] <;> omega) | (go_unwrap; omega)) | ((first | refine PW.region ?_ | refine PW.regionQ ?_ | refine schedW_done_i ?_ | show (_ : Post) _ _ _ | show @Eq (List PV) _ _ | show @Eq Bool _ _ | show opsW _ _ _ _ _ _ _ _ | show okAll _ | show @Eq Bool _ _ ∨ _); focus (simp only [hi, hV, lookV, cut, SS, SS2, SS3, SS4, SS5, Option.map_some, Nat.reduceAdd, reduceIte, Nat.reduceEqDiff, Nat.reduceBEq, eq_self, implies_true, ne_eq, beq_self_eq_true, id_eq, reduceCtorEq]; (try go_unwrap; try simp only [hi, hV, lookV, cut, RR, reduceCtorEq]))) | refine And.intro ?_ ?_ | exact Or.inr ⟨rfl, Nat.le_refl _⟩ | exact (fun h => Bool.noConfusion h))
    all_goals
      refine ⟨?_⟩
      refine PW.subE none 4 rfl ?_
      repeat' (first | exact True.intro | (refine PW.seqK ?_; intro K hK) | refine PW.block ?_ | refine PW.scope ?_ | refine PW.label ?_ | refine PW.exit ?_ | refine PW.ret ?_ | refine PW.skip ?_ | refine seqK_n (by assumption) ?_ | refine seqK_r (by assumption) ?_ | refine seqK_e (by assumption) ?_ | refine PW.regionA ?_ | exact schedW_stop_i | refine schK_n (by assumption) ?_ | (refine schedW_alt_k ?_ ?_; focus (intro K hK; simp only [SS, SS2, SS3, SS4, SS5, Option.map_some, Nat.reduceAdd, reduceIte, Nat.reduceEqDiff, Nat.reduceBEq, eq_self, implies_true, ne_eq, beq_self_eq_true, id_eq, reduceCtorEq]; (try go_unwrap; try simp only [RR, reduceCtorEq]))) | (refine PW.cond rfl ?_ ?_ <;> intro hcond <;> (try contradiction) <;> try simp only [decide_eq_true_eq, decide_eq_false_iff_not] at hcond) | (refine gd_i ?_; intro hg; try simp only [hg]) | ((first | show @LE.le Nat _ _ _ | show @LT.lt Nat _ _ _ | show @LE.le Int _ _ _ | show @LT.lt Int _ _ _ | show @Eq Nat _ _ | show @Eq Int _ _ | show @Eq Bool _ _ | show _ ∨ _ | show ¬ _); first | omega | (simp only [decide_eq_true_eq, decide_eq_false_iff_not, List.length_cons, List.length_nil, List.length_append, List.length_map, Sh.size] <;> omega) | (go_unwrap; omega)) | ((first | refine PW.region ?_ | refine PW.regionQ ?_ | refine schedW_done_i ?_ | show (_ : Post) _ _ _ | show @Eq (List PV) _ _ | show @Eq Bool _ _ | show opsW _ _ _ _ _ _ _ _ | show okAll _ | show @Eq Bool _ _ ∨ _); focus (simp only [SS, SS2, SS3, SS4, SS5, Option.map_some, Nat.reduceAdd, reduceIte, Nat.reduceEqDiff, Nat.reduceBEq, eq_self, implies_true, ne_eq, beq_self_eq_true, id_eq, reduceCtorEq]; (try go_unwrap; try simp only [RR, reduceCtorEq]))) | refine And.intro ?_ ?_ | exact Or.inr ⟨rfl, Nat.le_refl _⟩ | exact (fun h => Bool.noConfusion h))
      rw [hB]; rfl
  have hi : (mget (strM lstV (tabM l)) (.str s)).isSome = true := by rw [hi, tab_at hw, if_pos hs]; rfl
  have hB : belowM l s = sortT (dfs (ndM l) ((allN l).length + 1) s []) := by unfold belowM; rw [if_neg (by simp [hs, hw])]
  have hc : cntU (allN l) [] < (allN l).length + 1 := by
    have := List.length_filter_le (fun x => !decide (x ∈ ([] : List St))) (allN l)
    unfold cntU; omega
  have hal := allN_len hw
  have hV35 := v35 (tabM l) (ndM l) (allN l) nd_all (by omega) (tab_nd hw) (nd_len hw) ((allN l).length + 1) s [] hc List.nodup_nil (by simp)
  have hOl : (dfs (ndM l) ((allN l).length + 1) s []).length ≤ 1000000 := by
    have := nodup_len (dfs_nodup (U := allN l) nd_all hc (s := s)) (b := allN l) (fun y hy => rch_U nd_all ((dfs_mem nd_all hc y).1 hy))
    omega
  generalize dfs (ndM l) ((allN l).length + 1) s [] = O at hV35 hB hOl
  generalize tabM l = T at h28 hi hV hV35
  have hV35 := hV35
  simp only [visM, onesB, List.map_nil, List.length_nil] at hV35
  have hm : strM boolV [] = [] := rfl
  rw [hm] at hV35
  repeat' (first | exact True.intro | (refine PW.stop (x := .seq (.region false (⟨some 10, none, .eff (.alloc none .nilFn) []⟩ :: _) _) _) ?_) | (refine PW.seqK ?_; intro K hK) | refine PW.block ?_ | refine PW.scope ?_ | refine PW.label ?_ | refine PW.exit ?_ | refine PW.ret ?_ | refine PW.skip ?_ | refine seqK_n (by assumption) ?_ | refine seqK_r (by assumption) ?_ | refine seqK_e (by assumption) ?_ | refine PW.regionA ?_ | exact schedW_stop_i | refine schK_n (by assumption) ?_ | (refine schedW_alt_k ?_ ?_; focus (intro K hK; simp only [hi, hV, lookV, cut, SS, SS2, SS3, SS4, SS5, Option.map_some, Nat.reduceAdd, reduceIte, Nat.reduceEqDiff, Nat.reduceBEq, eq_self, implies_true, ne_eq, beq_self_eq_true, id_eq, reduceCtorEq]; (try go_unwrap; try simp only [hi, hV, lookV, cut, RR, reduceCtorEq]))) | (refine PW.cond rfl ?_ ?_ <;> intro hcond <;> (try contradiction) <;> try simp only [decide_eq_true_eq, decide_eq_false_iff_not] at hcond) | (refine gd_i ?_; intro hg; try simp only [hg]) | refine goCall_W e28 (h28) ?_ ?_ ?_ ?_ | refine goCallG_W e27 (h27) ?_ ?_ ?_ ?_ ?_ | ((first | show @LE.le Nat _ _ _ | show @LT.lt Nat _ _ _ | show @LE.le Int _ _ _ | show @LT.lt Int _ _ _ | show @Eq Nat _ _ | show @Eq Int _ _ | show @Eq Bool _ _ | show _ ∨ _ | show ¬ _); first | omega | (simp only [decide_eq_true_eq, decide_eq_false_iff_not, List.length_cons, List.length_nil, List.length_append, List.length_map, Sh.size] <;> omega) | (go_unwrap; omega)) | ((first | refine PW.region ?_ | refine PW.regionQ ?_ | refine schedW_done_i ?_ | show (_ : Post) _ _ _ | show @Eq (List PV) _ _ | show @Eq Bool _ _ | show opsW _ _ _ _ _ _ _ _ | show okAll _ | show @Eq Bool _ _ ∨ _); focus (simp only [hi, hV, lookV, cut, SS, SS2, SS3, SS4, SS5, Option.map_some, Nat.reduceAdd, reduceIte, Nat.reduceEqDiff, Nat.reduceBEq, eq_self, implies_true, ne_eq, beq_self_eq_true, id_eq, reduceCtorEq]; (try go_unwrap; try simp only [hi, hV, lookV, cut, RR, reduceCtorEq]))) | refine And.intro ?_ ?_ | exact Or.inr ⟨rfl, Nat.le_refl _⟩ | exact (fun h => Bool.noConfusion h))
  refine ⟨?_⟩
  refine PW.ownV 3 none rfl ?_
  simp only [SS, SS2, SS3, SS4, SS5, Option.map_some, Nat.reduceAdd, reduceIte, Nat.reduceEqDiff, Nat.reduceBEq, eq_self, implies_true, ne_eq, beq_self_eq_true, id_eq, reduceCtorEq]
  have h36 := v36 (μ := visM T O) (t := 4) O (by omega) rfl
  simp only [visM] at h36
  have hOL : ((O.map PV.str).length : Nat) = O.length := by simp
  have hsl : ((sortT O).map PV.str).length = O.length := by simp [sort_len]
  have htk : ((sortT O).map PV.str).take O.length = (sortT O).map PV.str := List.take_of_length_le (by omega)
  repeat' (first | exact True.intro | (refine PW.seqK ?_; intro K hK) | refine PW.block ?_ | refine PW.scope ?_ | refine PW.label ?_ | refine PW.exit ?_ | refine PW.ret ?_ | refine PW.skip ?_ | refine seqK_n (by assumption) ?_ | refine seqK_r (by assumption) ?_ | refine seqK_e (by assumption) ?_ | refine PW.regionA ?_ | exact schedW_stop_i | refine schK_n (by assumption) ?_ | (refine schedW_alt_k ?_ ?_; focus (intro K hK; simp only [hsl, htk, List.take_zero, List.drop_zero, Nat.le_refl, and_self, if_true, SS, SS2, SS3, SS4, SS5, Option.map_some, Nat.reduceAdd, reduceIte, Nat.reduceEqDiff, Nat.reduceBEq, eq_self, implies_true, ne_eq, beq_self_eq_true, id_eq, reduceCtorEq]; (try go_unwrap; try simp only [hsl, htk, List.take_zero, List.drop_zero, Nat.le_refl, and_self, if_true, RR, reduceCtorEq]))) | (refine PW.cond rfl ?_ ?_ <;> intro hcond <;> (try contradiction) <;> try simp only [decide_eq_true_eq, decide_eq_false_iff_not] at hcond) | (refine goCall_K 4 e35 hV35 rfl ?_; rintro p μ' ⟨rfl, rfl⟩; simp only [visM, hsl, htk, List.take_zero, List.drop_zero, Nat.le_refl, and_self, if_true, SS, SS2, SS3, SS4, SS5, Option.map_some, Nat.reduceAdd, reduceIte, Nat.reduceEqDiff, Nat.reduceBEq, eq_self, implies_true, ne_eq, beq_self_eq_true, id_eq, reduceCtorEq]) | (refine goCall_P e36 h36 ?_; rintro p μ' ⟨rfl, rfl⟩; simp only [hsl, htk, List.take_zero, List.drop_zero, Nat.le_refl, and_self, if_true, SS, SS2, SS3, SS4, SS5, Option.map_some, Nat.reduceAdd, reduceIte, Nat.reduceEqDiff, Nat.reduceBEq, eq_self, implies_true, ne_eq, beq_self_eq_true, id_eq, reduceCtorEq]) | (refine gd_i ?_; intro hg; try simp only [hg]) | ((first | show @LE.le Nat _ _ _ | show @LT.lt Nat _ _ _ | show @LE.le Int _ _ _ | show @LT.lt Int _ _ _ | show @Eq Nat _ _ | show @Eq Int _ _ | show @Eq Bool _ _ | show _ ∨ _ | show ¬ _); first | omega | (simp only [decide_eq_true_eq, decide_eq_false_iff_not, List.length_cons, List.length_nil, List.length_append, List.length_map, Sh.size] <;> omega) | (go_unwrap; omega)) | ((first | refine PW.region ?_ | refine PW.regionQ ?_ | refine schedW_done_i ?_ | show (_ : Post) _ _ _ | show @Eq (List PV) _ _ | show @Eq Bool _ _ | show opsW _ _ _ _ _ _ _ _ | show okAll _ | show @Eq Bool _ _ ∨ _); focus (simp only [hsl, htk, List.take_zero, List.drop_zero, Nat.le_refl, and_self, if_true, SS, SS2, SS3, SS4, SS5, Option.map_some, Nat.reduceAdd, reduceIte, Nat.reduceEqDiff, Nat.reduceBEq, eq_self, implies_true, ne_eq, beq_self_eq_true, id_eq, reduceCtorEq]; (try go_unwrap; try simp only [hsl, htk, List.take_zero, List.drop_zero, Nat.le_refl, and_self, if_true, RR, reduceCtorEq]))) | refine And.intro ?_ ?_ | exact Or.inr ⟨rfl, Nat.le_refl _⟩ | exact (fun h => Bool.noConfusion h))
  all_goals (rw [hB])
end Go.Proofs.Ytdiokmmjdpbdbaa

namespace Go.Proofs.Ytdiokmmjdpbdbaa
open Go PG Go.Proofs
set_option linter.unusedSimpArgs false
set_option linter.unusedVariables false
set_option maxHeartbeats 4000000
set_option maxRecDepth 100000
theorem below_len {l : List Ed} (s : St) : (belowM l s).length ≤ 4096 := by
  by_cases hw : wrongM l = 0
  · have := nodup_len (below_rise (l := l) s).nodup (b := allN l) (fun y hy => by
      rw [below_iff hw] at hy; exact rch_U nd_all hy)
    have := allN_len hw
    omega
  · rw [below_out (.inr hw)]; simp
theorem v18 (l : List Ed) (hl : l.length ≤ 1000000000) (hnl : ∀ e ∈ l, e.needs.length ≤ 9223372036854775807) (s : St) : VCalls Try.prog G0 18 [.str s, edL l] (txL (aboveM l s)) := by
  refine VCalls.of_PW Try.func18 k18 mix (by simp [c18]) ?_
  simp only [c18, L18, argE]
  have h27 := v27 l (by omega) hnl
  have h16 := v16 l hl hnl
  have hlen : ((l.map edP).length : Nat) = l.length := by simp
  by_cases hw : wrongM l = 0
  case neg =>
    have d1 : decide (wrongM l = 0) = false := by simpa using hw
    have hB : aboveM l s = [] := by unfold aboveM; rw [if_pos hw]
    repeat' (first | exact True.intro | (refine PW.stop (x := .ret) ?_) | (refine PW.seqK ?_; intro K hK) | refine PW.block ?_ | refine PW.scope ?_ | refine PW.label ?_ | refine PW.exit ?_ | refine PW.ret ?_ | refine PW.skip ?_ | refine seqK_n (by assumption) ?_ | refine seqK_r (by assumption) ?_ | refine seqK_e (by assumption) ?_ | refine PW.regionA ?_ | exact schedW_stop_i | refine schK_n (by assumption) ?_ | (refine schedW_alt_k ?_ ?_; focus (intro K hK; simp only [d1, SS, SS2, SS3, SS4, SS5, Option.map_some, Nat.reduceAdd, reduceIte, Nat.reduceEqDiff, Nat.reduceBEq, eq_self, implies_true, ne_eq, beq_self_eq_true, id_eq, reduceCtorEq]; (try go_unwrap; try simp only [d1, RR, reduceCtorEq]))) | (refine PW.cond rfl ?_ ?_ <;> intro hcond <;> (try contradiction) <;> try simp only [decide_eq_true_eq, decide_eq_false_iff_not] at hcond) | (refine gd_i ?_; intro hg; try simp only [hg]) | refine goCall_W e27 (h27) ?_ ?_ ?_ ?_ | ((first | show @LE.le Nat _ _ _ | show @LT.lt Nat _ _ _ | show @LE.le Int _ _ _ | show @LT.lt Int _ _ _ | show @Eq Nat _ _ | show @Eq Int _ _ | show @Eq Bool _ _ | show _ ∨ _ | show ¬ _); first | omega | (simp only [decide_eq_true_eq, decide_eq_false_iff_not, List.length_cons, List.length_nil, List.length_append, List.length_map, Sh.size] <;> omega) | (go_unwrap; omega)) | ((first | refine PW.region ?_ | refine PW.regionQ ?_ | refine schedW_done_i ?_ | show (_ : Post) _ _ _ | show @Eq (List PV) _ _ | show @Eq Bool _ _ | show opsW _ _ _ _ _ _ _ _ | show okAll _ | show @Eq Bool _ _ ∨ _); focus (simp only [d1, SS, SS2, SS3, SS4, SS5, Option.map_some, Nat.reduceAdd, reduceIte, Nat.reduceEqDiff, Nat.reduceBEq, eq_self, implies_true, ne_eq, beq_self_eq_true, id_eq, reduceCtorEq]; (try go_unwrap; try simp only [d1, RR, reduceCtorEq]))) | refine And.intro ?_ ?_ | exact Or.inr ⟨rfl, Nat.le_refl _⟩ | exact (fun h => Bool.noConfusion h))
    all_goals
      refine ⟨?_⟩
      refine PW.subE none 4 rfl ?_
      repeat' (first | exact True.intro | (refine PW.seqK ?_; intro K hK) | refine PW.block ?_ | refine PW.scope ?_ | refine PW.label ?_ | refine PW.exit ?_ | refine PW.ret ?_ | refine PW.skip ?_ | refine seqK_n (by assumption) ?_ | refine seqK_r (by assumption) ?_ | refine seqK_e (by assumption) ?_ | refine PW.regionA ?_ | exact schedW_stop_i | refine schK_n (by assumption) ?_ | (refine schedW_alt_k ?_ ?_; focus (intro K hK; simp only [SS, SS2, SS3, SS4, SS5, Option.map_some, Nat.reduceAdd, reduceIte, Nat.reduceEqDiff, Nat.reduceBEq, eq_self, implies_true, ne_eq, beq_self_eq_true, id_eq, reduceCtorEq]; (try go_unwrap; try simp only [RR, reduceCtorEq]))) | (refine PW.cond rfl ?_ ?_ <;> intro hcond <;> (try contradiction) <;> try simp only [decide_eq_true_eq, decide_eq_false_iff_not] at hcond) | (refine gd_i ?_; intro hg; try simp only [hg]) | ((first | show @LE.le Nat _ _ _ | show @LT.lt Nat _ _ _ | show @LE.le Int _ _ _ | show @LT.lt Int _ _ _ | show @Eq Nat _ _ | show @Eq Int _ _ | show @Eq Bool _ _ | show _ ∨ _ | show ¬ _); first | omega | (simp only [decide_eq_true_eq, decide_eq_false_iff_not, List.length_cons, List.length_nil, List.length_append, List.length_map, Sh.size] <;> omega) | (go_unwrap; omega)) | ((first | refine PW.region ?_ | refine PW.regionQ ?_ | refine schedW_done_i ?_ | show (_ : Post) _ _ _ | show @Eq (List PV) _ _ | show @Eq Bool _ _ | show opsW _ _ _ _ _ _ _ _ | show okAll _ | show @Eq Bool _ _ ∨ _); focus (simp only [SS, SS2, SS3, SS4, SS5, Option.map_some, Nat.reduceAdd, reduceIte, Nat.reduceEqDiff, Nat.reduceBEq, eq_self, implies_true, ne_eq, beq_self_eq_true, id_eq, reduceCtorEq]; (try go_unwrap; try simp only [RR, reduceCtorEq]))) | refine And.intro ?_ ?_ | exact Or.inr ⟨rfl, Nat.le_refl _⟩ | exact (fun h => Bool.noConfusion h))
      rw [hB]; rfl
  rw [hw] at h27
  have hl64 := (wrongM_0.1 hw).1
  have hB : aboveM l s = sortT ((l.filter fun e => decide (s ∈ belowM l e.name)).map (·.name)) := by unfold aboveM; rw [if_neg (by simp [hw])]
  have h39 := fun x => v39 (belowM l x) s (by have := below_len (l := l) x; omega)
  obtain ⟨p, hp⟩ : ∃ p : St → Bool, ∀ x, p x = decide (s ∈ belowM l x) := ⟨_, fun _ => rfl⟩
  obtain ⟨X, hX⟩ : ∃ X : St → List St, ∀ x, X x = belowM l x := ⟨_, fun _ => rfl⟩
  simp only [← hp] at h39 hB
  simp only [← hX] at h39 h16
  repeat' (first | exact True.intro | (refine PW.seqK ?_; intro K hK) | refine PW.block ?_ | refine PW.scope ?_ | refine PW.label ?_ | refine PW.exit ?_ | refine PW.ret ?_ | refine PW.skip ?_ | refine seqK_n (by assumption) ?_ | refine seqK_r (by assumption) ?_ | refine seqK_e (by assumption) ?_ | refine PW.regionA ?_ | exact schedW_stop_i | refine schK_n (by assumption) ?_ | (refine schedW_alt_k ?_ ?_; focus (intro K hK; simp only [hlen, SS, SS2, SS3, SS4, SS5, Option.map_some, Nat.reduceAdd, reduceIte, Nat.reduceEqDiff, Nat.reduceBEq, eq_self, implies_true, ne_eq, beq_self_eq_true, id_eq, reduceCtorEq]; (try go_unwrap; try simp only [hlen, RR, reduceCtorEq]))) | (refine PW.cond rfl ?_ ?_ <;> intro hcond <;> (try contradiction) <;> try simp only [decide_eq_true_eq, decide_eq_false_iff_not] at hcond) | (refine gd_i ?_; intro hg; try simp only [hg]) | refine goCall_W e27 (h27) ?_ ?_ ?_ ?_ | ((first | show @LE.le Nat _ _ _ | show @LT.lt Nat _ _ _ | show @LE.le Int _ _ _ | show @LT.lt Int _ _ _ | show @Eq Nat _ _ | show @Eq Int _ _ | show @Eq Bool _ _ | show _ ∨ _ | show ¬ _); first | omega | (simp only [decide_eq_true_eq, decide_eq_false_iff_not, List.length_cons, List.length_nil, List.length_append, List.length_map, Sh.size] <;> omega) | (go_unwrap; omega)) | ((first | refine PW.region ?_ | refine PW.regionQ ?_ | refine schedW_done_i ?_ | show (_ : Post) _ _ _ | show @Eq (List PV) _ _ | show @Eq Bool _ _ | show opsW _ _ _ _ _ _ _ _ | show okAll _ | show @Eq Bool _ _ ∨ _); focus (simp only [hlen, SS, SS2, SS3, SS4, SS5, Option.map_some, Nat.reduceAdd, reduceIte, Nat.reduceEqDiff, Nat.reduceBEq, eq_self, implies_true, ne_eq, beq_self_eq_true, id_eq, reduceCtorEq]; (try go_unwrap; try simp only [hlen, RR, reduceCtorEq]))) | refine And.intro ?_ ?_ | exact Or.inr ⟨rfl, Nat.le_refl _⟩ | exact (fun h => Bool.noConfusion h))
  refine PW.own none 5 rfl ?_
  refine PW.loopG (σ := Nat) 1 (fun _ _ => rfl) [0, 1, 5, 11, 12, 13] (fun i => [.str s, edL l, .sl none 0 ((l.take i).filter fun e => p e.name).length, edL l, .int .i64 l.length, .int .i64 i]) (fun i => [some (.row none ((((l.take i).filter fun e => p e.name).map (·.name)).map PV.str))]) (fun i => i ≤ l.length) (fun i => l.length - i) 0 ?_ (by simp) (by omega) ?_
  · simp only [SS, SS2, SS3, SS4, SS5, Option.map_some, Nat.reduceAdd, reduceIte, Nat.reduceEqDiff, Nat.reduceBEq, eq_self, implies_true, ne_eq, beq_self_eq_true, id_eq, reduceCtorEq]; rfl
  rintro i hi
  simp only [List.zip_cons_cons, List.zip_nil_left]
  rcases Nat.lt_or_ge i l.length with h | h
  · have hd : decide ((i : Int) < l.length) = true := by simp only [decide_eq_true_eq]; omega
    have hg := ed_getD l i h
    have ht : (l.take (i + 1)).filter (fun e => p e.name) = (l.take i).filter (fun e => p e.name) ++ if p l[i].name = true then [l[i]] else [] := by
      rw [List.take_succ_eq_append_getElem h, List.filter_append]; simp [List.filter_cons]
    have hle : ((l.take i).filter fun e => p e.name).length ≤ 64 := Nat.le_trans (List.length_filter_le _ _) (by simp; omega)
    generalize l[i] = e at hg ht
    have h39e := h39 e.name
    have h16e := h16 e.name
    generalize (l.take i).filter (fun e => p e.name) = F at ht hle
    generalize X e.name = B at h39e h16e
    simp only [edP] at hg
    cases hpe : p e.name with
    | false =>
      rw [hpe] at ht h39e
      simp only [Bool.false_eq_true, if_false, List.append_nil] at ht
      repeat' (first | exact True.intro | (refine PW.seqK ?_; intro K hK) | refine PW.block ?_ | refine PW.scope ?_ | refine PW.label ?_ | refine PW.exit ?_ | refine PW.ret ?_ | refine PW.skip ?_ | refine seqK_n (by assumption) ?_ | refine seqK_r (by assumption) ?_ | refine seqK_e (by assumption) ?_ | refine PW.regionA ?_ | exact schedW_stop_i | refine schK_n (by assumption) ?_ | (refine schedW_alt_k ?_ ?_; focus (intro K hK; simp only [hd, hg, hlen, SS, SS2, SS3, SS4, SS5, Option.map_some, Nat.reduceAdd, reduceIte, Nat.reduceEqDiff, Nat.reduceBEq, eq_self, implies_true, ne_eq, beq_self_eq_true, id_eq, reduceCtorEq]; (try go_unwrap; try simp only [hd, hg, hlen, RR, reduceCtorEq]))) | (refine PW.cond rfl ?_ ?_ <;> intro hcond <;> (try contradiction) <;> try simp only [decide_eq_true_eq, decide_eq_false_iff_not] at hcond) | (refine gd_i ?_; intro hg; try simp only [hg]) | refine goCall_W e16 (h16e) ?_ ?_ ?_ ?_ | refine goCall_W e39 (h39e) ?_ ?_ ?_ ?_ | ((first | show @LE.le Nat _ _ _ | show @LT.lt Nat _ _ _ | show @LE.le Int _ _ _ | show @LT.lt Int _ _ _ | show @Eq Nat _ _ | show @Eq Int _ _ | show @Eq Bool _ _ | show _ ∨ _ | show ¬ _); first | omega | (simp only [decide_eq_true_eq, decide_eq_false_iff_not, List.length_cons, List.length_nil, List.length_append, List.length_map, Sh.size] <;> omega) | (go_unwrap; omega)) | ((first | refine PW.region ?_ | refine PW.regionQ ?_ | refine schedW_done_i ?_ | show (_ : Post) _ _ _ | show @Eq (List PV) _ _ | show @Eq Bool _ _ | show opsW _ _ _ _ _ _ _ _ | show okAll _ | show @Eq Bool _ _ ∨ _); focus (simp only [hd, hg, hlen, SS, SS2, SS3, SS4, SS5, Option.map_some, Nat.reduceAdd, reduceIte, Nat.reduceEqDiff, Nat.reduceBEq, eq_self, implies_true, ne_eq, beq_self_eq_true, id_eq, reduceCtorEq]; (try go_unwrap; try simp only [hd, hg, hlen, RR, reduceCtorEq]))) | refine And.intro ?_ ?_ | exact Or.inr ⟨rfl, Nat.le_refl _⟩ | exact (fun h => Bool.noConfusion h))
      all_goals exact ⟨i + 1, (by rw [ht]; exact (by first | rfl | (simp only [trimE, trimM, List.take_succ_cons, List.take_zero, List.take_nil, List.map_cons, List.map_nil, Option.map_some, Option.map_none, MObj.kill, PV.kill, Nat.reduceLeDiff, decide_true, decide_false, dec_true, dec_false, Bool.false_eq_true, if_false, if_true, reduceIte, List.zip_cons_cons, List.zip_nil_left, Nat.le_refl, Nat.zero_le, Nat.not_le, Nat.lt_irrefl]; done) | (simp [trimE, trimM, MObj.kill, PV.kill]; done))), (by rw [ht]; simp [trimM, MObj.kill]), by omega, by omega⟩
    | true =>
      rw [hpe] at ht h39e
      simp only [if_true] at ht
      have hFL : (((F.map (·.name)).map PV.str).length : Nat) = F.length := by simp
      have htk : ((F.map (·.name)).map PV.str).take F.length = (F.map (·.name)).map PV.str := List.take_of_length_le (by simp)
      have b1 : (F.length + 1) * 16 ≤ 140737488355328 := by omega
      repeat' (first | exact True.intro | (refine PW.seqK ?_; intro K hK) | refine PW.block ?_ | refine PW.scope ?_ | refine PW.label ?_ | refine PW.exit ?_ | refine PW.ret ?_ | refine PW.skip ?_ | refine seqK_n (by assumption) ?_ | refine seqK_r (by assumption) ?_ | refine seqK_e (by assumption) ?_ | refine PW.regionA ?_ | exact schedW_stop_i | refine schK_n (by assumption) ?_ | (refine schedW_alt_k ?_ ?_; focus (intro K hK; simp only [hd, hg, hlen, hFL, htk, SS, SS2, SS3, SS4, SS5, Option.map_some, Nat.reduceAdd, reduceIte, Nat.reduceEqDiff, Nat.reduceBEq, eq_self, implies_true, ne_eq, beq_self_eq_true, id_eq, reduceCtorEq]; (try go_unwrap; try simp only [hd, hg, hlen, hFL, htk, RR, reduceCtorEq]))) | (refine PW.cond rfl ?_ ?_ <;> intro hcond <;> (try contradiction) <;> try simp only [decide_eq_true_eq, decide_eq_false_iff_not] at hcond) | (refine gd_i ?_; intro hg; try simp only [hg]) | refine goCall_W e16 (h16e) ?_ ?_ ?_ ?_ | refine goCall_W e39 (h39e) ?_ ?_ ?_ ?_ | ((first | show @LE.le Nat _ _ _ | show @LT.lt Nat _ _ _ | show @LE.le Int _ _ _ | show @LT.lt Int _ _ _ | show @Eq Nat _ _ | show @Eq Int _ _ | show @Eq Bool _ _ | show _ ∨ _ | show ¬ _); first | omega | (simp only [decide_eq_true_eq, decide_eq_false_iff_not, List.length_cons, List.length_nil, List.length_append, List.length_map, Sh.size] <;> omega) | (go_unwrap; omega)) | ((first | refine PW.region ?_ | refine PW.regionQ ?_ | refine schedW_done_i ?_ | show (_ : Post) _ _ _ | show @Eq (List PV) _ _ | show @Eq Bool _ _ | show opsW _ _ _ _ _ _ _ _ | show okAll _ | show @Eq Bool _ _ ∨ _); focus (simp only [hd, hg, hlen, hFL, htk, SS, SS2, SS3, SS4, SS5, Option.map_some, Nat.reduceAdd, reduceIte, Nat.reduceEqDiff, Nat.reduceBEq, eq_self, implies_true, ne_eq, beq_self_eq_true, id_eq, reduceCtorEq]; (try go_unwrap; try simp only [hd, hg, hlen, hFL, htk, RR, reduceCtorEq]))) | refine And.intro ?_ ?_ | exact Or.inr ⟨rfl, Nat.le_refl _⟩ | exact (fun h => Bool.noConfusion h))
      all_goals exact ⟨i + 1, (by rw [ht]; simp only [List.length_append, List.length_cons, List.length_nil]; exact (by first | rfl | (simp only [trimE, trimM, List.take_succ_cons, List.take_zero, List.take_nil, List.map_cons, List.map_nil, Option.map_some, Option.map_none, MObj.kill, PV.kill, Nat.reduceLeDiff, decide_true, decide_false, dec_true, dec_false, Bool.false_eq_true, if_false, if_true, reduceIte, List.zip_cons_cons, List.zip_nil_left, Nat.le_refl, Nat.zero_le, Nat.not_le, Nat.lt_irrefl]; done) | (simp [trimE, trimM, MObj.kill, PV.kill]; done))), (by rw [ht]; simp [trimM, MObj.kill]), by omega, by omega⟩
  · have hd : decide ((i : Int) < l.length) = false := by simp only [decide_eq_false_iff_not]; omega
    have hi' : i = l.length := by omega
    subst hi'
    rw [List.take_length]
    obtain ⟨F, hF⟩ : ∃ F, (l.filter fun e => p e.name) = F := ⟨_, rfl⟩
    have hle : F.length ≤ 64 := by rw [← hF]; exact Nat.le_trans (List.length_filter_le _ _) hl64
    rw [hF] at hB ⊢
    have h36 := v36 (μ := [some (.row none ((F.map (·.name)).map PV.str))]) (t := 0) (F.map (·.name)) (by simp; omega) rfl
    rw [List.length_map] at h36
    have hsl : ((sortT (F.map (·.name))).map PV.str).length = F.length := by simp [sort_len]
    have htk : ((sortT (F.map (·.name))).map PV.str).take F.length = (sortT (F.map (·.name))).map PV.str := List.take_of_length_le (by omega)
    repeat' (first | exact True.intro | (refine PW.seqK ?_; intro K hK) | refine PW.block ?_ | refine PW.scope ?_ | refine PW.label ?_ | refine PW.exit ?_ | refine PW.ret ?_ | refine PW.skip ?_ | refine seqK_n (by assumption) ?_ | refine seqK_r (by assumption) ?_ | refine seqK_e (by assumption) ?_ | refine PW.regionA ?_ | exact schedW_stop_i | refine schK_n (by assumption) ?_ | (refine schedW_alt_k ?_ ?_; focus (intro K hK; simp only [hd, hlen, hsl, htk, Nat.le_refl, and_self, if_true, SS, SS2, SS3, SS4, SS5, Option.map_some, Nat.reduceAdd, reduceIte, Nat.reduceEqDiff, Nat.reduceBEq, eq_self, implies_true, ne_eq, beq_self_eq_true, id_eq, reduceCtorEq]; (try go_unwrap; try simp only [hd, hlen, hsl, htk, Nat.le_refl, and_self, if_true, RR, reduceCtorEq]))) | (refine PW.cond rfl ?_ ?_ <;> intro hcond <;> (try contradiction) <;> try simp only [decide_eq_true_eq, decide_eq_false_iff_not] at hcond) | (refine goCall_P e36 h36 ?_; rintro p μ' ⟨rfl, rfl⟩; simp only [hd, hlen, hsl, htk, Nat.le_refl, and_self, if_true, SS, SS2, SS3, SS4, SS5, Option.map_some, Nat.reduceAdd, reduceIte, Nat.reduceEqDiff, Nat.reduceBEq, eq_self, implies_true, ne_eq, beq_self_eq_true, id_eq, reduceCtorEq]) | (refine gd_i ?_; intro hg; try simp only [hg]) | ((first | show @LE.le Nat _ _ _ | show @LT.lt Nat _ _ _ | show @LE.le Int _ _ _ | show @LT.lt Int _ _ _ | show @Eq Nat _ _ | show @Eq Int _ _ | show @Eq Bool _ _ | show _ ∨ _ | show ¬ _); first | omega | (simp only [decide_eq_true_eq, decide_eq_false_iff_not, List.length_cons, List.length_nil, List.length_append, List.length_map, Sh.size] <;> omega) | (go_unwrap; omega)) | ((first | refine PW.region ?_ | refine PW.regionQ ?_ | refine schedW_done_i ?_ | show (_ : Post) _ _ _ | show @Eq (List PV) _ _ | show @Eq Bool _ _ | show opsW _ _ _ _ _ _ _ _ | show okAll _ | show @Eq Bool _ _ ∨ _); focus (simp only [hd, hlen, hsl, htk, Nat.le_refl, and_self, if_true, SS, SS2, SS3, SS4, SS5, Option.map_some, Nat.reduceAdd, reduceIte, Nat.reduceEqDiff, Nat.reduceBEq, eq_self, implies_true, ne_eq, beq_self_eq_true, id_eq, reduceCtorEq]; (try go_unwrap; try simp only [hd, hlen, hsl, htk, Nat.le_refl, and_self, if_true, RR, reduceCtorEq]))) | refine And.intro ?_ ?_ | exact Or.inr ⟨rfl, Nat.le_refl _⟩ | exact (fun h => Bool.noConfusion h))
    all_goals (rw [hB])
end Go.Proofs.Ytdiokmmjdpbdbaa

namespace Go.Proofs.Ytdiokmmjdpbdbaa
open Go PG Go.Proofs Go.RowKit Go.Shelf Go.Maps Go.Sort
attribute [local go_sem] Oper.semAt_some
set_option linter.unusedSimpArgs false
set_option linter.unusedVariables false
set_option maxRecDepth 100000
set_option maxHeartbeats 2000000
def Try.apseqA_ren : Go.Shelf.Ren := ⟨fun | 11 => 69 | n => n, fun | 24 => 26 | 26 => 9 | 28 => 70 | 0 => 0 | 33 => 65 | 4 => 4 | n => n, fun | n => n⟩
theorem Try.apseqA : Go.Proofs.SlLaysZ.n11 Try.prog Try.apseqA_ren := {
  mixed := by kernel_rfl
  f11 := ⟨Try.f69.name, by decide, Try.func69.trans (congrArg some (by kernel_rfl))⟩
  t0 := Try.underlying0
  a0 := Try.isAgg0
  z0 := Try.sizeOf0
  v0 := Try.zeroValue0
  t24 := Try.underlying26
  a24 := Try.isAgg26
  z24 := Try.sizeOf26
  v24 := Try.zeroValue26
  t26 := Try.underlying9
  a26 := Try.isAgg9
  z26 := Try.sizeOf9
  v26 := Try.zeroValue9
  t28 := Try.underlying70
  a28 := Try.isAgg70
  z28 := Try.sizeOf70
  v28 := Try.zeroValue70
  i26 := by kernel_rfl }
/-! What an iterator gives to whoever keeps what lay before it -/
def Gives (F : Fence) (n : Nat) (g : Nat) (lb : Array Value) (S : List St → Prop) (N : Nat) (w : World) : Prop :=
  ∀ (l : Nat) (J : List St → World → Prop) (W : World), Below w.heap.size w W → AbidesFrom W.heap.size J → (∀ pre W1, J pre W1 → Below w.heap.size w W1) →
    (∀ pre x W1, J pre W1 → pre.length < N → YieldAt F (n - 1) Try.prog l #[encStr x] W1 fun e W' => e = .returned (.bool true) ∧ J (pre ++ [x]) W' ∧ KeepsWalks W1 W') →
    J [] W → CallsIn F n Try.prog g (#[.func (.yield l) #[] #[]] ++ lb) W fun e W' => (∃ v, e = .returned v) ∧ ∃ xs, S xs ∧ J xs W'
def upto (zs : List St) (k : Nat) : List St := (List.range k).map fun j => zs[j]?.getD []
theorem upto_succ (zs : List St) (k : Nat) : upto zs (k + 1) = upto zs k ++ [zs[k]?.getD []] := by simp [upto, List.range_succ]
theorem upto_length (zs : List St) (k : Nat) : (upto zs k).length = k := by simp [upto]
theorem upto_all (zs : List St) : upto zs zs.length = zs := by
  apply List.ext_getElem
  · simp [upto]
  · intro i h1 h2
    simp [upto, h2]
theorem vals_in (F : Fence) (n : Nat) (h57 : F.fn 57) (hro : F.round = none) (hn : 1 ≤ n) (l Bs o n₀ b off len cap : Nat) (w0 : World) (zs : List St) (hreach : len ≤ 1000000000) (hb : b < n₀) (J : List St → World → Prop)
    (hJB : ∀ pre W1, J pre W1 → Below n₀ w0 W1)
    (hY : ∀ pre x W, J pre W → pre.length < len → YieldAt F (n - 1) Try.prog l #[encStr x] W fun e W' => e = .returned (.bool true) ∧ J (pre ++ [x]) W' ∧ KeepsWalks W W')
    (W : World) (hBs : W.cell? ⟨Bs, o, none⟩ = some (.slice (some ⟨b, off, none⟩) len cap)) (hc : ∀ j, j < len → w0.cell? ⟨b, off + j, none⟩ = some (encStr (zs[j]?.getD []))) (h0 : J [] W) :
    CallsIn F n Try.prog 57 #[.func (.yield l) #[] #[], .pointer (some ⟨Bs, o, none⟩)] W fun e W' => (∃ v, e = .returned v) ∧ J (upto zs len) W' := by
  refine callsIn_of_wp Try.func57 rfl h57 ?_ hro
  simp only [Try.ntmps57, List.size_toArray, List.length_cons, List.length_nil, Nat.reduceAdd, Nat.reduceSub, Array.replicate_succ, Array.replicate_zero, List.push_toArray, List.append_toArray, List.nil_append, List.cons_append]
  gi_wp2
  gi_loopw [7] (fun i wr => ∃ k : Nat, k ≤ len ∧ i = .int .i64 k ∧ J (upto zs k) wr)
    (fun i _ => len - (intOf i).toNat)
  case atStart => exact ⟨0, Nat.zero_le _, rfl, h0⟩
  case round =>
    obtain ⟨k, hk, rfl, hJs⟩ := hrel
    have hnx := hJB _ _ hJs
    have hcx : k < len → wr.cell? ⟨b, off + k, none⟩ = some (encStr (zs[k]?.getD [])) := fun h => (hnx.cell (p := ⟨b, off + k, none⟩) hb).trans (hc k h)
    by_cases hlt : k < len
    · obtain ⟨fn, tmps, assign, body, hy, hR⟩ := hY _ (zs[k]?.getD []) wr hJs (by rw [upto_length]; exact hlt)
      have hcx' := hcx hlt
      gi_wp2
      refine hR.mono ?_
      rintro e W3 ⟨rfl, hJ3, hk3⟩
      gi_wp2
      have hw : wrap64 ((k : Int) + 1) = (k : Int) + 1 := by unfold wrap64; omega
      go_roundw
      case rel => exact ⟨k + 1, by omega, by simp [hw], by rw [upto_succ]; exact hJ3⟩
      case measure => simp [intOf, hw]; omega
    · obtain rfl : k = len := by omega
      gi_wp2
      go_end0
      exact ⟨⟨_, rfl⟩, hJs⟩
theorem vals_nil_in (F : Fence) (n : Nat) (h57 : F.fn 57) (hro : F.round = none) (l Bs o : Nat) (J : List St → World → Prop) (W : World) (a : Option Addr) (cap : Nat) (hBs : W.cell? ⟨Bs, o, none⟩ = some (.slice a 0 cap)) (h0 : J [] W) :
    CallsIn F n Try.prog 57 #[.func (.yield l) #[] #[], .pointer (some ⟨Bs, o, none⟩)] W fun e W' => (∃ v, e = .returned v) ∧ J [] W' := by
  refine callsIn_of_wp Try.func57 rfl h57 ?_ hro
  simp only [Try.ntmps57, List.size_toArray, List.length_cons, List.length_nil, Nat.reduceAdd, Nat.reduceSub, Array.replicate_succ, Array.replicate_zero, List.push_toArray, List.append_toArray, List.nil_append, List.cons_append]
  gi_wp2
  gi_loopw [7] (fun i wr => i = .int .i64 0 ∧ J [] wr) (fun _ _ => 0)
  case atStart => exact ⟨rfl, h0⟩
  case round =>
    obtain ⟨rfl, hJs⟩ := hrel
    gi_wp2
    go_end0
    exact ⟨⟨_, rfl⟩, hJs⟩
end Go.Proofs.Ytdiokmmjdpbdbaa

namespace Go.Proofs.Ytdiokmmjdpbdbaa
open Go PG Go.Proofs Go.RowKit Go.Shelf Go.Maps Go.Sort
attribute [local go_sem] Oper.semAt_some
set_option linter.unusedSimpArgs false
set_option linter.unusedVariables false
set_option maxRecDepth 100000
set_option maxHeartbeats 2000000
/-- What an iterator gives, one behind the other, in a new slice. -/
theorem apGives {ρ : Ren} (L : SlLaysZ.n11 Try.prog ρ) (F : Fence) (n : Nat) (h11 : F.fn (ρ.f 11)) (hro : F.round = none) (hn : 2 ≤ n) (g : Nat) (lb : Array Value) (hFg : F.fn g) (eg : ∀ args w, (callFunc g args).run Try.prog w = .ok (.enter g args) w)
    (S : List St → Prop) (N : Nat) (hN : N ≤ maxLen) (hNb : N * 16 ≤ 140737488355328) (w : World) (hseq : Gives F (n - 1) g lb S N w) :
    CallsIn F n Try.prog (ρ.f 11) #[.slice none 0 0, .func (.func g) #[] lb] w fun e w' => ∃ (v : Value) (ss : List St), e = .returned v ∧ S ss ∧ w'.ownsRow w.heap.size (ρ.t 26) 1 v ss.length (ss.map encStr) ∧ Below w.heap.size w w' := by
  have h1 : 1 ≤ n := by omega
  have mixed := L.mixed; have t0 := L.t0; have a0 := L.a0; have z0 := L.z0; have v0 := L.v0
  have t24 := L.t24; have a24 := L.a24; have z24 := L.z24; have v24 := L.v24
  have t26 := L.t26; have a26 := L.a26; have z26 := L.z26; have v26 := L.v26
  have t28 := L.t28; have a28 := L.a28; have z28 := L.z28; have v28 := L.v28
  have hne : ρ.t 24 ≠ ρ.t 26 := fun e => by have h := L.t24; rw [e, L.t26] at h; cases h
  have u0 := run_underlying L.t0; have u24 := run_underlying L.t24; have u26 := run_underlying L.t26; have u28 := run_underlying L.t28
  obtain ⟨_, _, FG⟩ := L.f11
  refine callsIn_of_wp_marks FG rfl h11 ?_ hro
  simp only [SlBodyZ.n11_ntmps ρ, List.size_toArray, List.length_cons, List.length_nil, Nat.reduceAdd, Nat.reduceSub, Array.replicate_succ, Array.replicate_zero, List.push_toArray, List.append_toArray, List.nil_append, List.cons_append]
  gi_wp2
  refine wpIn_rangeFunc ?_
  intro fn hfn
  rw [hro]
  obtain ⟨A, hA⟩ : ∃ A, w.alloc (.cells #[.slice none 0 0] (ρ.t 24)) = A := ⟨_, rfl⟩
  have sA : A.heap.size = w.heap.size + 1 := by rw [← hA]; simp
  have bxA : A.heap[w.heap.size]? = some (.cells #[.slice none 0 0] (ρ.t 24) (0, 0)) := by rw [← hA]; exact World.alloc_heap_new w _
  have lA : Below w.heap.size w A := by rw [← hA]; exact (Below.refl _ w).alloc (Nat.le_refl _) _
  rw [hA]
  obtain ⟨B, hB⟩ : ∃ B, (A.alloc (.deferred (some []))).alloc (.loop (AnyZ.apRec ρ fn (.func (.func g) #[] lb) w.heap.size A.heap.size .ready none)) = B := ⟨_, rfl⟩
  have old : ∀ k, k < A.heap.size → B.heap[k]? = A.heap[k]? := fun k hk => by
    rw [← hB]; exact (Below.heap_alloc _ _ k (by simp; omega)).trans (Below.heap_alloc _ _ k hk)
  have lB : Below w.heap.size w B := by rw [← hB]; exact (lA.alloc lA.size _).alloc (by have := lA.size; simp; omega) _
  have start : AnyZ.ApAt ρ w fn (.func (.func g) #[] lb) w.heap.size (A.heap.size + 1) A.heap.size [] B :=
    ⟨⟨_, (old w.heap.size (by omega)).trans bxA, ⟨rfl, .inl ⟨rfl, rfl⟩⟩, by simp⟩,
     by rw [← hB]; have := World.alloc_heap_new (A.alloc (.deferred (some []))) (.loop (AnyZ.apRec ρ fn (.func (.func g) #[] lb) w.heap.size A.heap.size .ready none)); rwa [World.size_alloc] at this,
     by rw [← hB]; exact (Below.heap_alloc _ _ _ (by simp)).trans (World.alloc_heap_new A _), lB⟩
  refine ⟨A.heap.size + 1, [{ target := .collected A.heap.size, args := #[] }], B, { target := .fn (.func g) lb, args := #[.func (.yield (A.heap.size + 1)) #[] #[]] }, B, g,
    #[.func (.yield (A.heap.size + 1)) #[] #[]] ++ lb, B, ?_, ?_, ?_, ?_, fun _ => h1, ?_⟩
  · rw [← hB]; exact run_enterLoop_outer _ _ _ _ _
  · simp [resolve, go_sem]
  · intro f' hf'; simp [Target.leads] at hf'; subst hf'; exact hFg
  · simp [invoke, go_sem, eg]
  · refine (hseq (A.heap.size + 1) (AnyZ.ApAt ρ w fn (.func (.func g) #[] lb) w.heap.size (A.heap.size + 1) A.heap.size) B lB (AnyZ.ap_abides ρ _ _ _ _ _ _ _ lB.size) (fun _ _ h => h.below)
      (fun pre x W hJ hl => AnyZ.apYield { L with } F (n - 1 - 1) w fn hfn _ w.heap.size (A.heap.size + 1) A.heap.size (by omega) (by omega) (by omega) (Nat.le_refl _) (by omega) N hN hNb pre x W hJ hl) start).mono ?_
    rintro e C ⟨⟨v0, rfl⟩, ss, hS, hC⟩
    obtain ⟨v, hv, hrow, hnil⟩ := hC.box
    have hend := run_endLoop (P := Try.prog) hC.L (by simp [AnyZ.apRec])
    obtain ⟨D, hD⟩ : ∃ D, C.putObj (A.heap.size + 1) (.loop { AnyZ.apRec ρ fn (.func (.func g) #[] lb) w.heap.size A.heap.size .ready none with state := .exhausted }) = D := ⟨_, rfl⟩
    rw [hD] at hend
    have gD : C.grownBy D (some (A.heap.size + 1)) := by rw [← hD]; exact grownBy_putObj_a _ _ _
    have vD : D.heap[w.heap.size]? = some (.cells #[v] (ρ.t 24) (0, 0)) := by rw [← hD]; exact (World.putObj_heap_other (by omega)).trans hv
    have kD : D.heap[A.heap.size]? = some (.deferred (some [])) := by rw [← hD]; exact (World.putObj_heap_other (by omega)).trans hC.K
    have rD := hrow.kept gD (ownsRow_ne_a hrow hC.L (fun cur e => by first | cases e | exact hne (Obj.cells.inj e).2.1))
    have lD : Below w.heap.size w D := hC.below.grown gD hC.below.size (fun k e => by cases e; omega)
    obtain ⟨hc3, hf3⟩ := cell_of_box_a vD
    clear hD
    refine ⟨none, D, hend, ?_⟩
    gi_wp2
    rw [← sA]
    refine ⟨by simp, .inl ⟨_, _, rfl, run_takeDeferred kD, ?_⟩⟩
    exact ⟨_, results_tmp rfl _ _ _, v, ss, rfl, hS, rD.kept (grownBy_putObj_a _ _ _) (ownsRow_ne_a rD kD (fun cur e => by first | cases e | exact hne (Obj.cells.inj e).2.1)), lD.grown (grownBy_putObj_a _ _ _) lD.size (fun k e => by cases e; omega)⟩
end Go.Proofs.Ytdiokmmjdpbdbaa

