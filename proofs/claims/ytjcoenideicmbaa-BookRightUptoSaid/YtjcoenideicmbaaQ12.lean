import Derived.Test.YtjcoenideicmbaaProg
import Derived.KernelRfl
import Derived.Test.YtjcoenideicmbaaQ11
import Derived.Test.YtjcoenideicmbaaP3
namespace Go.Proofs.Ytjcoenideicmbaa
open Go PG Go.Proofs
set_option linter.unusedSimpArgs false
set_option linter.unusedVariables false
set_option maxHeartbeats 4000000
set_option maxRecDepth 100000
theorem putM_mem {l : List (List UInt8)} {s x : List UInt8} (h : x ∈ putM l s) : x ∈ l ∨ x = s := by
  unfold putM at h
  split at h
  · exact .inl h
  · rcases List.mem_append.1 h with h | h
    · exact .inl (List.mem_of_mem_take h)
    · rcases List.mem_cons.1 h with h | h
      · exact .inr h
      · exact .inl (List.mem_of_mem_drop h)
theorem nmsN_mem (l : List Kn) (d : Int) : ∀ i, i ≤ l.length → ∀ x ∈ nmsN l d i, ∃ k ∈ l, x = k.code
  | 0, _, x, h => by simp [nmsN] at h
  | i + 1, hi, x, h => by
    unfold nmsN at h
    rw [show l.getD i default = l[i] by simp [List.getD, show i < l.length by omega]] at h
    split at h
    · rcases putM_mem h with h | h
      · exact nmsN_mem l d i (by omega) x h
      · exact ⟨l[i], List.getElem_mem _, h⟩
    · exact nmsN_mem l d i (by omega) x h
theorem v43 (l : List Kn) (hl : l.length ≤ 1000000000) (hc : ∀ k ∈ l, k.code.length ≤ 300) (p : List UInt8) (d : Int) : VCalls Try.prog G0 43 [rkL l, .str p, .int .i64 d] (txL (undM l p d)) := by
  refine VCalls.of_PW Try.func43 k43 mix (by simp [c43]) ?_
  simp only [c43, L43, argE]
  have h42 := v42 l hl d
  have hnl : (nmsM l d).length ≤ 1000000000 := by have := nmsN_len l d l.length; unfold nmsM; omega
  have hu : undM l p d = undN p (nmsM l d) (nmsM l d).length := by unfold undM undN; rw [List.take_length]
  have hcs : ∀ x ∈ nmsM l d, x.length ≤ 300 := fun x hx => by obtain ⟨k, hk, rfl⟩ := nmsN_mem l d l.length (Nat.le_refl _) x hx; exact hc k hk
  rw [hu]
  generalize nmsM l d = nm at h42 hnl hcs
  clear hu
  have hlen : ((nm.map PV.str).length : Nat) = nm.length := by simp
  repeat' (first | exact True.intro | (refine PW.seqK ?_; intro K hK) | refine PW.block ?_ | refine PW.exit ?_ | refine PW.ret ?_ | refine PW.skip ?_ | refine seqK_n (by assumption) ?_ | refine seqK_r (by assumption) ?_ | refine seqK_e (by assumption) ?_ | refine PW.regionA ?_ | exact schedW_stop_i | refine schK_n (by assumption) ?_ | (refine schedW_alt_k ?_ ?_; focus (intro K hK; simp only [hlen, SS, SS2, SS3, SS4, Option.map_some, Bool.not_false, Bool.not_true, gArgs, gOk, Nat.reduceAdd, PV.shift, MObj.shift, rdV, rdD, reduceIte, Nat.reduceEqDiff, Nat.reduceBEq, PV.bin, PV.binOk, binI, binS, PV.withInt, PV.withIntP, okAll, PV.under, PV.okUnder, eq_self, implies_true, deadOk, ne_eq, allOk, RVar.val, RVar.ok, retV, PV.seen, PV.view, beq_self_eq_true, PV.flat, PV.noOwn, id_eq, behind, PV.kill, MObj.kill, killTag, reduceCtorEq, nilB]; (try go_unwrap; try simp only [hlen, toNat_add2, toNat_add1, Int.toNat_natCast, Bool.false_and, Bool.true_and, true_implies, true_and, Bool.false_eq_true, reduceCtorEq, false_implies, Bool.not_false, Bool.not_true, Bool.true_or, Bool.false_or]))) | (refine PW.cond rfl ?_ ?_ <;> intro hcond <;> (try contradiction) <;> try simp only [decide_eq_true_eq, decide_eq_false_iff_not] at hcond) | (refine gd_i ?_; intro hg; try simp only [hg]) | refine goCall_W e42 (h42) ?_ ?_ ?_ ?_ | ((first | show @LE.le Nat _ _ _ | show @LT.lt Nat _ _ _ | show @LE.le Int _ _ _ | show @LT.lt Int _ _ _ | show @Eq Nat _ _ | show @Eq Int _ _ | show @Eq Bool _ _ | show _ ∨ _ | show ¬ _); first | omega | (simp only [decide_eq_true_eq, decide_eq_false_iff_not, List.length_cons, List.length_nil, List.length_append, List.length_map, Sh.size] <;> omega) | (go_unwrap; omega)) | ((first | refine PW.region ?_ | refine PW.regionQ ?_ | refine schedW_done_i ?_ | show (_ : Post) _ _ _ | show @Eq (List PV) _ _ | show @Eq Bool _ _ | show opsW _ _ _ _ _ _ _ _ | show okAll _ | show @Eq Bool _ _ ∨ _); focus (simp only [hlen, SS, SS2, SS3, SS4, Option.map_some, Bool.not_false, Bool.not_true, gArgs, gOk, Nat.reduceAdd, PV.shift, MObj.shift, rdV, rdD, reduceIte, Nat.reduceEqDiff, Nat.reduceBEq, PV.bin, PV.binOk, binI, binS, PV.withInt, PV.withIntP, okAll, PV.under, PV.okUnder, eq_self, implies_true, deadOk, ne_eq, allOk, RVar.val, RVar.ok, retV, PV.seen, PV.view, beq_self_eq_true, PV.flat, PV.noOwn, id_eq, behind, PV.kill, MObj.kill, killTag, reduceCtorEq, nilB]; (try go_unwrap; try simp only [hlen, toNat_add2, toNat_add1, Int.toNat_natCast, Bool.false_and, Bool.true_and, true_implies, true_and, Bool.false_eq_true, reduceCtorEq, false_implies, Bool.not_false, Bool.not_true, Bool.true_or, Bool.false_or]))) | refine And.intro ?_ ?_ | exact Or.inr ⟨rfl, Nat.le_refl _⟩ | exact (fun h => Bool.noConfusion h))
  refine PW.subE none 7 rfl ?_
  refine PW.loopG (σ := Nat) 0 (fun _ _ => rfl) [1, 6, 7, 8, 9] (fun i => [.str p, .nilSl, txL (undN p nm i), txL nm, .int .i64 i]) (fun _ => []) (fun i => i ≤ nm.length) (fun i => nm.length - i) 0 ?_ rfl (by omega) ?_
  · simp only [SS, SS2, SS3, SS4, Option.map_some, Bool.not_false, Bool.not_true, gArgs, gOk, Nat.reduceAdd, PV.shift, MObj.shift, rdV, rdD, reduceIte, Nat.reduceEqDiff, Nat.reduceBEq, PV.bin, PV.binOk, binI, binS, PV.withInt, PV.withIntP, okAll, PV.under, PV.okUnder, eq_self, implies_true, deadOk, ne_eq, allOk, RVar.val, RVar.ok, retV, PV.seen, PV.view, beq_self_eq_true, PV.flat, PV.noOwn, id_eq, behind, PV.kill, MObj.kill, killTag, reduceCtorEq, nilB]; rfl
  rintro i hi
  simp only [List.zip_cons_cons, List.zip_nil_left]
  rcases Nat.lt_or_ge i nm.length with h | h
  · have hd : decide ((i : Int) < nm.length) = true := by simp only [decide_eq_true_eq]; omega
    have hg := tx_getD nm i h
    have hst := undN_succ p nm i h
    have hun := undN_len p nm i (by omega)
    have hsl := hcs nm[i] (List.getElem_mem h)
    generalize nm[i] = s at hg hst hsl
    generalize undN p nm i = out at hst hun
    unfold undS at hst
    have wi : IntKind.i64.wrap ((i : Int) + 1) = ((i + 1 : Nat) : Int) := (IntWalk.i64_in _ (by omega)).trans (by omega)
    by_cases c1 : s.length < p.length
    · have d1 : decide ((s.length : Int) < p.length) = true := by simp only [decide_eq_true_eq]; omega
      rw [if_neg (by intro e; have := congrArg List.length e; simp at this; omega)] at hst
      repeat' (first | exact True.intro | (refine PW.seqK ?_; intro K hK) | refine PW.block ?_ | refine PW.exit ?_ | refine PW.ret ?_ | refine PW.skip ?_ | refine seqK_n (by assumption) ?_ | refine seqK_r (by assumption) ?_ | refine seqK_e (by assumption) ?_ | refine PW.regionA ?_ | exact schedW_stop_i | refine schK_n (by assumption) ?_ | (refine schedW_alt_k ?_ ?_; focus (intro K hK; simp only [hlen, hd, hg, d1, wi, SS, SS2, SS3, SS4, Option.map_some, Bool.not_false, Bool.not_true, gArgs, gOk, Nat.reduceAdd, PV.shift, MObj.shift, rdV, rdD, reduceIte, Nat.reduceEqDiff, Nat.reduceBEq, PV.bin, PV.binOk, binI, binS, PV.withInt, PV.withIntP, okAll, PV.under, PV.okUnder, eq_self, implies_true, deadOk, ne_eq, allOk, RVar.val, RVar.ok, retV, PV.seen, PV.view, beq_self_eq_true, PV.flat, PV.noOwn, id_eq, behind, PV.kill, MObj.kill, killTag, reduceCtorEq, nilB]; (try go_unwrap; try simp only [hlen, hd, hg, d1, wi, toNat_add2, toNat_add1, Int.toNat_natCast, Bool.false_and, Bool.true_and, true_implies, true_and, Bool.false_eq_true, reduceCtorEq, false_implies, Bool.not_false, Bool.not_true, Bool.true_or, Bool.false_or]))) | (refine PW.cond rfl ?_ ?_ <;> intro hcond <;> (try contradiction) <;> try simp only [decide_eq_true_eq, decide_eq_false_iff_not] at hcond) | (refine gd_i ?_; intro hg; try simp only [hg]) | ((first | show @LE.le Nat _ _ _ | show @LT.lt Nat _ _ _ | show @LE.le Int _ _ _ | show @LT.lt Int _ _ _ | show @Eq Nat _ _ | show @Eq Int _ _ | show @Eq Bool _ _ | show _ ∨ _ | show ¬ _); first | omega | (simp only [decide_eq_true_eq, decide_eq_false_iff_not, List.length_cons, List.length_nil, List.length_append, List.length_map, Sh.size] <;> omega) | (go_unwrap; omega)) | ((first | refine PW.region ?_ | refine PW.regionQ ?_ | refine schedW_done_i ?_ | show (_ : Post) _ _ _ | show @Eq (List PV) _ _ | show @Eq Bool _ _ | show opsW _ _ _ _ _ _ _ _ | show okAll _ | show @Eq Bool _ _ ∨ _); focus (simp only [hlen, hd, hg, d1, wi, SS, SS2, SS3, SS4, Option.map_some, Bool.not_false, Bool.not_true, gArgs, gOk, Nat.reduceAdd, PV.shift, MObj.shift, rdV, rdD, reduceIte, Nat.reduceEqDiff, Nat.reduceBEq, PV.bin, PV.binOk, binI, binS, PV.withInt, PV.withIntP, okAll, PV.under, PV.okUnder, eq_self, implies_true, deadOk, ne_eq, allOk, RVar.val, RVar.ok, retV, PV.seen, PV.view, beq_self_eq_true, PV.flat, PV.noOwn, id_eq, behind, PV.kill, MObj.kill, killTag, reduceCtorEq, nilB]; (try go_unwrap; try simp only [hlen, hd, hg, d1, wi, toNat_add2, toNat_add1, Int.toNat_natCast, Bool.false_and, Bool.true_and, true_implies, true_and, Bool.false_eq_true, reduceCtorEq, false_implies, Bool.not_false, Bool.not_true, Bool.true_or, Bool.false_or]))) | refine And.intro ?_ ?_ | exact Or.inr ⟨rfl, Nat.le_refl _⟩ | exact (fun h => Bool.noConfusion h))
      all_goals exact ⟨i + 1, (by rw [hst]; exact (by first | rfl | (simp only [trimE, trimM, List.take_succ_cons, List.take_zero, List.take_nil, List.map_cons, List.map_nil, Option.map_some, Option.map_none, MObj.kill, PV.kill, Nat.reduceLeDiff, decide_true, decide_false, dec_true, dec_false, Bool.false_eq_true, if_false, if_true, reduceIte, List.zip_cons_cons, List.zip_nil_left, Nat.le_refl, Nat.zero_le, Nat.not_le, Nat.lt_irrefl]; done) | (simp [trimE, trimM, MObj.kill, PV.kill]; done))), (by first | rfl | (simp only [trimE, trimM, List.take_succ_cons, List.take_zero, List.take_nil, List.map_cons, List.map_nil, Option.map_some, Option.map_none, MObj.kill, PV.kill, Nat.reduceLeDiff, decide_true, decide_false, dec_true, dec_false, Bool.false_eq_true, if_false, if_true, reduceIte, List.zip_cons_cons, List.zip_nil_left, Nat.le_refl, Nat.zero_le, Nat.not_le, Nat.lt_irrefl]; done) | (simp [trimE, trimM, MObj.kill, PV.kill]; done)), by omega, by omega⟩
    have d1 : decide ((s.length : Int) < p.length) = false := by simp only [decide_eq_false_iff_not]; omega
    by_cases c2 : s.take p.length = p
    case neg =>
      have d2 : decide (s.take p.length = p) = false := by simpa using c2
      rw [if_neg c2] at hst
      repeat' (first | exact True.intro | (refine PW.seqK ?_; intro K hK) | refine PW.block ?_ | refine PW.exit ?_ | refine PW.ret ?_ | refine PW.skip ?_ | refine seqK_n (by assumption) ?_ | refine seqK_r (by assumption) ?_ | refine seqK_e (by assumption) ?_ | refine PW.regionA ?_ | exact schedW_stop_i | refine schK_n (by assumption) ?_ | (refine schedW_alt_k ?_ ?_; focus (intro K hK; simp only [hlen, hd, hg, d1, d2, wi, SS, SS2, SS3, SS4, Option.map_some, Bool.not_false, Bool.not_true, gArgs, gOk, Nat.reduceAdd, PV.shift, MObj.shift, rdV, rdD, reduceIte, Nat.reduceEqDiff, Nat.reduceBEq, PV.bin, PV.binOk, binI, binS, PV.withInt, PV.withIntP, okAll, PV.under, PV.okUnder, eq_self, implies_true, deadOk, ne_eq, allOk, RVar.val, RVar.ok, retV, PV.seen, PV.view, beq_self_eq_true, PV.flat, PV.noOwn, id_eq, behind, PV.kill, MObj.kill, killTag, reduceCtorEq, nilB]; (try go_unwrap; try simp only [hlen, hd, hg, d1, d2, wi, toNat_add2, toNat_add1, Int.toNat_natCast, Bool.false_and, Bool.true_and, true_implies, true_and, Bool.false_eq_true, reduceCtorEq, false_implies, Bool.not_false, Bool.not_true, Bool.true_or, Bool.false_or]))) | (refine PW.cond rfl ?_ ?_ <;> intro hcond <;> (try contradiction) <;> try simp only [decide_eq_true_eq, decide_eq_false_iff_not] at hcond) | (refine gd_i ?_; intro hg; try simp only [hg]) | ((first | show @LE.le Nat _ _ _ | show @LT.lt Nat _ _ _ | show @LE.le Int _ _ _ | show @LT.lt Int _ _ _ | show @Eq Nat _ _ | show @Eq Int _ _ | show @Eq Bool _ _ | show _ ∨ _ | show ¬ _); first | omega | (simp only [decide_eq_true_eq, decide_eq_false_iff_not, List.length_cons, List.length_nil, List.length_append, List.length_map, Sh.size] <;> omega) | (go_unwrap; omega)) | ((first | refine PW.region ?_ | refine PW.regionQ ?_ | refine schedW_done_i ?_ | show (_ : Post) _ _ _ | show @Eq (List PV) _ _ | show @Eq Bool _ _ | show opsW _ _ _ _ _ _ _ _ | show okAll _ | show @Eq Bool _ _ ∨ _); focus (simp only [hlen, hd, hg, d1, d2, wi, SS, SS2, SS3, SS4, Option.map_some, Bool.not_false, Bool.not_true, gArgs, gOk, Nat.reduceAdd, PV.shift, MObj.shift, rdV, rdD, reduceIte, Nat.reduceEqDiff, Nat.reduceBEq, PV.bin, PV.binOk, binI, binS, PV.withInt, PV.withIntP, okAll, PV.under, PV.okUnder, eq_self, implies_true, deadOk, ne_eq, allOk, RVar.val, RVar.ok, retV, PV.seen, PV.view, beq_self_eq_true, PV.flat, PV.noOwn, id_eq, behind, PV.kill, MObj.kill, killTag, reduceCtorEq, nilB]; (try go_unwrap; try simp only [hlen, hd, hg, d1, d2, wi, toNat_add2, toNat_add1, Int.toNat_natCast, Bool.false_and, Bool.true_and, true_implies, true_and, Bool.false_eq_true, reduceCtorEq, false_implies, Bool.not_false, Bool.not_true, Bool.true_or, Bool.false_or]))) | refine And.intro ?_ ?_ | exact Or.inr ⟨rfl, Nat.le_refl _⟩ | exact (fun h => Bool.noConfusion h))
      all_goals exact ⟨i + 1, (by rw [hst]; exact (by first | rfl | (simp only [trimE, trimM, List.take_succ_cons, List.take_zero, List.take_nil, List.map_cons, List.map_nil, Option.map_some, Option.map_none, MObj.kill, PV.kill, Nat.reduceLeDiff, decide_true, decide_false, dec_true, dec_false, Bool.false_eq_true, if_false, if_true, reduceIte, List.zip_cons_cons, List.zip_nil_left, Nat.le_refl, Nat.zero_le, Nat.not_le, Nat.lt_irrefl]; done) | (simp [trimE, trimM, MObj.kill, PV.kill]; done))), (by first | rfl | (simp only [trimE, trimM, List.take_succ_cons, List.take_zero, List.take_nil, List.map_cons, List.map_nil, Option.map_some, Option.map_none, MObj.kill, PV.kill, Nat.reduceLeDiff, decide_true, decide_false, dec_true, dec_false, Bool.false_eq_true, if_false, if_true, reduceIte, List.zip_cons_cons, List.zip_nil_left, Nat.le_refl, Nat.zero_le, Nat.not_le, Nat.lt_irrefl]; done) | (simp [trimE, trimM, MObj.kill, PV.kill]; done)), by omega, by omega⟩
    have d2 : decide (s.take p.length = p) = true := by simpa using c2
    rw [if_pos c2] at hst
    obtain ⟨r, hr⟩ : ∃ r, s.drop p.length = r := ⟨_, rfl⟩
    rw [hr] at hst
    repeat' (first | exact True.intro | (refine PW.seqK ?_; intro K hK) | refine PW.block ?_ | refine PW.exit ?_ | refine PW.ret ?_ | refine PW.skip ?_ | refine seqK_n (by assumption) ?_ | refine seqK_r (by assumption) ?_ | refine seqK_e (by assumption) ?_ | refine PW.regionA ?_ | exact schedW_stop_i | refine schK_n (by assumption) ?_ | (refine schedW_alt_k ?_ ?_; focus (intro K hK; simp only [hlen, hd, hg, d1, d2, hr, wi, SS, SS2, SS3, SS4, Option.map_some, Bool.not_false, Bool.not_true, gArgs, gOk, Nat.reduceAdd, PV.shift, MObj.shift, rdV, rdD, reduceIte, Nat.reduceEqDiff, Nat.reduceBEq, PV.bin, PV.binOk, binI, binS, PV.withInt, PV.withIntP, okAll, PV.under, PV.okUnder, eq_self, implies_true, deadOk, ne_eq, allOk, RVar.val, RVar.ok, retV, PV.seen, PV.view, beq_self_eq_true, PV.flat, PV.noOwn, id_eq, behind, PV.kill, MObj.kill, killTag, reduceCtorEq, nilB]; (try go_unwrap; try simp only [hlen, hd, hg, d1, d2, hr, wi, toNat_add2, toNat_add1, Int.toNat_natCast, Bool.false_and, Bool.true_and, true_implies, true_and, Bool.false_eq_true, reduceCtorEq, false_implies, Bool.not_false, Bool.not_true, Bool.true_or, Bool.false_or]))) | (refine PW.cond rfl ?_ ?_ <;> intro hcond <;> (try contradiction) <;> try simp only [decide_eq_true_eq, decide_eq_false_iff_not] at hcond) | (refine gd_i ?_; intro hg; try simp only [hg]) | ((first | show @LE.le Nat _ _ _ | show @LT.lt Nat _ _ _ | show @LE.le Int _ _ _ | show @LT.lt Int _ _ _ | show @Eq Nat _ _ | show @Eq Int _ _ | show @Eq Bool _ _ | show _ ∨ _ | show ¬ _); first | omega | (simp only [decide_eq_true_eq, decide_eq_false_iff_not, List.length_cons, List.length_nil, List.length_append, List.length_map, Sh.size] <;> omega) | (go_unwrap; omega)) | ((first | refine PW.region ?_ | refine PW.regionQ ?_ | refine schedW_done_i ?_ | show (_ : Post) _ _ _ | show @Eq (List PV) _ _ | show @Eq Bool _ _ | show opsW _ _ _ _ _ _ _ _ | show okAll _ | show @Eq Bool _ _ ∨ _); focus (simp only [hlen, hd, hg, d1, d2, hr, wi, SS, SS2, SS3, SS4, Option.map_some, Bool.not_false, Bool.not_true, gArgs, gOk, Nat.reduceAdd, PV.shift, MObj.shift, rdV, rdD, reduceIte, Nat.reduceEqDiff, Nat.reduceBEq, PV.bin, PV.binOk, binI, binS, PV.withInt, PV.withIntP, okAll, PV.under, PV.okUnder, eq_self, implies_true, deadOk, ne_eq, allOk, RVar.val, RVar.ok, retV, PV.seen, PV.view, beq_self_eq_true, PV.flat, PV.noOwn, id_eq, behind, PV.kill, MObj.kill, killTag, reduceCtorEq, nilB]; (try go_unwrap; try simp only [hlen, hd, hg, d1, d2, hr, wi, toNat_add2, toNat_add1, Int.toNat_natCast, Bool.false_and, Bool.true_and, true_implies, true_and, Bool.false_eq_true, reduceCtorEq, false_implies, Bool.not_false, Bool.not_true, Bool.true_or, Bool.false_or]))) | refine And.intro ?_ ?_ | exact Or.inr ⟨rfl, Nat.le_refl _⟩ | exact (fun h => Bool.noConfusion h))
    have hpl := partM_le r
    have hrl : r.length ≤ 300 := by rw [← hr]; simp; omega
    refine PW.loopG (σ := Nat) 0 (fun _ _ => rfl) [1, 6, 7, 8, 9, 10, 11] (fun n => [.str p, .nilSl, txL out, txL nm, .int .i64 i, .str r, .int .i64 n]) (fun _ => []) (fun n => n ≤ (partM r).length) (fun n => (partM r).length - n) 0 ?_ rfl (by omega) ?_
    · simp only [SS, SS2, SS3, SS4, Option.map_some, Bool.not_false, Bool.not_true, gArgs, gOk, Nat.reduceAdd, PV.shift, MObj.shift, rdV, rdD, reduceIte, Nat.reduceEqDiff, Nat.reduceBEq, PV.bin, PV.binOk, binI, binS, PV.withInt, PV.withIntP, okAll, PV.under, PV.okUnder, eq_self, implies_true, deadOk, ne_eq, allOk, RVar.val, RVar.ok, retV, PV.seen, PV.view, beq_self_eq_true, PV.flat, PV.noOwn, id_eq, behind, PV.kill, MObj.kill, killTag, reduceCtorEq, nilB]; rfl
    rintro n hn
    simp only [List.zip_cons_cons, List.zip_nil_left]
    rcases Nat.lt_or_ge n (partM r).length with h2 | h2
    · have e1 : decide ((n : Int) < r.length) = true := by simp only [decide_eq_true_eq]; omega
      have wn : IntKind.i64.wrap ((n : Int) + 1) = ((n + 1 : Nat) : Int) := (IntWalk.i64_in _ (by omega)).trans (by omega)
      have hne := partM_at r n (by omega) h2
      have hgr : r.getD n 0 = r[n] := by simp [List.getD, show n < r.length by omega]
      have e2 : decide (((r[n]'(by omega)).toNat : Int) = 46) = false := by
        simp only [decide_eq_false_iff_not]
        intro e; exact hne ((u8_eq _ 46 (by omega)).1 e)
      generalize r[n]'(by omega) = c at hgr e2
      repeat' (first | exact True.intro | (refine PW.seqK ?_; intro K hK) | refine PW.block ?_ | refine PW.exit ?_ | refine PW.ret ?_ | refine PW.skip ?_ | refine seqK_n (by assumption) ?_ | refine seqK_r (by assumption) ?_ | refine seqK_e (by assumption) ?_ | refine PW.regionA ?_ | exact schedW_stop_i | refine schK_n (by assumption) ?_ | (refine schedW_alt_k ?_ ?_; focus (intro K hK; simp only [e1, hgr, e2, wn, SS, SS2, SS3, SS4, Option.map_some, Bool.not_false, Bool.not_true, gArgs, gOk, Nat.reduceAdd, PV.shift, MObj.shift, rdV, rdD, reduceIte, Nat.reduceEqDiff, Nat.reduceBEq, PV.bin, PV.binOk, binI, binS, PV.withInt, PV.withIntP, okAll, PV.under, PV.okUnder, eq_self, implies_true, deadOk, ne_eq, allOk, RVar.val, RVar.ok, retV, PV.seen, PV.view, beq_self_eq_true, PV.flat, PV.noOwn, id_eq, behind, PV.kill, MObj.kill, killTag, reduceCtorEq, nilB]; (try go_unwrap; try simp only [e1, hgr, e2, wn, toNat_add2, toNat_add1, Int.toNat_natCast, Bool.false_and, Bool.true_and, true_implies, true_and, Bool.false_eq_true, reduceCtorEq, false_implies, Bool.not_false, Bool.not_true, Bool.true_or, Bool.false_or]))) | (refine PW.cond rfl ?_ ?_ <;> intro hcond <;> (try contradiction) <;> try simp only [decide_eq_true_eq, decide_eq_false_iff_not] at hcond) | (refine gd_i ?_; intro hg; try simp only [hg]) | ((first | show @LE.le Nat _ _ _ | show @LT.lt Nat _ _ _ | show @LE.le Int _ _ _ | show @LT.lt Int _ _ _ | show @Eq Nat _ _ | show @Eq Int _ _ | show @Eq Bool _ _ | show _ ∨ _ | show ¬ _); first | omega | (simp only [decide_eq_true_eq, decide_eq_false_iff_not, List.length_cons, List.length_nil, List.length_append, List.length_map, Sh.size] <;> omega) | (go_unwrap; omega)) | ((first | refine PW.region ?_ | refine PW.regionQ ?_ | refine schedW_done_i ?_ | show (_ : Post) _ _ _ | show @Eq (List PV) _ _ | show @Eq Bool _ _ | show opsW _ _ _ _ _ _ _ _ | show okAll _ | show @Eq Bool _ _ ∨ _); focus (simp only [e1, hgr, e2, wn, SS, SS2, SS3, SS4, Option.map_some, Bool.not_false, Bool.not_true, gArgs, gOk, Nat.reduceAdd, PV.shift, MObj.shift, rdV, rdD, reduceIte, Nat.reduceEqDiff, Nat.reduceBEq, PV.bin, PV.binOk, binI, binS, PV.withInt, PV.withIntP, okAll, PV.under, PV.okUnder, eq_self, implies_true, deadOk, ne_eq, allOk, RVar.val, RVar.ok, retV, PV.seen, PV.view, beq_self_eq_true, PV.flat, PV.noOwn, id_eq, behind, PV.kill, MObj.kill, killTag, reduceCtorEq, nilB]; (try go_unwrap; try simp only [e1, hgr, e2, wn, toNat_add2, toNat_add1, Int.toNat_natCast, Bool.false_and, Bool.true_and, true_implies, true_and, Bool.false_eq_true, reduceCtorEq, false_implies, Bool.not_false, Bool.not_true, Bool.true_or, Bool.false_or]))) | refine And.intro ?_ ?_ | exact Or.inr ⟨rfl, Nat.le_refl _⟩ | exact (fun h => Bool.noConfusion h))
      all_goals exact ⟨n + 1, (by first | rfl | (simp only [trimE, trimM, List.take_succ_cons, List.take_zero, List.take_nil, List.map_cons, List.map_nil, Option.map_some, Option.map_none, MObj.kill, PV.kill, Nat.reduceLeDiff, decide_true, decide_false, dec_true, dec_false, Bool.false_eq_true, if_false, if_true, reduceIte, List.zip_cons_cons, List.zip_nil_left, Nat.le_refl, Nat.zero_le, Nat.not_le, Nat.lt_irrefl]; done) | (simp [trimE, trimM, MObj.kill, PV.kill]; done)), (by first | rfl | (simp only [trimE, trimM, List.take_succ_cons, List.take_zero, List.take_nil, List.map_cons, List.map_nil, Option.map_some, Option.map_none, MObj.kill, PV.kill, Nat.reduceLeDiff, decide_true, decide_false, dec_true, dec_false, Bool.false_eq_true, if_false, if_true, reduceIte, List.zip_cons_cons, List.zip_nil_left, Nat.le_refl, Nat.zero_le, Nat.not_le, Nat.lt_irrefl]; done) | (simp [trimE, trimM, MObj.kill, PV.kill]; done)), by omega, by omega⟩
    have hn' : n = (partM r).length := by omega
    subst hn'
    have hend := partM_end r
    have hpt := partM_take r
    have fin : ∀ (K : Post), PW Try.prog G0 62 (fun x => true) (.skip) [] [] K → True := fun _ _ => trivial
    by_cases h3 : (partM r).length < r.length
    · have e1 : decide (((partM r).length : Int) < r.length) = true := by simp only [decide_eq_true_eq]; omega
      have hgr : r.getD (partM r).length 0 = 46 := by
        have := hend h3
        simp only [List.getD, List.getElem?_eq_getElem h3, Option.getD_some]; exact this
      have e2 : decide ((((46 : UInt8)).toNat : Int) = 46) = true := rfl
      have h3' : (partM r).length < r.length := h3
      clear hend h3
      generalize partM r = q at hst hpt hgr e1 hpl h3'
      by_cases h4 : q = []
      · have e3 : decide ((0 : Int) < q.length) = false := by rw [h4]; rfl
        rw [if_pos h4] at hst
        repeat' (first | exact True.intro | (refine PW.seqK ?_; intro K hK) | refine PW.block ?_ | refine PW.exit ?_ | refine PW.ret ?_ | refine PW.skip ?_ | refine seqK_n (by assumption) ?_ | refine seqK_r (by assumption) ?_ | refine seqK_e (by assumption) ?_ | refine PW.regionA ?_ | exact schedW_stop_i | refine schK_n (by assumption) ?_ | (refine schedW_alt_k ?_ ?_; focus (intro K hK; simp only [hlen, e1, hgr, e2, e3, wi, SS, SS2, SS3, SS4, Option.map_some, Bool.not_false, Bool.not_true, gArgs, gOk, Nat.reduceAdd, PV.shift, MObj.shift, rdV, rdD, reduceIte, Nat.reduceEqDiff, Nat.reduceBEq, PV.bin, PV.binOk, binI, binS, PV.withInt, PV.withIntP, okAll, PV.under, PV.okUnder, eq_self, implies_true, deadOk, ne_eq, allOk, RVar.val, RVar.ok, retV, PV.seen, PV.view, beq_self_eq_true, PV.flat, PV.noOwn, id_eq, behind, PV.kill, MObj.kill, killTag, reduceCtorEq, nilB]; (try go_unwrap; try simp only [hlen, e1, hgr, e2, e3, wi, toNat_add2, toNat_add1, Int.toNat_natCast, Bool.false_and, Bool.true_and, true_implies, true_and, Bool.false_eq_true, reduceCtorEq, false_implies, Bool.not_false, Bool.not_true, Bool.true_or, Bool.false_or]))) | (refine PW.cond rfl ?_ ?_ <;> intro hcond <;> (try contradiction) <;> try simp only [decide_eq_true_eq, decide_eq_false_iff_not] at hcond) | (refine gd_i ?_; intro hg; try simp only [hg]) | ((first | show @LE.le Nat _ _ _ | show @LT.lt Nat _ _ _ | show @LE.le Int _ _ _ | show @LT.lt Int _ _ _ | show @Eq Nat _ _ | show @Eq Int _ _ | show @Eq Bool _ _ | show _ ∨ _ | show ¬ _); first | omega | (simp only [decide_eq_true_eq, decide_eq_false_iff_not, List.length_cons, List.length_nil, List.length_append, List.length_map, Sh.size] <;> omega) | (go_unwrap; omega)) | ((first | refine PW.region ?_ | refine PW.regionQ ?_ | refine schedW_done_i ?_ | show (_ : Post) _ _ _ | show @Eq (List PV) _ _ | show @Eq Bool _ _ | show opsW _ _ _ _ _ _ _ _ | show okAll _ | show @Eq Bool _ _ ∨ _); focus (simp only [hlen, e1, hgr, e2, e3, wi, SS, SS2, SS3, SS4, Option.map_some, Bool.not_false, Bool.not_true, gArgs, gOk, Nat.reduceAdd, PV.shift, MObj.shift, rdV, rdD, reduceIte, Nat.reduceEqDiff, Nat.reduceBEq, PV.bin, PV.binOk, binI, binS, PV.withInt, PV.withIntP, okAll, PV.under, PV.okUnder, eq_self, implies_true, deadOk, ne_eq, allOk, RVar.val, RVar.ok, retV, PV.seen, PV.view, beq_self_eq_true, PV.flat, PV.noOwn, id_eq, behind, PV.kill, MObj.kill, killTag, reduceCtorEq, nilB]; (try go_unwrap; try simp only [hlen, e1, hgr, e2, e3, wi, toNat_add2, toNat_add1, Int.toNat_natCast, Bool.false_and, Bool.true_and, true_implies, true_and, Bool.false_eq_true, reduceCtorEq, false_implies, Bool.not_false, Bool.not_true, Bool.true_or, Bool.false_or]))) | refine And.intro ?_ ?_ | exact Or.inr ⟨rfl, Nat.le_refl _⟩ | exact (fun h => Bool.noConfusion h))
        all_goals exact ⟨i + 1, (by rw [hst]; exact (by first | rfl | (simp only [trimE, trimM, List.take_succ_cons, List.take_zero, List.take_nil, List.map_cons, List.map_nil, Option.map_some, Option.map_none, MObj.kill, PV.kill, Nat.reduceLeDiff, decide_true, decide_false, dec_true, dec_false, Bool.false_eq_true, if_false, if_true, reduceIte, List.zip_cons_cons, List.zip_nil_left, Nat.le_refl, Nat.zero_le, Nat.not_le, Nat.lt_irrefl]; done) | (simp [trimE, trimM, MObj.kill, PV.kill]; done))), (by first | rfl | (simp only [trimE, trimM, List.take_succ_cons, List.take_zero, List.take_nil, List.map_cons, List.map_nil, Option.map_some, Option.map_none, MObj.kill, PV.kill, Nat.reduceLeDiff, decide_true, decide_false, dec_true, dec_false, Bool.false_eq_true, if_false, if_true, reduceIte, List.zip_cons_cons, List.zip_nil_left, Nat.le_refl, Nat.zero_le, Nat.not_le, Nat.lt_irrefl]; done) | (simp [trimE, trimM, MObj.kill, PV.kill]; done)), by omega, by omega⟩
      · have hq0 : 0 < q.length := List.length_pos_iff.2 h4
        have e3 : decide ((0 : Int) < q.length) = true := by simp only [decide_eq_true_eq]; omega
        rw [if_neg h4] at hst
        have h58 := v58 out q (by omega)
        repeat' (first | exact True.intro | (refine PW.seqK ?_; intro K hK) | refine PW.block ?_ | refine PW.exit ?_ | refine PW.ret ?_ | refine PW.skip ?_ | refine seqK_n (by assumption) ?_ | refine seqK_r (by assumption) ?_ | refine seqK_e (by assumption) ?_ | refine PW.regionA ?_ | exact schedW_stop_i | refine schK_n (by assumption) ?_ | (refine schedW_alt_k ?_ ?_; focus (intro K hK; simp only [hlen, e1, hgr, e2, e3, hpt, wi, SS, SS2, SS3, SS4, Option.map_some, Bool.not_false, Bool.not_true, gArgs, gOk, Nat.reduceAdd, PV.shift, MObj.shift, rdV, rdD, reduceIte, Nat.reduceEqDiff, Nat.reduceBEq, PV.bin, PV.binOk, binI, binS, PV.withInt, PV.withIntP, okAll, PV.under, PV.okUnder, eq_self, implies_true, deadOk, ne_eq, allOk, RVar.val, RVar.ok, retV, PV.seen, PV.view, beq_self_eq_true, PV.flat, PV.noOwn, id_eq, behind, PV.kill, MObj.kill, killTag, reduceCtorEq, nilB]; (try go_unwrap; try simp only [hlen, e1, hgr, e2, e3, hpt, wi, toNat_add2, toNat_add1, Int.toNat_natCast, Bool.false_and, Bool.true_and, true_implies, true_and, Bool.false_eq_true, reduceCtorEq, false_implies, Bool.not_false, Bool.not_true, Bool.true_or, Bool.false_or]))) | (refine PW.cond rfl ?_ ?_ <;> intro hcond <;> (try contradiction) <;> try simp only [decide_eq_true_eq, decide_eq_false_iff_not] at hcond) | (refine gd_i ?_; intro hg; try simp only [hg]) | refine goCall_W e58 (h58) ?_ ?_ ?_ ?_ | ((first | show @LE.le Nat _ _ _ | show @LT.lt Nat _ _ _ | show @LE.le Int _ _ _ | show @LT.lt Int _ _ _ | show @Eq Nat _ _ | show @Eq Int _ _ | show @Eq Bool _ _ | show _ ∨ _ | show ¬ _); first | omega | (simp only [decide_eq_true_eq, decide_eq_false_iff_not, List.length_cons, List.length_nil, List.length_append, List.length_map, Sh.size] <;> omega) | (go_unwrap; omega)) | ((first | refine PW.region ?_ | refine PW.regionQ ?_ | refine schedW_done_i ?_ | show (_ : Post) _ _ _ | show @Eq (List PV) _ _ | show @Eq Bool _ _ | show opsW _ _ _ _ _ _ _ _ | show okAll _ | show @Eq Bool _ _ ∨ _); focus (simp only [hlen, e1, hgr, e2, e3, hpt, wi, SS, SS2, SS3, SS4, Option.map_some, Bool.not_false, Bool.not_true, gArgs, gOk, Nat.reduceAdd, PV.shift, MObj.shift, rdV, rdD, reduceIte, Nat.reduceEqDiff, Nat.reduceBEq, PV.bin, PV.binOk, binI, binS, PV.withInt, PV.withIntP, okAll, PV.under, PV.okUnder, eq_self, implies_true, deadOk, ne_eq, allOk, RVar.val, RVar.ok, retV, PV.seen, PV.view, beq_self_eq_true, PV.flat, PV.noOwn, id_eq, behind, PV.kill, MObj.kill, killTag, reduceCtorEq, nilB]; (try go_unwrap; try simp only [hlen, e1, hgr, e2, e3, hpt, wi, toNat_add2, toNat_add1, Int.toNat_natCast, Bool.false_and, Bool.true_and, true_implies, true_and, Bool.false_eq_true, reduceCtorEq, false_implies, Bool.not_false, Bool.not_true, Bool.true_or, Bool.false_or]))) | refine And.intro ?_ ?_ | exact Or.inr ⟨rfl, Nat.le_refl _⟩ | exact (fun h => Bool.noConfusion h))
        all_goals exact ⟨i + 1, (by rw [hst]; exact (by first | rfl | (simp only [trimE, trimM, List.take_succ_cons, List.take_zero, List.take_nil, List.map_cons, List.map_nil, Option.map_some, Option.map_none, MObj.kill, PV.kill, Nat.reduceLeDiff, decide_true, decide_false, dec_true, dec_false, Bool.false_eq_true, if_false, if_true, reduceIte, List.zip_cons_cons, List.zip_nil_left, Nat.le_refl, Nat.zero_le, Nat.not_le, Nat.lt_irrefl]; done) | (simp [trimE, trimM, MObj.kill, PV.kill]; done))), (by first | rfl | (simp only [trimE, trimM, List.take_succ_cons, List.take_zero, List.take_nil, List.map_cons, List.map_nil, Option.map_some, Option.map_none, MObj.kill, PV.kill, Nat.reduceLeDiff, decide_true, decide_false, dec_true, dec_false, Bool.false_eq_true, if_false, if_true, reduceIte, List.zip_cons_cons, List.zip_nil_left, Nat.le_refl, Nat.zero_le, Nat.not_le, Nat.lt_irrefl]; done) | (simp [trimE, trimM, MObj.kill, PV.kill]; done)), by omega, by omega⟩
    · have e1 : decide (((partM r).length : Int) < r.length) = false := by simp only [decide_eq_false_iff_not]; omega
      generalize partM r = q at hst hpt e1 hpl
      by_cases h4 : q = []
      · have e3 : decide ((0 : Int) < q.length) = false := by rw [h4]; rfl
        rw [if_pos h4] at hst
        repeat' (first | exact True.intro | (refine PW.seqK ?_; intro K hK) | refine PW.block ?_ | refine PW.exit ?_ | refine PW.ret ?_ | refine PW.skip ?_ | refine seqK_n (by assumption) ?_ | refine seqK_r (by assumption) ?_ | refine seqK_e (by assumption) ?_ | refine PW.regionA ?_ | exact schedW_stop_i | refine schK_n (by assumption) ?_ | (refine schedW_alt_k ?_ ?_; focus (intro K hK; simp only [hlen, e1, e3, wi, SS, SS2, SS3, SS4, Option.map_some, Bool.not_false, Bool.not_true, gArgs, gOk, Nat.reduceAdd, PV.shift, MObj.shift, rdV, rdD, reduceIte, Nat.reduceEqDiff, Nat.reduceBEq, PV.bin, PV.binOk, binI, binS, PV.withInt, PV.withIntP, okAll, PV.under, PV.okUnder, eq_self, implies_true, deadOk, ne_eq, allOk, RVar.val, RVar.ok, retV, PV.seen, PV.view, beq_self_eq_true, PV.flat, PV.noOwn, id_eq, behind, PV.kill, MObj.kill, killTag, reduceCtorEq, nilB]; (try go_unwrap; try simp only [hlen, e1, e3, wi, toNat_add2, toNat_add1, Int.toNat_natCast, Bool.false_and, Bool.true_and, true_implies, true_and, Bool.false_eq_true, reduceCtorEq, false_implies, Bool.not_false, Bool.not_true, Bool.true_or, Bool.false_or]))) | (refine PW.cond rfl ?_ ?_ <;> intro hcond <;> (try contradiction) <;> try simp only [decide_eq_true_eq, decide_eq_false_iff_not] at hcond) | (refine gd_i ?_; intro hg; try simp only [hg]) | ((first | show @LE.le Nat _ _ _ | show @LT.lt Nat _ _ _ | show @LE.le Int _ _ _ | show @LT.lt Int _ _ _ | show @Eq Nat _ _ | show @Eq Int _ _ | show @Eq Bool _ _ | show _ ∨ _ | show ¬ _); first | omega | (simp only [decide_eq_true_eq, decide_eq_false_iff_not, List.length_cons, List.length_nil, List.length_append, List.length_map, Sh.size] <;> omega) | (go_unwrap; omega)) | ((first | refine PW.region ?_ | refine PW.regionQ ?_ | refine schedW_done_i ?_ | show (_ : Post) _ _ _ | show @Eq (List PV) _ _ | show @Eq Bool _ _ | show opsW _ _ _ _ _ _ _ _ | show okAll _ | show @Eq Bool _ _ ∨ _); focus (simp only [hlen, e1, e3, wi, SS, SS2, SS3, SS4, Option.map_some, Bool.not_false, Bool.not_true, gArgs, gOk, Nat.reduceAdd, PV.shift, MObj.shift, rdV, rdD, reduceIte, Nat.reduceEqDiff, Nat.reduceBEq, PV.bin, PV.binOk, binI, binS, PV.withInt, PV.withIntP, okAll, PV.under, PV.okUnder, eq_self, implies_true, deadOk, ne_eq, allOk, RVar.val, RVar.ok, retV, PV.seen, PV.view, beq_self_eq_true, PV.flat, PV.noOwn, id_eq, behind, PV.kill, MObj.kill, killTag, reduceCtorEq, nilB]; (try go_unwrap; try simp only [hlen, e1, e3, wi, toNat_add2, toNat_add1, Int.toNat_natCast, Bool.false_and, Bool.true_and, true_implies, true_and, Bool.false_eq_true, reduceCtorEq, false_implies, Bool.not_false, Bool.not_true, Bool.true_or, Bool.false_or]))) | refine And.intro ?_ ?_ | exact Or.inr ⟨rfl, Nat.le_refl _⟩ | exact (fun h => Bool.noConfusion h))
        all_goals exact ⟨i + 1, (by rw [hst]; exact (by first | rfl | (simp only [trimE, trimM, List.take_succ_cons, List.take_zero, List.take_nil, List.map_cons, List.map_nil, Option.map_some, Option.map_none, MObj.kill, PV.kill, Nat.reduceLeDiff, decide_true, decide_false, dec_true, dec_false, Bool.false_eq_true, if_false, if_true, reduceIte, List.zip_cons_cons, List.zip_nil_left, Nat.le_refl, Nat.zero_le, Nat.not_le, Nat.lt_irrefl]; done) | (simp [trimE, trimM, MObj.kill, PV.kill]; done))), (by first | rfl | (simp only [trimE, trimM, List.take_succ_cons, List.take_zero, List.take_nil, List.map_cons, List.map_nil, Option.map_some, Option.map_none, MObj.kill, PV.kill, Nat.reduceLeDiff, decide_true, decide_false, dec_true, dec_false, Bool.false_eq_true, if_false, if_true, reduceIte, List.zip_cons_cons, List.zip_nil_left, Nat.le_refl, Nat.zero_le, Nat.not_le, Nat.lt_irrefl]; done) | (simp [trimE, trimM, MObj.kill, PV.kill]; done)), by omega, by omega⟩
      · have hq0 : 0 < q.length := List.length_pos_iff.2 h4
        have e3 : decide ((0 : Int) < q.length) = true := by simp only [decide_eq_true_eq]; omega
        rw [if_neg h4] at hst
        have h58 := v58 out q (by omega)
        repeat' (first | exact True.intro | (refine PW.seqK ?_; intro K hK) | refine PW.block ?_ | refine PW.exit ?_ | refine PW.ret ?_ | refine PW.skip ?_ | refine seqK_n (by assumption) ?_ | refine seqK_r (by assumption) ?_ | refine seqK_e (by assumption) ?_ | refine PW.regionA ?_ | exact schedW_stop_i | refine schK_n (by assumption) ?_ | (refine schedW_alt_k ?_ ?_; focus (intro K hK; simp only [hlen, e1, e3, hpt, wi, SS, SS2, SS3, SS4, Option.map_some, Bool.not_false, Bool.not_true, gArgs, gOk, Nat.reduceAdd, PV.shift, MObj.shift, rdV, rdD, reduceIte, Nat.reduceEqDiff, Nat.reduceBEq, PV.bin, PV.binOk, binI, binS, PV.withInt, PV.withIntP, okAll, PV.under, PV.okUnder, eq_self, implies_true, deadOk, ne_eq, allOk, RVar.val, RVar.ok, retV, PV.seen, PV.view, beq_self_eq_true, PV.flat, PV.noOwn, id_eq, behind, PV.kill, MObj.kill, killTag, reduceCtorEq, nilB]; (try go_unwrap; try simp only [hlen, e1, e3, hpt, wi, toNat_add2, toNat_add1, Int.toNat_natCast, Bool.false_and, Bool.true_and, true_implies, true_and, Bool.false_eq_true, reduceCtorEq, false_implies, Bool.not_false, Bool.not_true, Bool.true_or, Bool.false_or]))) | (refine PW.cond rfl ?_ ?_ <;> intro hcond <;> (try contradiction) <;> try simp only [decide_eq_true_eq, decide_eq_false_iff_not] at hcond) | (refine gd_i ?_; intro hg; try simp only [hg]) | refine goCall_W e58 (h58) ?_ ?_ ?_ ?_ | ((first | show @LE.le Nat _ _ _ | show @LT.lt Nat _ _ _ | show @LE.le Int _ _ _ | show @LT.lt Int _ _ _ | show @Eq Nat _ _ | show @Eq Int _ _ | show @Eq Bool _ _ | show _ ∨ _ | show ¬ _); first | omega | (simp only [decide_eq_true_eq, decide_eq_false_iff_not, List.length_cons, List.length_nil, List.length_append, List.length_map, Sh.size] <;> omega) | (go_unwrap; omega)) | ((first | refine PW.region ?_ | refine PW.regionQ ?_ | refine schedW_done_i ?_ | show (_ : Post) _ _ _ | show @Eq (List PV) _ _ | show @Eq Bool _ _ | show opsW _ _ _ _ _ _ _ _ | show okAll _ | show @Eq Bool _ _ ∨ _); focus (simp only [hlen, e1, e3, hpt, wi, SS, SS2, SS3, SS4, Option.map_some, Bool.not_false, Bool.not_true, gArgs, gOk, Nat.reduceAdd, PV.shift, MObj.shift, rdV, rdD, reduceIte, Nat.reduceEqDiff, Nat.reduceBEq, PV.bin, PV.binOk, binI, binS, PV.withInt, PV.withIntP, okAll, PV.under, PV.okUnder, eq_self, implies_true, deadOk, ne_eq, allOk, RVar.val, RVar.ok, retV, PV.seen, PV.view, beq_self_eq_true, PV.flat, PV.noOwn, id_eq, behind, PV.kill, MObj.kill, killTag, reduceCtorEq, nilB]; (try go_unwrap; try simp only [hlen, e1, e3, hpt, wi, toNat_add2, toNat_add1, Int.toNat_natCast, Bool.false_and, Bool.true_and, true_implies, true_and, Bool.false_eq_true, reduceCtorEq, false_implies, Bool.not_false, Bool.not_true, Bool.true_or, Bool.false_or]))) | refine And.intro ?_ ?_ | exact Or.inr ⟨rfl, Nat.le_refl _⟩ | exact (fun h => Bool.noConfusion h))
        all_goals exact ⟨i + 1, (by rw [hst]; exact (by first | rfl | (simp only [trimE, trimM, List.take_succ_cons, List.take_zero, List.take_nil, List.map_cons, List.map_nil, Option.map_some, Option.map_none, MObj.kill, PV.kill, Nat.reduceLeDiff, decide_true, decide_false, dec_true, dec_false, Bool.false_eq_true, if_false, if_true, reduceIte, List.zip_cons_cons, List.zip_nil_left, Nat.le_refl, Nat.zero_le, Nat.not_le, Nat.lt_irrefl]; done) | (simp [trimE, trimM, MObj.kill, PV.kill]; done))), (by first | rfl | (simp only [trimE, trimM, List.take_succ_cons, List.take_zero, List.take_nil, List.map_cons, List.map_nil, Option.map_some, Option.map_none, MObj.kill, PV.kill, Nat.reduceLeDiff, decide_true, decide_false, dec_true, dec_false, Bool.false_eq_true, if_false, if_true, reduceIte, List.zip_cons_cons, List.zip_nil_left, Nat.le_refl, Nat.zero_le, Nat.not_le, Nat.lt_irrefl]; done) | (simp [trimE, trimM, MObj.kill, PV.kill]; done)), by omega, by omega⟩
  · have hd : decide ((i : Int) < nm.length) = false := by simp only [decide_eq_false_iff_not]; omega
    have hi' : i = nm.length := by omega
    subst hi'
    repeat' (first | exact True.intro | (refine PW.seqK ?_; intro K hK) | refine PW.block ?_ | refine PW.exit ?_ | refine PW.ret ?_ | refine PW.skip ?_ | refine seqK_n (by assumption) ?_ | refine seqK_r (by assumption) ?_ | refine seqK_e (by assumption) ?_ | refine PW.regionA ?_ | exact schedW_stop_i | refine schK_n (by assumption) ?_ | (refine schedW_alt_k ?_ ?_; focus (intro K hK; simp only [hd, hlen, SS, SS2, SS3, SS4, Option.map_some, Bool.not_false, Bool.not_true, gArgs, gOk, Nat.reduceAdd, PV.shift, MObj.shift, rdV, rdD, reduceIte, Nat.reduceEqDiff, Nat.reduceBEq, PV.bin, PV.binOk, binI, binS, PV.withInt, PV.withIntP, okAll, PV.under, PV.okUnder, eq_self, implies_true, deadOk, ne_eq, allOk, RVar.val, RVar.ok, retV, PV.seen, PV.view, beq_self_eq_true, PV.flat, PV.noOwn, id_eq, behind, PV.kill, MObj.kill, killTag, reduceCtorEq, nilB]; (try go_unwrap; try simp only [hd, hlen, toNat_add2, toNat_add1, Int.toNat_natCast, Bool.false_and, Bool.true_and, true_implies, true_and, Bool.false_eq_true, reduceCtorEq, false_implies, Bool.not_false, Bool.not_true, Bool.true_or, Bool.false_or]))) | (refine PW.cond rfl ?_ ?_ <;> intro hcond <;> (try contradiction) <;> try simp only [decide_eq_true_eq, decide_eq_false_iff_not] at hcond) | (refine gd_i ?_; intro hg; try simp only [hg]) | ((first | show @LE.le Nat _ _ _ | show @LT.lt Nat _ _ _ | show @LE.le Int _ _ _ | show @LT.lt Int _ _ _ | show @Eq Nat _ _ | show @Eq Int _ _ | show @Eq Bool _ _ | show _ ∨ _ | show ¬ _); first | omega | (simp only [decide_eq_true_eq, decide_eq_false_iff_not, List.length_cons, List.length_nil, List.length_append, List.length_map, Sh.size] <;> omega) | (go_unwrap; omega)) | ((first | refine PW.region ?_ | refine PW.regionQ ?_ | refine schedW_done_i ?_ | show (_ : Post) _ _ _ | show @Eq (List PV) _ _ | show @Eq Bool _ _ | show opsW _ _ _ _ _ _ _ _ | show okAll _ | show @Eq Bool _ _ ∨ _); focus (simp only [hd, hlen, SS, SS2, SS3, SS4, Option.map_some, Bool.not_false, Bool.not_true, gArgs, gOk, Nat.reduceAdd, PV.shift, MObj.shift, rdV, rdD, reduceIte, Nat.reduceEqDiff, Nat.reduceBEq, PV.bin, PV.binOk, binI, binS, PV.withInt, PV.withIntP, okAll, PV.under, PV.okUnder, eq_self, implies_true, deadOk, ne_eq, allOk, RVar.val, RVar.ok, retV, PV.seen, PV.view, beq_self_eq_true, PV.flat, PV.noOwn, id_eq, behind, PV.kill, MObj.kill, killTag, reduceCtorEq, nilB]; (try go_unwrap; try simp only [hd, hlen, toNat_add2, toNat_add1, Int.toNat_natCast, Bool.false_and, Bool.true_and, true_implies, true_and, Bool.false_eq_true, reduceCtorEq, false_implies, Bool.not_false, Bool.not_true, Bool.true_or, Bool.false_or]))) | refine And.intro ?_ ?_ | exact Or.inr ⟨rfl, Nat.le_refl _⟩ | exact (fun h => Bool.noConfusion h))
end Go.Proofs.Ytjcoenideicmbaa

namespace Go.Proofs.Ytjcoenideicmbaa
open PG Go.Proofs
-- internal/stringslite.Index
def L80 : List Nat := [0, 1, 4, 5, 6, 7, 8, 9, 10, 11, 12, 13, 16, 24, 31, 36, 59, 64, 73, 93, 107, 114, 132, 139]
def c80 : CF := ⟨143,
  .seq (.region false [⟨some 4, none, .rd .mov [.pv (.int .i64 0)]⟩] L80)
  (.seq (.region false [⟨some 14, none, .rd .mov [.tmp 1]⟩,
     ⟨some 15, none, .rd .lenS [.tmp 14]⟩,
     ⟨some 5, none, .rd .mov [.tmp 15]⟩] L80)
  (.seq (.block 0
    (.seq (.region false [⟨some 17, none, .rd .mov [.tmp 5]⟩,
        ⟨some 18, none, .rd (.bin .eql) [.tmp 17, .pv (.int .i64 0)]⟩,
        ⟨some 19, none, .rd .mov [.tmp 18]⟩,
        ⟨some 20, some (19, false), .rd .mov [.tmp 1]⟩,
        ⟨some 21, some (19, false), .rd .mov [.tmp 0]⟩,
        ⟨some 22, some (19, false), .rd (.bin .eql) [.tmp 20, .tmp 21]⟩,
        ⟨some 23, none, .rd .pick [.tmp 19, .pv (.bool true), .tmp 22]⟩,
        ⟨some 16, none, .rd .mov [.tmp 23]⟩] L80)
     (.cond (.tmp 16)
      (.seq (.region false [⟨some 4, none, .rd .mov [.pv (.int .i64 0)]⟩] L80)
       (.ret))
      (.seq (.region false [⟨some 25, none, .rd .mov [.tmp 5]⟩,
          ⟨some 26, none, .rd (.bin .eql) [.tmp 25, .pv (.int .i64 1)]⟩,
          ⟨some 24, none, .rd .mov [.tmp 26]⟩] L80)
       (.cond (.tmp 24)
        (.seq (.region false [⟨some 27, none, .rd .mov [.tmp 0]⟩,
            ⟨some 28, none, .rd .mov [.tmp 1]⟩,
            ⟨some 29, none, .rd .idxS [.tmp 28, .pv (.int .i64 0)]⟩,
            ⟨some 30, none, .call (.pv (.fn 88 [] [])) [.tmp 27, .tmp 29]⟩,
            ⟨some 4, none, .rd .mov [.tmp 30]⟩] L80)
         (.ret))
        (.seq (.region false [⟨some 32, none, .rd .mov [.tmp 5]⟩,
            ⟨some 33, none, .rd .mov [.tmp 0]⟩,
            ⟨some 34, none, .rd .lenS [.tmp 33]⟩,
            ⟨some 35, none, .rd (.bin .geq) [.tmp 32, .tmp 34]⟩,
            ⟨some 31, none, .rd .mov [.tmp 35]⟩] L80)
         (.cond (.tmp 31)
          (.seq (.region false [⟨some 4, none, .rd .mov [.pv (.int .i64 (-1))]⟩] L80)
           (.ret))
          (.seq (.region false [⟨some 37, none, .rd .mov [.tmp 5]⟩,
              ⟨some 38, none, .rd (.load none) [.glob 0]⟩,
              ⟨some 39, none, .rd (.bin .leq) [.tmp 37, .tmp 38]⟩,
              ⟨some 40, none, .rd .mov [.tmp 39]⟩,
              ⟨some 41, some (40, true), .rd .mov [.tmp 0]⟩,
              ⟨some 42, some (40, true), .rd .lenS [.tmp 41]⟩,
              ⟨some 43, some (40, true), .rd (.bin .leq) [.tmp 42, .pv (.int .i64 64)]⟩,
              ⟨some 44, none, .rd .pick [.tmp 40, .tmp 43, .pv (.bool false)]⟩,
              ⟨some 36, none, .rd .mov [.tmp 44]⟩] L80)
           (.cond (.tmp 36)
            (.seq (.region false [⟨some 45, none, .rd .mov [.tmp 0]⟩,
                ⟨some 46, none, .rd .mov [.tmp 1]⟩,
                ⟨some 47, none, .call (.pv (.fn 89 [] [])) [.tmp 45, .tmp 46]⟩,
                ⟨some 4, none, .rd .mov [.tmp 47]⟩] L80)
             (.ret))
            (.skip))))))))))
  (.seq (.region false [⟨some 48, none, .rd .mov [.tmp 1]⟩,
     ⟨some 49, none, .rd .idxS [.tmp 48, .pv (.int .i64 0)]⟩,
     ⟨some 6, none, .rd .mov [.tmp 49]⟩] L80)
  (.seq (.region false [⟨some 50, none, .rd .mov [.tmp 1]⟩,
     ⟨some 51, none, .rd .idxS [.tmp 50, .pv (.int .i64 1)]⟩,
     ⟨some 7, none, .rd .mov [.tmp 51]⟩] L80)
  (.seq (.region false [⟨some 8, none, .rd .mov [.pv (.int .i64 0)]⟩] L80)
  (.seq (.region false [⟨some 52, none, .rd .mov [.tmp 0]⟩,
     ⟨some 53, none, .rd .lenS [.tmp 52]⟩,
     ⟨some 54, none, .rd .mov [.tmp 5]⟩,
     ⟨some 55, none, .rd (.bin .sub) [.tmp 53, .tmp 54]⟩,
     ⟨some 56, none, .rd (.bin .add) [.tmp 55, .pv (.int .i64 1)]⟩,
     ⟨some 9, none, .rd .mov [.tmp 56]⟩] L80)
  (.seq (.region false [⟨some 10, none, .rd .mov [.pv (.int .i64 0)]⟩] L80)
  (.seq (.block 1
    (.loop
      (.seq (.seq (.region false [⟨some 57, none, .rd .mov [.tmp 8]⟩,
           ⟨some 58, none, .rd .mov [.tmp 9]⟩,
           ⟨some 59, none, .rd (.bin .lss) [.tmp 57, .tmp 58]⟩] L80)
        (.cond (.tmp 59)
         (.skip)
         (.exit 1)))
       (.block 2
        (.seq (.seq (.region false [⟨some 60, none, .rd .mov [.tmp 0]⟩,
             ⟨some 61, none, .rd .mov [.tmp 8]⟩,
             ⟨some 62, none, .rd .idxS [.tmp 60, .tmp 61]⟩,
             ⟨some 63, none, .rd .mov [.tmp 6]⟩,
             ⟨some 64, none, .rd (.bin .neq) [.tmp 62, .tmp 63]⟩] L80)
          (.cond (.tmp 64)
           (.seq (.region false [⟨some 65, none, .rd .mov [.tmp 0]⟩,
               ⟨some 66, none, .rd .mov [.tmp 8]⟩,
               ⟨some 67, none, .rd (.bin .add) [.tmp 66, .pv (.int .i64 1)]⟩,
               ⟨some 68, none, .rd .mov [.tmp 9]⟩,
               ⟨some 69, none, .rd (.slcS true true) [.tmp 65, .tmp 67, .tmp 68]⟩,
               ⟨some 70, none, .rd .mov [.tmp 6]⟩,
               ⟨some 71, none, .call (.pv (.fn 88 [] [])) [.tmp 69, .tmp 70]⟩,
               ⟨some 11, none, .rd .mov [.tmp 71]⟩] L80)
            (.seq (.seq (.region false [⟨some 72, none, .rd .mov [.tmp 11]⟩,
                ⟨some 73, none, .rd (.bin .lss) [.tmp 72, .pv (.int .i64 0)]⟩] L80)
             (.cond (.tmp 73)
              (.seq (.region false [⟨some 4, none, .rd .mov [.pv (.int .i64 (-1))]⟩] L80)
               (.ret))
              (.skip)))
            (.region false [⟨some 74, none, .rd .mov [.tmp 8]⟩,
              ⟨some 75, none, .rd .mov [.tmp 11]⟩,
              ⟨some 76, none, .rd (.bin .add) [.tmp 75, .pv (.int .i64 1)]⟩,
              ⟨some 77, none, .rd (.bin .add) [.tmp 74, .tmp 76]⟩,
              ⟨some 8, none, .rd .mov [.tmp 77]⟩] L80)))
           (.skip)))
         (.seq (.seq (.region false [⟨some 78, none, .rd .mov [.tmp 0]⟩,
             ⟨some 79, none, .rd .mov [.tmp 8]⟩,
             ⟨some 80, none, .rd (.bin .add) [.tmp 79, .pv (.int .i64 1)]⟩,
             ⟨some 81, none, .rd .idxS [.tmp 78, .tmp 80]⟩,
             ⟨some 82, none, .rd .mov [.tmp 7]⟩,
             ⟨some 83, none, .rd (.bin .eql) [.tmp 81, .tmp 82]⟩,
             ⟨some 84, none, .rd .mov [.tmp 83]⟩,
             ⟨some 85, some (84, true), .rd .mov [.tmp 0]⟩,
             ⟨some 86, some (84, true), .rd .mov [.tmp 8]⟩,
             ⟨some 87, some (84, true), .rd .mov [.tmp 8]⟩,
             ⟨some 88, some (84, true), .rd .mov [.tmp 5]⟩,
             ⟨some 89, some (84, true), .rd (.bin .add) [.tmp 87, .tmp 88]⟩,
             ⟨some 90, some (84, true), .rd (.slcS true true) [.tmp 85, .tmp 86, .tmp 89]⟩,
             ⟨some 91, some (84, true), .rd .mov [.tmp 1]⟩,
             ⟨some 92, some (84, true), .rd (.bin .eql) [.tmp 90, .tmp 91]⟩,
             ⟨some 93, none, .rd .pick [.tmp 84, .tmp 92, .pv (.bool false)]⟩] L80)
          (.cond (.tmp 93)
           (.seq (.region false [⟨some 94, none, .rd .mov [.tmp 8]⟩,
               ⟨some 4, none, .rd .mov [.tmp 94]⟩] L80)
            (.ret))
           (.skip)))
         (.seq (.region false [⟨some 95, none, .rd .mov [.tmp 8]⟩,
            ⟨some 96, none, .rd (.bin .add) [.tmp 95, .pv (.int .i64 1)]⟩,
            ⟨some 8, none, .rd .mov [.tmp 96]⟩] L80)
         (.seq (.region false [⟨some 97, none, .rd .mov [.tmp 10]⟩,
            ⟨some 98, none, .rd (.bin .add) [.tmp 97, .pv (.int .i64 1)]⟩,
            ⟨some 10, none, .rd .mov [.tmp 98]⟩] L80)
         (.seq (.region false [⟨some 99, none, .rd .mov [.tmp 5]⟩,
            ⟨some 100, none, .rd (.load none) [.glob 0]⟩,
            ⟨some 101, none, .rd (.bin .leq) [.tmp 99, .tmp 100]⟩,
            ⟨some 102, none, .rd .mov [.tmp 101]⟩,
            ⟨some 103, some (102, true), .rd .mov [.tmp 10]⟩,
            ⟨some 104, some (102, true), .rd .mov [.tmp 8]⟩,
            ⟨some 105, some (102, true), .call (.pv (.fn 90 [] [])) [.tmp 104]⟩,
            ⟨some 106, some (102, true), .rd (.bin .gtr) [.tmp 103, .tmp 105]⟩,
            ⟨some 107, none, .rd .pick [.tmp 102, .tmp 106, .pv (.bool false)]⟩] L80)
         (.cond (.tmp 107)
          (.seq (.region false [⟨some 108, none, .rd .mov [.tmp 0]⟩,
              ⟨some 109, none, .rd .mov [.tmp 8]⟩,
              ⟨some 110, none, .rd (.slcS true false) [.tmp 108, .tmp 109]⟩,
              ⟨some 111, none, .rd .mov [.tmp 1]⟩,
              ⟨some 112, none, .call (.pv (.fn 89 [] [])) [.tmp 110, .tmp 111]⟩,
              ⟨some 12, none, .rd .mov [.tmp 112]⟩] L80)
           (.seq (.seq (.region false [⟨some 113, none, .rd .mov [.tmp 12]⟩,
               ⟨some 114, none, .rd (.bin .geq) [.tmp 113, .pv (.int .i64 0)]⟩] L80)
            (.cond (.tmp 114)
             (.seq (.region false [⟨some 115, none, .rd .mov [.tmp 12]⟩,
                 ⟨some 116, none, .rd .mov [.tmp 8]⟩,
                 ⟨some 117, none, .rd (.bin .add) [.tmp 115, .tmp 116]⟩,
                 ⟨some 4, none, .rd .mov [.tmp 117]⟩] L80)
              (.ret))
             (.skip)))
           (.seq (.region false [⟨some 4, none, .rd .mov [.pv (.int .i64 (-1))]⟩] L80)
           (.ret))))
          (.seq (.region false [⟨some 118, none, .rd .mov [.tmp 5]⟩,
              ⟨some 119, none, .rd (.load none) [.glob 0]⟩,
              ⟨some 120, none, .rd (.bin .gtr) [.tmp 118, .tmp 119]⟩,
              ⟨some 121, none, .rd .mov [.tmp 120]⟩,
              ⟨some 122, some (121, true), .rd .mov [.tmp 10]⟩,
              ⟨some 123, some (121, true), .rd .mov [.tmp 8]⟩,
              ⟨some 124, some (121, true), .rd (.bin .shr) [.tmp 123, .pv (.int .u64 4)]⟩,
              ⟨some 125, some (121, true), .rd (.bin .add) [.pv (.int .i64 4), .tmp 124]⟩,
              ⟨some 126, some (121, true), .rd (.bin .geq) [.tmp 122, .tmp 125]⟩,
              ⟨some 127, none, .rd .pick [.tmp 121, .tmp 126, .pv (.bool false)]⟩,
              ⟨some 128, none, .rd .mov [.tmp 127]⟩,
              ⟨some 129, some (128, true), .rd .mov [.tmp 8]⟩,
              ⟨some 130, some (128, true), .rd .mov [.tmp 9]⟩,
              ⟨some 131, some (128, true), .rd (.bin .lss) [.tmp 129, .tmp 130]⟩,
              ⟨some 132, none, .rd .pick [.tmp 128, .tmp 131, .pv (.bool false)]⟩] L80)
           (.cond (.tmp 132)
            (.seq (.region false [⟨some 133, none, .rd .mov [.tmp 0]⟩,
                ⟨some 134, none, .rd .mov [.tmp 8]⟩,
                ⟨some 135, none, .rd (.slcS true false) [.tmp 133, .tmp 134]⟩,
                ⟨some 136, none, .rd .mov [.tmp 1]⟩,
                ⟨some 137, none, .call (.pv (.fn 91 [] [])) [.tmp 135, .tmp 136]⟩,
                ⟨some 13, none, .rd .mov [.tmp 137]⟩] L80)
             (.seq (.seq (.region false [⟨some 138, none, .rd .mov [.tmp 13]⟩,
                 ⟨some 139, none, .rd (.bin .lss) [.tmp 138, .pv (.int .i64 0)]⟩] L80)
              (.cond (.tmp 139)
               (.seq (.region false [⟨some 4, none, .rd .mov [.pv (.int .i64 (-1))]⟩] L80)
                (.ret))
               (.skip)))
             (.seq (.region false [⟨some 140, none, .rd .mov [.tmp 8]⟩,
                ⟨some 141, none, .rd .mov [.tmp 13]⟩,
                ⟨some 142, none, .rd (.bin .add) [.tmp 140, .tmp 141]⟩,
                ⟨some 4, none, .rd .mov [.tmp 142]⟩] L80)
             (.ret))))
            (.skip)))))))))))))
  (.seq (.region false [⟨some 4, none, .rd .mov [.pv (.int .i64 (-1))]⟩] L80)
  (.ret)))))))))),
  [.tmp 4]⟩

-- internal/stringslite.IndexByte
theorem k80 : compileF Try.prog [] L80 Try.f80 = some c80 := by kernel_rfl
end Go.Proofs.Ytjcoenideicmbaa

