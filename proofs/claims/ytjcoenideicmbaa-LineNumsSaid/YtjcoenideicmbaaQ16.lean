import Derived.Test.YtjcoenideicmbaaRows
import Derived.Test.YtjcoenideicmbaaQ14
import Derived.Test.YtjcoenideicmbaaQ15
import Derived.Test.YtjcoenideicmbaaQ12
namespace Go.Proofs.Ytjcoenideicmbaa
open Go PG Go.Proofs
set_option linter.unusedSimpArgs false
set_option linter.unusedVariables false
set_option maxHeartbeats 2000000
set_option maxRecDepth 100000
/-- The place of the fact that is in force. -/
def atM (l : List En) (d : Int) : Int := placeM (l.map knOf) d
theorem atM_in (l : List En) (d : Int) : -1 ≤ atM l d ∧ atM l d < l.length := by
  have := placeM_in (l.map knOf) d
  rw [List.length_map] at this; exact this
def vlE (l : List En) (p : Int) : Vl := if p < 0 then vl0 else vlOf (l.getD p.toNat default)
theorem valM_vlE (l : List En) (p : Int) (h : p < l.length) : valM (l.map knOf) p = vlE l p := by
  unfold vlE
  split
  · unfold valM; rw [if_pos (by assumption)]
  · rw [valM_kn l p (by omega) (by omega)]
    simp [List.getD, show p.toNat < l.length by omega]
def piE (l : List En) (x : St3) : PV := .agg [.int .i64 x.1, .int .i64 x.2.1, .int .i64 (vlE l x.2.2).n, .int .i64 (vlE l x.2.2).num, .str (vlE l x.2.2).text]
abbrev fullE (l : List En) (a b : Int) : List St3 := fullM (l.map knOf) a b
theorem piE_map (l : List En) (a b : Int) : (pcs (fullE l a b)).map (pieP (l.map knOf)) = (pcs (fullE l a b)).map (piE l) := by
  refine List.map_congr_left fun x hx => ?_
  obtain ⟨h1, h2, -⟩ := pcs_mem hx
  rw [List.length_map] at h2
  unfold pieP piE
  rw [valM_vlE l _ h2]
theorem chS_eq' (l : List Kn) {a b : Int} (h : a ≤ b) : chS a (fullM l a b) = chU (placeM l) a (b - a - 1).toNat := by
  rcases Int.lt_or_eq_of_le h with h | h
  · exact chS_eq l h
  · subst h; rw [full_none l (by omega)]
    rw [show (a - a - 1).toNat = 0 by omega]; rfl
def numsE (l : List En) (a : Int) (n : Nat) : List Int := (List.range n).map fun (j : Nat) => (vlE l (atM l (a + j))).num
theorem numsE_len (l : List En) (a : Int) (n : Nat) : (numsE l a n).length = n := by simp [numsE]
theorem numsE_eq (l : List En) (a : Int) (n : Nat) : numsU (l.map knOf) a n = numsE l a n := by
  unfold numsU numsE
  refine List.map_congr_left fun j _ => ?_
  rw [show placeM (l.map knOf) (a + j) = atM l (a + j) from rfl, valM_vlE l _ (atM_in l _).2]
/-- All that is told of a line of entries. -/
structure LineV (l : List En) (KV LV : PV) : Prop where
  kn : KV.noOwn = true
  ks : ∀ μ, PV.seen μ KV = true
  kw : ∀ μ, PV.view μ KV = KV
  known : VCalls Try.prog G0 20 [enL l] KV
  of : VCalls Try.prog G0 19 [KV] (.agg [LV])
  at_ : ∀ d, VCalls Try.prog G0 27 [.agg [LV], .int .i64 d] (.tup [vlP (vlE l (atM l d)), .bool (decide (0 ≤ atM l d))])
  over : ∀ a b, VCalls Try.prog G0 21 [.agg [LV], .agg [.int .i64 a, .int .i64 b]] (.list (some 5) ((pcs (fullE l a b)).map (piE l)))
  changes : ∀ a b, VCalls Try.prog G0 30 [.agg [LV], .agg [.int .i64 a, .int .i64 b]] (.list none ((chS a (fullE l a b)).map (PV.int .i64)))
  nums : ∀ a b, a ≤ b → b - a ≤ 4096 → -9223372036854775808 ≤ a → b ≤ 9223372036854775807 → VCalls Try.prog G0 29 [.agg [LV], .agg [.int .i64 a, .int .i64 b]] (.list none ((numsE l a (b - a).toNat).map (PV.int .i64)))
  nums0 : ∀ a b, b ≤ a → VCalls Try.prog G0 29 [.agg [LV], .agg [.int .i64 a, .int .i64 b]] .nilSl
  numsL : ∀ a b, a < b → 4096 < b - a → -9223372036854775808 ≤ a → b ≤ 9223372036854775807 → VCalls Try.prog G0 29 [.agg [LV], .agg [.int .i64 a, .int .i64 b]] .nilSl
  facts : VCalls Try.prog G0 23 [enL l] (enL l)
  place : ∀ d, VCalls Try.prog G0 28 [enL l, .int .i64 d] (.int .i64 (atM l d))
theorem lineV (l : List En) (hl : l.length ≤ 1000000000) : ∃ KV XX, LineV l KV (.list (some 9) XX) := by
  refine ⟨knV (l.map knOf), (l.map knOf).map knP, ?_, ?_, ?_, v20 l hl, v19 _ (by simpa using hl), fun d => ?_, fun a b => ?_, fun a b => v30 _ (by simpa using hl) a b, fun a b h1 h2 h3 h4 => ?_,
    fun a b h => v29n _ (by simpa using hl) a b h, fun a b h1 h2 h3 h4 => v29m _ (by simpa using hl) a b h1 h2 h3 h4, v23 l hl, v28 l hl⟩
  · unfold knV; split <;> simp [PV.noOwn]
  · intro μ; unfold knV; split <;> simp [PV.seen]
  · intro μ; unfold knV; split <;> simp [PV.view]
  · have h := v27 (l.map knOf) (by simpa using hl) d
    have e : valM (l.map knOf) (placeM (l.map knOf) d) = vlE l (atM l d) := valM_vlE l _ (atM_in l d).2
    rw [e] at h; exact h
  · have h := v21 (l.map knOf) (by simpa using hl) a b
    unfold ovP at h
    rw [show pcs (fullM (l.map knOf) a b) = pcs (fullE l a b) from rfl, piE_map] at h
    exact h
  · rcases Int.lt_or_eq_of_le h1 with h | h
    · have e := v29 (l.map knOf) (by simpa using hl) a b h h2 h3 h4
      rw [numsE_eq] at e; exact e
    · subst h
      refine VCalls.res (v29n _ (by simpa using hl) a a (by omega)) ?_
      rw [show (a - a).toNat = 0 by omega]
      exact .nil _
theorem v8 (l : List En) (hl : l.length ≤ 9223372036854775807) (a n : Nat) (ha : a ≤ 65535) (hn : n ≤ 65535) : VCalls Try.prog G0 8 [enL l, .int .u16 a, .int .u16 n] (.bool true) := by
  refine VCalls.of_PW Try.func8 k8 mix (by simp [c8]) ?_
  simp only [c8, L8, argE]
  have hlen : ((l.map enP).length : Nat) = l.length := by simp
  rcases Nat.lt_or_ge 30 l.length with h | h
  · have d1 : decide ((30 : Int) < l.length) = true := by simp only [decide_eq_true_eq]; omega
    repeat' (first | exact True.intro | (refine PW.seqK ?_; intro K hK) | refine PW.block ?_ | refine PW.exit ?_ | refine PW.ret ?_ | refine PW.skip ?_ | refine seqK_n (by assumption) ?_ | refine seqK_r (by assumption) ?_ | refine seqK_e (by assumption) ?_ | refine PW.regionA ?_ | exact schedW_stop_i | (refine PW.cond rfl ?_ ?_ <;> intro hcond <;> (try contradiction) <;> try simp only [decide_eq_true_eq, decide_eq_false_iff_not] at hcond) | (refine gd_i ?_; intro hg; try simp only [hg]) | refine goCall_W e17 (v17) ?_ ?_ ?_ ?_ | ((first | show @LE.le Nat _ _ _ | show @LT.lt Nat _ _ _ | show @LE.le Int _ _ _ | show @LT.lt Int _ _ _ | show @Eq Nat _ _ | show @Eq Int _ _ | show @Eq Bool _ _ | show _ ∨ _ | show ¬ _); first | omega | (simp only [decide_eq_true_eq, decide_eq_false_iff_not, List.length_cons, List.length_nil, List.length_append, List.length_map, Sh.size] <;> omega) | (go_unwrap; omega)) | ((first | refine PW.region ?_ | refine PW.regionQ ?_ | refine schedW_alt_i ?_ ?_ | refine schedW_done_i ?_ | show (_ : Post) _ _ _ | show @Eq (List PV) _ _ | show @Eq Bool _ _ | show opsW _ _ _ _ _ _ _ _ | show okAll _ | show @Eq Bool _ _ ∨ _); focus (simp only [hlen, d1, SS, SS2, SS3, SS4, Option.map_some, Bool.not_false, Bool.not_true, gArgs, gOk, Nat.reduceAdd, PV.shift, MObj.shift, rdV, rdD, reduceIte, Nat.reduceEqDiff, Nat.reduceBEq, PV.bin, PV.binOk, binI, binS, PV.withInt, PV.withIntP, okAll, PV.under, PV.okUnder, eq_self, implies_true, deadOk, ne_eq, allOk, RVar.val, RVar.ok, retV, PV.seen, PV.view, beq_self_eq_true, PV.flat, PV.noOwn, id_eq, behind, PV.kill, MObj.kill, killTag, reduceCtorEq, nilB]; (try go_unwrap; try simp only [hlen, d1, toNat_add2, toNat_add1, Int.toNat_natCast, Bool.false_and, Bool.true_and, true_implies, true_and, Bool.false_eq_true, reduceCtorEq, false_implies, Bool.not_false, Bool.not_true, Bool.true_or, Bool.false_or]))) | refine And.intro ?_ ?_ | exact Or.inr ⟨rfl, Nat.le_refl _⟩ | exact (fun h => Bool.noConfusion h))
  have d1 : decide ((30 : Int) < l.length) = false := by simp only [decide_eq_false_iff_not]; omega
  have h18 := v18 a n ha hn
  obtain ⟨A, hA⟩ : ∃ A : Int, (a : Int) - 20000 = A := ⟨_, rfl⟩
  obtain ⟨B, hB⟩ : ∃ B : Int, A + ((n % 400 : Nat) : Int) = B := ⟨_, rfl⟩
  rw [hA, hB] at h18
  obtain ⟨KV, XX, LV⟩ := lineV l (by omega)
  have hKn := LV.kn
  have hKs := LV.ks
  have hKw := LV.kw
  have h20 := LV.known
  have h19 := LV.of
  have h23 := LV.facts
  have h29 := LV.nums A B (by omega) (by omega) (by omega) (by omega)
  have h30 := LV.changes A B
  have h31 := v31 l (by omega) A B (by omega) (by omega) (by omega)
  rw [← chS_eq' (l.map knOf) (by omega : A ≤ B)] at h31
  have hcl : (chS A (fullE l A B)).length ≤ 1000 := by
    have e1 := chS_len A (fullE l A B)
    have e2 : (fullE l A B).length ≤ 2 * (l.map knOf).length + 1 := full_len (l.map knOf) A B
    rw [List.length_map] at e2
    omega
  change VCalls Try.prog G0 31 _ (.list none ((chS A (fullE l A B)).map (PV.int .i64))) at h31
  generalize chS A (fullE l A B) = C at h30 h31 hcl
  have w1 : IntKind.i64.wrap (B - A) = ((B - A).toNat : Int) := (IntWalk.i64_in _ (by omega)).trans (by omega)
  have hM : (B - A).toNat ≤ 400 := by omega
  obtain ⟨M, hM0⟩ : ∃ M, (B - A).toNat = M := ⟨_, rfl⟩
  rw [hM0] at h29 w1 hM
  have hnl := numsE_len l A M
  have hC : (C.map (PV.int .i64)).length = C.length := by simp
  have hN : ((numsE l A M).map (PV.int .i64)).length = M := by simp [hnl]
  have hNg : ∀ i, i < M → ((numsE l A M).map (PV.int .i64)).getD i .junk = .int .i64 (vlE l (atM l (A + i))).num := by
    intro i hi
    simp [List.getD, numsE, hi]
  have hCg : ∀ i, (h : i < C.length) → (C.map (PV.int .i64)).getD i .junk = .int .i64 C[i] := by
    intro i hi
    simp [List.getD, hi]
  generalize (numsE l A M).map (PV.int .i64) = NL at h29 hN hNg
  generalize hCL : C.map (PV.int .i64) = CL at h30 h31 hC hCg
  have y1 : decide ((M : Int) = (M : Int)) = true := by simp
  have y2 : decide ((C.length : Int) = C.length) = true := by simp
  clear hCL
  repeat' (first | exact True.intro | (refine PW.seqA (E := ?_) (M := ?_) ?_ ?_; rotate_left 2) | exact mergeQ_mk _ _ | (refine PW.seqK ?_; intro K hK) | refine PW.block ?_ | refine PW.exit ?_ | refine PW.ret ?_ | refine PW.skip ?_ | refine seqK_n (by assumption) ?_ | refine seqK_r (by assumption) ?_ | refine seqK_e (by assumption) ?_ | refine PW.regionA ?_ | exact schedW_stop_i | (refine PW.cond rfl ?_ ?_ <;> intro hcond <;> (try contradiction) <;> try simp only [decide_eq_true_eq, decide_eq_false_iff_not] at hcond) | (refine gd_i ?_; intro hg; try simp only [hg]) | refine goCall_W e18 (h18) ?_ ?_ ?_ ?_ | refine goCall_W e20 (h20) ?_ ?_ ?_ ?_ | refine goCall_W e19 (h19) ?_ ?_ ?_ ?_ | refine goCall_W e29 (h29) ?_ ?_ ?_ ?_ | refine goCall_W e30 (h30) ?_ ?_ ?_ ?_ | refine goCall_W e23 (h23) ?_ ?_ ?_ ?_ | refine goCall_W e31 (h31) ?_ ?_ ?_ ?_ | ((first | show @LE.le Nat _ _ _ | show @LT.lt Nat _ _ _ | show @LE.le Int _ _ _ | show @LT.lt Int _ _ _ | show @Eq Nat _ _ | show @Eq Int _ _ | show @Eq Bool _ _ | show _ ∨ _ | show ¬ _); first | omega | (simp only [decide_eq_true_eq, decide_eq_false_iff_not, List.length_cons, List.length_nil, List.length_append, List.length_map, Sh.size] <;> omega) | (go_unwrap; omega)) | ((first | refine PW.region ?_ | refine PW.regionQ ?_ | refine schedW_alt_i ?_ ?_ | refine schedW_done_i ?_ | show (_ : Post) _ _ _ | show @Eq (List PV) _ _ | show @Eq Bool _ _ | show opsW _ _ _ _ _ _ _ _ | show okAll _ | show @Eq Bool _ _ ∨ _); focus (simp only [hlen, d1, hKn, hKs, hKw, hN, hC, w1, y1, y2, SS, SS2, SS3, SS4, Option.map_some, Bool.not_false, Bool.not_true, gArgs, gOk, Nat.reduceAdd, PV.shift, MObj.shift, rdV, rdD, reduceIte, Nat.reduceEqDiff, Nat.reduceBEq, PV.bin, PV.binOk, binI, binS, PV.withInt, PV.withIntP, okAll, PV.under, PV.okUnder, eq_self, implies_true, deadOk, ne_eq, allOk, RVar.val, RVar.ok, retV, PV.seen, PV.view, beq_self_eq_true, PV.flat, PV.noOwn, id_eq, behind, PV.kill, MObj.kill, killTag, reduceCtorEq, nilB]; (try go_unwrap; try simp only [hlen, d1, hKn, hKs, hKw, hN, hC, w1, y1, y2, toNat_add2, toNat_add1, Int.toNat_natCast, Bool.false_and, Bool.true_and, true_implies, true_and, Bool.false_eq_true, reduceCtorEq, false_implies, Bool.not_false, Bool.not_true, Bool.true_or, Bool.false_or]))) | refine And.intro ?_ ?_ | exact Or.inr ⟨rfl, Nat.le_refl _⟩ | exact (fun h => Bool.noConfusion h))
  refine PW.loopG (σ := Nat × PV × PV) 2 (fun _ _ => rfl) [0, 1, 2, 6, 7, 8, 9, 10, 11, 12, 13, 14, 15] (fun i => [enL l, .int .u16 a, .int .u16 n, .bool false, .ref 0 0, .ref 1 0, .list none NL, .list none CL, .list none CL, .int .i64 i.1, i.2.1, i.2.2, .junk])
    (fun i => [some (MObj.var (some 2) (PV.agg [PV.int IntKind.i64 A, PV.int IntKind.i64 B])), some (MObj.var (some 1) (PV.agg [PV.list (some 9) XX]))]) (fun i => i.1 ≤ M ∧ (∀ f, PV.kill f i.2.1 = i.2.1) ∧ (∀ f, PV.kill f i.2.2 = i.2.2)) (fun i => M - i.1) (0, .junk, .junk) ?_ rfl ⟨by simp, fun _ => by simp only [PV.kill], fun _ => by simp only [PV.kill]⟩ ?_
  · simp only [SS, SS2, SS3, SS4, Option.map_some, Bool.not_false, Bool.not_true, gArgs, gOk, Nat.reduceAdd, PV.shift, MObj.shift, rdV, rdD, reduceIte, Nat.reduceEqDiff, Nat.reduceBEq, PV.bin, PV.binOk, binI, binS, PV.withInt, PV.withIntP, okAll, PV.under, PV.okUnder, eq_self, implies_true, deadOk, ne_eq, allOk, RVar.val, RVar.ok, retV, PV.seen, PV.view, beq_self_eq_true, PV.flat, PV.noOwn, id_eq, behind, PV.kill, MObj.kill, killTag, reduceCtorEq, nilB]; rfl
  rintro ⟨i, v1, v2⟩ ⟨hi, k1, k2⟩
  simp only at hi k1 k2
  simp only [List.zip_cons_cons, List.zip_nil_left]
  rcases Nat.lt_or_ge i M with h' | h'
  · have hd : decide ((i : Int) < M) = true := by simp only [decide_eq_true_eq]; omega
    have hg := hNg i h'
    have w2 : IntKind.i64.wrap (A + (i : Int)) = A + i := IntWalk.i64_in _ (by omega)
    have h28 := LV.place (A + i)
    have hp := atM_in l (A + i)
    have hv0 : atM l (A + i) < 0 → (vlE l (atM l (A + i))).num = 0 := fun h => by unfold vlE; rw [if_pos h]; rfl
    have hv1 : 0 ≤ atM l (A + i) → (vlE l (atM l (A + i))).num = (l.getD (atM l (A + i)).toNat default).num := fun h => by unfold vlE; rw [if_neg (by omega)]; rfl
    generalize (vlE l (atM l (A + i))).num = vn at hg hv0 hv1
    generalize atM l (A + i) = k at h28 hp hv0 hv1
    clear LV h29 h30 h31 h20 h19 h18
    rcases Int.lt_or_le k 0 with hk | hk
    · have d2 : decide (0 ≤ k) = false := by simp only [decide_eq_false_iff_not]; omega
      rw [hv0 hk] at hg
      have d3 : decide ((0 : Int) = 0) = true := by simp
      repeat' (first | exact True.intro | (refine PW.seqA (E := ?_) (M := ?_) ?_ ?_; rotate_left 2) | exact mergeQ_mk _ _ | (refine PW.seqK ?_; intro K hK) | refine PW.block ?_ | refine PW.exit ?_ | refine PW.ret ?_ | refine PW.skip ?_ | refine seqK_n (by assumption) ?_ | refine seqK_r (by assumption) ?_ | refine seqK_e (by assumption) ?_ | refine PW.regionA ?_ | exact schedW_stop_i | (refine PW.cond rfl ?_ ?_ <;> intro hcond <;> (try contradiction) <;> try simp only [decide_eq_true_eq, decide_eq_false_iff_not] at hcond) | (refine gd_i ?_; intro hg; try simp only [hg]) | refine goCall_W e23 (h23) ?_ ?_ ?_ ?_ | refine goCall_W e28 (h28) ?_ ?_ ?_ ?_ | ((first | show @LE.le Nat _ _ _ | show @LT.lt Nat _ _ _ | show @LE.le Int _ _ _ | show @LT.lt Int _ _ _ | show @Eq Nat _ _ | show @Eq Int _ _ | show @Eq Bool _ _ | show _ ∨ _ | show ¬ _); first | omega | (simp only [decide_eq_true_eq, decide_eq_false_iff_not, List.length_cons, List.length_nil, List.length_append, List.length_map, Sh.size] <;> omega) | (go_unwrap; omega)) | ((first | refine PW.region ?_ | refine PW.regionQ ?_ | refine schedW_alt_i ?_ ?_ | refine schedW_done_i ?_ | show (_ : Post) _ _ _ | show @Eq (List PV) _ _ | show @Eq Bool _ _ | show opsW _ _ _ _ _ _ _ _ | show okAll _ | show @Eq Bool _ _ ∨ _); focus (simp only [hd, hN, hg, w2, d2, d3, k1, k2, SS, SS2, SS3, SS4, Option.map_some, Bool.not_false, Bool.not_true, gArgs, gOk, Nat.reduceAdd, PV.shift, MObj.shift, rdV, rdD, reduceIte, Nat.reduceEqDiff, Nat.reduceBEq, PV.bin, PV.binOk, binI, binS, PV.withInt, PV.withIntP, okAll, PV.under, PV.okUnder, eq_self, implies_true, deadOk, ne_eq, allOk, RVar.val, RVar.ok, retV, PV.seen, PV.view, beq_self_eq_true, PV.flat, PV.noOwn, id_eq, behind, PV.kill, MObj.kill, killTag, reduceCtorEq, nilB]; (try go_unwrap; try simp only [hd, hN, hg, w2, d2, d3, k1, k2, toNat_add2, toNat_add1, Int.toNat_natCast, Bool.false_and, Bool.true_and, true_implies, true_and, Bool.false_eq_true, reduceCtorEq, false_implies, Bool.not_false, Bool.not_true, Bool.true_or, Bool.false_or]))) | refine And.intro ?_ ?_ | exact Or.inr ⟨rfl, Nat.le_refl _⟩ | exact (fun h => Bool.noConfusion h))
      all_goals exact ⟨(i + 1, .int .i64 k, .int .i64 0), (by first | rfl | (simp only [trimE, trimM, List.take_succ_cons, List.take_zero, List.take_nil, List.map_cons, List.map_nil, Option.map_some, Option.map_none, MObj.kill, PV.kill, Nat.reduceLeDiff, decide_true, decide_false, dec_true, dec_false, Bool.false_eq_true, if_false, if_true, reduceIte, List.zip_cons_cons, List.zip_nil_left, Nat.le_refl, Nat.zero_le, Nat.not_le, Nat.lt_irrefl]; done) | (simp [trimE, trimM, MObj.kill, PV.kill]; done)), (by first | rfl | (simp only [trimE, trimM, List.take_succ_cons, List.take_zero, List.take_nil, List.map_cons, List.map_nil, Option.map_some, Option.map_none, MObj.kill, PV.kill, Nat.reduceLeDiff, decide_true, decide_false, dec_true, dec_false, Bool.false_eq_true, if_false, if_true, reduceIte, List.zip_cons_cons, List.zip_nil_left, Nat.le_refl, Nat.zero_le, Nat.not_le, Nat.lt_irrefl]; done) | (simp [trimE, trimM, MObj.kill, PV.kill]; done)), ⟨by simp only; omega, fun _ => by simp only [PV.kill], fun _ => by simp only [PV.kill]⟩, by simp only; omega⟩
    · have d2 : decide (0 ≤ k) = true := by simpa using hk
      rw [hv1 hk] at hg
      have he : (l.map enP).getD k.toNat .junk = enP l[k.toNat] := en_getD l k.toNat (by omega)
      rw [show l.getD k.toNat default = l[k.toNat] by simp [List.getD, show k.toNat < l.length by omega]] at hg
      generalize l[k.toNat] = e at hg he
      simp only [enP] at he
      have d3 : decide (e.num = e.num) = true := by simp
      repeat' (first | exact True.intro | (refine PW.seqA (E := ?_) (M := ?_) ?_ ?_; rotate_left 2) | exact mergeQ_mk _ _ | (refine PW.seqK ?_; intro K hK) | refine PW.block ?_ | refine PW.exit ?_ | refine PW.ret ?_ | refine PW.skip ?_ | refine seqK_n (by assumption) ?_ | refine seqK_r (by assumption) ?_ | refine seqK_e (by assumption) ?_ | refine PW.regionA ?_ | exact schedW_stop_i | (refine PW.cond rfl ?_ ?_ <;> intro hcond <;> (try contradiction) <;> try simp only [decide_eq_true_eq, decide_eq_false_iff_not] at hcond) | (refine gd_i ?_; intro hg; try simp only [hg]) | refine goCall_W e23 (h23) ?_ ?_ ?_ ?_ | refine goCall_W e28 (h28) ?_ ?_ ?_ ?_ | ((first | show @LE.le Nat _ _ _ | show @LT.lt Nat _ _ _ | show @LE.le Int _ _ _ | show @LT.lt Int _ _ _ | show @Eq Nat _ _ | show @Eq Int _ _ | show @Eq Bool _ _ | show _ ∨ _ | show ¬ _); first | omega | (simp only [decide_eq_true_eq, decide_eq_false_iff_not, List.length_cons, List.length_nil, List.length_append, List.length_map, Sh.size] <;> omega) | (go_unwrap; omega)) | ((first | refine PW.region ?_ | refine PW.regionQ ?_ | refine schedW_alt_i ?_ ?_ | refine schedW_done_i ?_ | show (_ : Post) _ _ _ | show @Eq (List PV) _ _ | show @Eq Bool _ _ | show opsW _ _ _ _ _ _ _ _ | show okAll _ | show @Eq Bool _ _ ∨ _); focus (simp only [hd, hN, hg, w2, d2, d3, k1, k2, he, hlen, getC4, SS, SS2, SS3, SS4, Option.map_some, Bool.not_false, Bool.not_true, gArgs, gOk, Nat.reduceAdd, PV.shift, MObj.shift, rdV, rdD, reduceIte, Nat.reduceEqDiff, Nat.reduceBEq, PV.bin, PV.binOk, binI, binS, PV.withInt, PV.withIntP, okAll, PV.under, PV.okUnder, eq_self, implies_true, deadOk, ne_eq, allOk, RVar.val, RVar.ok, retV, PV.seen, PV.view, beq_self_eq_true, PV.flat, PV.noOwn, id_eq, behind, PV.kill, MObj.kill, killTag, reduceCtorEq, nilB]; (try go_unwrap; try simp only [hd, hN, hg, w2, d2, d3, k1, k2, he, hlen, getC4, toNat_add2, toNat_add1, Int.toNat_natCast, Bool.false_and, Bool.true_and, true_implies, true_and, Bool.false_eq_true, reduceCtorEq, false_implies, Bool.not_false, Bool.not_true, Bool.true_or, Bool.false_or]))) | refine And.intro ?_ ?_ | exact Or.inr ⟨rfl, Nat.le_refl _⟩ | exact (fun h => Bool.noConfusion h))
      all_goals exact ⟨(i + 1, .int .i64 k, .int .i64 e.num), (by first | rfl | (simp only [trimE, trimM, List.take_succ_cons, List.take_zero, List.take_nil, List.map_cons, List.map_nil, Option.map_some, Option.map_none, MObj.kill, PV.kill, Nat.reduceLeDiff, decide_true, decide_false, dec_true, dec_false, Bool.false_eq_true, if_false, if_true, reduceIte, List.zip_cons_cons, List.zip_nil_left, Nat.le_refl, Nat.zero_le, Nat.not_le, Nat.lt_irrefl]; done) | (simp [trimE, trimM, MObj.kill, PV.kill]; done)), (by first | rfl | (simp only [trimE, trimM, List.take_succ_cons, List.take_zero, List.take_nil, List.map_cons, List.map_nil, Option.map_some, Option.map_none, MObj.kill, PV.kill, Nat.reduceLeDiff, decide_true, decide_false, dec_true, dec_false, Bool.false_eq_true, if_false, if_true, reduceIte, List.zip_cons_cons, List.zip_nil_left, Nat.le_refl, Nat.zero_le, Nat.not_le, Nat.lt_irrefl]; done) | (simp [trimE, trimM, MObj.kill, PV.kill]; done)), ⟨by simp only; omega, fun _ => by simp only [PV.kill], fun _ => by simp only [PV.kill]⟩, by simp only; omega⟩
  · have hd : decide ((i : Int) < M) = false := by simp only [decide_eq_false_iff_not]; omega
    clear LV h29 h30 h31 h20 h19 h18 h23
    repeat' (first | exact True.intro | (refine PW.seqK ?_; intro K hK) | refine PW.block ?_ | refine PW.exit ?_ | refine PW.ret ?_ | refine PW.skip ?_ | refine seqK_n (by assumption) ?_ | refine seqK_r (by assumption) ?_ | refine seqK_e (by assumption) ?_ | refine PW.regionA ?_ | exact schedW_stop_i | (refine PW.cond rfl ?_ ?_ <;> intro hcond <;> (try contradiction) <;> try simp only [decide_eq_true_eq, decide_eq_false_iff_not] at hcond) | (refine gd_i ?_; intro hg; try simp only [hg]) | ((first | show @LE.le Nat _ _ _ | show @LT.lt Nat _ _ _ | show @LE.le Int _ _ _ | show @LT.lt Int _ _ _ | show @Eq Nat _ _ | show @Eq Int _ _ | show @Eq Bool _ _ | show _ ∨ _ | show ¬ _); first | omega | (simp only [decide_eq_true_eq, decide_eq_false_iff_not, List.length_cons, List.length_nil, List.length_append, List.length_map, Sh.size] <;> omega) | (go_unwrap; omega)) | ((first | refine PW.region ?_ | refine PW.regionQ ?_ | refine schedW_alt_i ?_ ?_ | refine schedW_done_i ?_ | show (_ : Post) _ _ _ | show @Eq (List PV) _ _ | show @Eq Bool _ _ | show opsW _ _ _ _ _ _ _ _ | show okAll _ | show @Eq Bool _ _ ∨ _); focus (simp only [hd, hN, k1, k2, SS, SS2, SS3, SS4, Option.map_some, Bool.not_false, Bool.not_true, gArgs, gOk, Nat.reduceAdd, PV.shift, MObj.shift, rdV, rdD, reduceIte, Nat.reduceEqDiff, Nat.reduceBEq, PV.bin, PV.binOk, binI, binS, PV.withInt, PV.withIntP, okAll, PV.under, PV.okUnder, eq_self, implies_true, deadOk, ne_eq, allOk, RVar.val, RVar.ok, retV, PV.seen, PV.view, beq_self_eq_true, PV.flat, PV.noOwn, id_eq, behind, PV.kill, MObj.kill, killTag, reduceCtorEq, nilB]; (try go_unwrap; try simp only [hd, hN, k1, k2, toNat_add2, toNat_add1, Int.toNat_natCast, Bool.false_and, Bool.true_and, true_implies, true_and, Bool.false_eq_true, reduceCtorEq, false_implies, Bool.not_false, Bool.not_true, Bool.true_or, Bool.false_or]))) | refine And.intro ?_ ?_ | exact Or.inr ⟨rfl, Nat.le_refl _⟩ | exact (fun h => Bool.noConfusion h))
    all_goals first | exact ⟨k1 _, k2 _⟩ | skip
    refine PW.loopG (σ := Nat) 2 (fun _ _ => rfl) [0, 1, 2, 6, 7, 8, 9, 10, 11, 12, 13, 14, 15] (fun j => [enL l, .int .u16 a, .int .u16 n, .bool false, .ref 0 0, .ref 1 0, .list none NL, .list none CL, .list none CL, .int .i64 i, v1, v2, .int .i64 j])
      (fun j => [some (MObj.var (some 2) (PV.agg [PV.int IntKind.i64 A, PV.int IntKind.i64 B])), some (MObj.var (some 1) (PV.agg [PV.list (some 9) XX]))]) (fun j => j ≤ C.length) (fun j => C.length - j) 0 ?_ rfl (by simp) ?_
    · simp only [SS, SS2, SS3, SS4, Option.map_some, Bool.not_false, Bool.not_true, gArgs, gOk, Nat.reduceAdd, PV.shift, MObj.shift, rdV, rdD, reduceIte, Nat.reduceEqDiff, Nat.reduceBEq, PV.bin, PV.binOk, binI, binS, PV.withInt, PV.withIntP, okAll, PV.under, PV.okUnder, eq_self, implies_true, deadOk, ne_eq, allOk, RVar.val, RVar.ok, retV, PV.seen, PV.view, beq_self_eq_true, PV.flat, PV.noOwn, id_eq, behind, PV.kill, MObj.kill, killTag, reduceCtorEq, nilB]; rfl
    rintro j hj
    simp only [List.zip_cons_cons, List.zip_nil_left]
    rcases Nat.lt_or_ge j C.length with h2 | h2
    · have hd2 : decide ((j : Int) < C.length) = true := by simp only [decide_eq_true_eq]; omega
      have hg := hCg j h2
      have d3 : decide (C[j] = C[j]) = true := by simp
      repeat' (first | exact True.intro | (refine PW.seqA (E := ?_) (M := ?_) ?_ ?_; rotate_left 2) | exact mergeQ_mk _ _ | (refine PW.seqK ?_; intro K hK) | refine PW.block ?_ | refine PW.exit ?_ | refine PW.ret ?_ | refine PW.skip ?_ | refine seqK_n (by assumption) ?_ | refine seqK_r (by assumption) ?_ | refine seqK_e (by assumption) ?_ | refine PW.regionA ?_ | exact schedW_stop_i | (refine PW.cond rfl ?_ ?_ <;> intro hcond <;> (try contradiction) <;> try simp only [decide_eq_true_eq, decide_eq_false_iff_not] at hcond) | (refine gd_i ?_; intro hg; try simp only [hg]) | ((first | show @LE.le Nat _ _ _ | show @LT.lt Nat _ _ _ | show @LE.le Int _ _ _ | show @LT.lt Int _ _ _ | show @Eq Nat _ _ | show @Eq Int _ _ | show @Eq Bool _ _ | show _ ∨ _ | show ¬ _); first | omega | (simp only [decide_eq_true_eq, decide_eq_false_iff_not, List.length_cons, List.length_nil, List.length_append, List.length_map, Sh.size] <;> omega) | (go_unwrap; omega)) | ((first | refine PW.region ?_ | refine PW.regionQ ?_ | refine schedW_alt_i ?_ ?_ | refine schedW_done_i ?_ | show (_ : Post) _ _ _ | show @Eq (List PV) _ _ | show @Eq Bool _ _ | show opsW _ _ _ _ _ _ _ _ | show okAll _ | show @Eq Bool _ _ ∨ _); focus (simp only [hd2, hC, hg, d3, k1, k2, SS, SS2, SS3, SS4, Option.map_some, Bool.not_false, Bool.not_true, gArgs, gOk, Nat.reduceAdd, PV.shift, MObj.shift, rdV, rdD, reduceIte, Nat.reduceEqDiff, Nat.reduceBEq, PV.bin, PV.binOk, binI, binS, PV.withInt, PV.withIntP, okAll, PV.under, PV.okUnder, eq_self, implies_true, deadOk, ne_eq, allOk, RVar.val, RVar.ok, retV, PV.seen, PV.view, beq_self_eq_true, PV.flat, PV.noOwn, id_eq, behind, PV.kill, MObj.kill, killTag, reduceCtorEq, nilB]; (try go_unwrap; try simp only [hd2, hC, hg, d3, k1, k2, toNat_add2, toNat_add1, Int.toNat_natCast, Bool.false_and, Bool.true_and, true_implies, true_and, Bool.false_eq_true, reduceCtorEq, false_implies, Bool.not_false, Bool.not_true, Bool.true_or, Bool.false_or]))) | refine And.intro ?_ ?_ | exact Or.inr ⟨rfl, Nat.le_refl _⟩ | exact (fun h => Bool.noConfusion h))
      all_goals exact ⟨j + 1, (by simp [trimE, trimM, MObj.kill, PV.kill, k1, k2]), (by first | rfl | (simp only [trimE, trimM, List.take_succ_cons, List.take_zero, List.take_nil, List.map_cons, List.map_nil, Option.map_some, Option.map_none, MObj.kill, PV.kill, Nat.reduceLeDiff, decide_true, decide_false, dec_true, dec_false, Bool.false_eq_true, if_false, if_true, reduceIte, List.zip_cons_cons, List.zip_nil_left, Nat.le_refl, Nat.zero_le, Nat.not_le, Nat.lt_irrefl]; done) | (simp [trimE, trimM, MObj.kill, PV.kill]; done)), by omega, by omega⟩
    · have hd2 : decide ((j : Int) < C.length) = false := by simp only [decide_eq_false_iff_not]; omega
      repeat' (first | exact True.intro | (refine PW.seqK ?_; intro K hK) | refine PW.block ?_ | refine PW.exit ?_ | refine PW.ret ?_ | refine PW.skip ?_ | refine seqK_n (by assumption) ?_ | refine seqK_r (by assumption) ?_ | refine seqK_e (by assumption) ?_ | refine PW.regionA ?_ | exact schedW_stop_i | (refine PW.cond rfl ?_ ?_ <;> intro hcond <;> (try contradiction) <;> try simp only [decide_eq_true_eq, decide_eq_false_iff_not] at hcond) | (refine gd_i ?_; intro hg; try simp only [hg]) | refine goCall_W e17 (v17) ?_ ?_ ?_ ?_ | ((first | show @LE.le Nat _ _ _ | show @LT.lt Nat _ _ _ | show @LE.le Int _ _ _ | show @LT.lt Int _ _ _ | show @Eq Nat _ _ | show @Eq Int _ _ | show @Eq Bool _ _ | show _ ∨ _ | show ¬ _); first | omega | (simp only [decide_eq_true_eq, decide_eq_false_iff_not, List.length_cons, List.length_nil, List.length_append, List.length_map, Sh.size] <;> omega) | (go_unwrap; omega)) | ((first | refine PW.region ?_ | refine PW.regionQ ?_ | refine schedW_alt_i ?_ ?_ | refine schedW_done_i ?_ | show (_ : Post) _ _ _ | show @Eq (List PV) _ _ | show @Eq Bool _ _ | show opsW _ _ _ _ _ _ _ _ | show okAll _ | show @Eq Bool _ _ ∨ _); focus (simp only [hd2, hC, k1, k2, SS, SS2, SS3, SS4, Option.map_some, Bool.not_false, Bool.not_true, gArgs, gOk, Nat.reduceAdd, PV.shift, MObj.shift, rdV, rdD, reduceIte, Nat.reduceEqDiff, Nat.reduceBEq, PV.bin, PV.binOk, binI, binS, PV.withInt, PV.withIntP, okAll, PV.under, PV.okUnder, eq_self, implies_true, deadOk, ne_eq, allOk, RVar.val, RVar.ok, retV, PV.seen, PV.view, beq_self_eq_true, PV.flat, PV.noOwn, id_eq, behind, PV.kill, MObj.kill, killTag, reduceCtorEq, nilB]; (try go_unwrap; try simp only [hd2, hC, k1, k2, toNat_add2, toNat_add1, Int.toNat_natCast, Bool.false_and, Bool.true_and, true_implies, true_and, Bool.false_eq_true, reduceCtorEq, false_implies, Bool.not_false, Bool.not_true, Bool.true_or, Bool.false_or]))) | refine And.intro ?_ ?_ | exact Or.inr ⟨rfl, Nat.le_refl _⟩ | exact (fun h => Bool.noConfusion h))
end Go.Proofs.Ytjcoenideicmbaa

namespace Go.Proofs.Ytjcoenideicmbaa
open Go PG Go.Proofs
set_option linter.unusedSimpArgs false
set_option linter.unusedVariables false
set_option maxRecDepth 100000
theorem own1 : ownKnob Try.prog.godebug = none := by kernel_rfl
theorem laidOut : laidOutB Try.prog = true := by kernel_rfl
theorem shAs3 {P : Program} {n : Nat} {a b c : TypeId} {ps : List PV} (h : ShAs P n [a, b, c] ps) : ∃ p q r, ps = [p, q, r] ∧ ShA P n a p ∧ ShA P n b q ∧ ShA P n c r := by
  match ps, h with
  | [p, q, r], h => exact ⟨p, q, r, rfl, h.1, h.2.1, h.2.2.1⟩
theorem en_of {n : Nat} {cs : List PV} (hl : cs.length = 5) (h : ShC Try.prog (n + 2) 50 cs) : ∃ e : En, .agg cs = enP e := by
  obtain ⟨-, hf⟩ := shC_struct Try.underlying50 h
  have c3 : Try.prog.cellsOf 3 = 1 := by kernel_rfl
  have c25 : Try.prog.cellsOf 25 = 1 := by kernel_rfl
  have c2 : Try.prog.cellsOf 2 = 1 := by kernel_rfl
  have c9 : Try.prog.cellsOf 9 = 1 := by kernel_rfl
  simp only [List.mem_cons, List.not_mem_nil, or_false, forall_eq_or_imp, forall_eq, c3, c25, c2, c9] at hf
  match cs, hl with
  | [a, b, c, d, e], _ =>
    obtain ⟨h1, h2, h3, h4, h5⟩ := hf
    obtain ⟨m1, e1, -, -⟩ := shC_int Try.underlying3 h1
    obtain ⟨m2, e2, -, -⟩ := shC_int Try.underlying25 h2
    obtain ⟨m3, e3, -, -⟩ := shC_int Try.underlying25 h3
    obtain ⟨m4, e4, -, -⟩ := shC_int Try.underlying2 h4
    obtain ⟨s5, e5, -⟩ := shC_str Try.underlying9 h5
    simp at e1 e2 e3 e4 e5
    subst e1; subst e2; subst e3; subst e4; subst e5
    exact ⟨⟨m1, m2, m3, m4, s5⟩, rfl⟩
theorem read_en {n : Nat} {x : PV} (hx : fits (some 5) x) (h : ShC Try.prog (n + 2) 50 x.cells) : ∃ e : En, x = enP e ∧ True := by
  obtain ⟨cs, rfl, -, hl⟩ := fits_cells hx
  obtain ⟨e, he⟩ := en_of hl h
  exact ⟨e, he, trivial⟩
theorem read_ens {n : Nat} {p : PV} (h : ShA Try.prog (n + 3) 22 p) : ∃ l : List En, p = enL l ∧ l.length ≤ 9223372036854775807 := by
  obtain ⟨sh, xs, hs, rfl, b, hx⟩ := shA_slice Try.underlying22 h
  have hsh : shOf Try.prog 50 = some (some 5) := by kernel_rfl
  obtain rfl := Option.some.inj (hsh.symm.trans hs)
  obtain ⟨l, rfl, -⟩ := list_of enP (fun _ => True) (xs := xs) (fun x hx' => read_en (hx x hx').1 (hx x hx').2)
  exact ⟨l, rfl, by simpa using b⟩
theorem read_u16 {n : Nat} {p : PV} (h : ShA Try.prog (n + 1) 23 p) : ∃ x : Nat, p = .int .u16 x ∧ 0 ≤ x ∧ x ≤ 65535 := by
  obtain ⟨m, rfl, h1, h2⟩ := shA_int (k := .u16) (by kernel_rfl) h
  have h1 : 0 ≤ m := h1
  have h2 : m ≤ 65535 := h2
  exact ⟨m.toNat, by rw [Int.toNat_of_nonneg h1], by omega, by omega⟩
end Go.Proofs.Ytjcoenideicmbaa

