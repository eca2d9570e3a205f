import Derived.Test.YtdemgegpnlngeaaDoorQ8
namespace Go.Proofs.YtdemgegpnlngeaaDoor
open Go PG Go.Proofs
set_option linter.unusedSimpArgs false
set_option linter.unusedVariables false
set_option maxHeartbeats 4000000
set_option maxRecDepth 100000
theorem e14 : Ent Tryd.prog 14 := ⟨Tryd.f14, Tryd.func14, by kernel_rfl, by kernel_rfl⟩
theorem e17 : Ent Tryd.prog 17 := ⟨Tryd.f17, Tryd.func17, by kernel_rfl, by kernel_rfl⟩
theorem e18 : Ent Tryd.prog 18 := ⟨Tryd.f18, Tryd.func18, by kernel_rfl, by kernel_rfl⟩
theorem e19 : Ent Tryd.prog 19 := ⟨Tryd.f19, Tryd.func19, by kernel_rfl, by kernel_rfl⟩
theorem e41 : Ent Tryd.prog 41 := ⟨Tryd.f41, Tryd.func41, by kernel_rfl, by kernel_rfl⟩
theorem v17 (bs : List PV) (m : PV) (hm : m.scalar = true) : VCalls Tryd.prog G0 17 [.agg [.list none bs, m]] (.int .i64 bs.length) := by
  refine VCalls.of_PW Tryd.func17 k17 mix (by simp [c17]) ?_
  simp only [c17, L17, argE]
  repeat' (first | exact True.intro | (refine PW.seqK ?_; intro K hK) | refine PW.block ?_ | refine PW.exit ?_ | refine PW.ret ?_ | refine PW.skip ?_ | refine seqK_n (by assumption) ?_ | refine seqK_r (by assumption) ?_ | refine seqK_e (by assumption) ?_ | refine PW.regionA ?_ | exact schedW_stop_i | (refine PW.cond rfl ?_ ?_ <;> intro hcond <;> (try contradiction) <;> try simp only [decide_eq_true_eq, decide_eq_false_iff_not] at hcond) | (refine gd_i ?_; intro hg; try simp only [hg]) | ((first | show @LE.le Nat _ _ _ | show @LT.lt Nat _ _ _ | show @LE.le Int _ _ _ | show @LT.lt Int _ _ _ | show @Eq Nat _ _ | show @Eq Int _ _ | show @Eq Bool _ _ | show _ ∨ _ | show ¬ _); first | omega | (simp only [decide_eq_true_eq, decide_eq_false_iff_not, List.length_cons, List.length_nil, List.length_append, List.length_map, Sh.size] <;> omega) | (go_unwrap; omega)) | ((first | refine PW.region ?_ | refine PW.regionQ ?_ | refine schedW_alt_i ?_ ?_ | refine schedW_done_i ?_ | show (_ : Post) _ _ _ | show @Eq (List PV) _ _ | show @Eq Bool _ _ | show opsW _ _ _ _ _ _ _ _ | show okAll _ | show @Eq Bool _ _ ∨ _); focus (simp only [hm, SS, SS2, SS3, SS4, Option.map_some, Bool.not_false, Bool.not_true, gArgs, gOk, Nat.reduceAdd, PV.shift, MObj.shift, rdV, rdD, reduceIte, Nat.reduceEqDiff, Nat.reduceBEq, PV.bin, PV.binOk, binI, binS, PV.withInt, PV.withIntP, okAll, PV.under, PV.okUnder, eq_self, implies_true, deadOk, ne_eq, allOk, RVar.val, RVar.ok, retV, PV.seen, PV.view, beq_self_eq_true, PV.flat, PV.noOwn, id_eq, behind, PV.kill, MObj.kill, killTag, reduceCtorEq, nilB]; (try go_unwrap; try simp only [hm, toNat_add2, toNat_add1, Int.toNat_natCast, Bool.false_and, Bool.true_and, true_implies, true_and, Bool.false_eq_true, reduceCtorEq, false_implies, Bool.not_false, Bool.not_true, Bool.true_or, Bool.false_or]))) | refine And.intro ?_ ?_ | exact Or.inr ⟨rfl, Nat.le_refl _⟩ | exact (fun h => Bool.noConfusion h))
theorem v19n (bs : List PV) (a : List UInt8) : VCalls Tryd.prog G0 19 [.agg [.list none bs, .nilMap], .str a] (.int .i64 0) := by
  refine VCalls.of_PW Tryd.func19 k19 mix (by simp [c19]) ?_
  simp only [c19, L19, argE]
  repeat' (first | exact True.intro | (refine PW.seqK ?_; intro K hK) | refine PW.block ?_ | refine PW.exit ?_ | refine PW.ret ?_ | refine PW.skip ?_ | refine seqK_n (by assumption) ?_ | refine seqK_r (by assumption) ?_ | refine seqK_e (by assumption) ?_ | refine PW.regionA ?_ | exact schedW_stop_i | (refine PW.cond rfl ?_ ?_ <;> intro hcond <;> (try contradiction) <;> try simp only [decide_eq_true_eq, decide_eq_false_iff_not] at hcond) | (refine gd_i ?_; intro hg; try simp only [hg]) | ((first | show @LE.le Nat _ _ _ | show @LT.lt Nat _ _ _ | show @LE.le Int _ _ _ | show @LT.lt Int _ _ _ | show @Eq Nat _ _ | show @Eq Int _ _ | show @Eq Bool _ _ | show _ ∨ _ | show ¬ _); first | omega | (simp only [decide_eq_true_eq, decide_eq_false_iff_not, List.length_cons, List.length_nil, List.length_append, List.length_map, Sh.size] <;> omega) | (go_unwrap; omega)) | ((first | refine PW.region ?_ | refine PW.regionQ ?_ | refine schedW_alt_i ?_ ?_ | refine schedW_done_i ?_ | show (_ : Post) _ _ _ | show @Eq (List PV) _ _ | show @Eq Bool _ _ | show opsW _ _ _ _ _ _ _ _ | show okAll _ | show @Eq Bool _ _ ∨ _); focus (simp only [SS, SS2, SS3, SS4, Option.map_some, Bool.not_false, Bool.not_true, gArgs, gOk, Nat.reduceAdd, PV.shift, MObj.shift, rdV, rdD, reduceIte, Nat.reduceEqDiff, Nat.reduceBEq, PV.bin, PV.binOk, binI, binS, PV.withInt, PV.withIntP, okAll, PV.under, PV.okUnder, eq_self, implies_true, deadOk, ne_eq, allOk, RVar.val, RVar.ok, retV, PV.seen, PV.view, beq_self_eq_true, PV.flat, PV.noOwn, id_eq, behind, PV.kill, MObj.kill, killTag, reduceCtorEq, nilB]; (try go_unwrap; try simp only [toNat_add2, toNat_add1, Int.toNat_natCast, Bool.false_and, Bool.true_and, true_implies, true_and, Bool.false_eq_true, reduceCtorEq, false_implies, Bool.not_false, Bool.not_true, Bool.true_or, Bool.false_or]))) | refine And.intro ?_ ?_ | exact Or.inr ⟨rfl, Nat.le_refl _⟩ | exact (fun h => Bool.noConfusion h))
  all_goals simp [Option.getD_none, PV.seen, PV.view]
end Go.Proofs.YtdemgegpnlngeaaDoor

namespace Go.Proofs.YtdemgegpnlngeaaDoor
open Go PG Go.Proofs
set_option linter.unusedSimpArgs false
set_option linter.unusedVariables false
set_option maxHeartbeats 4000000
set_option maxRecDepth 100000
abbrev Bal := List (List UInt8 × Int)
abbrev intV : Int → PV := PV.int .i64
def bget (m : Bal) (a : List UInt8) : Int := (aget m a).getD 0
theorem bget_set (m : Bal) (k : List UInt8) (v : Int) (s : List UInt8) : bget (aset m k v) s = if s = k then v else bget m s := by
  simp only [bget, aget_aset]; split <;> rfl
def post1 (m : Bal) (e : Ent4) : Bal := aset (aset m e.d (bget m e.d + e.n)) e.c (bget (aset m e.d (bget m e.d + e.n)) e.c - e.n)
def over (m : Bal) (e : Ent4) : Bool := decide (1125899906842624 < bget m e.d) || decide (bget m e.c < -1125899906842624)
def postB : Bal → List Ent4 → Option Bal
  | m, [] => some m
  | m, e :: l => if over (post1 m e) e = true then none else postB (post1 m e) l
def inB (m : Bal) : Prop := ∀ s, -1125899906842624 ≤ bget m s ∧ bget m s ≤ 1125899906842624
structure Lg where
  bs : List (List Ent4)
  bal : Option Bal
def Lg.map (l : Lg) : Bal := l.bal.getD []
def balP : Option Bal → PV
  | none => .nilMap
  | some m => .cmap .str (strM intV m)
def lgP (l : Lg) : PV := .agg [.list none (l.bs.map entL), balP l.bal]
def postM (l : Lg) (es : List Ent4) : Lg × Int :=
  if batchW es ≠ 0 then (l, batchW es) else if l.bs.length = 4096 then (l, 5) else match postB l.map es with
    | none => (l, 9)
    | some m => (⟨l.bs ++ [es], some m⟩, 0)
theorem post1_get (m : Bal) (e : Ent4) (h : e.d ≠ e.c) (s : List UInt8) : bget (post1 m e) s = if s = e.c then bget m e.c - e.n else if s = e.d then bget m e.d + e.n else bget m s := by
  have hc : ¬ e.c = e.d := fun q => h q.symm
  simp only [post1, bget_set]
  split
  · simp [hc]
  · rfl
theorem chk0 {e : Ent4} (h : chk e = 0) : e.d ≠ e.c ∧ 1 ≤ e.n ∧ e.n ≤ 1125899906842624 := by
  unfold chk at h
  split at h
  · simp at h
  split at h
  · simp at h
  rename_i h2
  split at h
  · simp at h
  rename_i h3
  exact ⟨h2, by omega, by omega⟩
theorem chks0 : ∀ {l : List Ent4}, chks l = 0 → ∀ e ∈ l, chk e = 0
  | [], _, e, he => by cases he
  | a :: l, h, e, he => by
    simp only [chks] at h
    split at h
    · rcases List.mem_cons.1 he with rfl | he
      · assumption
      · exact chks0 h e he
    · contradiction
theorem batch0 {l : List Ent4} (h : batchW l = 0) : l ≠ [] ∧ l.length ≤ 65536 ∧ ∀ e ∈ l, chk e = 0 := by
  unfold batchW at h
  split at h
  · simp at h
  rename_i h1
  split at h
  · simp at h
  exact ⟨fun e => h1 (by rw [e]; rfl), by omega, chks0 h⟩
theorem post1_in {m : Bal} {e : Ent4} (hm : inB m) (he : chk e = 0) (ho : ¬ over (post1 m e) e = true) : inB (post1 m e) := by
  obtain ⟨h1, h2, h3⟩ := chk0 he
  intro s
  have hs := hm s
  have hd := hm e.d
  have hc := hm e.c
  simp only [over, Bool.or_eq_true, decide_eq_true_eq, post1_get m e h1, if_true, h1, if_false] at ho
  rw [post1_get m e h1]
  split
  · omega
  · split
    · omega
    · omega
theorem postB_in : ∀ {l : List Ent4} {m m' : Bal}, inB m → (∀ e ∈ l, chk e = 0) → postB m l = some m' → inB m'
  | [], m, m', hm, _, h => by cases h; exact hm
  | e :: l, m, m', hm, hl, h => by
    simp only [postB] at h
    split at h
    · cases h
    rename_i ho
    exact postB_in (post1_in hm (hl e (by simp)) ho) (fun e he => hl e (by simp [he])) h
theorem v14 (l : Lg) (es : List Ent4) (hz : ∀ e ∈ es, entSz e) (hm : inB l.map) (hL : l.bs.length ≤ 4096) : VCalls Tryd.prog G0 14 [lgP l, entL es] (.tup [lgP (postM l es).1, .int .i64 (postM l es).2]) := by
  refine VCalls.of_PW Tryd.func14 k14 mix (by simp [c14]) ?_
  simp only [c14, L14, argE, lgP]
  have hb := v40 es hz
  have hlen : ((l.bs.map entL).length : Nat) = l.bs.length := by simp
  rcases Decidable.em (batchW es = 0) with h0 | h0
  case inr =>
    have hd : decide (batchW es = 0) = false := by simpa using h0
    have hpm : postM l es = (l, batchW es) := by rw [postM, if_pos h0]
    rw [hpm]
    rcases l with ⟨bs, _ | m⟩
    all_goals
      simp only [balP] at *
      repeat' (first | exact True.intro | (refine PW.seqK ?_; intro K hK) | refine PW.block ?_ | refine PW.exit ?_ | refine PW.ret ?_ | refine PW.skip ?_ | refine seqK_n (by assumption) ?_ | refine seqK_r (by assumption) ?_ | refine seqK_e (by assumption) ?_ | refine PW.regionA ?_ | exact schedW_stop_i | (refine PW.cond rfl ?_ ?_ <;> intro hcond <;> (try contradiction) <;> try simp only [decide_eq_true_eq, decide_eq_false_iff_not] at hcond) | (refine gd_i ?_; intro hg; try simp only [hg]) | refine goCall_W e40 (hb) ?_ ?_ ?_ ?_ | ((first | show @LE.le Nat _ _ _ | show @LT.lt Nat _ _ _ | show @LE.le Int _ _ _ | show @LT.lt Int _ _ _ | show @Eq Nat _ _ | show @Eq Int _ _ | show @Eq Bool _ _ | show _ ∨ _ | show ¬ _); first | omega | (simp only [decide_eq_true_eq, decide_eq_false_iff_not, List.length_cons, List.length_nil, List.length_append, List.length_map, Sh.size] <;> omega) | (go_unwrap; omega)) | ((first | refine PW.region ?_ | refine PW.regionQ ?_ | refine schedW_alt_i ?_ ?_ | refine schedW_done_i ?_ | show (_ : Post) _ _ _ | show @Eq (List PV) _ _ | show @Eq Bool _ _ | show opsW _ _ _ _ _ _ _ _ | show okAll _ | show @Eq Bool _ _ ∨ _); focus (simp only [hd, SS, SS2, SS3, SS4, Option.map_some, Bool.not_false, Bool.not_true, gArgs, gOk, Nat.reduceAdd, PV.shift, MObj.shift, rdV, rdD, reduceIte, Nat.reduceEqDiff, Nat.reduceBEq, PV.bin, PV.binOk, binI, binS, PV.withInt, PV.withIntP, okAll, PV.under, PV.okUnder, eq_self, implies_true, deadOk, ne_eq, allOk, RVar.val, RVar.ok, retV, PV.seen, PV.view, beq_self_eq_true, PV.flat, PV.noOwn, id_eq, behind, PV.kill, MObj.kill, killTag, reduceCtorEq, nilB]; (try go_unwrap; try simp only [hd, toNat_add2, toNat_add1, Int.toNat_natCast, Bool.false_and, Bool.true_and, true_implies, true_and, Bool.false_eq_true, reduceCtorEq, false_implies, Bool.not_false, Bool.not_true, Bool.true_or, Bool.false_or]))) | refine And.intro ?_ ?_ | exact Or.inr ⟨rfl, Nat.le_refl _⟩ | exact (fun h => Bool.noConfusion h))

  case inl =>
    obtain ⟨hne, hle, hck⟩ := batch0 h0
    have hd : decide (batchW es = 0) = true := by simpa using h0
    have hel : ((es.map entP).length : Nat) = es.length := by simp
    rcases Decidable.em (l.bs.length = 4096) with h1 | h1
    · have hd1 : decide ((l.bs.length : Int) = 4096) = true := by simp only [decide_eq_true_eq]; omega
      have hpm : postM l es = (l, 5) := by rw [postM, if_neg (by simpa using h0), if_pos h1]
      rw [hpm]
      rcases l with ⟨bs, _ | m⟩
      all_goals
        simp only [balP] at *
        repeat' (first | exact True.intro | (refine PW.seqK ?_; intro K hK) | refine PW.block ?_ | refine PW.exit ?_ | refine PW.ret ?_ | refine PW.skip ?_ | refine seqK_n (by assumption) ?_ | refine seqK_r (by assumption) ?_ | refine seqK_e (by assumption) ?_ | refine PW.regionA ?_ | exact schedW_stop_i | (refine PW.cond rfl ?_ ?_ <;> intro hcond <;> (try contradiction) <;> try simp only [decide_eq_true_eq, decide_eq_false_iff_not] at hcond) | (refine gd_i ?_; intro hg; try simp only [hg]) | refine goCall_W e40 (hb) ?_ ?_ ?_ ?_ | ((first | show @LE.le Nat _ _ _ | show @LT.lt Nat _ _ _ | show @LE.le Int _ _ _ | show @LT.lt Int _ _ _ | show @Eq Nat _ _ | show @Eq Int _ _ | show @Eq Bool _ _ | show _ ∨ _ | show ¬ _); first | omega | (simp only [decide_eq_true_eq, decide_eq_false_iff_not, List.length_cons, List.length_nil, List.length_append, List.length_map, Sh.size] <;> omega) | (go_unwrap; omega)) | ((first | refine PW.region ?_ | refine PW.regionQ ?_ | refine schedW_alt_i ?_ ?_ | refine schedW_done_i ?_ | show (_ : Post) _ _ _ | show @Eq (List PV) _ _ | show @Eq Bool _ _ | show opsW _ _ _ _ _ _ _ _ | show okAll _ | show @Eq Bool _ _ ∨ _); focus (simp only [hd, hd1, hlen, SS, SS2, SS3, SS4, Option.map_some, Bool.not_false, Bool.not_true, gArgs, gOk, Nat.reduceAdd, PV.shift, MObj.shift, rdV, rdD, reduceIte, Nat.reduceEqDiff, Nat.reduceBEq, PV.bin, PV.binOk, binI, binS, PV.withInt, PV.withIntP, okAll, PV.under, PV.okUnder, eq_self, implies_true, deadOk, ne_eq, allOk, RVar.val, RVar.ok, retV, PV.seen, PV.view, beq_self_eq_true, PV.flat, PV.noOwn, id_eq, behind, PV.kill, MObj.kill, killTag, reduceCtorEq, nilB]; (try go_unwrap; try simp only [hd, hd1, hlen, toNat_add2, toNat_add1, Int.toNat_natCast, Bool.false_and, Bool.true_and, true_implies, true_and, Bool.false_eq_true, reduceCtorEq, false_implies, Bool.not_false, Bool.not_true, Bool.true_or, Bool.false_or]))) | refine And.intro ?_ ?_ | exact Or.inr ⟨rfl, Nat.le_refl _⟩ | exact (fun h => Bool.noConfusion h))
    have hd1 : decide ((l.bs.length : Int) = 4096) = false := by simp only [decide_eq_false_iff_not]; omega
    have hpm : postM l es = match postB l.map es with
      | none => (l, 9)
      | some m => (⟨l.bs ++ [es], some m⟩, 0) := by rw [postM, if_neg (by simpa using h0), if_neg h1]
    obtain ⟨R, hR⟩ : ∃ R, postM l es = R := ⟨_, rfl⟩
    rw [hR] at hpm ⊢
    clear hR
    rcases l with ⟨bs, _ | m0⟩
    · simp only [balP, Lg.map, Option.getD_none] at *
      repeat' (first | exact True.intro | (refine PW.seqK ?_; intro K hK) | refine PW.block ?_ | refine PW.exit ?_ | refine PW.ret ?_ | refine PW.skip ?_ | refine seqK_n (by assumption) ?_ | refine seqK_r (by assumption) ?_ | refine seqK_e (by assumption) ?_ | refine PW.regionA ?_ | exact schedW_stop_i | (refine PW.cond rfl ?_ ?_ <;> intro hcond <;> (try contradiction) <;> try simp only [decide_eq_true_eq, decide_eq_false_iff_not] at hcond) | (refine gd_i ?_; intro hg; try simp only [hg]) | refine goCall_W e40 (hb) ?_ ?_ ?_ ?_ | refine goCall_W e41 (v41n) ?_ ?_ ?_ ?_ | ((first | show @LE.le Nat _ _ _ | show @LT.lt Nat _ _ _ | show @LE.le Int _ _ _ | show @LT.lt Int _ _ _ | show @Eq Nat _ _ | show @Eq Int _ _ | show @Eq Bool _ _ | show _ ∨ _ | show ¬ _); first | omega | (simp only [decide_eq_true_eq, decide_eq_false_iff_not, List.length_cons, List.length_nil, List.length_append, List.length_map, Sh.size] <;> omega) | (go_unwrap; omega)) | ((first | refine PW.region ?_ | refine PW.regionQ ?_ | refine schedW_alt_i ?_ ?_ | refine schedW_done_i ?_ | show (_ : Post) _ _ _ | show @Eq (List PV) _ _ | show @Eq Bool _ _ | show opsW _ _ _ _ _ _ _ _ | show okAll _ | show @Eq Bool _ _ ∨ _); focus (simp only [hd, hd1, hlen, hel, SS, SS2, SS3, SS4, Option.map_some, Bool.not_false, Bool.not_true, gArgs, gOk, Nat.reduceAdd, PV.shift, MObj.shift, rdV, rdD, reduceIte, Nat.reduceEqDiff, Nat.reduceBEq, PV.bin, PV.binOk, binI, binS, PV.withInt, PV.withIntP, okAll, PV.under, PV.okUnder, eq_self, implies_true, deadOk, ne_eq, allOk, RVar.val, RVar.ok, retV, PV.seen, PV.view, beq_self_eq_true, PV.flat, PV.noOwn, id_eq, behind, PV.kill, MObj.kill, killTag, reduceCtorEq, nilB]; (try go_unwrap; try simp only [hd, hd1, hlen, hel, toNat_add2, toNat_add1, Int.toNat_natCast, Bool.false_and, Bool.true_and, true_implies, true_and, Bool.false_eq_true, reduceCtorEq, false_implies, Bool.not_false, Bool.not_true, Bool.true_or, Bool.false_or]))) | refine And.intro ?_ ?_ | exact Or.inr ⟨rfl, Nat.le_refl _⟩ | exact (fun h => Bool.noConfusion h))
      refine PW.loopG (σ := Nat × Bal) 3 (fun _ _ => rfl) [1, 2, 4, 7, 28, 29, 30] (fun s => [entL es, .ref 0 0, .ref 1 0, .mref 2, entL es, .int .i64 es.length, .int .i64 s.1])
        (fun s => [some (.var (some 2) (.agg [.list none (bs.map entL), .nilMap])), some (.var (some 2) (.agg [.nilSl, .nilMap])), some (.mp .str (strM intV s.2))])
        (fun s => s.1 ≤ es.length ∧ inB s.2 ∧ postB [] es = postB s.2 (es.drop s.1)) (fun s => es.length - s.1) (0, []) ?_ rfl ⟨by simp, hm, by simp⟩ ?_
      · simp only [SS, SS2, SS3, SS4, Option.map_some, Bool.not_false, Bool.not_true, gArgs, gOk, Nat.reduceAdd, PV.shift, MObj.shift, rdV, rdD, reduceIte, Nat.reduceEqDiff, Nat.reduceBEq, PV.bin, PV.binOk, binI, binS, PV.withInt, PV.withIntP, okAll, PV.under, PV.okUnder, eq_self, implies_true, deadOk, ne_eq, allOk, RVar.val, RVar.ok, retV, PV.seen, PV.view, beq_self_eq_true, PV.flat, PV.noOwn, id_eq, behind, PV.kill, MObj.kill, killTag, reduceCtorEq, nilB]; rfl
      rintro ⟨j, m⟩ ⟨hj, hmi, hr⟩
      simp only at hj hmi hr
      simp only [List.zip_cons_cons, List.zip_nil_left]
      rcases Nat.lt_or_ge j es.length with h | h
      · have hdj : decide ((j : Int) < es.length) = true := by simp only [decide_eq_true_eq]; omega
        have hg := ents_getD es j h
        rw [List.drop_eq_getElem_cons h, postB] at hr
        have hp := hck es[j] (by simp)
        generalize es[j] = e at hg hr hp
        simp only [entP] at hg
        obtain ⟨q1, q2, q3⟩ := chk0 hp
        have hin := post1_in hmi hp
        obtain ⟨m2, hm2⟩ : ∃ m2, post1 m e = m2 := ⟨_, rfl⟩
        obtain ⟨m1, hm1⟩ : ∃ m1, aset m e.d (bget m e.d + e.n) = m1 := ⟨_, rfl⟩
        have hx := hmi e.d
        have hy := hmi e.c
        have e1 : bget m1 e.c = bget m e.c := by rw [← hm1, bget_set, if_neg (fun h => q1 h.symm)]
        have e2 : aset m1 e.c (bget m e.c - e.n) = m2 := by rw [← hm2, post1, hm1, e1]
        have g1 : (mget (strM intV m) (.str e.d)).getD (.int .i64 0) = .int .i64 (bget m e.d) := by rw [mget_str]; exact getD_map intV _ 0
        have g2 : (mget (strM intV m1) (.str e.c)).getD (.int .i64 0) = .int .i64 (bget m e.c) := by rw [mget_str, ← e1]; exact getD_map intV _ 0
        have g3 : (mget (strM intV m2) (.str e.d)).getD (.int .i64 0) = .int .i64 (bget m2 e.d) := by rw [mget_str]; exact getD_map intV _ 0
        have g4 : (mget (strM intV m2) (.str e.c)).getD (.int .i64 0) = .int .i64 (bget m2 e.c) := by rw [mget_str]; exact getD_map intV _ 0
        have w1 : IntKind.i64.wrap (bget m e.d + e.n) = bget m e.d + e.n := IntWalk.i64_in _ (by omega)
        have w2 : IntKind.i64.wrap (bget m e.c - e.n) = bget m e.c - e.n := IntWalk.i64_in _ (by omega)
        have s1 : mset (strM intV m) (.str e.d) (.int .i64 (bget m e.d + e.n)) = strM intV m1 := by rw [← hm1]; exact mset_str intV m _ _
        have s2 : mset (strM intV m1) (.str e.c) (.int .i64 (bget m e.c - e.n)) = strM intV m2 := by rw [← e2]; exact mset_str intV m1 _ _
        rw [hm2] at hr hin
        repeat' (first | exact True.intro | (refine PW.seqK ?_; intro K hK) | refine PW.block ?_ | refine PW.exit ?_ | refine PW.ret ?_ | refine PW.skip ?_ | refine seqK_n (by assumption) ?_ | refine seqK_r (by assumption) ?_ | refine seqK_e (by assumption) ?_ | refine PW.regionA ?_ | exact schedW_stop_i | (refine PW.cond rfl ?_ ?_ <;> intro hcond <;> (try contradiction) <;> try simp only [decide_eq_true_eq, decide_eq_false_iff_not] at hcond) | (refine gd_i ?_; intro hg; try simp only [hg]) | ((first | show @LE.le Nat _ _ _ | show @LT.lt Nat _ _ _ | show @LE.le Int _ _ _ | show @LT.lt Int _ _ _ | show @Eq Nat _ _ | show @Eq Int _ _ | show @Eq Bool _ _ | show _ ∨ _ | show ¬ _); first | omega | (simp only [decide_eq_true_eq, decide_eq_false_iff_not, List.length_cons, List.length_nil, List.length_append, List.length_map, Sh.size] <;> omega) | (go_unwrap; omega)) | ((first | refine PW.region ?_ | refine PW.regionQ ?_ | refine schedW_alt_i ?_ ?_ | refine schedW_done_i ?_ | show (_ : Post) _ _ _ | show @Eq (List PV) _ _ | show @Eq Bool _ _ | show opsW _ _ _ _ _ _ _ _ | show okAll _ | show @Eq Bool _ _ ∨ _); focus (simp only [hdj, hg, hel, g1, g2, g3, g4, w1, w2, s1, s2, SS, SS2, SS3, SS4, Option.map_some, Bool.not_false, Bool.not_true, gArgs, gOk, Nat.reduceAdd, PV.shift, MObj.shift, rdV, rdD, reduceIte, Nat.reduceEqDiff, Nat.reduceBEq, PV.bin, PV.binOk, binI, binS, PV.withInt, PV.withIntP, okAll, PV.under, PV.okUnder, eq_self, implies_true, deadOk, ne_eq, allOk, RVar.val, RVar.ok, retV, PV.seen, PV.view, beq_self_eq_true, PV.flat, PV.noOwn, id_eq, behind, PV.kill, MObj.kill, killTag, reduceCtorEq, nilB]; (try go_unwrap; try simp only [hdj, hg, hel, g1, g2, g3, g4, w1, w2, s1, s2, toNat_add2, toNat_add1, Int.toNat_natCast, Bool.false_and, Bool.true_and, true_implies, true_and, Bool.false_eq_true, reduceCtorEq, false_implies, Bool.not_false, Bool.not_true, Bool.true_or, Bool.false_or]))) | refine And.intro ?_ ?_ | exact Or.inr ⟨rfl, Nat.le_refl _⟩ | exact (fun h => Bool.noConfusion h))
        · have ho : over m2 e = true := by simpa [over] using hcond
          rw [if_pos ho] at hr
          rw [hpm, hr]
        · have ho : ¬ over m2 e = true := by simpa [over] using hcond
          rw [if_neg ho] at hr
          exact ⟨(j + 1, m2), (by first | rfl | (simp only [trimE, trimM, List.take_succ_cons, List.take_zero, List.take_nil, List.map_cons, List.map_nil, Option.map_some, Option.map_none, MObj.kill, PV.kill, Nat.reduceLeDiff, decide_true, decide_false, dec_true, dec_false, Bool.false_eq_true, if_false, if_true, reduceIte, List.zip_cons_cons, List.zip_nil_left, Nat.le_refl, Nat.zero_le, Nat.not_le, Nat.lt_irrefl]; done) | (simp [trimE, trimM, MObj.kill, PV.kill]; done)), (by first | rfl | (simp only [trimE, trimM, List.take_succ_cons, List.take_zero, List.take_nil, List.map_cons, List.map_nil, Option.map_some, Option.map_none, MObj.kill, PV.kill, Nat.reduceLeDiff, decide_true, decide_false, dec_true, dec_false, Bool.false_eq_true, if_false, if_true, reduceIte, List.zip_cons_cons, List.zip_nil_left, Nat.le_refl, Nat.zero_le, Nat.not_le, Nat.lt_irrefl]; done) | (simp [trimE, trimM, MObj.kill, PV.kill]; done)), ⟨h, hin ho, hr⟩, by simp only; omega⟩
      · have hdj : decide ((j : Int) < es.length) = false := by simp only [decide_eq_false_iff_not]; omega
        rw [List.drop_eq_nil_of_le h, postB] at hr
        have hv := v42 es hle hne
        have hA : List.drop (Int.toNat 0) (List.take bs.length (bs.map entL)) = bs.map entL := List.take_of_length_le (by simp)
        have hPM : partOf (PV.mref 2) 1 = some [PV.mref 2] := rfl
        repeat' (first | exact True.intro | (refine PW.seqK ?_; intro K hK) | refine PW.block ?_ | refine PW.exit ?_ | refine PW.ret ?_ | refine PW.skip ?_ | refine seqK_n (by assumption) ?_ | refine seqK_r (by assumption) ?_ | refine seqK_e (by assumption) ?_ | refine PW.regionA ?_ | exact schedW_stop_i | (refine PW.cond rfl ?_ ?_ <;> intro hcond <;> (try contradiction) <;> try simp only [decide_eq_true_eq, decide_eq_false_iff_not] at hcond) | (refine gd_i ?_; intro hg; try simp only [hg]) | refine goCall_W e42 (hv) ?_ ?_ ?_ ?_ | ((first | show @LE.le Nat _ _ _ | show @LT.lt Nat _ _ _ | show @LE.le Int _ _ _ | show @LT.lt Int _ _ _ | show @Eq Nat _ _ | show @Eq Int _ _ | show @Eq Bool _ _ | show _ ∨ _ | show ¬ _); first | omega | (simp only [decide_eq_true_eq, decide_eq_false_iff_not, List.length_cons, List.length_nil, List.length_append, List.length_map, Sh.size] <;> omega) | (go_unwrap; omega)) | ((first | refine PW.region ?_ | refine PW.regionQ ?_ | refine schedW_alt_i ?_ ?_ | refine schedW_done_i ?_ | show (_ : Post) _ _ _ | show @Eq (List PV) _ _ | show @Eq Bool _ _ | show opsW _ _ _ _ _ _ _ _ | show okAll _ | show @Eq Bool _ _ ∨ _); focus (simp only [hdj, hel, hlen, hA, hPM, SS, SS2, SS3, SS4, Option.map_some, Bool.not_false, Bool.not_true, gArgs, gOk, Nat.reduceAdd, PV.shift, MObj.shift, rdV, rdD, reduceIte, Nat.reduceEqDiff, Nat.reduceBEq, PV.bin, PV.binOk, binI, binS, PV.withInt, PV.withIntP, okAll, PV.under, PV.okUnder, eq_self, implies_true, deadOk, ne_eq, allOk, RVar.val, RVar.ok, retV, PV.seen, PV.view, beq_self_eq_true, PV.flat, PV.noOwn, id_eq, behind, PV.kill, MObj.kill, killTag, reduceCtorEq, nilB]; (try go_unwrap; try simp only [hdj, hel, hlen, hA, hPM, toNat_add2, toNat_add1, Int.toNat_natCast, Bool.false_and, Bool.true_and, true_implies, true_and, Bool.false_eq_true, reduceCtorEq, false_implies, Bool.not_false, Bool.not_true, Bool.true_or, Bool.false_or]))) | refine And.intro ?_ ?_ | exact Or.inr ⟨rfl, Nat.le_refl _⟩ | exact (fun h => Bool.noConfusion h))
        all_goals (try (simp only [hA, List.length_map, List.length_cons, List.length_nil]; omega))
        all_goals (rw [hpm, hr]; simp only [List.length_map, List.length_cons, List.length_nil, List.length_append, List.map_append, List.map_cons, List.map_nil])
        all_goals (rw [if_pos (Nat.le_refl _), List.take_of_length_le (by simp)])
    · simp only [balP, Lg.map, Option.getD_some] at *
      repeat' (first | exact True.intro | (refine PW.seqK ?_; intro K hK) | refine PW.block ?_ | refine PW.exit ?_ | refine PW.ret ?_ | refine PW.skip ?_ | refine seqK_n (by assumption) ?_ | refine seqK_r (by assumption) ?_ | refine seqK_e (by assumption) ?_ | refine PW.regionA ?_ | exact schedW_stop_i | (refine PW.cond rfl ?_ ?_ <;> intro hcond <;> (try contradiction) <;> try simp only [decide_eq_true_eq, decide_eq_false_iff_not] at hcond) | (refine goCall_F e41 (v41 (strM intV m0)) (by simp [hd, hd1, hlen, hel, PV.noOwn]) ?_; simp only [hd, hd1, hlen, hel, SS, SS2, SS3, SS4, Option.map_some, Bool.not_false, Bool.not_true, gArgs, gOk, Nat.reduceAdd, PV.shift, MObj.shift, rdV, rdD, reduceIte, Nat.reduceEqDiff, Nat.reduceBEq, PV.bin, PV.binOk, binI, binS, PV.withInt, PV.withIntP, okAll, PV.under, PV.okUnder, eq_self, implies_true, deadOk, ne_eq, allOk, RVar.val, RVar.ok, retV, PV.seen, PV.view, beq_self_eq_true, PV.flat, PV.noOwn, id_eq, behind, PV.kill, MObj.kill, killTag, reduceCtorEq, nilB]; (try go_unwrap; try simp only [hd, hd1, hlen, hel, toNat_add2, toNat_add1, Int.toNat_natCast, Bool.false_and, Bool.true_and, true_implies, true_and, Bool.false_eq_true, reduceCtorEq, false_implies, Bool.not_false, Bool.not_true, Bool.true_or, Bool.false_or])) | (refine gd_i ?_; intro hg; try simp only [hg]) | refine goCall_W e40 (hb) ?_ ?_ ?_ ?_ | ((first | show @LE.le Nat _ _ _ | show @LT.lt Nat _ _ _ | show @LE.le Int _ _ _ | show @LT.lt Int _ _ _ | show @Eq Nat _ _ | show @Eq Int _ _ | show @Eq Bool _ _ | show _ ∨ _ | show ¬ _); first | omega | (simp only [decide_eq_true_eq, decide_eq_false_iff_not, List.length_cons, List.length_nil, List.length_append, List.length_map, Sh.size] <;> omega) | (go_unwrap; omega)) | ((first | refine PW.region ?_ | refine PW.regionQ ?_ | refine schedW_alt_i ?_ ?_ | refine schedW_done_i ?_ | show (_ : Post) _ _ _ | show @Eq (List PV) _ _ | show @Eq Bool _ _ | show opsW _ _ _ _ _ _ _ _ | show okAll _ | show @Eq Bool _ _ ∨ _); focus (simp only [hd, hd1, hlen, hel, SS, SS2, SS3, SS4, Option.map_some, Bool.not_false, Bool.not_true, gArgs, gOk, Nat.reduceAdd, PV.shift, MObj.shift, rdV, rdD, reduceIte, Nat.reduceEqDiff, Nat.reduceBEq, PV.bin, PV.binOk, binI, binS, PV.withInt, PV.withIntP, okAll, PV.under, PV.okUnder, eq_self, implies_true, deadOk, ne_eq, allOk, RVar.val, RVar.ok, retV, PV.seen, PV.view, beq_self_eq_true, PV.flat, PV.noOwn, id_eq, behind, PV.kill, MObj.kill, killTag, reduceCtorEq, nilB]; (try go_unwrap; try simp only [hd, hd1, hlen, hel, toNat_add2, toNat_add1, Int.toNat_natCast, Bool.false_and, Bool.true_and, true_implies, true_and, Bool.false_eq_true, reduceCtorEq, false_implies, Bool.not_false, Bool.not_true, Bool.true_or, Bool.false_or]))) | refine And.intro ?_ ?_ | exact Or.inr ⟨rfl, Nat.le_refl _⟩ | exact (fun h => Bool.noConfusion h))
      refine PW.loopG (σ := Nat × Bal) 3 (fun _ _ => rfl) [1, 2, 4, 7, 28, 29, 30] (fun s => [entL es, .ref 0 0, .ref 1 0, .mref 2, entL es, .int .i64 es.length, .int .i64 s.1])
        (fun s => [some (.var (some 2) (.agg [.list none (bs.map entL), .cmap .str (strM intV m0)])), some (.var (some 2) (.agg [.nilSl, .nilMap])), some (.mp .str (strM intV s.2))])
        (fun s => s.1 ≤ es.length ∧ inB s.2 ∧ postB m0 es = postB s.2 (es.drop s.1)) (fun s => es.length - s.1) (0, m0) ?_ rfl ⟨by simp, hm, by simp⟩ ?_
      · simp only [SS, SS2, SS3, SS4, Option.map_some, Bool.not_false, Bool.not_true, gArgs, gOk, Nat.reduceAdd, PV.shift, MObj.shift, rdV, rdD, reduceIte, Nat.reduceEqDiff, Nat.reduceBEq, PV.bin, PV.binOk, binI, binS, PV.withInt, PV.withIntP, okAll, PV.under, PV.okUnder, eq_self, implies_true, deadOk, ne_eq, allOk, RVar.val, RVar.ok, retV, PV.seen, PV.view, beq_self_eq_true, PV.flat, PV.noOwn, id_eq, behind, PV.kill, MObj.kill, killTag, reduceCtorEq, nilB]; rfl
      rintro ⟨j, m⟩ ⟨hj, hmi, hr⟩
      simp only at hj hmi hr
      simp only [List.zip_cons_cons, List.zip_nil_left]
      rcases Nat.lt_or_ge j es.length with h | h
      · have hdj : decide ((j : Int) < es.length) = true := by simp only [decide_eq_true_eq]; omega
        have hg := ents_getD es j h
        rw [List.drop_eq_getElem_cons h, postB] at hr
        have hp := hck es[j] (by simp)
        generalize es[j] = e at hg hr hp
        simp only [entP] at hg
        obtain ⟨q1, q2, q3⟩ := chk0 hp
        have hin := post1_in hmi hp
        obtain ⟨m2, hm2⟩ : ∃ m2, post1 m e = m2 := ⟨_, rfl⟩
        obtain ⟨m1, hm1⟩ : ∃ m1, aset m e.d (bget m e.d + e.n) = m1 := ⟨_, rfl⟩
        have hx := hmi e.d
        have hy := hmi e.c
        have e1 : bget m1 e.c = bget m e.c := by rw [← hm1, bget_set, if_neg (fun h => q1 h.symm)]
        have e2 : aset m1 e.c (bget m e.c - e.n) = m2 := by rw [← hm2, post1, hm1, e1]
        have g1 : (mget (strM intV m) (.str e.d)).getD (.int .i64 0) = .int .i64 (bget m e.d) := by rw [mget_str]; exact getD_map intV _ 0
        have g2 : (mget (strM intV m1) (.str e.c)).getD (.int .i64 0) = .int .i64 (bget m e.c) := by rw [mget_str, ← e1]; exact getD_map intV _ 0
        have g3 : (mget (strM intV m2) (.str e.d)).getD (.int .i64 0) = .int .i64 (bget m2 e.d) := by rw [mget_str]; exact getD_map intV _ 0
        have g4 : (mget (strM intV m2) (.str e.c)).getD (.int .i64 0) = .int .i64 (bget m2 e.c) := by rw [mget_str]; exact getD_map intV _ 0
        have w1 : IntKind.i64.wrap (bget m e.d + e.n) = bget m e.d + e.n := IntWalk.i64_in _ (by omega)
        have w2 : IntKind.i64.wrap (bget m e.c - e.n) = bget m e.c - e.n := IntWalk.i64_in _ (by omega)
        have s1 : mset (strM intV m) (.str e.d) (.int .i64 (bget m e.d + e.n)) = strM intV m1 := by rw [← hm1]; exact mset_str intV m _ _
        have s2 : mset (strM intV m1) (.str e.c) (.int .i64 (bget m e.c - e.n)) = strM intV m2 := by rw [← e2]; exact mset_str intV m1 _ _
        rw [hm2] at hr hin
        repeat' (first | exact True.intro | (refine PW.seqK ?_; intro K hK) | refine PW.block ?_ | refine PW.exit ?_ | refine PW.ret ?_ | refine PW.skip ?_ | refine seqK_n (by assumption) ?_ | refine seqK_r (by assumption) ?_ | refine seqK_e (by assumption) ?_ | refine PW.regionA ?_ | exact schedW_stop_i | (refine PW.cond rfl ?_ ?_ <;> intro hcond <;> (try contradiction) <;> try simp only [decide_eq_true_eq, decide_eq_false_iff_not] at hcond) | (refine gd_i ?_; intro hg; try simp only [hg]) | ((first | show @LE.le Nat _ _ _ | show @LT.lt Nat _ _ _ | show @LE.le Int _ _ _ | show @LT.lt Int _ _ _ | show @Eq Nat _ _ | show @Eq Int _ _ | show @Eq Bool _ _ | show _ ∨ _ | show ¬ _); first | omega | (simp only [decide_eq_true_eq, decide_eq_false_iff_not, List.length_cons, List.length_nil, List.length_append, List.length_map, Sh.size] <;> omega) | (go_unwrap; omega)) | ((first | refine PW.region ?_ | refine PW.regionQ ?_ | refine schedW_alt_i ?_ ?_ | refine schedW_done_i ?_ | show (_ : Post) _ _ _ | show @Eq (List PV) _ _ | show @Eq Bool _ _ | show opsW _ _ _ _ _ _ _ _ | show okAll _ | show @Eq Bool _ _ ∨ _); focus (simp only [hdj, hg, hel, g1, g2, g3, g4, w1, w2, s1, s2, SS, SS2, SS3, SS4, Option.map_some, Bool.not_false, Bool.not_true, gArgs, gOk, Nat.reduceAdd, PV.shift, MObj.shift, rdV, rdD, reduceIte, Nat.reduceEqDiff, Nat.reduceBEq, PV.bin, PV.binOk, binI, binS, PV.withInt, PV.withIntP, okAll, PV.under, PV.okUnder, eq_self, implies_true, deadOk, ne_eq, allOk, RVar.val, RVar.ok, retV, PV.seen, PV.view, beq_self_eq_true, PV.flat, PV.noOwn, id_eq, behind, PV.kill, MObj.kill, killTag, reduceCtorEq, nilB]; (try go_unwrap; try simp only [hdj, hg, hel, g1, g2, g3, g4, w1, w2, s1, s2, toNat_add2, toNat_add1, Int.toNat_natCast, Bool.false_and, Bool.true_and, true_implies, true_and, Bool.false_eq_true, reduceCtorEq, false_implies, Bool.not_false, Bool.not_true, Bool.true_or, Bool.false_or]))) | refine And.intro ?_ ?_ | exact Or.inr ⟨rfl, Nat.le_refl _⟩ | exact (fun h => Bool.noConfusion h))
        · have ho : over m2 e = true := by simpa [over] using hcond
          rw [if_pos ho] at hr
          rw [hpm, hr]
        · have ho : ¬ over m2 e = true := by simpa [over] using hcond
          rw [if_neg ho] at hr
          exact ⟨(j + 1, m2), (by first | rfl | (simp only [trimE, trimM, List.take_succ_cons, List.take_zero, List.take_nil, List.map_cons, List.map_nil, Option.map_some, Option.map_none, MObj.kill, PV.kill, Nat.reduceLeDiff, decide_true, decide_false, dec_true, dec_false, Bool.false_eq_true, if_false, if_true, reduceIte, List.zip_cons_cons, List.zip_nil_left, Nat.le_refl, Nat.zero_le, Nat.not_le, Nat.lt_irrefl]; done) | (simp [trimE, trimM, MObj.kill, PV.kill]; done)), (by first | rfl | (simp only [trimE, trimM, List.take_succ_cons, List.take_zero, List.take_nil, List.map_cons, List.map_nil, Option.map_some, Option.map_none, MObj.kill, PV.kill, Nat.reduceLeDiff, decide_true, decide_false, dec_true, dec_false, Bool.false_eq_true, if_false, if_true, reduceIte, List.zip_cons_cons, List.zip_nil_left, Nat.le_refl, Nat.zero_le, Nat.not_le, Nat.lt_irrefl]; done) | (simp [trimE, trimM, MObj.kill, PV.kill]; done)), ⟨h, hin ho, hr⟩, by simp only; omega⟩
      · have hdj : decide ((j : Int) < es.length) = false := by simp only [decide_eq_false_iff_not]; omega
        rw [List.drop_eq_nil_of_le h, postB] at hr
        have hv := v42 es hle hne
        have hA : List.drop (Int.toNat 0) (List.take bs.length (bs.map entL)) = bs.map entL := List.take_of_length_le (by simp)
        have hPM : partOf (PV.mref 2) 1 = some [PV.mref 2] := rfl
        repeat' (first | exact True.intro | (refine PW.seqK ?_; intro K hK) | refine PW.block ?_ | refine PW.exit ?_ | refine PW.ret ?_ | refine PW.skip ?_ | refine seqK_n (by assumption) ?_ | refine seqK_r (by assumption) ?_ | refine seqK_e (by assumption) ?_ | refine PW.regionA ?_ | exact schedW_stop_i | (refine PW.cond rfl ?_ ?_ <;> intro hcond <;> (try contradiction) <;> try simp only [decide_eq_true_eq, decide_eq_false_iff_not] at hcond) | (refine gd_i ?_; intro hg; try simp only [hg]) | refine goCall_W e42 (hv) ?_ ?_ ?_ ?_ | ((first | show @LE.le Nat _ _ _ | show @LT.lt Nat _ _ _ | show @LE.le Int _ _ _ | show @LT.lt Int _ _ _ | show @Eq Nat _ _ | show @Eq Int _ _ | show @Eq Bool _ _ | show _ ∨ _ | show ¬ _); first | omega | (simp only [decide_eq_true_eq, decide_eq_false_iff_not, List.length_cons, List.length_nil, List.length_append, List.length_map, Sh.size] <;> omega) | (go_unwrap; omega)) | ((first | refine PW.region ?_ | refine PW.regionQ ?_ | refine schedW_alt_i ?_ ?_ | refine schedW_done_i ?_ | show (_ : Post) _ _ _ | show @Eq (List PV) _ _ | show @Eq Bool _ _ | show opsW _ _ _ _ _ _ _ _ | show okAll _ | show @Eq Bool _ _ ∨ _); focus (simp only [hdj, hel, hlen, hA, hPM, SS, SS2, SS3, SS4, Option.map_some, Bool.not_false, Bool.not_true, gArgs, gOk, Nat.reduceAdd, PV.shift, MObj.shift, rdV, rdD, reduceIte, Nat.reduceEqDiff, Nat.reduceBEq, PV.bin, PV.binOk, binI, binS, PV.withInt, PV.withIntP, okAll, PV.under, PV.okUnder, eq_self, implies_true, deadOk, ne_eq, allOk, RVar.val, RVar.ok, retV, PV.seen, PV.view, beq_self_eq_true, PV.flat, PV.noOwn, id_eq, behind, PV.kill, MObj.kill, killTag, reduceCtorEq, nilB]; (try go_unwrap; try simp only [hdj, hel, hlen, hA, hPM, toNat_add2, toNat_add1, Int.toNat_natCast, Bool.false_and, Bool.true_and, true_implies, true_and, Bool.false_eq_true, reduceCtorEq, false_implies, Bool.not_false, Bool.not_true, Bool.true_or, Bool.false_or]))) | refine And.intro ?_ ?_ | exact Or.inr ⟨rfl, Nat.le_refl _⟩ | exact (fun h => Bool.noConfusion h))
        all_goals (try (simp only [hA, List.length_map, List.length_cons, List.length_nil]; omega))
        all_goals (rw [hpm, hr]; simp only [List.length_map, List.length_cons, List.length_nil, List.length_append, List.map_append, List.map_cons, List.map_nil])
        all_goals (rw [if_pos (Nat.le_refl _), List.take_of_length_le (by simp)])
end Go.Proofs.YtdemgegpnlngeaaDoor

