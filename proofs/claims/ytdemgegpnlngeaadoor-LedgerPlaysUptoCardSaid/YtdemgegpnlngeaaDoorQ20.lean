import Derived.Test.YtdemgegpnlngeaaDoorQ19
namespace Go.Proofs.YtdemgegpnlngeaaDoor
open Go PG Go.Proofs
set_option linter.unusedSimpArgs false
set_option linter.unusedVariables false
set_option maxHeartbeats 4000000
set_option maxRecDepth 100000
/-! Into some that rise -/
abbrev txL (l : List (List UInt8)) : PV := .list none (l.map PV.str)
theorem tx_getD (l : List (List UInt8)) (i : Nat) (h : i < l.length) : (l.map PV.str).getD i .junk = .str l[i] := by simp [List.getD, h]
def atP (l : List (List UInt8)) (s : List UInt8) : Nat := (l.takeWhile fun x => Op.bytesLess x s).length
def putM (l : List (List UInt8)) (s : List UInt8) : List (List UInt8) := if l[atP l s]? = some s then l else l.take (atP l s) ++ s :: l.drop (atP l s)
theorem atP_le (l : List (List UInt8)) (s : List UInt8) : atP l s ≤ l.length := (List.takeWhile_sublist _).length_le
theorem atP_lt : ∀ (l : List (List UInt8)) (s : List UInt8) (i : Nat) (h : i < l.length), i < atP l s → Op.bytesLess l[i] s = true
  | x :: l, s, i, h, hi => by
    unfold atP at hi
    rw [List.takeWhile_cons] at hi
    split at hi
    · rename_i hx
      cases i with
      | zero => exact hx
      | succ i => exact atP_lt l s i (by simpa using h) (by unfold atP; simpa using hi)
    · simp at hi
theorem atP_eq : ∀ (l : List (List UInt8)) (s : List UInt8) (h : atP l s < l.length), Op.bytesLess l[atP l s] s = false
  | x :: l, s, h => by
    have hc : atP (x :: l) s = if Op.bytesLess x s = true then atP l s + 1 else 0 := by
      unfold atP; rw [List.takeWhile_cons]; split <;> simp
    by_cases hx : Op.bytesLess x s = true
    · have e : atP (x :: l) s = atP l s + 1 := by rw [hc, if_pos hx]
      have := atP_eq l s (by simp at h; omega)
      simp only [e, List.getElem_cons_succ]
      exact this
    · have e : atP (x :: l) s = 0 := by rw [hc, if_neg hx]
      simp only [e, List.getElem_cons_zero]
      simpa using hx
theorem putM_len (l : List (List UInt8)) (s : List UInt8) : (putM l s).length ≤ l.length + 1 := by
  unfold putM; split
  · omega
  · have := atP_le l s; simp; omega
abbrev Rise (L : List (List UInt8)) : Prop := L.Pairwise (· < ·)
theorem not_lt {a b : List UInt8} (h : ¬ a < b) : b ≤ a := h
theorem lt_of {a b : List UInt8} (h : a ≤ b) (hn : a ≠ b) : a < b := by
  by_cases h1 : a < b
  · exact h1
  · exact absurd (List.le_antisymm h h1) hn
theorem lt_tr {a b c : List UInt8} (h : a < b) (k : b < c) : a < c := List.lt_trans h k
theorem Rise.nodup {L : List (List UInt8)} (h : Rise L) : L.Nodup := h.imp fun h e => by subst e; exact List.lt_irrefl _ h
theorem rise_uniq {A B : List (List UInt8)} (ha : Rise A) (hb : Rise B) (h : ∀ x, x ∈ A ↔ x ∈ B) : A = B := by
  refine List.Perm.eq_of_pairwise (le := (· < ·)) (fun x y _ _ h1 h2 => absurd (lt_tr h1 h2) (List.lt_irrefl _)) ha hb ?_
  exact (List.perm_ext_iff_of_nodup ha.nodup hb.nodup).2 h
theorem bl_iff (a b : List UInt8) : Op.bytesLess a b = true ↔ a < b := by rw [Go.Proofs.bytesLess_eq]; simp
theorem bl_not (a b : List UInt8) : Op.bytesLess a b = false ↔ ¬ a < b := by rw [Go.Proofs.bytesLess_eq]; simp
theorem putM_iff (l : List (List UInt8)) (s x : List UInt8) : x ∈ putM l s ↔ x ∈ l ∨ x = s := by
  unfold putM
  split
  · rename_i h
    have := List.mem_of_getElem? h
    exact ⟨.inl, fun h => h.elim id (fun e => by rw [e]; exact this)⟩
  · constructor
    · intro h
      rcases List.mem_append.1 h with h | h
      · exact .inl (List.mem_of_mem_take h)
      · rcases List.mem_cons.1 h with h | h
        · exact .inr h
        · exact .inl (List.mem_of_mem_drop h)
    · rintro (h | rfl)
      · rw [← List.take_append_drop (atP l s) l] at h
        rcases List.mem_append.1 h with h | h
        · exact List.mem_append.2 (.inl h)
        · exact List.mem_append.2 (.inr (List.mem_cons_of_mem _ h))
      · simp
theorem putM_rise {l : List (List UInt8)} (h : Rise l) (s : List UInt8) : Rise (putM l s) := by
  unfold putM
  split
  · exact h
  · rename_i hne
    have hlt : ∀ x ∈ l.take (atP l s), x < s := by
      intro x hx
      obtain ⟨i, hi, rfl⟩ := List.getElem_of_mem hx
      simp only [List.length_take] at hi
      rw [List.getElem_take]
      exact (bl_iff _ _).1 (atP_lt l s i (by omega) (by omega))
    have hgt : ∀ y ∈ l.drop (atP l s), s < y := by
      intro y hy
      obtain ⟨i, hi, rfl⟩ := List.getElem_of_mem hy
      simp only [List.length_drop] at hi
      have h0 : atP l s < l.length := by omega
      have h1 := (bl_not _ _).1 (atP_eq l s h0)
      have h2 : s < l[atP l s] := lt_of (not_lt h1) (fun e => hne (by rw [List.getElem?_eq_getElem h0, ← e]))
      rw [List.getElem_drop]
      rcases Nat.eq_zero_or_pos i with rfl | hp
      · exact h2
      · exact lt_tr h2 (List.pairwise_iff_getElem.1 h _ _ h0 (by omega) (by omega))
    have hs : Rise (l.take (atP l s)) := h.sublist (List.take_sublist _ _)
    have hd : Rise (l.drop (atP l s)) := h.sublist (List.drop_sublist _ _)
    refine List.pairwise_append.2 ⟨hs, List.pairwise_cons.2 ⟨hgt, hd⟩, fun a ha b hb => ?_⟩
    rcases List.mem_cons.1 hb with rfl | hb
    · exact hlt a ha
    · exact lt_tr (hlt a ha) (hgt b hb)
/-! The document's accounts -/
def acc2 (out : List (List UInt8)) (e : Ent4) : List (List UInt8) := putM (putM out e.d) e.c
def accF (es : List Ent4) : List (List UInt8) := es.foldl acc2 []
theorem accF_snoc (es : List Ent4) (e : Ent4) : accF (es ++ [e]) = acc2 (accF es) e := by simp [accF]
theorem accF_len (es : List Ent4) : (accF es).length ≤ 2 * es.length := by
  have key : ∀ (es : List Ent4) (o : List (List UInt8)), (es.foldl acc2 o).length ≤ o.length + 2 * es.length := by
    intro es
    induction es with
    | nil => intro o; simp
    | cons e es ih =>
      intro o
      have h1 := ih (acc2 o e)
      have h2 := putM_len (putM o e.d) e.c
      have h3 := putM_len o e.d
      simp only [List.foldl_cons, List.length_cons]
      unfold acc2 at *
      omega
  have := key es []
  simpa [accF] using this
theorem accF_spec (es : List Ent4) : Rise (accF es) ∧ ∀ s, s ∈ accF es ↔ s ∈ nms es := by
  have key : ∀ (es : List Ent4) (o : List (List UInt8)), Rise o → Rise (es.foldl acc2 o) ∧ ∀ s, s ∈ es.foldl acc2 o ↔ s ∈ o ∨ s ∈ nms es := by
    intro es
    induction es with
    | nil => intro o ho; exact ⟨ho, fun s => by simp [nms]⟩
    | cons e es ih =>
      intro o ho
      obtain ⟨h1, h2⟩ := ih (acc2 o e) (putM_rise (putM_rise ho _) _)
      refine ⟨h1, fun s => ?_⟩
      rw [List.foldl_cons, h2 s, acc2, putM_iff, putM_iff, nms_cons]
      simp only [List.mem_cons]
      constructor
      · rintro ((( h | h) | h) | h)
        · exact .inl h
        · exact .inr (.inl h)
        · exact .inr (.inr (.inl h))
        · exact .inr (.inr (.inr h))
      · rintro (h | h | h | h)
        · exact .inl (.inl (.inl h))
        · exact .inl (.inl (.inr h))
        · exact .inl (.inr h)
        · exact .inr h
  have := key es [] List.Pairwise.nil
  simpa [accF] using this
theorem accK_rise {l : Lg} (h : LgK l) : Rise (accK l) := by
  have := (accK_sorted l).and (accK_nodup h)
  exact this.imp fun ⟨a, b⟩ => lt_of a b
theorem accF_K {l : Lg} (h : LgK l) : accF l.bs.flatten = accK l := by
  obtain ⟨h1, h2⟩ := accF_spec l.bs.flatten
  exact rise_uniq h1 (accK_rise h) (fun s => by rw [h2 s, accK_mem, h.mem s])
theorem drop00 {α : Type} (xs : List α) : xs.drop (Int.toNat 0) = xs := rfl
/-- One name put, as the loop's body has it. -/
theorem v53 (l : List (List Ent4)) (hl : l.length ≤ 1000000) (ht : l.flatten.length ≤ 1000000000) : VCalls Tryd.prog G0 53 [batP l] (txL (accF l.flatten)) := by
  refine VCalls.of_PW Tryd.func53 k53 mix (by simp [c53]) ?_
  have h39 := v39 l hl ht
  simp only [c53, L53, argE]
  simp only [batP, entL] at h39 ⊢
  generalize l.flatten = es at h39 ht ⊢
  have hel : ((es.map entP).length : Nat) = es.length := by simp
  repeat' (first | exact True.intro | (refine PW.seqK ?_; intro K hK) | refine PW.block ?_ | refine PW.exit ?_ | refine PW.ret ?_ | refine PW.skip ?_ | refine seqK_n (by assumption) ?_ | refine seqK_r (by assumption) ?_ | refine seqK_e (by assumption) ?_ | refine PW.regionA ?_ | exact schedW_stop_i | (refine PW.cond rfl ?_ ?_ <;> intro hcond <;> (try contradiction) <;> try simp only [decide_eq_true_eq, decide_eq_false_iff_not] at hcond) | (refine gd_i ?_; intro hg; try simp only [hg]) | refine goCall_W e39 (h39) ?_ ?_ ?_ ?_ | ((first | show @LE.le Nat _ _ _ | show @LT.lt Nat _ _ _ | show @LE.le Int _ _ _ | show @LT.lt Int _ _ _ | show @Eq Nat _ _ | show @Eq Int _ _ | show @Eq Bool _ _ | show _ ∨ _ | show ¬ _); first | omega | (simp only [decide_eq_true_eq, decide_eq_false_iff_not, List.length_cons, List.length_nil, List.length_append, List.length_map, Sh.size] <;> omega) | (go_unwrap; omega)) | ((first | refine PW.region ?_ | refine PW.regionQ ?_ | refine schedW_alt_i ?_ ?_ | refine schedW_done_i ?_ | show (_ : Post) _ _ _ | show @Eq (List PV) _ _ | show @Eq Bool _ _ | show opsW _ _ _ _ _ _ _ _ | show okAll _ | show @Eq Bool _ _ ∨ _); focus (simp only [SS, SS2, SS3, SS4, Option.map_some, Bool.not_false, Bool.not_true, gArgs, gOk, Nat.reduceAdd, PV.shift, MObj.shift, rdV, rdD, reduceIte, Nat.reduceEqDiff, Nat.reduceBEq, PV.bin, PV.binOk, binI, binS, PV.withInt, PV.withIntP, okAll, PV.under, PV.okUnder, eq_self, implies_true, deadOk, ne_eq, allOk, RVar.val, RVar.ok, retV, PV.seen, PV.view, beq_self_eq_true, PV.flat, PV.noOwn, id_eq, behind, PV.kill, MObj.kill, killTag, reduceCtorEq, nilB]; (try go_unwrap; try simp only [toNat_add2, toNat_add1, Int.toNat_natCast, Bool.false_and, Bool.true_and, true_implies, true_and, Bool.false_eq_true, reduceCtorEq, false_implies, Bool.not_false, Bool.not_true, Bool.true_or, Bool.false_or]))) | refine And.intro ?_ ?_ | exact Or.inr ⟨rfl, Nat.le_refl _⟩ | exact (fun h => Bool.noConfusion h))
  refine PW.subE none 3 rfl ?_
  refine PW.loopG (σ := Nat) 0 (fun _ _ => rfl) [2, 3, 4, 5] (fun j => [.nilSl, txL (accF (es.take j)), .list (some 4) (es.map entP), .int .i64 j])
    (fun _ => []) (fun j => j ≤ es.length) (fun j => es.length - j) 0 ?_ (by simp) (by omega) ?_
  · simp only [SS, SS2, SS3, SS4, Option.map_some, Bool.not_false, Bool.not_true, gArgs, gOk, Nat.reduceAdd, PV.shift, MObj.shift, rdV, rdD, reduceIte, Nat.reduceEqDiff, Nat.reduceBEq, PV.bin, PV.binOk, binI, binS, PV.withInt, PV.withIntP, okAll, PV.under, PV.okUnder, eq_self, implies_true, deadOk, ne_eq, allOk, RVar.val, RVar.ok, retV, PV.seen, PV.view, beq_self_eq_true, PV.flat, PV.noOwn, id_eq, behind, PV.kill, MObj.kill, killTag, reduceCtorEq, nilB]; rfl
  rintro j hj
  simp only [List.zip_cons_cons, List.zip_nil_left]
  rcases Nat.lt_or_ge j es.length with h' | h'
  case inr =>
    have hd' : decide ((j : Int) < es.length) = false := by simp only [decide_eq_false_iff_not]; omega
    have hj' : j = es.length := by omega
    subst hj'
    rw [List.take_of_length_le (Nat.le_refl _)]
    repeat' (first | exact True.intro | (refine PW.seqK ?_; intro K hK) | refine PW.block ?_ | refine PW.exit ?_ | refine PW.ret ?_ | refine PW.skip ?_ | refine seqK_n (by assumption) ?_ | refine seqK_r (by assumption) ?_ | refine seqK_e (by assumption) ?_ | refine PW.regionA ?_ | exact schedW_stop_i | (refine PW.cond rfl ?_ ?_ <;> intro hcond <;> (try contradiction) <;> try simp only [decide_eq_true_eq, decide_eq_false_iff_not] at hcond) | (refine gd_i ?_; intro hg; try simp only [hg]) | ((first | show @LE.le Nat _ _ _ | show @LT.lt Nat _ _ _ | show @LE.le Int _ _ _ | show @LT.lt Int _ _ _ | show @Eq Nat _ _ | show @Eq Int _ _ | show @Eq Bool _ _ | show _ ∨ _ | show ¬ _); first | omega | (simp only [decide_eq_true_eq, decide_eq_false_iff_not, List.length_cons, List.length_nil, List.length_append, List.length_map, Sh.size] <;> omega) | (go_unwrap; omega)) | ((first | refine PW.region ?_ | refine PW.regionQ ?_ | refine schedW_alt_i ?_ ?_ | refine schedW_done_i ?_ | show (_ : Post) _ _ _ | show @Eq (List PV) _ _ | show @Eq Bool _ _ | show opsW _ _ _ _ _ _ _ _ | show okAll _ | show @Eq Bool _ _ ∨ _); focus (simp only [hd', hel, SS, SS2, SS3, SS4, Option.map_some, Bool.not_false, Bool.not_true, gArgs, gOk, Nat.reduceAdd, PV.shift, MObj.shift, rdV, rdD, reduceIte, Nat.reduceEqDiff, Nat.reduceBEq, PV.bin, PV.binOk, binI, binS, PV.withInt, PV.withIntP, okAll, PV.under, PV.okUnder, eq_self, implies_true, deadOk, ne_eq, allOk, RVar.val, RVar.ok, retV, PV.seen, PV.view, beq_self_eq_true, PV.flat, PV.noOwn, id_eq, behind, PV.kill, MObj.kill, killTag, reduceCtorEq, nilB]; (try go_unwrap; try simp only [hd', hel, toNat_add2, toNat_add1, Int.toNat_natCast, Bool.false_and, Bool.true_and, true_implies, true_and, Bool.false_eq_true, reduceCtorEq, false_implies, Bool.not_false, Bool.not_true, Bool.true_or, Bool.false_or]))) | refine And.intro ?_ ?_ | exact Or.inr ⟨rfl, Nat.le_refl _⟩ | exact (fun h => Bool.noConfusion h))
  have hd' : decide ((j : Int) < es.length) = true := by simp only [decide_eq_true_eq]; omega
  have hS : accF (es.take (j + 1)) = acc2 (accF (es.take j)) es[j] := by rw [List.take_succ_eq_append_getElem h', accF_snoc]
  have hal := accF_len (es.take j)
  rw [List.length_take] at hal
  have hg' := ents_getD es j h'
  generalize es[j] = e at hS hg'
  generalize accF (es.take j) = out at hS hal ⊢
  simp only [entP] at hg'
  repeat' (first | exact True.intro | (refine PW.seqA (E := ?_) (M := ?_) ?_ ?_; rotate_left 2) | exact mergeQ_mk _ _ | (refine PW.seqK ?_; intro K hK) | refine PW.block ?_ | refine PW.exit ?_ | refine PW.ret ?_ | refine PW.skip ?_ | refine seqK_n (by assumption) ?_ | refine seqK_r (by assumption) ?_ | refine seqK_e (by assumption) ?_ | refine PW.regionA ?_ | exact schedW_stop_i | (refine PW.cond rfl ?_ ?_ <;> intro hcond <;> (try contradiction) <;> try simp only [decide_eq_true_eq, decide_eq_false_iff_not] at hcond) | (refine gd_i ?_; intro hg; try simp only [hg]) | ((first | show @LE.le Nat _ _ _ | show @LT.lt Nat _ _ _ | show @LE.le Int _ _ _ | show @LT.lt Int _ _ _ | show @Eq Nat _ _ | show @Eq Int _ _ | show @Eq Bool _ _ | show _ ∨ _ | show ¬ _); first | omega | (simp only [decide_eq_true_eq, decide_eq_false_iff_not, List.length_cons, List.length_nil, List.length_append, List.length_map, Sh.size] <;> omega) | (go_unwrap; omega)) | ((first | refine PW.region ?_ | refine PW.regionQ ?_ | refine schedW_alt_i ?_ ?_ | refine schedW_done_i ?_ | show (_ : Post) _ _ _ | show @Eq (List PV) _ _ | show @Eq Bool _ _ | show opsW _ _ _ _ _ _ _ _ | show okAll _ | show @Eq Bool _ _ ∨ _); focus (simp only [hd', hg', hel, SS, SS2, SS3, SS4, Option.map_some, Bool.not_false, Bool.not_true, gArgs, gOk, Nat.reduceAdd, PV.shift, MObj.shift, rdV, rdD, reduceIte, Nat.reduceEqDiff, Nat.reduceBEq, PV.bin, PV.binOk, binI, binS, PV.withInt, PV.withIntP, okAll, PV.under, PV.okUnder, eq_self, implies_true, deadOk, ne_eq, allOk, RVar.val, RVar.ok, retV, PV.seen, PV.view, beq_self_eq_true, PV.flat, PV.noOwn, id_eq, behind, PV.kill, MObj.kill, killTag, reduceCtorEq, nilB]; (try go_unwrap; try simp only [hd', hg', hel, toNat_add2, toNat_add1, Int.toNat_natCast, Bool.false_and, Bool.true_and, true_implies, true_and, Bool.false_eq_true, reduceCtorEq, false_implies, Bool.not_false, Bool.not_true, Bool.true_or, Bool.false_or]))) | refine And.intro ?_ ?_ | exact Or.inr ⟨rfl, Nat.le_refl _⟩ | exact (fun h => Bool.noConfusion h))
  refine PW.loopG (σ := Nat) 0 (fun _ _ => rfl) [2, 3, 4, 5, 28, 29, 30] (fun q => [.nilSl, txL (if q = 0 then out else if q = 1 then putM out e.d else acc2 out e), .list (some 4) (es.map entP), .int .i64 j, .list none [.str e.d, .str e.c], .int .i64 2, .int .i64 q])
    (fun _ => []) (fun q => q ≤ 2) (fun q => 2 - q) 0 ?_ (by simp) (by omega) ?_
  · simp only [SS, SS2, SS3, SS4, Option.map_some, Bool.not_false, Bool.not_true, gArgs, gOk, Nat.reduceAdd, PV.shift, MObj.shift, rdV, rdD, reduceIte, Nat.reduceEqDiff, Nat.reduceBEq, PV.bin, PV.binOk, binI, binS, PV.withInt, PV.withIntP, okAll, PV.under, PV.okUnder, eq_self, implies_true, deadOk, ne_eq, allOk, RVar.val, RVar.ok, retV, PV.seen, PV.view, beq_self_eq_true, PV.flat, PV.noOwn, id_eq, behind, PV.kill, MObj.kill, killTag, reduceCtorEq, nilB]; rfl
  rintro q hq
  simp only [List.zip_cons_cons, List.zip_nil_left]
  by_cases hq2 : q = 2
  · subst hq2
    repeat' (first | exact True.intro | (refine PW.seqK ?_; intro K hK) | refine PW.block ?_ | refine PW.exit ?_ | refine PW.ret ?_ | refine PW.skip ?_ | refine seqK_n (by assumption) ?_ | refine seqK_r (by assumption) ?_ | refine seqK_e (by assumption) ?_ | refine PW.regionA ?_ | exact schedW_stop_i | (refine PW.cond rfl ?_ ?_ <;> intro hcond <;> (try contradiction) <;> try simp only [decide_eq_true_eq, decide_eq_false_iff_not] at hcond) | (refine gd_i ?_; intro hg; try simp only [hg]) | ((first | show @LE.le Nat _ _ _ | show @LT.lt Nat _ _ _ | show @LE.le Int _ _ _ | show @LT.lt Int _ _ _ | show @Eq Nat _ _ | show @Eq Int _ _ | show @Eq Bool _ _ | show _ ∨ _ | show ¬ _); first | omega | (simp only [decide_eq_true_eq, decide_eq_false_iff_not, List.length_cons, List.length_nil, List.length_append, List.length_map, Sh.size] <;> omega) | (go_unwrap; omega)) | ((first | refine PW.region ?_ | refine PW.regionQ ?_ | refine schedW_alt_i ?_ ?_ | refine schedW_done_i ?_ | show (_ : Post) _ _ _ | show @Eq (List PV) _ _ | show @Eq Bool _ _ | show opsW _ _ _ _ _ _ _ _ | show okAll _ | show @Eq Bool _ _ ∨ _); focus (simp only [hd', hel, SS, SS2, SS3, SS4, Option.map_some, Bool.not_false, Bool.not_true, gArgs, gOk, Nat.reduceAdd, PV.shift, MObj.shift, rdV, rdD, reduceIte, Nat.reduceEqDiff, Nat.reduceBEq, PV.bin, PV.binOk, binI, binS, PV.withInt, PV.withIntP, okAll, PV.under, PV.okUnder, eq_self, implies_true, deadOk, ne_eq, allOk, RVar.val, RVar.ok, retV, PV.seen, PV.view, beq_self_eq_true, PV.flat, PV.noOwn, id_eq, behind, PV.kill, MObj.kill, killTag, reduceCtorEq, nilB]; (try go_unwrap; try simp only [hd', hel, toNat_add2, toNat_add1, Int.toNat_natCast, Bool.false_and, Bool.true_and, true_implies, true_and, Bool.false_eq_true, reduceCtorEq, false_implies, Bool.not_false, Bool.not_true, Bool.true_or, Bool.false_or]))) | refine And.intro ?_ ?_ | exact Or.inr ⟨rfl, Nat.le_refl _⟩ | exact (fun h => Bool.noConfusion h))
    all_goals exact ⟨j + 1, (by rw [hS]; exact (by first | rfl | (simp only [trimE, trimM, List.take_succ_cons, List.take_zero, List.take_nil, List.map_cons, List.map_nil, Option.map_some, Option.map_none, MObj.kill, PV.kill, Nat.reduceLeDiff, decide_true, decide_false, dec_true, dec_false, Bool.false_eq_true, if_false, if_true, reduceIte, List.zip_cons_cons, List.zip_nil_left, Nat.le_refl, Nat.zero_le, Nat.not_le, Nat.lt_irrefl]; done) | (simp [trimE, trimM, MObj.kill, PV.kill]; done))), (by first | rfl | (simp only [trimE, trimM, List.take_succ_cons, List.take_zero, List.take_nil, List.map_cons, List.map_nil, Option.map_some, Option.map_none, MObj.kill, PV.kill, Nat.reduceLeDiff, decide_true, decide_false, dec_true, dec_false, Bool.false_eq_true, if_false, if_true, reduceIte, List.zip_cons_cons, List.zip_nil_left, Nat.le_refl, Nat.zero_le, Nat.not_le, Nat.lt_irrefl]; done) | (simp [trimE, trimM, MObj.kill, PV.kill]; done)), by omega, by omega⟩
  obtain ⟨o, ho⟩ : ∃ o, (if q = 0 then out else if q = 1 then putM out e.d else acc2 out e) = o := ⟨_, rfl⟩
  obtain ⟨a, ha⟩ : ∃ a, (if q = 0 then e.d else e.c) = a := ⟨_, rfl⟩
  have hga : [PV.str e.d, PV.str e.c].getD q .junk = .str a := by rcases (by omega : q = 0 ∨ q = 1) with rfl | rfl <;> rw [← ha] <;> rfl
  have hnx : putM o a = (if q + 1 = 0 then out else if q + 1 = 1 then putM out e.d else acc2 out e) := by rcases (by omega : q = 0 ∨ q = 1) with rfl | rfl <;> rw [← ho, ← ha] <;> rfl
  have hol : o.length ≤ 2 * j + 1 := by
    have := putM_len out e.d
    rcases (by omega : q = 0 ∨ q = 1) with rfl | rfl
    · simp at ho; rw [← ho]; omega
    · simp at ho; rw [← ho]; omega
  have hdq : decide ((q : Int) < 2) = true := by simp only [decide_eq_true_eq]; omega
  rw [ho]
  clear ho ha hS
  have hlen : ((o.map PV.str).length : Nat) = o.length := by simp
  obtain ⟨n, hn⟩ : ∃ n, n = atP o a := ⟨_, rfl⟩
  have hnl : n ≤ o.length := by rw [hn]; exact atP_le o a
  have hlt : ∀ (i : Nat) (h : i < o.length), i < n → Op.bytesLess o[i] a = true := by subst hn; exact atP_lt o a
  have heq : ∀ h : n < o.length, Op.bytesLess o[n] a = false := by subst hn; exact atP_eq o a
  have hput : putM o a = if o[n]? = some a then o else o.take n ++ a :: o.drop n := by unfold putM; rw [hn]
  rw [hput] at hnx
  clear hn hput
  repeat' (first | exact True.intro | (refine PW.seqK ?_; intro K hK) | refine PW.block ?_ | refine PW.exit ?_ | refine PW.ret ?_ | refine PW.skip ?_ | refine seqK_n (by assumption) ?_ | refine seqK_r (by assumption) ?_ | refine seqK_e (by assumption) ?_ | refine PW.regionA ?_ | exact schedW_stop_i | (refine PW.cond rfl ?_ ?_ <;> intro hcond <;> (try contradiction) <;> try simp only [decide_eq_true_eq, decide_eq_false_iff_not] at hcond) | (refine gd_i ?_; intro hg; try simp only [hg]) | ((first | show @LE.le Nat _ _ _ | show @LT.lt Nat _ _ _ | show @LE.le Int _ _ _ | show @LT.lt Int _ _ _ | show @Eq Nat _ _ | show @Eq Int _ _ | show @Eq Bool _ _ | show _ ∨ _ | show ¬ _); first | omega | (simp only [decide_eq_true_eq, decide_eq_false_iff_not, List.length_cons, List.length_nil, List.length_append, List.length_map, Sh.size] <;> omega) | (go_unwrap; omega)) | ((first | refine PW.region ?_ | refine PW.regionQ ?_ | refine schedW_alt_i ?_ ?_ | refine schedW_done_i ?_ | show (_ : Post) _ _ _ | show @Eq (List PV) _ _ | show @Eq Bool _ _ | show opsW _ _ _ _ _ _ _ _ | show okAll _ | show @Eq Bool _ _ ∨ _); focus (simp only [hdq, hga, hlen, SS, SS2, SS3, SS4, Option.map_some, Bool.not_false, Bool.not_true, gArgs, gOk, Nat.reduceAdd, PV.shift, MObj.shift, rdV, rdD, reduceIte, Nat.reduceEqDiff, Nat.reduceBEq, PV.bin, PV.binOk, binI, binS, PV.withInt, PV.withIntP, okAll, PV.under, PV.okUnder, eq_self, implies_true, deadOk, ne_eq, allOk, RVar.val, RVar.ok, retV, PV.seen, PV.view, beq_self_eq_true, PV.flat, PV.noOwn, id_eq, behind, PV.kill, MObj.kill, killTag, reduceCtorEq, nilB]; (try go_unwrap; try simp only [hdq, hga, hlen, toNat_add2, toNat_add1, Int.toNat_natCast, Bool.false_and, Bool.true_and, true_implies, true_and, Bool.false_eq_true, reduceCtorEq, false_implies, Bool.not_false, Bool.not_true, Bool.true_or, Bool.false_or]))) | refine And.intro ?_ ?_ | exact Or.inr ⟨rfl, Nat.le_refl _⟩ | exact (fun h => Bool.noConfusion h))
  refine PW.loopG (σ := Nat) 0 (fun _ _ => rfl) [2, 3, 4, 5, 7, 8, 28, 29, 30] (fun i => [.nilSl, txL o, .list (some 4) (es.map entP), .int .i64 j, .str a, .int .i64 i, .list none [.str e.d, .str e.c], .int .i64 2, .int .i64 q]) (fun _ => []) (fun i => i ≤ n) (fun i => n - i) 0 ?_ rfl (by omega) ?_
  · simp only [SS, SS2, SS3, SS4, Option.map_some, Bool.not_false, Bool.not_true, gArgs, gOk, Nat.reduceAdd, PV.shift, MObj.shift, rdV, rdD, reduceIte, Nat.reduceEqDiff, Nat.reduceBEq, PV.bin, PV.binOk, binI, binS, PV.withInt, PV.withIntP, okAll, PV.under, PV.okUnder, eq_self, implies_true, deadOk, ne_eq, allOk, RVar.val, RVar.ok, retV, PV.seen, PV.view, beq_self_eq_true, PV.flat, PV.noOwn, id_eq, behind, PV.kill, MObj.kill, killTag, reduceCtorEq, nilB]; rfl
  rintro i hi
  simp only [List.zip_cons_cons, List.zip_nil_left]
  rcases Nat.lt_or_ge i n with h | h
  · have hd : decide ((i : Int) < o.length) = true := by simp only [decide_eq_true_eq]; omega
    have hg := tx_getD o i (by omega)
    have hb := hlt i (by omega) h
    repeat' (first | exact True.intro | (refine PW.seqK ?_; intro K hK) | refine PW.block ?_ | refine PW.exit ?_ | refine PW.ret ?_ | refine PW.skip ?_ | refine seqK_n (by assumption) ?_ | refine seqK_r (by assumption) ?_ | refine seqK_e (by assumption) ?_ | refine PW.regionA ?_ | exact schedW_stop_i | (refine PW.cond rfl ?_ ?_ <;> intro hcond <;> (try contradiction) <;> try simp only [decide_eq_true_eq, decide_eq_false_iff_not] at hcond) | (refine gd_i ?_; intro hg; try simp only [hg]) | ((first | show @LE.le Nat _ _ _ | show @LT.lt Nat _ _ _ | show @LE.le Int _ _ _ | show @LT.lt Int _ _ _ | show @Eq Nat _ _ | show @Eq Int _ _ | show @Eq Bool _ _ | show _ ∨ _ | show ¬ _); first | omega | (simp only [decide_eq_true_eq, decide_eq_false_iff_not, List.length_cons, List.length_nil, List.length_append, List.length_map, Sh.size] <;> omega) | (go_unwrap; omega)) | ((first | refine PW.region ?_ | refine PW.regionQ ?_ | refine schedW_alt_i ?_ ?_ | refine schedW_done_i ?_ | show (_ : Post) _ _ _ | show @Eq (List PV) _ _ | show @Eq Bool _ _ | show opsW _ _ _ _ _ _ _ _ | show okAll _ | show @Eq Bool _ _ ∨ _); focus (simp only [hlen, hd, hg, hb, SS, SS2, SS3, SS4, Option.map_some, Bool.not_false, Bool.not_true, gArgs, gOk, Nat.reduceAdd, PV.shift, MObj.shift, rdV, rdD, reduceIte, Nat.reduceEqDiff, Nat.reduceBEq, PV.bin, PV.binOk, binI, binS, PV.withInt, PV.withIntP, okAll, PV.under, PV.okUnder, eq_self, implies_true, deadOk, ne_eq, allOk, RVar.val, RVar.ok, retV, PV.seen, PV.view, beq_self_eq_true, PV.flat, PV.noOwn, id_eq, behind, PV.kill, MObj.kill, killTag, reduceCtorEq, nilB]; (try go_unwrap; try simp only [hlen, hd, hg, hb, toNat_add2, toNat_add1, Int.toNat_natCast, Bool.false_and, Bool.true_and, true_implies, true_and, Bool.false_eq_true, reduceCtorEq, false_implies, Bool.not_false, Bool.not_true, Bool.true_or, Bool.false_or]))) | refine And.intro ?_ ?_ | exact Or.inr ⟨rfl, Nat.le_refl _⟩ | exact (fun h => Bool.noConfusion h))
    all_goals exact ⟨i + 1, (by first | rfl | (simp only [trimE, trimM, List.take_succ_cons, List.take_zero, List.take_nil, List.map_cons, List.map_nil, Option.map_some, Option.map_none, MObj.kill, PV.kill, Nat.reduceLeDiff, decide_true, decide_false, dec_true, dec_false, Bool.false_eq_true, if_false, if_true, reduceIte, List.zip_cons_cons, List.zip_nil_left, Nat.le_refl, Nat.zero_le, Nat.not_le, Nat.lt_irrefl]; done) | (simp [trimE, trimM, MObj.kill, PV.kill]; done)), (by first | rfl | (simp only [trimE, trimM, List.take_succ_cons, List.take_zero, List.take_nil, List.map_cons, List.map_nil, Option.map_some, Option.map_none, MObj.kill, PV.kill, Nat.reduceLeDiff, decide_true, decide_false, dec_true, dec_false, Bool.false_eq_true, if_false, if_true, reduceIte, List.zip_cons_cons, List.zip_nil_left, Nat.le_refl, Nat.zero_le, Nat.not_le, Nat.lt_irrefl]; done) | (simp [trimE, trimM, MObj.kill, PV.kill]; done)), by omega, by omega⟩
  have hi' : i = n := by omega
  subst hi'
  have s1 : (o.map PV.str).take i = (o.take i).map PV.str := by rw [List.map_take]
  have s2 : (o.map PV.str).drop i = (o.drop i).map PV.str := by rw [List.map_drop]
  have e1 : ((o.take i).map PV.str).length = i := by simp; omega
  have e2 : ((o.drop i).map PV.str).length = o.length - i := by simp
  have t0 : ((o.map PV.str).take o.length) = o.map PV.str := List.take_of_length_le (by simp)
  have k1 : ((o.take i).map PV.str).take i = (o.take i).map PV.str := List.take_of_length_le (by omega)
  have k2 : ((o.take i).map PV.str ++ [PV.str a]).take (i + 1) = (o.take i).map PV.str ++ [PV.str a] := List.take_of_length_le (by rw [List.length_append, e1]; simp)
  have L2 : ((o.take i).map PV.str ++ [PV.str a]).length = i + 1 := by rw [List.length_append, e1]; simp
  have L3 : ((o.take i).map PV.str ++ [PV.str a] ++ (o.drop i).map PV.str).length = i + 1 + (o.length - i) := by rw [List.length_append, L2, e2]
  have k3 : ((o.take i).map PV.str ++ [PV.str a] ++ (o.drop i).map PV.str).take (i + 1 + (o.length - i)) = (o.take i).map PV.str ++ [PV.str a] ++ (o.drop i).map PV.str := List.take_of_length_le (by rw [L3]; omega)
  have L4 : ((o.take i).map PV.str ++ PV.str a :: (o.drop i).map PV.str).length = i + 1 + (o.length - i) := by simp; omega
  have b1 : i * 16 ≤ 281474976710656 := by omega
  have b2 : (i + 1) * 16 ≤ 281474976710656 := by omega
  have b3 : (i + 1 + (o.length - i)) * 16 ≤ 281474976710656 := by omega
  have fin : o[i]? ≠ some a → (o.take i).map PV.str ++ [PV.str a] ++ (o.drop i).map PV.str = (if q + 1 = 0 then out else if q + 1 = 1 then putM out e.d else acc2 out e).map PV.str := by
    intro hne
    rw [← hnx, if_neg hne, List.map_append, List.map_cons, List.append_assoc]; rfl
  by_cases hc : i < o.length
  · have hd : decide ((i : Int) < o.length) = true := by simp only [decide_eq_true_eq]; omega
    have hdn : decide ((i : Int) = o.length) = false := by simp only [decide_eq_false_iff_not]; omega
    have hg := tx_getD o i hc
    have hb := heq hc
    by_cases he : o[i] = a
    · have d1 : decide (o[i] = a) = true := by simpa using he
      rw [if_pos (by simp [he, hc])] at hnx
      repeat' (first | exact True.intro | (refine PW.seqK ?_; intro K hK) | refine PW.block ?_ | refine PW.exit ?_ | refine PW.ret ?_ | refine PW.skip ?_ | refine seqK_n (by assumption) ?_ | refine seqK_r (by assumption) ?_ | refine seqK_e (by assumption) ?_ | refine PW.regionA ?_ | exact schedW_stop_i | (refine PW.cond rfl ?_ ?_ <;> intro hcond <;> (try contradiction) <;> try simp only [decide_eq_true_eq, decide_eq_false_iff_not] at hcond) | (refine gd_i ?_; intro hg; try simp only [hg]) | ((first | show @LE.le Nat _ _ _ | show @LT.lt Nat _ _ _ | show @LE.le Int _ _ _ | show @LT.lt Int _ _ _ | show @Eq Nat _ _ | show @Eq Int _ _ | show @Eq Bool _ _ | show _ ∨ _ | show ¬ _); first | omega | (simp only [decide_eq_true_eq, decide_eq_false_iff_not, List.length_cons, List.length_nil, List.length_append, List.length_map, Sh.size] <;> omega) | (go_unwrap; omega)) | ((first | refine PW.region ?_ | refine PW.regionQ ?_ | refine schedW_alt_i ?_ ?_ | refine schedW_done_i ?_ | show (_ : Post) _ _ _ | show @Eq (List PV) _ _ | show @Eq Bool _ _ | show opsW _ _ _ _ _ _ _ _ | show okAll _ | show @Eq Bool _ _ ∨ _); focus (simp only [hlen, hd, hdn, hg, hb, d1, SS, SS2, SS3, SS4, Option.map_some, Bool.not_false, Bool.not_true, gArgs, gOk, Nat.reduceAdd, PV.shift, MObj.shift, rdV, rdD, reduceIte, Nat.reduceEqDiff, Nat.reduceBEq, PV.bin, PV.binOk, binI, binS, PV.withInt, PV.withIntP, okAll, PV.under, PV.okUnder, eq_self, implies_true, deadOk, ne_eq, allOk, RVar.val, RVar.ok, retV, PV.seen, PV.view, beq_self_eq_true, PV.flat, PV.noOwn, id_eq, behind, PV.kill, MObj.kill, killTag, reduceCtorEq, nilB]; (try go_unwrap; try simp only [hlen, hd, hdn, hg, hb, d1, toNat_add2, toNat_add1, Int.toNat_natCast, Bool.false_and, Bool.true_and, true_implies, true_and, Bool.false_eq_true, reduceCtorEq, false_implies, Bool.not_false, Bool.not_true, Bool.true_or, Bool.false_or]))) | refine And.intro ?_ ?_ | exact Or.inr ⟨rfl, Nat.le_refl _⟩ | exact (fun h => Bool.noConfusion h))
      all_goals exact ⟨q + 1, (by rw [← hnx]; first | rfl | (simp [trimE, PV.kill]; done)), (by first | rfl | (simp only [trimE, trimM, List.take_succ_cons, List.take_zero, List.take_nil, List.map_cons, List.map_nil, Option.map_some, Option.map_none, MObj.kill, PV.kill, Nat.reduceLeDiff, decide_true, decide_false, dec_true, dec_false, Bool.false_eq_true, if_false, if_true, reduceIte, List.zip_cons_cons, List.zip_nil_left, Nat.le_refl, Nat.zero_le, Nat.not_le, Nat.lt_irrefl]; done) | (simp [trimE, trimM, MObj.kill, PV.kill]; done)), by omega, by omega⟩
    · have d1 : decide (o[i] = a) = false := by simpa using he
      have fin := fin (by simp [he, hc])
      repeat' (first | exact True.intro | (refine PW.regionF (cs := ⟨some 73, none, .rd (.bin .add) [.tmp 30, .pv (.int .i64 1)]⟩ :: _) 0 0 ?_; simp only [List.take_succ_cons, List.take_zero, List.drop_succ_cons, List.drop_zero, hlen, hd, hdn, hg, hb, d1, s1, s2, e1, e2, t0, k1, k2, k3, L2, L3, drop00, List.take_zero, List.take_nil, List.nil_append, Nat.le_refl, and_self, if_true, List.length_cons, List.length_nil, Nat.zero_add, SS, SS2, SS3, SS4, Option.map_some, Bool.not_false, Bool.not_true, gArgs, gOk, Nat.reduceAdd, PV.shift, MObj.shift, rdV, rdD, reduceIte, Nat.reduceEqDiff, Nat.reduceBEq, PV.bin, PV.binOk, binI, binS, PV.withInt, PV.withIntP, okAll, PV.under, PV.okUnder, eq_self, implies_true, deadOk, ne_eq, allOk, RVar.val, RVar.ok, retV, PV.seen, PV.view, beq_self_eq_true, PV.flat, PV.noOwn, id_eq, behind, PV.kill, MObj.kill, killTag, reduceCtorEq, nilB]; (try go_unwrap; try simp only [hlen, hd, hdn, hg, hb, d1, s1, s2, e1, e2, t0, k1, k2, k3, L2, L3, drop00, List.take_zero, List.take_nil, List.nil_append, Nat.le_refl, and_self, if_true, List.length_cons, List.length_nil, Nat.zero_add, toNat_add2, toNat_add1, Int.toNat_natCast, Bool.false_and, Bool.true_and, true_implies, true_and, Bool.false_eq_true, reduceCtorEq, false_implies, Bool.not_false, Bool.not_true, Bool.true_or, Bool.false_or])) | (refine frzK.mk rfl rfl ?_; simp only [frzE, frzMem, List.map_cons, List.map_nil, PV.frz, MObj.frz, frzM, frzSl, Nat.le_refl, hlen, hd, hdn, hg, hb, d1, s1, s2, e1, e2, t0, k1, k2, k3, L2, L3, drop00, List.take_zero, List.take_nil, List.nil_append, Nat.le_refl, and_self, if_true, List.length_cons, List.length_nil, Nat.zero_add, SS, SS2, SS3, SS4, Option.map_some, Bool.not_false, Bool.not_true, gArgs, gOk, Nat.reduceAdd, PV.shift, MObj.shift, rdV, rdD, reduceIte, Nat.reduceEqDiff, Nat.reduceBEq, PV.bin, PV.binOk, binI, binS, PV.withInt, PV.withIntP, okAll, PV.under, PV.okUnder, eq_self, implies_true, deadOk, ne_eq, allOk, RVar.val, RVar.ok, retV, PV.seen, PV.view, beq_self_eq_true, PV.flat, PV.noOwn, id_eq, behind, PV.kill, MObj.kill, killTag, reduceCtorEq, nilB]; (try go_unwrap; try simp only [hlen, hd, hdn, hg, hb, d1, s1, s2, e1, e2, t0, k1, k2, k3, L2, L3, drop00, List.take_zero, List.take_nil, List.nil_append, Nat.le_refl, and_self, if_true, List.length_cons, List.length_nil, Nat.zero_add, toNat_add2, toNat_add1, Int.toNat_natCast, Bool.false_and, Bool.true_and, true_implies, true_and, Bool.false_eq_true, reduceCtorEq, false_implies, Bool.not_false, Bool.not_true, Bool.true_or, Bool.false_or])) | (refine PW.seqK ?_; intro K hK) | refine PW.block ?_ | refine PW.exit ?_ | refine PW.ret ?_ | refine PW.skip ?_ | refine seqK_n (by assumption) ?_ | refine seqK_r (by assumption) ?_ | refine seqK_e (by assumption) ?_ | refine PW.regionA ?_ | exact schedW_stop_i | (refine PW.cond rfl ?_ ?_ <;> intro hcond <;> (try contradiction) <;> try simp only [decide_eq_true_eq, decide_eq_false_iff_not] at hcond) | (refine gd_i ?_; intro hg; try simp only [hg]) | ((first | show @LE.le Nat _ _ _ | show @LT.lt Nat _ _ _ | show @LE.le Int _ _ _ | show @LT.lt Int _ _ _ | show @Eq Nat _ _ | show @Eq Int _ _ | show @Eq Bool _ _ | show _ ∨ _ | show ¬ _); first | omega | (simp only [decide_eq_true_eq, decide_eq_false_iff_not, List.length_cons, List.length_nil, List.length_append, List.length_map, Sh.size] <;> omega) | (go_unwrap; omega)) | ((first | refine PW.region ?_ | refine PW.regionQ ?_ | refine schedW_alt_i ?_ ?_ | refine schedW_done_i ?_ | show (_ : Post) _ _ _ | show @Eq (List PV) _ _ | show @Eq Bool _ _ | show opsW _ _ _ _ _ _ _ _ | show okAll _ | show @Eq Bool _ _ ∨ _); focus (simp only [hlen, hd, hdn, hg, hb, d1, s1, s2, e1, e2, t0, k1, k2, k3, L2, L3, drop00, List.take_zero, List.take_nil, List.nil_append, Nat.le_refl, and_self, if_true, List.length_cons, List.length_nil, Nat.zero_add, SS, SS2, SS3, SS4, Option.map_some, Bool.not_false, Bool.not_true, gArgs, gOk, Nat.reduceAdd, PV.shift, MObj.shift, rdV, rdD, reduceIte, Nat.reduceEqDiff, Nat.reduceBEq, PV.bin, PV.binOk, binI, binS, PV.withInt, PV.withIntP, okAll, PV.under, PV.okUnder, eq_self, implies_true, deadOk, ne_eq, allOk, RVar.val, RVar.ok, retV, PV.seen, PV.view, beq_self_eq_true, PV.flat, PV.noOwn, id_eq, behind, PV.kill, MObj.kill, killTag, reduceCtorEq, nilB]; (try go_unwrap; try simp only [hlen, hd, hdn, hg, hb, d1, s1, s2, e1, e2, t0, k1, k2, k3, L2, L3, drop00, List.take_zero, List.take_nil, List.nil_append, Nat.le_refl, and_self, if_true, List.length_cons, List.length_nil, Nat.zero_add, toNat_add2, toNat_add1, Int.toNat_natCast, Bool.false_and, Bool.true_and, true_implies, true_and, Bool.false_eq_true, reduceCtorEq, false_implies, Bool.not_false, Bool.not_true, Bool.true_or, Bool.false_or]))) | refine And.intro ?_ ?_ | exact Or.inr ⟨rfl, Nat.le_refl _⟩ | exact (fun h => Bool.noConfusion h))
      all_goals first | rfl | exact ⟨q + 1, (by simp only [txL]; rw [← fin]; first | rfl | (simp [trimE, PV.kill]; done)), (by first | rfl | (simp only [trimE, trimM, List.take_succ_cons, List.take_zero, List.take_nil, List.map_cons, List.map_nil, Option.map_some, Option.map_none, MObj.kill, PV.kill, Nat.reduceLeDiff, decide_true, decide_false, dec_true, dec_false, Bool.false_eq_true, if_false, if_true, reduceIte, List.zip_cons_cons, List.zip_nil_left, Nat.le_refl, Nat.zero_le, Nat.not_le, Nat.lt_irrefl]; done) | (simp [trimE, trimM, MObj.kill, PV.kill]; done)), by omega, by omega⟩
  · have hd : decide ((i : Int) < o.length) = false := by simp only [decide_eq_false_iff_not]; omega
    have hdn : decide ((i : Int) = o.length) = true := by simp only [decide_eq_true_eq]; omega
    have fin := fin (by rw [List.getElem?_eq_none (by omega)]; simp)
    repeat' (first | exact True.intro | (refine PW.regionF (cs := ⟨some 73, none, .rd (.bin .add) [.tmp 30, .pv (.int .i64 1)]⟩ :: _) 0 0 ?_; simp only [List.take_succ_cons, List.take_zero, List.drop_succ_cons, List.drop_zero, hlen, hd, hdn, s1, s2, e1, e2, t0, k1, k2, k3, L2, L3, drop00, List.take_zero, List.take_nil, List.nil_append, Nat.le_refl, and_self, if_true, List.length_cons, List.length_nil, Nat.zero_add, SS, SS2, SS3, SS4, Option.map_some, Bool.not_false, Bool.not_true, gArgs, gOk, Nat.reduceAdd, PV.shift, MObj.shift, rdV, rdD, reduceIte, Nat.reduceEqDiff, Nat.reduceBEq, PV.bin, PV.binOk, binI, binS, PV.withInt, PV.withIntP, okAll, PV.under, PV.okUnder, eq_self, implies_true, deadOk, ne_eq, allOk, RVar.val, RVar.ok, retV, PV.seen, PV.view, beq_self_eq_true, PV.flat, PV.noOwn, id_eq, behind, PV.kill, MObj.kill, killTag, reduceCtorEq, nilB]; (try go_unwrap; try simp only [hlen, hd, hdn, s1, s2, e1, e2, t0, k1, k2, k3, L2, L3, drop00, List.take_zero, List.take_nil, List.nil_append, Nat.le_refl, and_self, if_true, List.length_cons, List.length_nil, Nat.zero_add, toNat_add2, toNat_add1, Int.toNat_natCast, Bool.false_and, Bool.true_and, true_implies, true_and, Bool.false_eq_true, reduceCtorEq, false_implies, Bool.not_false, Bool.not_true, Bool.true_or, Bool.false_or])) | (refine frzK.mk rfl rfl ?_; simp only [frzE, frzMem, List.map_cons, List.map_nil, PV.frz, MObj.frz, frzM, frzSl, Nat.le_refl, hlen, hd, hdn, s1, s2, e1, e2, t0, k1, k2, k3, L2, L3, drop00, List.take_zero, List.take_nil, List.nil_append, Nat.le_refl, and_self, if_true, List.length_cons, List.length_nil, Nat.zero_add, SS, SS2, SS3, SS4, Option.map_some, Bool.not_false, Bool.not_true, gArgs, gOk, Nat.reduceAdd, PV.shift, MObj.shift, rdV, rdD, reduceIte, Nat.reduceEqDiff, Nat.reduceBEq, PV.bin, PV.binOk, binI, binS, PV.withInt, PV.withIntP, okAll, PV.under, PV.okUnder, eq_self, implies_true, deadOk, ne_eq, allOk, RVar.val, RVar.ok, retV, PV.seen, PV.view, beq_self_eq_true, PV.flat, PV.noOwn, id_eq, behind, PV.kill, MObj.kill, killTag, reduceCtorEq, nilB]; (try go_unwrap; try simp only [hlen, hd, hdn, s1, s2, e1, e2, t0, k1, k2, k3, L2, L3, drop00, List.take_zero, List.take_nil, List.nil_append, Nat.le_refl, and_self, if_true, List.length_cons, List.length_nil, Nat.zero_add, toNat_add2, toNat_add1, Int.toNat_natCast, Bool.false_and, Bool.true_and, true_implies, true_and, Bool.false_eq_true, reduceCtorEq, false_implies, Bool.not_false, Bool.not_true, Bool.true_or, Bool.false_or])) | (refine PW.seqK ?_; intro K hK) | refine PW.block ?_ | refine PW.exit ?_ | refine PW.ret ?_ | refine PW.skip ?_ | refine seqK_n (by assumption) ?_ | refine seqK_r (by assumption) ?_ | refine seqK_e (by assumption) ?_ | refine PW.regionA ?_ | exact schedW_stop_i | (refine PW.cond rfl ?_ ?_ <;> intro hcond <;> (try contradiction) <;> try simp only [decide_eq_true_eq, decide_eq_false_iff_not] at hcond) | (refine gd_i ?_; intro hg; try simp only [hg]) | ((first | show @LE.le Nat _ _ _ | show @LT.lt Nat _ _ _ | show @LE.le Int _ _ _ | show @LT.lt Int _ _ _ | show @Eq Nat _ _ | show @Eq Int _ _ | show @Eq Bool _ _ | show _ ∨ _ | show ¬ _); first | omega | (simp only [decide_eq_true_eq, decide_eq_false_iff_not, List.length_cons, List.length_nil, List.length_append, List.length_map, Sh.size] <;> omega) | (go_unwrap; omega)) | ((first | refine PW.region ?_ | refine PW.regionQ ?_ | refine schedW_alt_i ?_ ?_ | refine schedW_done_i ?_ | show (_ : Post) _ _ _ | show @Eq (List PV) _ _ | show @Eq Bool _ _ | show opsW _ _ _ _ _ _ _ _ | show okAll _ | show @Eq Bool _ _ ∨ _); focus (simp only [hlen, hd, hdn, s1, s2, e1, e2, t0, k1, k2, k3, L2, L3, drop00, List.take_zero, List.take_nil, List.nil_append, Nat.le_refl, and_self, if_true, List.length_cons, List.length_nil, Nat.zero_add, SS, SS2, SS3, SS4, Option.map_some, Bool.not_false, Bool.not_true, gArgs, gOk, Nat.reduceAdd, PV.shift, MObj.shift, rdV, rdD, reduceIte, Nat.reduceEqDiff, Nat.reduceBEq, PV.bin, PV.binOk, binI, binS, PV.withInt, PV.withIntP, okAll, PV.under, PV.okUnder, eq_self, implies_true, deadOk, ne_eq, allOk, RVar.val, RVar.ok, retV, PV.seen, PV.view, beq_self_eq_true, PV.flat, PV.noOwn, id_eq, behind, PV.kill, MObj.kill, killTag, reduceCtorEq, nilB]; (try go_unwrap; try simp only [hlen, hd, hdn, s1, s2, e1, e2, t0, k1, k2, k3, L2, L3, drop00, List.take_zero, List.take_nil, List.nil_append, Nat.le_refl, and_self, if_true, List.length_cons, List.length_nil, Nat.zero_add, toNat_add2, toNat_add1, Int.toNat_natCast, Bool.false_and, Bool.true_and, true_implies, true_and, Bool.false_eq_true, reduceCtorEq, false_implies, Bool.not_false, Bool.not_true, Bool.true_or, Bool.false_or]))) | refine And.intro ?_ ?_ | exact Or.inr ⟨rfl, Nat.le_refl _⟩ | exact (fun h => Bool.noConfusion h))
    all_goals first | rfl | exact ⟨q + 1, (by simp only [txL]; rw [← fin]; first | rfl | (simp [trimE, PV.kill]; done)), (by first | rfl | (simp only [trimE, trimM, List.take_succ_cons, List.take_zero, List.take_nil, List.map_cons, List.map_nil, Option.map_some, Option.map_none, MObj.kill, PV.kill, Nat.reduceLeDiff, decide_true, decide_false, dec_true, dec_false, Bool.false_eq_true, if_false, if_true, reduceIte, List.zip_cons_cons, List.zip_nil_left, Nat.le_refl, Nat.zero_le, Nat.not_le, Nat.lt_irrefl]; done) | (simp [trimE, trimM, MObj.kill, PV.kill]; done)), by omega, by omega⟩
end Go.Proofs.YtdemgegpnlngeaaDoor

