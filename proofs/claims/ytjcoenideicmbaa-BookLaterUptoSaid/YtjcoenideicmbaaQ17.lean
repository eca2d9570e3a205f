import Derived.Test.YtjcoenideicmbaaQ6
import Derived.Test.YtjcoenideicmbaaQ15
import Derived.Test.YtjcoenideicmbaaQ16
namespace Go.Proofs.Ytjcoenideicmbaa
open Go PG Go.Proofs
set_option linter.unusedSimpArgs false
set_option linter.unusedVariables false
/-! Texts that rise, each once -/
abbrev Str (L : List (List UInt8)) : Prop := L.Pairwise (· < ·)
theorem not_lt {a b : List UInt8} (h : ¬ a < b) : b ≤ a := h
theorem lt_of {a b : List UInt8} (h : a ≤ b) (hn : a ≠ b) : a < b := by
  by_cases h1 : a < b
  · exact h1
  · exact absurd (List.le_antisymm h h1) hn
theorem lt_tr {a b c : List UInt8} (h : a < b) (k : b < c) : a < c := List.lt_trans h k
theorem Str.nodup {L : List (List UInt8)} (h : Str L) : L.Nodup := h.imp fun h e => by subst e; exact List.lt_irrefl _ h
theorem str_uniq {A B : List (List UInt8)} (ha : Str A) (hb : Str B) (h : ∀ x, x ∈ A ↔ x ∈ B) : A = B := by
  refine List.Perm.eq_of_pairwise (le := (· < ·)) (fun x y _ _ h1 h2 => absurd (lt_tr h1 h2) (List.lt_irrefl _)) ha hb ?_
  exact (List.perm_ext_iff_of_nodup ha.nodup hb.nodup).2 h
theorem bl_iff (a b : List UInt8) : Op.bytesLess a b = true ↔ a < b := by rw [bytesLess_eq]; simp
theorem bl_not (a b : List UInt8) : Op.bytesLess a b = false ↔ ¬ a < b := by rw [bytesLess_eq]; simp
theorem putM_iff (l : List (List UInt8)) (s x : List UInt8) : x ∈ putM l s ↔ x ∈ l ∨ x = s := by
  unfold putM
  split
  · rename_i h
    have := List.mem_of_getElem? h
    exact ⟨.inl, fun h => h.elim id (fun e => by rw [e]; exact this)⟩
  · constructor
    · intro h
      rcases List.mem_append.1 h with h | h
      · exact .inl (List.mem_of_mem_take h)
      · rcases List.mem_cons.1 h with h | h
        · exact .inr h
        · exact .inl (List.mem_of_mem_drop h)
    · rintro (h | rfl)
      · rw [← List.take_append_drop (atP l s) l] at h
        rcases List.mem_append.1 h with h | h
        · exact List.mem_append.2 (.inl h)
        · exact List.mem_append.2 (.inr (List.mem_cons_of_mem _ h))
      · simp
theorem putM_str {l : List (List UInt8)} (h : Str l) (s : List UInt8) : Str (putM l s) := by
  unfold putM
  split
  · exact h
  · rename_i hne
    have hlt : ∀ x ∈ l.take (atP l s), x < s := by
      intro x hx
      obtain ⟨i, hi, rfl⟩ := List.getElem_of_mem hx
      simp only [List.length_take] at hi
      rw [List.getElem_take]
      exact (bl_iff _ _).1 (atP_lt l s i (by omega) (by omega))
    have hgt : ∀ y ∈ l.drop (atP l s), s < y := by
      intro y hy
      obtain ⟨i, hi, rfl⟩ := List.getElem_of_mem hy
      simp only [List.length_drop] at hi
      have h0 : atP l s < l.length := by omega
      have h1 := (bl_not _ _).1 (atP_eq l s h0)
      have h2 : s < l[atP l s] := lt_of (not_lt h1) (fun e => hne (by rw [List.getElem?_eq_getElem h0, ← e]))
      rw [List.getElem_drop]
      rcases Nat.eq_zero_or_pos i with rfl | hp
      · exact h2
      · exact lt_tr h2 (List.pairwise_iff_getElem.1 h _ _ h0 (by omega) (by omega))
    have hs : Str (l.take (atP l s)) := h.sublist (List.take_sublist _ _)
    have hd : Str (l.drop (atP l s)) := h.sublist (List.drop_sublist _ _)
    refine List.pairwise_append.2 ⟨hs, List.pairwise_cons.2 ⟨hgt, hd⟩, fun a ha b hb => ?_⟩
    rcases List.mem_cons.1 hb with rfl | hb
    · exact hlt a ha
    · exact lt_tr (hlt a ha) (hgt b hb)
theorem sort_str {L : List (List UInt8)} (h : L.Nodup) : Str (sortT L) := by
  have h1 := List.pairwise_mergeSort tx_tr tx_tt L
  have h2 : (sortT L).Nodup := (List.mergeSort_perm L _).nodup_iff.2 h
  have := h1.and h2
  refine this.imp fun ⟨a, b⟩ => ?_
  simp only [decide_eq_true_eq] at a
  exact lt_of a b
theorem sort_mem {L : List (List UInt8)} {x : List UInt8} : x ∈ sortT L ↔ x ∈ L := (List.mergeSort_perm L _).mem_iff
/-! The rule in force -/
def bestK (d : Int) (l : List Kn) : Option Kn := l.foldl (fun acc k => if (covB k d && (match acc with | none => true | some a => decide (a.n < k.n))) = true then some k else acc) none
theorem bestK_snoc (d : Int) (l : List Kn) (k : Kn) : bestK d (l ++ [k]) = if (covB k d && (match bestK d l with | none => true | some a => decide (a.n < k.n))) = true then some k else bestK d l := by
  unfold bestK; rw [List.foldl_append]; rfl
def eltK (l : List Kn) (p : Int) : Option Kn := if p < 0 then none else l[p.toNat]?
theorem eltK_neg {l : List Kn} {p : Int} (h : p < 0) : eltK l p = none := by unfold eltK; rw [if_pos h]
theorem eltK_nat {l : List Kn} {i : Nat} (h : i < l.length) : eltK l (i : Int) = some l[i] := by unfold eltK; rw [if_neg (by omega)]; simp [h]
theorem eltK_pos {l : List Kn} {p : Int} (h0 : 0 ≤ p) (h : p < l.length) : eltK l p = some (l.getD p.toNat default) := by
  unfold eltK; rw [if_neg (by omega)]
  have : p.toNat < l.length := by omega
  simp [List.getD, this]
theorem elt_place (l : List Kn) (d : Int) : ∀ i, i ≤ l.length → eltK l (placeN l d i) = bestK d (l.take i)
  | 0, _ => by simp [placeN, eltK, bestK]
  | i + 1, h => by
    have ih := elt_place l d i (by omega)
    have hin := placeN_in l d i
    rw [List.take_succ_eq_append_getElem (by omega), bestK_snoc, ← ih]
    simp only [placeN]
    have hgd : l.getD i default = l[i] := by simp [List.getD, show i < l.length by omega]
    rw [hgd]
    rcases Int.lt_or_le (placeN l d i) 0 with h0 | h0
    · rw [eltK_neg h0]
      by_cases hc : covB l[i] d = true
      · rw [if_pos (by simp [hc, h0]), if_pos (by simp [hc]), eltK_nat (by omega)]
      · rw [if_neg (by simp [hc]), if_neg (by simp [hc]), eltK_neg h0]
    · rw [eltK_pos h0 (by omega)]
      have hd : decide (placeN l d i < 0) = false := by simp only [decide_eq_false_iff_not]; omega
      rw [hd, Bool.false_or]
      split
      · rw [eltK_nat (by omega)]
      · rw [eltK_pos h0 (by omega)]
theorem elt_plc (l : List Kn) (nm : List UInt8) (d : Int) : ∀ i, i ≤ l.length → eltK l (plcN l nm d i) = bestK d (fil nm (l.take i))
  | 0, _ => by simp [plcN, eltK, bestK, fil]
  | i + 1, h => by
    have ih := elt_plc l nm d i (by omega)
    have hin := plcN_in l nm d i
    rw [List.take_succ_eq_append_getElem (by omega), fil_snoc]
    simp only [plcN]
    have hgd : l.getD i default = l[i] := by simp [List.getD, show i < l.length by omega]
    rw [hgd]
    have hhit : hitB l[i] nm d = (isR nm l[i] && covB l[i] d) := by unfold hitB isR; rw [Bool.and_assoc]
    rw [hhit]
    by_cases hr : isR nm l[i] = true
    case neg =>
      have hr' : isR nm l[i] = false := by simpa using hr
      rw [if_neg (by simp [hr']), if_neg hr, List.append_nil]; exact ih
    rw [if_pos hr, hr, Bool.true_and, bestK_snoc, ← ih]
    rcases Int.lt_or_le (plcN l nm d i) 0 with h0 | h0
    · rw [eltK_neg h0]
      by_cases hc : covB l[i] d = true
      · rw [if_pos (by simp [hc, h0]), if_pos (by simp [hc]), eltK_nat (by omega)]
      · rw [if_neg (by simp [hc]), if_neg (by simp [hc]), eltK_neg h0]
    · rw [eltK_pos h0 (by omega)]
      have hd : decide (plcN l nm d i < 0) = false := by simp only [decide_eq_false_iff_not]; omega
      rw [hd, Bool.false_or]
      split
      · rw [eltK_nat (by omega)]
      · rw [eltK_pos h0 (by omega)]
theorem place_best (l : List Kn) (d : Int) : eltK l (placeM l d) = bestK d l := by
  have := elt_place l d l.length (Nat.le_refl _)
  rw [List.take_length] at this; exact this
theorem plc_best (l : List Kn) (nm : List UInt8) (d : Int) : eltK l (plcM l nm d) = bestK d (fil nm l) := by
  have := elt_plc l nm d l.length (Nat.le_refl _)
  rw [List.take_length] at this; exact this
theorem elt_some {l : List Kn} {p : Int} (h : p < l.length) : 0 ≤ p ↔ (eltK l p).isSome = true := by
  constructor
  · intro h0; rw [eltK_pos h0 h]; rfl
  · intro hs
    rcases Int.lt_or_le p 0 with h0 | h0
    · rw [eltK_neg h0] at hs; cases hs
    · exact h0
/-- What is told of a name on a day. -/
def vlK : Option Kn → Vl
  | none => vl0
  | some k => ⟨k.n, k.num, k.text⟩
theorem val_best (l : List Kn) (d : Int) : valM l (placeM l d) = vlK (bestK d l) := by
  have hin := placeN_in l d l.length
  rw [← place_best]
  unfold valM
  rcases Int.lt_or_le (placeM l d) 0 with h0 | h0
  · rw [if_pos h0, eltK_neg h0]; rfl
  · rw [if_neg (by omega), eltK_pos h0 hin.2]; rfl
theorem pos_best (l : List Kn) (d : Int) : decide (0 ≤ placeM l d) = (bestK d l).isSome := by
  have hin := placeN_in l d l.length
  rw [← place_best, Bool.eq_iff_iff, decide_eq_true_eq]
  exact elt_some hin.2
theorem plc_pos (l : List Kn) (nm : List UInt8) (d : Int) : (0 ≤ plcM l nm d) ↔ (bestK d (fil nm l)).isSome = true := by
  have hin := plcN_in l nm d l.length
  rw [← plc_best]
  exact elt_some hin.2
/-- A book tells of each name what its rules tell. -/
theorem BookR.lk {l : List Kn} {es : Bk} (h : BookR l es) (nm : List UInt8) : lkE es nm = fil nm l := by
  obtain ⟨h1, h2, h3⟩ := h
  unfold lkE
  cases ha : aget es nm with
  | some ks => 
    have : (nm, ks) ∈ es := by
      clear h1 h2 h3
      induction es with
      | nil => cases ha
      | cons q es ih =>
        simp only [aget] at ha
        by_cases hq : q.1 = nm
        · subst hq; simp at ha; subst ha; simp
        · simp only [hq, if_false] at ha; exact List.mem_cons_of_mem _ (ih ha)
    exact (h2 _ this).1
  | none =>
    simp only [Option.getD_none]
    rcases List.eq_nil_or_concat (fil nm l) with h | ⟨L, x, h⟩
    · exact h.symm
    · exfalso
      have hx : x ∈ fil nm l := by rw [h]; simp
      obtain ⟨m1, m2⟩ := List.mem_filter.1 hx
      simp only [isR, Bool.and_eq_true, decide_eq_true_eq] at m2
      obtain ⟨ks, hk⟩ := h3 x m1 m2.1
      rw [m2.2] at hk
      clear h1 h2 h3
      induction es with
      | nil => cases hk
      | cons q es ih =>
        simp only [aget] at ha
        by_cases hq : q.1 = nm
        · simp [hq] at ha
        · simp only [hq, if_false] at ha
          rcases List.mem_cons.1 hk with e | e
          · subst e; exact hq rfl
          · exact ih ha e
end Go.Proofs.Ytjcoenideicmbaa

namespace Go.Proofs.Ytjcoenideicmbaa
open Go PG Go.Proofs
set_option linter.unusedSimpArgs false
set_option linter.unusedVariables false
theorem cmpT_props (d : Array (List UInt8)) (hs : ∀ i j, i ≤ j → j < d.size → d[i]! ≤ d[j]!) : ∀ m, m ≤ d.size → Str (Lib.compactUpTo d m) ∧ ∀ x, x ∈ Lib.compactUpTo d m ↔ ∃ j, j < m ∧ d[j]! = x
  | 0, _ => by simp [Lib.compactUpTo, Str]
  | m + 1, hm => by
    obtain ⟨h1, h2⟩ := cmpT_props d hs m (by omega)
    rw [Lib.compactUpTo_succ]
    by_cases hk : Lib.keeps d m = true
    · rw [if_pos hk]
      have hlt : ∀ x ∈ Lib.compactUpTo d m, x < d[m]! := by
        intro x hx
        obtain ⟨j, hj, rfl⟩ := (h2 x).1 hx
        have h3 := hs j (m - 1) (by omega) (by omega)
        have h4 := hs (m - 1) m (by omega) (by omega)
        have h5 : d[m]! ≠ d[m - 1]! := by
          unfold Lib.keeps at hk
          simp only [decide_eq_true_eq] at hk
          rcases hk with h | h
          · omega
          · exact h
        refine lt_of (List.le_trans h3 h4) fun e => ?_
        rw [e] at h3
        exact h5 (List.le_antisymm h3 h4)
      refine ⟨?_, fun x => ?_⟩
      · refine List.pairwise_append.2 ⟨h1, by simp, fun x hx y hy => by simp at hy; subst hy; exact hlt x hx⟩
      · rw [List.mem_append, h2 x]
        simp only [List.mem_singleton]
        constructor
        · rintro (⟨j, hj, e⟩ | rfl)
          · exact ⟨j, by omega, e⟩
          · exact ⟨m, by omega, rfl⟩
        · rintro ⟨j, hj, e⟩
          rcases Nat.lt_or_ge j m with h | h
          · exact .inl ⟨j, h, e⟩
          · have : j = m := by omega
            subst this; exact .inr e.symm
    · rw [if_neg hk, List.append_nil]
      have hk' : m ≠ 0 ∧ d[m]! = d[m - 1]! := by
        unfold Lib.keeps at hk
        simp only [decide_eq_true_eq] at hk
        exact ⟨fun h => hk (.inl h), Classical.byContradiction fun h => hk (.inr h)⟩
      refine ⟨h1, fun x => ?_⟩
      rw [h2 x]
      constructor
      · rintro ⟨j, hj, e⟩; exact ⟨j, by omega, e⟩
      · rintro ⟨j, hj, e⟩
        rcases Nat.lt_or_ge j m with h | h
        · exact ⟨j, h, e⟩
        · have : j = m := by omega
          subst this
          exact ⟨j - 1, by omega, by rw [← hk'.2]; exact e⟩
theorem cmpT_sort (R : List (List UInt8)) : Str (Lib.compact (sortT R)) ∧ ∀ x, x ∈ Lib.compact (sortT R) ↔ x ∈ R := by
  have hp := List.pairwise_mergeSort tx_tr tx_tt R
  have hs : ∀ i j, i ≤ j → j < (sortT R).toArray.size → (sortT R).toArray[i]! ≤ (sortT R).toArray[j]! := by
    intro i j hij hj
    have hj' : j < (sortT R).length := by rw [List.size_toArray] at hj; exact hj
    have hi' : i < (sortT R).length := by omega
    rw [getElem!_pos _ i (by rw [List.size_toArray]; exact hi'), getElem!_pos _ j (by rw [List.size_toArray]; exact hj')]
    rcases Nat.lt_or_ge i j with h | h
    · have := List.pairwise_iff_getElem.1 hp i j hi' hj' h
      simpa using this
    · have : i = j := by omega
      subst this; exact List.le_refl _
  obtain ⟨h1, h2⟩ := cmpT_props (sortT R).toArray hs (sortT R).length (by simp)
  refine ⟨h1, fun x => ?_⟩
  rw [← sort_mem (L := R)]
  show x ∈ Lib.compactUpTo (sortT R).toArray (sortT R).length ↔ _
  rw [h2 x]
  constructor
  · rintro ⟨j, hj, rfl⟩
    rw [getElem!_pos _ j (by rw [List.size_toArray]; exact hj)]
    simp
  · intro h
    obtain ⟨j, hj, rfl⟩ := List.getElem_of_mem h
    exact ⟨j, hj, by rw [getElem!_pos _ j (by rw [List.size_toArray]; exact hj)]; simp⟩
/-! The names in force, of both sides -/
def inF (l : List Kn) (d : Int) (x : List UInt8) : Prop := (bestK d (fil x l)).isSome = true
theorem inF_rule {l : List Kn} {d : Int} {x : List UInt8} (h : inF l d x) : ∃ k ∈ l, k.kind = 14 ∧ k.code = x := by
  unfold inF at h
  rcases List.eq_nil_or_concat (fil x l) with e | ⟨L, k, e⟩
  · rw [e] at h; cases h
  · have hx : k ∈ fil x l := by rw [e]; simp
    obtain ⟨m1, m2⟩ := List.mem_filter.1 hx
    simp only [isR, Bool.and_eq_true, decide_eq_true_eq] at m2
    exact ⟨k, m1, m2.1, m2.2⟩
theorem nmsN_spec (l : List Kn) (d : Int) : ∀ i, i ≤ l.length → Str (nmsN l d i) ∧ ∀ x, x ∈ nmsN l d i ↔ ∃ j, ∃ h : j < l.length, j < i ∧ l[j].code = x ∧ inF l d x
  | 0, _ => by simp [nmsN, Str]
  | i + 1, h => by
    obtain ⟨h1, h2⟩ := nmsN_spec l d i (by omega)
    have hgd : l.getD i default = l[i] := by simp [List.getD, show i < l.length by omega]
    simp only [nmsN]
    rw [hgd]
    by_cases hp : 0 ≤ plcM l l[i].code d
    · rw [if_pos hp]
      refine ⟨putM_str h1 _, fun x => ?_⟩
      rw [putM_iff, h2 x]
      constructor
      · rintro (⟨j, hj, a, b, c⟩ | rfl)
        · exact ⟨j, hj, by omega, b, c⟩
        · exact ⟨i, by omega, by omega, rfl, (plc_pos l _ d).1 hp⟩
      · rintro ⟨j, hj, a, b, c⟩
        rcases Nat.lt_or_ge j i with h' | h'
        · exact .inl ⟨j, hj, h', b, c⟩
        · have : j = i := by omega
          subst this; exact .inr b.symm
    · rw [if_neg hp]
      refine ⟨h1, fun x => ?_⟩
      rw [h2 x]
      constructor
      · rintro ⟨j, hj, a, b, c⟩; exact ⟨j, hj, by omega, b, c⟩
      · rintro ⟨j, hj, a, b, c⟩
        rcases Nat.lt_or_ge j i with h' | h'
        · exact ⟨j, hj, h', b, c⟩
        · have : j = i := by omega
          subst this
          subst b
          exact absurd ((plc_pos l _ d).2 c) hp
theorem nms_spec (l : List Kn) (d : Int) : Str (nmsM l d) ∧ ∀ x, x ∈ nmsM l d ↔ inF l d x := by
  obtain ⟨h1, h2⟩ := nmsN_spec l d l.length (Nat.le_refl _)
  refine ⟨h1, fun x => ?_⟩
  unfold nmsM
  rw [h2 x]
  constructor
  · rintro ⟨_, _, _, _, c⟩; exact c
  · intro c
    obtain ⟨k, hk, -, e⟩ := inF_rule c
    obtain ⟨j, hj, rfl⟩ := List.getElem_of_mem hk
    exact ⟨j, hj, hj, e, c⟩
theorem BookR.names {l : List Kn} {es : Bk} (h : BookR l es) (d : Int) : nmE es d = nmsM l d := by
  obtain ⟨s1, s2⟩ := nms_spec l d
  have hnd : ((es.filter (okE d)).map (·.1)).Nodup := by
    have : ((es.filter (okE d)).map (·.1)).Sublist (es.map (·.1)) := (List.filter_sublist).map _
    exact this.nodup h.1
  refine str_uniq (sort_str hnd) s1 fun x => ?_
  rw [s2 x]
  unfold nmE
  rw [sort_mem, List.mem_map]
  constructor
  · rintro ⟨q, hq, rfl⟩
    obtain ⟨m1, m2⟩ := List.mem_filter.1 hq
    unfold okE at m2
    rw [pos_best, (h.2.1 q m1).1] at m2
    exact m2
  · intro hx
    obtain ⟨k, hk, hkk, rfl⟩ := inF_rule hx
    obtain ⟨ks, hm⟩ := h.2.2 k hk hkk
    refine ⟨(k.code, ks), List.mem_filter.2 ⟨hm, ?_⟩, rfl⟩
    unfold okE
    rw [pos_best, (h.2.1 _ hm).1]
    exact hx
theorem undS_F (p : List UInt8) (out : List (List UInt8)) (s : List UInt8) : undS p out s = match undF p s with | none => out | some t => putM out t := by
  unfold undS undF hasP
  by_cases h : s.take p.length = p
  · by_cases h2 : partM (s.drop p.length) = [] <;> simp only [h, h2, if_true, if_false, decide_true]
  · simp only [h, if_false, decide_false, Bool.false_eq_true]
theorem und_spec (p : List UInt8) : ∀ (nm out : List (List UInt8)), Str out → Str (nm.foldl (undS p) out) ∧ ∀ x, x ∈ nm.foldl (undS p) out ↔ x ∈ out ∨ ∃ s ∈ nm, undF p s = some x
  | [], out, h => by simp [h]
  | s :: nm, out, h => by
    rw [List.foldl_cons]
    have hs : Str (undS p out s) := by
      rw [undS_F]; split
      · exact h
      · exact putM_str h _
    obtain ⟨h1, h2⟩ := und_spec p nm (undS p out s) hs
    refine ⟨h1, fun x => ?_⟩
    rw [h2 x, undS_F]
    cases hu : undF p s with
    | none =>
      simp only
      constructor
      · rintro (h | ⟨s', m, e⟩)
        · exact .inl h
        · exact .inr ⟨s', List.mem_cons_of_mem _ m, e⟩
      · rintro (h | ⟨s', m, e⟩)
        · exact .inl h
        · rcases List.mem_cons.1 m with rfl | m
          · rw [hu] at e; cases e
          · exact .inr ⟨s', m, e⟩
    | some t =>
      simp only
      rw [putM_iff]
      constructor
      · rintro ((h | rfl) | ⟨s', m, e⟩)
        · exact .inl h
        · exact .inr ⟨s, by simp, hu⟩
        · exact .inr ⟨s', List.mem_cons_of_mem _ m, e⟩
      · rintro (h | ⟨s', m, e⟩)
        · exact .inl (.inl h)
        · rcases List.mem_cons.1 m with rfl | m
          · rw [hu] at e; cases e; exact .inl (.inr rfl)
          · exact .inr ⟨s', m, e⟩
theorem undM_spec (l : List Kn) (p : List UInt8) (d : Int) : Str (undM l p d) ∧ ∀ x, x ∈ undM l p d ↔ ∃ s, inF l d s ∧ undF p s = some x := by
  obtain ⟨h1, h2⟩ := und_spec p (nmsM l d) [] (by simp [Str])
  refine ⟨h1, fun x => ?_⟩
  unfold undM
  rw [h2 x]
  simp only [List.not_mem_nil, false_or]
  constructor
  · rintro ⟨s, m, e⟩; exact ⟨s, ((nms_spec l d).2 s).1 m, e⟩
  · rintro ⟨s, m, e⟩; exact ⟨s, ((nms_spec l d).2 s).2 m, e⟩
theorem BookR.under {l : List Kn} {es : Bk} (h : BookR l es) (p : List UInt8) (d : Int) : unE es p d = undM l p d := by
  obtain ⟨s1, s2⟩ := undM_spec l p d
  obtain ⟨c1, c2⟩ := cmpT_sort ((nmE es d).filterMap (undF p))
  refine str_uniq c1 s1 fun x => ?_
  unfold unE
  rw [c2 x, s2 x, List.mem_filterMap, h.names]
  constructor
  · rintro ⟨s, m, e⟩; exact ⟨s, ((nms_spec l d).2 s).1 m, e⟩
  · rintro ⟨s, m, e⟩; exact ⟨s, ((nms_spec l d).2 s).2 m, e⟩
/-! All that a book tells -/
structure BookV (l : List Kn) (es : Bk) : Prop where
  r : BookR l es
  num : ∀ nm d, VCalls Try.prog G0 37 [bookP es, .str nm, .int .i64 d] (.tup [.int .i64 (vlK (bestK d (fil nm l))).num, .bool (bestK d (fil nm l)).isSome])
  text : ∀ nm d, VCalls Try.prog G0 40 [bookP es, .str nm, .int .i64 d] (.tup [.str (vlK (bestK d (fil nm l))).text, .bool (bestK d (fil nm l)).isSome])
  names : ∀ d, VCalls Try.prog G0 36 [bookP es, .int .i64 d] (txL (nmsM l d))
  under : ∀ p d, VCalls Try.prog G0 38 [bookP es, .str p, .int .i64 d] (txL (undM l p d))
  changes : ∀ nm a b, VCalls Try.prog G0 44 [bookP es, .str nm, .agg [.int .i64 a, .int .i64 b]] (dyL (chS a (fullM (fil nm l) a b)))
theorem bookV {l : List Kn} {es : Bk} (h : BookR l es) (hl : l.length ≤ 1000000000) (hc : ∀ k ∈ l, k.code.length ≤ 1000000000) : BookV l es := by
  have hks : ∀ q ∈ es, q.2.length ≤ 1000000000 := fun q hq => by rw [(h.2.1 q hq).1]; exact Nat.le_trans (fil_len _ _) hl
  have hnm : ∀ q ∈ es, q.1.length ≤ 1000000000 := by
    intro q hq
    obtain ⟨h1, h2⟩ := h.2.1 q hq
    rcases List.eq_nil_or_concat (fil q.1 l) with e | ⟨L, k, e⟩
    · exact absurd (h1.trans e) h2
    · have hx : k ∈ fil q.1 l := by rw [e]; simp
      obtain ⟨m1, m2⟩ := List.mem_filter.1 hx
      simp only [isR, Bool.and_eq_true, decide_eq_true_eq] at m2
      rw [← m2.2]; exact hc k m1
  have hes : es.length ≤ 1000000000 := by
    have hsub : ∀ x ∈ es.map (·.1), x ∈ l.map (·.code) := by
      intro x hx
      obtain ⟨q, hq, rfl⟩ := List.mem_map.1 hx
      obtain ⟨h1, h2⟩ := h.2.1 q hq
      rcases List.eq_nil_or_concat (fil q.1 l) with e | ⟨L, k, e⟩
      · exact absurd (h1.trans e) h2
      · have hx : k ∈ fil q.1 l := by rw [e]; simp
        obtain ⟨m1, m2⟩ := List.mem_filter.1 hx
        simp only [isR, Bool.and_eq_true, decide_eq_true_eq] at m2
        exact List.mem_map.2 ⟨k, m1, m2.2⟩
    have := List.Nodup.length_le_of_subset h.1 hsub
    simp at this; omega
  have hlk : ∀ nm, (lkE es nm).length ≤ 1000000000 := fun nm => by rw [h.lk]; exact Nat.le_trans (fil_len _ _) hl
  refine ⟨h, fun nm d => ?_, fun nm d => ?_, fun d => ?_, fun p d => ?_, fun nm a b => ?_⟩
  · have := v37 es nm d (hlk nm)
    rw [h.lk, val_best, pos_best] at this; exact this
  · have := v40 es nm d (hlk nm)
    rw [h.lk, val_best, pos_best] at this; exact this
  · have := v36 es hes hks d
    rw [h.names] at this; exact this
  · have := v38 es hes hks hnm p d
    rw [h.under] at this; exact this
  · have := v44 es nm a b (hlk nm)
    rw [h.lk] at this; exact this
end Go.Proofs.Ytjcoenideicmbaa

