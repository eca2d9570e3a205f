import Derived.Test.YtdiokmmjdpbdbaaQ6
namespace Go.Proofs.Ytdiokmmjdpbdbaa
open Go PG
set_option linter.unusedSimpArgs false
set_option linter.unusedVariables false
/-! Into some that rise -/
def atP (l : List (List UInt8)) (s : List UInt8) : Nat := (l.takeWhile fun x => Op.bytesLess x s).length
def putM (l : List (List UInt8)) (s : List UInt8) : List (List UInt8) := if l[atP l s]? = some s then l else l.take (atP l s) ++ s :: l.drop (atP l s)
theorem atP_le (l : List (List UInt8)) (s : List UInt8) : atP l s ≤ l.length := (List.takeWhile_sublist _).length_le
theorem atP_lt : ∀ (l : List (List UInt8)) (s : List UInt8) (i : Nat) (h : i < l.length), i < atP l s → Op.bytesLess l[i] s = true
  | x :: l, s, i, h, hi => by
    unfold atP at hi
    rw [List.takeWhile_cons] at hi
    split at hi
    · rename_i hx
      cases i with
      | zero => exact hx
      | succ i => exact atP_lt l s i (by simpa using h) (by unfold atP; simpa using hi)
    · simp at hi
theorem atP_eq : ∀ (l : List (List UInt8)) (s : List UInt8) (h : atP l s < l.length), Op.bytesLess l[atP l s] s = false
  | x :: l, s, h => by
    have hc : atP (x :: l) s = if Op.bytesLess x s = true then atP l s + 1 else 0 := by
      unfold atP; rw [List.takeWhile_cons]; split <;> simp
    by_cases hx : Op.bytesLess x s = true
    · have e : atP (x :: l) s = atP l s + 1 := by rw [hc, if_pos hx]
      have := atP_eq l s (by simp at h; omega)
      simp only [e, List.getElem_cons_succ]
      exact this
    · have e : atP (x :: l) s = 0 := by rw [hc, if_neg hx]
      simp only [e, List.getElem_cons_zero]
      simpa using hx
theorem putM_len (l : List (List UInt8)) (s : List UInt8) : (putM l s).length ≤ l.length + 1 := by
  unfold putM; split
  · omega
  · have := atP_le l s; simp; omega
theorem putM_iff (l : List (List UInt8)) (s x : List UInt8) : x ∈ putM l s ↔ x ∈ l ∨ x = s := by
  unfold putM
  split
  · rename_i h
    have := List.mem_of_getElem? h
    exact ⟨.inl, fun h => h.elim id (fun e => by rw [e]; exact this)⟩
  · constructor
    · intro h
      rcases List.mem_append.1 h with h | h
      · exact .inl (List.mem_of_mem_take h)
      · rcases List.mem_cons.1 h with h | h
        · exact .inr h
        · exact .inl (List.mem_of_mem_drop h)
    · rintro (h | rfl)
      · rw [← List.take_append_drop (atP l s) l] at h
        rcases List.mem_append.1 h with h | h
        · exact List.mem_append.2 (.inl h)
        · exact List.mem_append.2 (.inr (List.mem_cons_of_mem _ h))
      · simp
theorem putM_rise {l : List (List UInt8)} (h : Rise l) (s : List UInt8) : Rise (putM l s) := by
  unfold putM
  split
  · exact h
  · rename_i hne
    have hlt : ∀ x ∈ l.take (atP l s), x < s := by
      intro x hx
      obtain ⟨i, hi, rfl⟩ := List.getElem_of_mem hx
      simp only [List.length_take] at hi
      rw [List.getElem_take]
      exact (bl_iff _ _).1 (atP_lt l s i (by omega) (by omega))
    have hgt : ∀ y ∈ l.drop (atP l s), s < y := by
      intro y hy
      obtain ⟨i, hi, rfl⟩ := List.getElem_of_mem hy
      simp only [List.length_drop] at hi
      have h0 : atP l s < l.length := by omega
      have h1 := (bl_not _ _).1 (atP_eq l s h0)
      have h2 : s < l[atP l s] := lt_of (not_lt h1) (fun e => hne (by rw [List.getElem?_eq_getElem h0, ← e]))
      rw [List.getElem_drop]
      rcases Nat.eq_zero_or_pos i with rfl | hp
      · exact h2
      · exact lt_tr h2 (List.pairwise_iff_getElem.1 h _ _ h0 (by omega) (by omega))
    have hs : Rise (l.take (atP l s)) := h.sublist (List.take_sublist _ _)
    have hd : Rise (l.drop (atP l s)) := h.sublist (List.drop_sublist _ _)
    refine List.pairwise_append.2 ⟨hs, List.pairwise_cons.2 ⟨hgt, hd⟩, fun a ha b hb => ?_⟩
    rcases List.mem_cons.1 hb with rfl | hb
    · exact hlt a ha
    · exact lt_tr (hlt a ha) (hgt b hb)
/-! What is below, by the document -/
structure InvB (l : List Ed) (s : St) (i : Nat) (out todo : List St) : Prop where
  rise : Rise out
  tds : ∃ T, todo = s :: T ∧ T.Nodup ∧ ∀ x, x ∈ T ↔ x ∈ out
  rch : ∀ x ∈ out, Rch (ndM l) s x
  seen : ∀ j (h : j < todo.length), j < i → ∀ y ∈ ndM l todo[j], y ∈ out
theorem invB_0 (l : List Ed) (s : St) : InvB l s 0 [] [s] :=
  ⟨List.Pairwise.nil, ⟨[], rfl, List.nodup_nil, fun x => Iff.rfl⟩, (fun x h => by cases h), fun j _ h => by omega⟩
theorem invB_put {l : List Ed} {s : St} {i : Nat} {out todo : List St} (h : InvB l s i out todo) (hi : i < todo.length) {n : St} (hn : n ∈ ndM l todo[i]) (ho : n ∉ out) : InvB l s i (putM out n) (todo ++ [n]) := by
  obtain ⟨T, e, hT, hm⟩ := h.tds
  refine ⟨putM_rise h.rise n, ⟨T ++ [n], by rw [e]; rfl, ?_, fun x => ?_⟩, fun x hx => ?_, fun j hj hji y hy => ?_⟩
  · rw [List.nodup_append]
    refine ⟨hT, by simp, fun a ha b hb e => ?_⟩
    simp at hb; subst hb; subst e; exact ho ((hm a).1 ha)
  · rw [putM_iff, List.mem_append, hm x]; simp
  · rcases (putM_iff _ _ _).1 hx with hx | rfl
    · exact h.rch x hx
    · have hs : todo[i] = s ∨ todo[i] ∈ out := by
        have := List.getElem_mem hi
        have h2 : todo[i] ∈ s :: T := by rw [← e]; exact this
        rcases List.mem_cons.1 h2 with h2 | h2
        · exact .inl h2
        · exact .inr ((hm _).1 h2)
      rcases hs with hs | hs
      · rw [hs] at hn; exact .one _ _ hn
      · exact (h.rch _ hs).trans (.one _ _ hn)
  · have hj' : j < todo.length := by omega
    rw [List.getElem_append_left hj'] at hy
    exact (putM_iff _ _ _).2 (.inl (h.seen j hj' hji y hy))
theorem invB_next {l : List Ed} {s : St} {i : Nat} {out todo : List St} (h : InvB l s i out todo) (hi : i < todo.length) (ha : ∀ y ∈ ndM l todo[i], y ∈ out) : InvB l s (i + 1) out todo :=
  ⟨h.rise, h.tds, h.rch, fun j hj hji y hy => by
    rcases Nat.lt_or_ge j i with h1 | h1
    · exact h.seen j hj h1 y hy
    · obtain rfl : j = i := by omega
      exact ha y hy⟩
theorem invB_len {l : List Ed} {s : St} {i : Nat} {out todo : List St} (h : InvB l s i out todo) : todo.length ≤ (allN l).length + 1 ∧ out.length ≤ (allN l).length := by
  obtain ⟨T, e, hT, hm⟩ := h.tds
  have hin : ∀ x ∈ out, x ∈ allN l := fun x hx => by
    have := h.rch x hx
    clear hm e hT
    have key : ∀ a b, Rch (ndM l) a b → b ∈ allN l := by
      intro a b hr
      induction hr with
      | one s y h => exact nd_all _ _ h
      | more s x y h hr ih => exact ih
    exact key _ _ this
  have h1 := nodup_len hT (fun x hx => hin x ((hm x).1 hx))
  have h2 := nodup_len h.rise.nodup hin
  rw [e]; simp only [List.length_cons]; omega
theorem invB_end {l : List Ed} (hw : wrongM l = 0) {s : St} {i : Nat} {out todo : List St} (h : InvB l s i out todo) (hi : todo.length ≤ i) : out = belowM l s := by
  obtain ⟨T, e, hT, hm⟩ := h.tds
  have hcl : ∀ x ∈ todo, ∀ y ∈ ndM l x, y ∈ out := fun x hx y hy => by
    obtain ⟨j, hj, rfl⟩ := List.getElem_of_mem hx
    exact h.seen j hj (by omega) y hy
  refine rise_uniq h.rise (below_rise s) fun y => ?_
  rw [below_iff hw]
  refine ⟨h.rch y, fun hr => ?_⟩
  have key : ∀ a b, Rch (ndM l) a b → a ∈ todo → b ∈ out := by
    intro a b hr
    induction hr with
    | one a b h => intro ha; exact hcl a ha b h
    | more a x b h hr ih => intro ha; exact ih (by rw [e]; exact List.mem_cons_of_mem _ ((hm x).2 (hcl a ha x h)))
  exact key s y hr (by rw [e]; simp)
theorem allN_len4 {l : List Ed} (hw : wrongM l = 0) : (allN l).length ≤ 4096 := by
  obtain ⟨h1, -, h2⟩ := wrongM_0.1 hw
  have key : ∀ L : List Ed, (∀ e ∈ L, e.needs.length ≤ 64) → (allN L).length ≤ L.length * 64 := by
    intro L
    induction L with
    | nil => intro _; simp [allN]
    | cons e L ih =>
      intro h
      have := ih (fun x hx => h x (by simp [hx]))
      have h3 := h e (by simp)
      simp only [allN, List.flatMap_cons, List.length_append, List.length_cons] at this ⊢
      omega
  have := key l (fun e he => (h2 e he).2.1)
  omega
/-! What is above, by the document -/
def abvD (l : List Ed) (s : St) : Nat → List St
  | 0 => []
  | i + 1 => match l[i]? with
    | some e => if s ∈ belowM l e.name then putM (abvD l s i) e.name else abvD l s i
    | none => abvD l s i
theorem abvD_step {l : List Ed} (s : St) {i : Nat} (h : i < l.length) : abvD l s (i + 1) = if s ∈ belowM l l[i].name then putM (abvD l s i) l[i].name else abvD l s i := by
  conv => lhs; unfold abvD
  rw [List.getElem?_eq_getElem h]
theorem abvD_len (l : List Ed) (s : St) : ∀ i, (abvD l s i).length ≤ i
  | 0 => by simp [abvD]
  | i + 1 => by
    have := abvD_len l s i
    unfold abvD
    split
    · split
      · have := putM_len (abvD l s i) (by assumption : Ed).name; omega
      · omega
    · omega
theorem abvD_rise (l : List Ed) (s : St) : ∀ i, Rise (abvD l s i)
  | 0 => List.Pairwise.nil
  | i + 1 => by
    unfold abvD
    split
    · split
      · exact putM_rise (abvD_rise l s i) _
      · exact abvD_rise l s i
    · exact abvD_rise l s i
theorem abvD_mem (l : List Ed) (s y : St) : ∀ i, i ≤ l.length → (y ∈ abvD l s i ↔ ∃ j, ∃ h : j < l.length, j < i ∧ l[j].name = y ∧ s ∈ belowM l y)
  | 0, _ => by simp [abvD]
  | i + 1, hi => by
    rw [abvD_step s (by omega)]
    have ih := abvD_mem l s y i (by omega)
    split
    · rename_i hs
      rw [putM_iff, ih]
      constructor
      · rintro (⟨j, h, h1, h2, h3⟩ | rfl)
        · exact ⟨j, h, by omega, h2, h3⟩
        · exact ⟨i, by omega, by omega, rfl, hs⟩
      · rintro ⟨j, h, h1, h2, h3⟩
        rcases Nat.lt_or_ge j i with h4 | h4
        · exact .inl ⟨j, h, h4, h2, h3⟩
        · obtain rfl : j = i := by omega
          exact .inr h2.symm
    · rename_i hs
      rw [ih]
      constructor
      · rintro ⟨j, h, h1, h2, h3⟩; exact ⟨j, h, by omega, h2, h3⟩
      · rintro ⟨j, h, h1, h2, h3⟩
        rcases Nat.lt_or_ge j i with h4 | h4
        · exact ⟨j, h, h4, h2, h3⟩
        · obtain rfl : j = i := by omega
          subst h2; exact absurd h3 hs
theorem abvD_end {l : List Ed} (hw : wrongM l = 0) (s : St) : abvD l s l.length = aboveM l s := by
  refine rise_uniq (abvD_rise l s _) (above_rise s) fun y => ?_
  rw [abvD_mem l s y _ (Nat.le_refl _), ← meets_sides]
  constructor
  · rintro ⟨j, h, h1, h2, h3⟩; exact h3
  · intro h
    obtain ⟨e, he, hh⟩ := ns_mem.1 (rch_in ((below_iff hw y s).1 h))
    obtain ⟨j, hj, rfl⟩ := List.getElem_of_mem he
    exact ⟨j, hj, hj, hh, h⟩
/-! The document's place, and check -/
def plcE (l : List Ed) (s : St) : Int := match l.findIdx? (fun e => decide (e.name = s)) with
  | some i => i
  | none => -1
theorem plcE_at {l : List Ed} {s : St} {i : Nat} (h : i < l.length) (ha : l[i].name = s) (hn : ∀ j (h : j < l.length), j < i → l[j].name ≠ s) : plcE l s = i := by
  have : l.findIdx? (fun e => decide (e.name = s)) = some i := List.findIdx?_eq_some_iff_getElem.2 ⟨h, by simpa using ha, fun j hj => by simpa using hn j (by omega) hj⟩
  unfold plcE; rw [this]
theorem plcE_none {l : List Ed} {s : St} (hn : ∀ j (h : j < l.length), l[j].name ≠ s) : plcE l s = -1 := by
  have : l.findIdx? (fun e => decide (e.name = s)) = none := List.findIdx?_eq_none_iff.2 fun x hx => by
    obtain ⟨j, hj, rfl⟩ := List.getElem_of_mem hx; simpa using hn j hj
  unfold plcE; rw [this]
theorem plcE_cases (l : List Ed) (s : St) : (plcE l s = -1 ∧ ndM l s = [] ∧ s ∉ nsM l) ∨ ∃ i, ∃ h : i < l.length, plcE l s = i ∧ l[i].name = s ∧ ndM l s = l[i].needs := by
  unfold plcE
  cases hf : l.findIdx? (fun e => decide (e.name = s)) with
  | none =>
    have h1 := List.findIdx?_eq_none_iff.1 hf
    have h2 : s ∉ nsM l := fun h => by
      obtain ⟨e, he, hh⟩ := ns_mem.1 h
      have := h1 e he; simp [hh] at this
    exact .inl ⟨rfl, nd_out h2, h2⟩
  | some i =>
    obtain ⟨h, h1, h2⟩ := List.findIdx?_eq_some_iff_getElem.1 hf
    refine .inr ⟨i, h, rfl, by simpa using h1, ?_⟩
    unfold ndM
    have : l.find? (fun e => decide (e.name = s)) = some l[i] := List.find?_eq_some_iff_getElem.2 ⟨by simpa using h1, i, h, rfl, fun j hj => by simpa using h2 j hj⟩
    rw [this]
theorem wrongF_pre : ∀ (l : List Ed) (seen : List St) (i : Nat) (h : i < l.length), (∀ j (h : j < l.length), j < i → nmOk l[j].name = true ∧ l[j].needs.length ≤ 64 ∧ l[j].needs.all nmOk = true ∧ l[j].name ∉ seen ++ (l.take j).map (·.name)) →
    wrongF seen l = if nmOk l[i].name = false then 12 else if 64 < l[i].needs.length then 5 else if l[i].needs.all nmOk = false then 12 else if l[i].name ∈ seen ++ (l.take i).map (·.name) then 7 else wrongF (seen ++ (l.take (i + 1)).map (·.name)) (l.drop (i + 1))
  | e :: l, seen, 0, h, _ => by
    conv => lhs; unfold wrongF
    simp
  | e :: l, seen, i + 1, h, hall => by
    obtain ⟨h1, h2, h3, h4⟩ := hall 0 (by simp) (by omega)
    simp only [List.getElem_cons_zero, List.take_zero, List.map_nil, List.append_nil] at h1 h2 h3 h4
    conv => lhs; unfold wrongF
    rw [if_neg (by simp [h1]), if_neg (by omega), if_neg (by simp [h3]), if_neg h4]
    have := wrongF_pre l (seen ++ [e.name]) i (by simpa using h) (fun j hj hji => by
      have := hall (j + 1) (by simp; omega) (by omega)
      simpa using this)
    rw [this]; simp
end Go.Proofs.Ytdiokmmjdpbdbaa

