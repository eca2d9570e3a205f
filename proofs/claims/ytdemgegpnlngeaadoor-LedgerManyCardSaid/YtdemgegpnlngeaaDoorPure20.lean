/-
  The pure layer: maps as lists of keys and values, and what is left of a walk over one.
-/
import Derived.Test.YtdemgegpnlngeaaDoorPure19
namespace PG
open Go
set_option linter.unusedSimpArgs false
set_option linter.unusedVariables false
set_option linter.unusedSectionVars false
section
variable {κ α : Type} [DecidableEq κ]
def aset : List (κ × α) → κ → α → List (κ × α)
  | [], k, v => [(k, v)]
  | q :: es, k, v => if q.1 = k then (k, v) :: es else q :: aset es k v
def aget : List (κ × α) → κ → Option α
  | [], _ => none
  | q :: es, k => if q.1 = k then some q.2 else aget es k
theorem aget_aset (es : List (κ × α)) (k : κ) (v : α) (s : κ) : aget (aset es k v) s = if s = k then some v else aget es s := by
  induction es with
  | nil => simp only [aset, aget]; by_cases h : k = s <;> simp [h, eq_comm]
  | cons q es ih =>
    simp only [aset]
    by_cases h : q.1 = k
    · simp only [h, if_true, aget]
      by_cases h2 : k = s
      · subst h2; simp
      · have : ¬ s = k := fun e => h2 e.symm
        simp [h2, this]
    · simp only [h, if_false, aget, ih]
      by_cases h2 : q.1 = s
      · subst h2; simp [h]
      · simp [h2]
theorem aset_keys (es : List (κ × α)) (k : κ) (v : α) : (aset es k v).map (·.1) = if k ∈ es.map (·.1) then es.map (·.1) else es.map (·.1) ++ [k] := by
  induction es with
  | nil => simp [aset]
  | cons q es ih =>
    simp only [aset]
    by_cases h : q.1 = k
    · simp [h]
    · have h' : ¬ k = q.1 := fun e => h e.symm
      simp only [h, if_false, List.map_cons, ih, List.mem_cons, h', false_or]
      split <;> simp
theorem aset_nodup {es : List (κ × α)} (h : (es.map (·.1)).Nodup) (k : κ) (v : α) : ((aset es k v).map (·.1)).Nodup := by
  rw [aset_keys]
  split
  · exact h
  · rename_i hk
    rw [List.nodup_append]
    refine ⟨h, by simp, fun a ha b hb => ?_⟩
    simp at hb; subst hb
    intro e; subst e; exact hk ha
theorem aget_mem {es : List (κ × α)} (h : (es.map (·.1)).Nodup) : ∀ {k : κ} {v : α}, (k, v) ∈ es → aget es k = some v := by
  induction es with
  | nil => intro k v hm; cases hm
  | cons q es ih =>
    intro k v hm
    simp only [List.map_cons, List.nodup_cons] at h
    simp only [aget]
    rcases List.mem_cons.1 hm with e | hm
    · subst e; simp
    · by_cases hq : q.1 = k
      · exfalso; apply h.1; rw [hq]; exact List.mem_map.2 ⟨_, hm, rfl⟩
      · rw [if_neg hq]; exact ih h.2 hm
theorem mem_of_aget {es : List (κ × α)} {k : κ} {v : α} (h : aget es k = some v) : (k, v) ∈ es := by
  induction es with
  | nil => cases h
  | cons q es ih =>
    simp only [aget] at h
    split at h
    · rename_i e; cases h; rw [← e]; exact List.mem_cons_self
    · exact List.mem_cons_of_mem _ (ih h)
theorem aget_none {es : List (κ × α)} {k : κ} : aget es k = none ↔ k ∉ es.map (·.1) := by
  induction es with
  | nil => simp [aget]
  | cons q es ih =>
    simp only [aget]
    by_cases h : q.1 = k
    · simp [h]
    · have h' : ¬ k = q.1 := fun e => h e.symm
      simp only [h, if_false, ih, List.map_cons, List.mem_cons, h', false_or]

/-- A map's print. -/
def mapP (kp : κ → PV) (vp : α → PV) (es : List (κ × α)) : List (PV × PV) := es.map fun q => (kp q.1, vp q.2)
theorem mapP_len (kp : κ → PV) (vp : α → PV) (es : List (κ × α)) : (mapP kp vp es).length = es.length := by simp [mapP]
theorem mset_mapP {kp : κ → PV} {vp : α → PV} (hk : ∀ a b, keyEq (kp a) (kp b) = decide (a = b)) (es : List (κ × α)) (k : κ) (v : α) : mset (mapP kp vp es) (kp k) (vp v) = mapP kp vp (aset es k v) := by
  induction es with
  | nil => rfl
  | cons q es ih =>
    simp only [mapP, List.map_cons, mset, aset, hk] at *
    by_cases h : q.1 = k
    · simp [h]
    · simp [h, ih]
theorem mfind_mapP {kp : κ → PV} {vp : α → PV} (hk : ∀ a b, keyEq (kp a) (kp b) = decide (a = b)) (es : List (κ × α)) (k : κ) : (mfind (mapP kp vp es) (kp k)).map (·.2) = (aget es k).map vp := by
  induction es with
  | nil => rfl
  | cons q es ih =>
    simp only [mapP, List.map_cons, mfind, aget, hk] at *
    by_cases h : q.1 = k
    · simp [h]
    · simp only [h, decide_false, Bool.false_eq_true, if_false, Option.map_map, ← ih]
      rfl
theorem mget_mapP {kp : κ → PV} {vp : α → PV} (hk : ∀ a b, keyEq (kp a) (kp b) = decide (a = b)) (es : List (κ × α)) (k : κ) : mget (mapP kp vp es) (kp k) = (aget es k).map vp := mfind_mapP hk es k
theorem en_mapP (kp : κ → PV) (vp : α → PV) (es : List (κ × α)) {i : Nat} (h : i < es.length) : ∃ k v, es[i]? = some (k, v) ∧ (k, v) ∈ es ∧ enK (mapP kp vp es) i = kp k ∧ enV (mapP kp vp es) i = vp v := by
  refine ⟨es[i].1, es[i].2, List.getElem?_eq_getElem h, List.getElem_mem h, ?_, ?_⟩
  · simp [enK, mapP, List.getD, h]
  · simp [enV, mapP, List.getD, h]
end
theorem keyEq_str (a b : List UInt8) : keyEq (.str a) (.str b) = decide (a = b) := rfl
theorem keyEq_int (k : IntKind) (a b : Int) : keyEq (.int k a) (.int k b) = decide (a = b) := rfl
abbrev strM {α : Type} (vp : α → PV) (es : List (List UInt8 × α)) : List (PV × PV) := mapP PV.str vp es
theorem mset_str {α : Type} (vp : α → PV) (es : List (List UInt8 × α)) (k : List UInt8) (v : α) : mset (strM vp es) (.str k) (vp v) = strM vp (aset es k v) := mset_mapP keyEq_str es k v
theorem mget_str {α : Type} (vp : α → PV) (es : List (List UInt8 × α)) (k : List UInt8) : mget (strM vp es) (.str k) = (aget es k).map vp := mget_mapP keyEq_str es k
theorem getD_map {α : Type} (vp : α → PV) (o : Option α) (d : α) : (o.map vp).getD (vp d) = vp (o.getD d) := by cases o <;> rfl
theorem isSome_map {α : Type} (vp : α → PV) (o : Option α) : (o.map vp).isSome = o.isSome := by cases o <;> rfl

/-! ### A walk over a map -/
def leftN (n : Nat) (seen : List Nat) : Nat := ((List.range n).filter fun i => !seen.contains i).length
theorem leftN_lt {n i : Nat} {seen : List Nat} (h : i < n) (hs : i ∉ seen) : leftN n (seen ++ [i]) < leftN n seen := by
  unfold leftN
  have e : ((List.range n).filter fun j => !(seen ++ [i]).contains j) = (((List.range n).filter fun j => !seen.contains j).filter fun j => !decide (j = i)) := by
    rw [List.filter_filter]
    congr 1
    funext j
    simp only [List.contains_eq_mem, List.mem_append, List.mem_singleton]
    by_cases h1 : j ∈ seen <;> by_cases h2 : j = i <;> simp [h1, h2]
  rw [e]
  have hm : i ∈ (List.range n).filter fun j => !seen.contains j := by simp [h, hs]
  exact List.length_filter_lt_length_iff_exists.2 ⟨i, hm, by simp⟩
end PG
