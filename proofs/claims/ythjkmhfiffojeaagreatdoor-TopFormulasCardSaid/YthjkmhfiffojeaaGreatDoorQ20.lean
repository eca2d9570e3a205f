import Derived.Test.YthjkmhfiffojeaaGreatDoorQ19
namespace Go.Proofs.YthjkmhfiffojeaaGreatDoor
open Go PG
open Nat (reduceAdd reduceEqDiff)
set_option linter.unusedSimpArgs false
set_option linter.unusedVariables false
section
section
variable (nd : St -> List St)
inductive Rch : St -> St -> Prop
 | one (s y : St) (h : y ∈ nd s) : Rch s y
 | more (s x y : St) (h : x ∈ nd s) (hr : Rch x y) : Rch s y
mutual
def dfs : Nat -> St -> List St -> List St
 | 0, _, out => out
 | n + 1, s, out => jP2 n (nd s) out
termination_by n _ _ => (n, 0)
def jP2 : Nat -> List St -> List St -> List St
 | _, [], out => out
 | n, x :: xs, out => if x ∈ out then jP2 n xs out else jP2 n xs (dfs n x (out ++ [x]))
termination_by n xs _ => (n, xs.length + 1)
end
variable {nd}
theorem Rch.trans {a b c : St} (h : Rch nd a b) (k : Rch nd b c) : Rch nd a c := by
 induction h with
 | one s y h => exact .more s y c h k
 | more s x y h hr ih => exact .more s x c h (ih k)
def jPT (U out : List St) : Nat := (U.filter fun x => !decide (x ∈ out)).length
theorem jUE {U out out' : List St} (h : ∀ x ∈ out, x ∈ out') : jPT U out' <= jPT U out := by
 induction U with
 | nil => simp [jPT]
 | cons u U ih =>
  simp only [jPT, List.filter_cons] at ih ⊢
  by_cases h1 : u ∈ out
  ·have := h u h1
   simp [h1, this]; exact ih
  ·by_cases h2 : u ∈ out'
   ·simp [h1, h2]; omega
   ·simp [h1, h2]; exact ih
theorem cnt_lt {U out : List St} {x : St} (hx : x ∈ U) (hn : x ∉ out) : jPT U (out ++ [x]) < jPT U out := by
 induction U with
 | nil => cases hx
 | cons u U ih =>
  simp only [jPT, List.filter_cons] at ih ⊢
  rcases List.mem_cons.1 hx with rfl | hx'
  ·have := jUE (U := U) (out := out) (out' := out ++ [x]) (fun y hy => by simp [hy])
   simp only [jPT] at this
   simp [hn]; simp at this; omega
  ·have := ih hx'
   by_cases h1 : u ∈ out
   ·simp [h1]; simpa using this
   ·by_cases h2 : u = x
    ·subst h2; simp [h1]; simp at this; omega
    ·simp [h1, h2]; simpa using this
structure kKC (U : List St) (R : St -> Prop) (xs out o : List St) : Prop where
 sub : ∀ x ∈ out, x ∈ o
 nodup : o.Nodup
 has : ∀ x ∈ xs, x ∈ o
 closed : ∀ y ∈ o, y ∉ out -> ∀ x ∈ nd y, x ∈ o
 reach : ∀ y ∈ o, y ∉ out -> R y
theorem jPP {U : List St} (hU : ∀ s x, x ∈ nd s -> x ∈ U) : ∀ (n : Nat),
  (∀ s out, jPT U out < n -> out.Nodup -> kKC (nd := nd) U (Rch nd s) (nd s) out (dfs nd n s out)) ∧
  (∀ (xs out : List St), (∀ x ∈ xs, x ∈ U) -> jPT U out <= n -> out.Nodup -> kKC (nd := nd) U (fun y => ∃ x ∈ xs, y = x ∨ Rch nd x y) xs out (jP2 nd n xs out)) := by
 intro n
 induction n with
 | zero =>
  refine ⟨fun s out h => by omega, fun xs => ?_⟩
  induction xs with
  | nil => intro out _ _ hn; unfold jP2; exact ⟨fun x h => h, hn, (fun x h => by cases h), fun y h h' => absurd h h', fun y h h' => absurd h h'⟩
  | cons x xs ih =>
   intro out hxs hc hn
   have hx : x ∈ out := Decidable.byContradiction fun hx => by
    have := cnt_lt (hxs x (by simp)) hx; omega
   unfold jP2; rw [if_pos hx]
   obtain ⟨a, b, c, d, e⟩ := ih out (fun y hy => hxs y (by simp [hy])) hc hn
   exact ⟨a, b, fun y hy => by
    rcases List.mem_cons.1 hy with rfl | hy
    ·exact a _ hx
    ·exact c y hy, d, fun y hy hy' => let ⟨z, hz, h⟩ := e y hy hy'; ⟨z, by simp [hz], h⟩⟩
 | succ n ihn =>
  have h1 : ∀ s out, jPT U out < n + 1 -> out.Nodup -> kKC (nd := nd) U (Rch nd s) (nd s) out (dfs nd (n + 1) s out) := by
   intro s out hc hn
   unfold dfs
   obtain ⟨a, b, c, d, e⟩ := ihn.2 (nd s) out (fun x hx => hU s x hx) (by omega) hn
   exact ⟨a, b, c, d, fun y hy hy' => by
    obtain ⟨x, hx, h⟩ := e y hy hy'
    rcases h with rfl | h
    ·exact .one _ _ hx
    ·exact .more _ _ _ hx h⟩
  refine ⟨h1, fun xs => ?_⟩
  induction xs with
  | nil => intro out _ _ hn; unfold jP2; exact ⟨fun x h => h, hn, (fun x h => by cases h), fun y h h' => absurd h h', fun y h h' => absurd h h'⟩
  | cons x xs ih =>
   intro out hxs hc hn
   unfold jP2
   by_cases hx : x ∈ out
   ·rw [if_pos hx]
    obtain ⟨a, b, c, d, e⟩ := ih out (fun y hy => hxs y (by simp [hy])) hc hn
    exact ⟨a, b, fun y hy => by
     rcases List.mem_cons.1 hy with rfl | hy
     ·exact a _ hx
     ·exact c y hy, d, fun y hy hy' => let ⟨z, hz, h⟩ := e y hy hy'; ⟨z, by simp [hz], h⟩⟩
   ·rw [if_neg hx]
    have hlt := cnt_lt (hxs x (by simp)) hx
    have hn' : (out ++ [x]).Nodup := by
     rw [List.nodup_append]
     refine ⟨hn, by simp, fun y hy z hz e => ?_⟩
     simp at hz; subst hz; subst e; exact hx hy
    obtain ⟨a, b, c, d, e⟩ := h1 x (out ++ [x]) (by omega) hn'
    have hsub : ∀ y ∈ out, y ∈ dfs nd (n + 1) x (out ++ [x]) := fun y hy => a y (by simp [hy])
    have hxo : x ∈ dfs nd (n + 1) x (out ++ [x]) := a x (by simp)
    obtain ⟨a', b', c', d', e'⟩ := ih (dfs nd (n + 1) x (out ++ [x])) (fun y hy => hxs y (by simp [hy])) (Nat.le_trans (jUE hsub) hc) b
    refine ⟨fun y hy => a' y (hsub y hy), b', fun y hy => ?_, fun y hy hy' z hz => ?_, fun y hy hy' => ?_⟩
    ·rcases List.mem_cons.1 hy with rfl | hy
     ·exact a' _ hxo
     ·exact c' y hy
    ·by_cases h2 : y ∈ dfs nd (n + 1) x (out ++ [x])
     ·by_cases h3 : y = x
      ·subst h3; exact a' z (c z hz)
      ·exact a' z (d y h2 (by simp [hy', h3]) z hz)
     ·exact d' y hy h2 z hz
    ·by_cases h2 : y ∈ dfs nd (n + 1) x (out ++ [x])
     ·by_cases h3 : y = x
      ·exact ⟨x, by simp, .inl h3⟩
      ·exact ⟨x, by simp, .inr (e y h2 (by simp [hy', h3]))⟩
     ·obtain ⟨z, hz, h⟩ := e' y hy h2
      exact ⟨z, by simp [hz], h⟩
theorem kDI {U : List St} (hU : ∀ s x, x ∈ nd s -> x ∈ U) {n : Nat} {s : St} (hc : jPT U [] < n) (y : St) : y ∈ dfs nd n s [] ↔ Rch nd s y := by
 obtain ⟨a, b, c, d, e⟩ := (jPP hU n).1 s [] hc List.nodup_nil
 refine ⟨fun h => e y h (by simp), fun h => ?_⟩
 generalize hO : dfs nd n s [] = O at *
 clear hO e
 revert c
 induction h with
 | one s y h => intro c; exact c y h
 | more s x y h hr ih => intro c; exact ih (fun z hz => d x (c x h) (by simp) z hz)
theorem jSV {U : List St} (hU : ∀ s x, x ∈ nd s -> x ∈ U) {n : Nat} {s : St} (hc : jPT U [] < n) : (dfs nd n s []).Nodup := ((jPP hU n).1 s [] hc List.nodup_nil).nodup
end
structure Ed where
 name : St
 needs : List St
def jH1 (s : St) : Bool := !decide (s = []) && decide (s.length <= 32)
def jDM : List St -> List Ed -> Int
 | _, [] => 0
 | seen, e :: l => if jH1 e.name = false then 12 else if 64 < e.needs.length then 5 else if e.needs.all jH1 = false then 12 else if e.name ∈ seen then 7 else jDM (seen ++ [e.name]) l
def jAN (l : List Ed) : Int := if 64 < l.length then 5 else jDM [] l
def nsM (l : List Ed) : List St := jBY (l.map (·.name))
def ndM (l : List Ed) (s : St) : List St := match l.find? (fun e => decide (e.name = s)) with
 | some e => e.needs
 | none => []
theorem jUG : ∀ {l : List Ed} {seen : List St}, jDM seen l = 0 -> (l.map (·.name)).Nodup ∧ (∀ e ∈ l, e.name ∉ seen ∧ jH1 e.name = true ∧ e.needs.length <= 64 ∧ e.needs.all jH1 = true)
 | [], _, _ => ⟨List.nodup_nil, fun e h => by cases h⟩
 | e :: l, seen, h => by
  unfold jDM at h
  split at h
  ·cases h
  split at h
  ·cases h
  split at h
  ·cases h
  split at h
  ·cases h
  rename_i h1 h2 h3 h4
  obtain ⟨i1, i2⟩ := jUG h
  refine ⟨?_, fun x hx => ?_⟩
  ·rw [List.map_cons, List.nodup_cons]
   refine ⟨fun hm => ?_, i1⟩
   obtain ⟨x, hx, he⟩ := List.mem_map.1 hm
   exact (i2 x hx).1 (by simp [he])
  ·rcases List.mem_cons.1 hx with rfl | hx
   ·exact ⟨h4, by simpa using h1, by omega, by simpa using h3⟩
   ·obtain ⟨a, b⟩ := i2 x hx
    exact ⟨fun hh => a (by simp [hh]), b⟩
theorem jJE : ∀ {l : List Ed} {seen : List St}, (l.map (·.name)).Nodup -> (∀ e ∈ l, e.name ∉ seen ∧ jH1 e.name = true ∧ e.needs.length <= 64 ∧ e.needs.all jH1 = true) -> jDM seen l = 0
 | [], _, _, _ => rfl
 | e :: l, seen, hn, h => by
  obtain ⟨h1, h2, h3, h4⟩ := h e (by simp)
  rw [List.map_cons, List.nodup_cons] at hn
  unfold jDM
  rw [if_neg (by simp [h2]), if_neg (by omega), if_neg (by simp [h4]), if_neg h1]
  refine jJE hn.2 fun x hx => ?_
  obtain ⟨a, b⟩ := h x (by simp [hx])
  refine ⟨fun hh => ?_, b⟩
  rcases List.mem_append.1 hh with hh | hh
  ·exact a hh
  ·simp at hh; exact hn.1 (List.mem_map.2 ⟨x, hx, hh⟩)
theorem jBX {l : List Ed} : jAN l = 0 ↔ l.length <= 64 ∧ (l.map (·.name)).Nodup ∧ ∀ e ∈ l, jH1 e.name = true ∧ e.needs.length <= 64 ∧ e.needs.all jH1 = true := by
 unfold jAN
 constructor
 ·intro h
  split at h
  ·cases h
  ·obtain ⟨a, b⟩ := jUG h
   exact ⟨by omega, a, fun e he => (b e he).2⟩
 ·rintro ⟨a, b, c⟩
  rw [if_neg (by omega)]
  exact jJE b fun e he => ⟨by simp, c e he⟩
theorem jH0 {l : List Ed} {s : St} : s ∈ nsM l ↔ ∃ e ∈ l, e.name = s := by
 unfold nsM; rw [jGI, List.mem_map]
theorem jVP (l : List Ed) : (nsM l).length = l.length := by
 unfold nsM jBY; rw [(List.mergeSort_perm _ _).length_eq]; simp
theorem jI0 {l : List Ed} (h : jAN l = 0) : kHO (nsM l) := jKP (jBX.1 h).2.1
theorem jYF {l : List Ed} (hn : (l.map (·.name)).Nodup) {e : Ed} (he : e ∈ l) : ndM l e.name = e.needs := by
 unfold ndM
 induction l with
 | nil => cases he
 | cons x l ih =>
  rw [List.map_cons, List.nodup_cons] at hn
  rw [List.find?_cons]
  rcases List.mem_cons.1 he with rfl | he
  ·simp
  ·have : x.name ≠ e.name := fun h => hn.1 (h ▸ List.mem_map.2 ⟨e, he, rfl⟩)
   simp only [this, decide_false]
   exact ih hn.2 he
theorem kGZ {l : List Ed} {s : St} (h : s ∉ nsM l) : ndM l s = [] := by
 unfold ndM
 have : l.find? (fun e => decide (e.name = s)) = none := List.find?_eq_none.2 fun e he hh => h (jH0.2 ⟨e, he, by simpa using hh⟩)
 rw [this]
theorem kBP {l : List Ed} {s x : St} (h : x ∈ ndM l s) : s ∈ nsM l ∧ ∃ e ∈ l, e.name = s ∧ x ∈ e.needs := by
 unfold ndM at h
 cases hf : l.find? (fun e => decide (e.name = s)) with
 | none => rw [hf] at h; cases h
 | some e =>
  rw [hf] at h
  have h1 := List.find?_some hf
  have h2 := List.mem_of_find?_eq_some hf
  simp only [decide_eq_true_eq] at h1
  exact ⟨jH0.2 ⟨e, h2, h1⟩, e, h2, h1, h⟩
def jOC (l : List Ed) : List St := l.flatMap (·.needs)
theorem jLC {l : List Ed} (s x : St) (h : x ∈ ndM l s) : x ∈ jOC l := by
 obtain ⟨-, e, he, -, hx⟩ := kBP h
 exact List.mem_flatMap.2 ⟨e, he, hx⟩
def jAV (l : List Ed) : List St × Int := if jAN l ≠ 0 then ([], jAN l) else match jF0 (nsM l) (ndM l) (nsM l).length [] with
 | none => ([], 13)
 | some o => (o, 0)
def jY9 (N : List St) (nd : St -> List St) : List St -> List St -> List St
 | [], b => b
 | s :: r, b => jY9 N nd r (if 0 < jC8 N nd s N.length s ∧ (b = [] ∨ jC8 N nd s N.length s < b.length) then s :: jKW nd s (jC8 N nd s N.length) (jC8 N nd s N.length s) s else b)
def jTI (l : List Ed) : List St := if jAN l ≠ 0 then [] else jY9 (nsM l) (ndM l) (nsM l) []
def jEM (l : List Ed) (s : St) : List St := if s ∉ nsM l ∨ jAN l ≠ 0 then [] else jBY (dfs (ndM l) ((jOC l).length + 1) s [])
def jE5 (l : List Ed) (o : List St) : Bool := decide (jAN l = 0) && (decide (jBY o = nsM l) && (nsM l).all fun s => (ndM l s).all fun x => !decide (x ∈ o) || decide (o.idxOf x < o.idxOf s))
theorem jOA {l : List Ed} (hw : jAN l = 0) {s : St} (hs : s ∈ nsM l) : kHO (jEM l s) ∧ ∀ y, y ∈ jEM l s ↔ Rch (ndM l) s y := by
 have hc : jPT (jOC l) [] < (jOC l).length + 1 := by
  have := List.length_filter_le (fun x => !decide (x ∈ ([] : List St))) (jOC l)
  unfold jPT; omega
 unfold jEM
 rw [if_neg (by simp [hs, hw])]
 exact ⟨jKP (jSV jLC hc), fun y => by rw [jGI]; exact kDI jLC hc y⟩
theorem jGH {l : List Ed} {s : St} (h : s ∉ nsM l ∨ jAN l ≠ 0) : jEM l s = [] := by unfold jEM; rw [if_pos h]
theorem kLI {l : List Ed} {s y : St} (h : Rch (ndM l) s y) : s ∈ nsM l := by
 cases h with
 | one _ _ h => exact (kBP h).1
 | more _ _ _ h _ => exact (kBP h).1
theorem jIM {l : List Ed} (hw : jAN l = 0) (s y : St) : y ∈ jEM l s ↔ Rch (ndM l) s y := by
 by_cases hs : s ∈ nsM l
 ·exact (jOA hw hs).2 y
 ·rw [jGH (.inl hs)]
  exact ⟨(fun h => by cases h), fun h => absurd (kLI h) hs⟩
theorem jZA {l : List Ed} (s : St) : kHO (jEM l s) := by
 by_cases hw : jAN l = 0
 ·by_cases hs : s ∈ nsM l
  ·exact (jOA hw hs).1
  ·rw [jGH (.inl hs)]; exact List.Pairwise.nil
 ·rw [jGH (.inr hw)]; exact List.Pairwise.nil
end
structure jXM (N : List St) (nd : St -> List St) (r : List St) : Prop where
 some : ∃ s T, r = s :: T ∧ s ∈ N ∧ Path nd s s T ∧ (∀ y ∈ T, s < y ∧ y ∈ N) ∧ T.Nodup
theorem kH6 {N : List St} {nd : St -> List St} {s : St} (h : 0 < jC8 N nd s N.length s) : jXM N nd (s :: jKW nd s (jC8 N nd s N.length) (jC8 N nd s N.length s) s) := by
 obtain ⟨n, hn⟩ : ∃ n, jC8 N nd s N.length s = n + 1 := ⟨jC8 N nd s N.length s - 1, by omega⟩
 obtain ⟨a, b, c, d⟩ := jNA hn
 rw [hn]
 exact ⟨s, _, rfl, (kHI h).1, a, fun y hy => ⟨(c y hy).1, (c y hy).2.1⟩, d⟩
theorem jME {N : List St} {nd : St -> List St} : ∀ (R b : List St), (b = [] ∨ jXM N nd b) -> (jY9 N nd R b = [] ∨ jXM N nd (jY9 N nd R b)) ∧ (jY9 N nd R b = [] -> b = [] ∧ ∀ s ∈ R, jC8 N nd s N.length s = 0)
 | [], b, h => ⟨h, fun h => ⟨h, fun s hs => by cases hs⟩⟩
 | s :: R, b, h => by
  unfold jY9
  by_cases hc : 0 < jC8 N nd s N.length s ∧ (b = [] ∨ jC8 N nd s N.length s < b.length)
  ·rw [if_pos hc]
   obtain ⟨h1, h2⟩ := jME R _ (.inr (kH6 hc.1))
   exact ⟨h1, fun h0 => by cases (h2 h0).1⟩
  ·rw [if_neg hc]
   obtain ⟨h1, h2⟩ := jME R b h
   refine ⟨h1, fun h0 => ⟨(h2 h0).1, fun x hx => ?_⟩⟩
   rcases List.mem_cons.1 hx with rfl | hx
   ·rcases Nat.eq_zero_or_pos (jC8 N nd x N.length x) with h3 | h3
    ·exact h3
    ·exact absurd ⟨h3, .inl (h2 h0).1⟩ hc
   ·exact (h2 h0).2 x hx
theorem jQQ {l : List Ed} (hw : jAN l = 0) : (jTI l = [] ∨ jXM (nsM l) (ndM l) (jTI l)) ∧ (jTI l = [] -> ∀ s ∈ nsM l, jC8 (nsM l) (ndM l) s (nsM l).length s = 0) := by
 unfold jTI
 rw [if_neg (by simp [hw])]
 obtain ⟨h1, h2⟩ := jME (N := nsM l) (nd := ndM l) (nsM l) [] (.inl rfl)
 exact ⟨h1, fun h => (h2 h).2⟩
theorem jQR {l : List Ed} {o : List St} : jE5 l o = true ↔ jAN l = 0 ∧ jBY o = nsM l ∧ ∀ s ∈ nsM l, ∀ x ∈ ndM l s, x ∈ o -> o.idxOf x < o.idxOf s := by
 unfold jE5
 simp only [Bool.and_eq_true, decide_eq_true_eq, List.all_eq_true, Bool.or_eq_true, Bool.not_eq_true', decide_eq_false_iff_not]
 exact ⟨fun ⟨a, b, c⟩ => ⟨a, b, fun s hs x hx hm => (c s hs x hx).resolve_left (fun h => h hm)⟩, fun ⟨a, b, c⟩ => ⟨a, b, fun s hs x hx => (Decidable.em (x ∈ o)).elim (fun h => .inr (c s hs x hx h)) .inl⟩⟩
theorem jZ7 {l : List Ed} (hw : jAN l = 0) {o : List St} (h : o.Perm (nsM l)) : jBY o = nsM l :=
 kBA (jKP (h.nodup_iff.2 (jI0 hw).nodup)) (jI0 hw) (fun x => by rw [jGI]; exact h.mem_iff)
theorem jQY {l : List Ed} {o : List St} (h : jBY o = nsM l) : o.Perm (nsM l) := by
 rw [<- h]; exact (List.mergeSort_perm _ _).symm
theorem kBC {l : List Ed} (hw : jAN l = 0) {o : List St} (hp : o.Perm (nsM l)) (h : kF2 (nsM l) (ndM l) o) : jE5 l o = true :=
 jQR.2 ⟨hw, jZ7 hw hp, fun s hs x hx hm => jTO h (hp.mem_iff.2 hs) hx (hp.mem_iff.1 hm)⟩
theorem jMZ : ∀ (l : List Ed) (seen : List St), jDM seen l = 0 ∨ jDM seen l = 5 ∨ jDM seen l = 7 ∨ jDM seen l = 12
 | [], _ => .inl rfl
 | e :: l, seen => by
  unfold jDM
  split
  ·simp
  split
  ·simp
  split
  ·simp
  split
  ·simp
  ·exact jMZ l _
theorem jG9 (l : List Ed) : jAN l = 0 ∨ jAN l = 5 ∨ jAN l = 7 ∨ jAN l = 12 := by
 unfold jAN
 split
 ·simp
 ·exact jMZ l []
theorem jGN {l : List Ed} (h : jAN l ≠ 0) : jAV l = ([], jAN l) := by unfold jAV; rw [if_pos h]
theorem kH3 {l : List Ed} (h : (jAV l).2 = 0) : jAN l = 0 ∧ jF0 (nsM l) (ndM l) (nsM l).length [] = some (jAV l).1 := by
 unfold jAV at h ⊢
 by_cases hw : jAN l = 0
 ·rw [if_neg (by simp [hw])] at h ⊢
  cases hg : jF0 (nsM l) (ndM l) (nsM l).length [] with
  | none => rw [hg] at h; cases h
  | some o => exact ⟨hw, rfl⟩
 ·rw [if_pos hw] at h; exact absurd h hw
theorem jZ6 {l : List Ed} (h : (jAV l).2 = 13) : jAN l = 0 ∧ jF0 (nsM l) (ndM l) (nsM l).length [] = none ∧ (jAV l).1 = [] := by
 unfold jAV at h ⊢
 by_cases hw : jAN l = 0
 ·rw [if_neg (by simp [hw])] at h ⊢
  cases hg : jF0 (nsM l) (ndM l) (nsM l).length [] with
  | none => exact ⟨hw, rfl, rfl⟩
  | some o => rw [hg] at h; cases h
 ·rw [if_pos hw] at h
  have h : jAN l = 13 := h
  rcases jG9 l with h1 | h1 | h1 | h1 <;> omega
theorem kEN (l : List Ed) : (jAV l).2 = 0 ∨ (jAV l).2 = 13 ∨ (jAN l ≠ 0 ∧ (jAV l).2 = jAN l) := by
 unfold jAV
 by_cases hw : jAN l = 0
 ·rw [if_neg (by simp [hw])]
  cases jF0 (nsM l) (ndM l) (nsM l).length [] with
  | none => exact .inr (.inl rfl)
  | some o => exact .inl rfl
 ·rw [if_pos hw]; exact .inr (.inr ⟨hw, rfl⟩)
theorem kEW (N : List St) (nd : St -> List St) : kF2 N nd [] := by
 intro a s b h; simp at h
theorem jF2 {l : List Ed} (h : (jAV l).2 = 0) : jAN l = 0 ∧ kF2 (nsM l) (ndM l) (jAV l).1 ∧ (jAV l).1.Perm (nsM l) := by
 obtain ⟨hw, hg⟩ := kH3 h
 obtain ⟨a, b, c, d⟩ := jM2 hg (kEW _ _) List.nodup_nil (by simp)
 exact ⟨hw, a, full_of (jI0 hw).nodup b c (by simpa using d)⟩
theorem kEM {l : List Ed} (h : (jAV l).2 = 0) : jTI l = [] ∧ jE5 l (jAV l).1 = true := by
 obtain ⟨hw, ho, hp⟩ := jF2 h
 refine ⟨?_, kBC hw hp ho⟩
 rcases (jQQ hw).1 with h1 | h1
 ·exact h1
 ·obtain ⟨s, T, e, hs, hP, hT, hn⟩ := h1.some
  exfalso
  have key : ∀ (T : List St) (t : St), t ∈ nsM l -> Path (ndM l) s t T -> (∀ y ∈ T, y ∈ nsM l) -> (jAV l).1.idxOf s < (jAV l).1.idxOf t := by
   intro T
   induction T with
   | nil => intro t ht hP _; exact jTO ho (hp.mem_iff.2 ht) hP hs
   | cons y T ih =>
    intro t ht hP hT
    have hy := hT y (by simp)
    exact Nat.lt_trans (ih y hy hP.2 (fun z hz => hT z (by simp [hz]))) (jTO ho (hp.mem_iff.2 ht) hP.1 hy)
  have := key T s hs hP (fun y hy => (hT y hy).2)
  omega
theorem jXR {l : List Ed} (h : jAN l ≠ 0) : (jAV l).1 = [] ∧ jTI l = [] ∧ ∀ o, jE5 l o = false := by
 refine ⟨by rw [jGN h], by unfold jTI; rw [if_pos h], fun o => ?_⟩
 unfold jE5
 rw [decide_eq_false h]; rfl
theorem kLQ {o : List St} (hn : o.Nodup) (i : Nat) (h : i < o.length) : o.idxOf o[i] = i := by
 have h1 : o.idxOf o[i] < o.length := List.idxOf_lt_length_of_mem (List.getElem_mem h)
 have h2 : o[o.idxOf o[i]] = o[i] := List.getElem_idxOf h1
 rcases Nat.lt_trichotomy (o.idxOf o[i]) i with h3 | h3 | h3
 ·exact absurd h2 (List.pairwise_iff_getElem.1 hn _ _ h1 h h3)
 ·exact h3
 ·exact absurd h2.symm (List.pairwise_iff_getElem.1 hn _ _ h h1 h3)
set_option linter.unusedSectionVars false
section
variable {N : List St} {nd nd' : St -> List St} (h : ∀ s x, x ∈ nd s ↔ x ∈ nd' s)
include h
theorem kFY {p : St -> Bool} (s : St) : (nd s).all p = (nd' s).all p := by
 rw [Bool.eq_iff_iff]; simp only [List.all_eq_true]
 exact ⟨fun g x a => g x ((h s x).2 a), fun g x a => g x ((h s x).1 a)⟩
theorem jX8 (out : List St) : jF5 N nd out = jF5 N nd' out := by
 funext s; unfold jF5; rw [kFY h s]
theorem jM3 : ∀ (n : Nat) (out : List St), jF0 N nd n out = jF0 N nd' n out
 | 0, out => rfl
 | n + 1, out => by
  unfold jF0
  rw [jX8 h]
  cases N.find? (jF5 N nd' out) with
  | none => rfl
  | some s => exact jM3 n _
end
section
variable {N : List St} {nd nd' : St -> List St} (h : ∀ s x, x ∈ nd s ↔ x ∈ nd' s)
include h
end
theorem jZG {l l' : List Ed} (hl : l.length = l'.length) (hp : (l.map (·.name)).Perm (l'.map (·.name))) (h : (∀ e ∈ l, jH1 e.name = true ∧ e.needs.length <= 64 ∧ e.needs.all jH1 = true) ↔ (∀ e ∈ l', jH1 e.name = true ∧ e.needs.length <= 64 ∧ e.needs.all jH1 = true)) :
  jAN l = 0 ↔ jAN l' = 0 := by
 rw [jBX, jBX, hl, hp.nodup_iff, h]
structure kM9 (l l' : List Ed) : Prop where
 wrong : jAN l = 0 ↔ jAN l' = 0
 ns : nsM l = nsM l'
 nd : jAN l = 0 -> ∀ s x, x ∈ ndM l s ↔ x ∈ ndM l' s
theorem kAZ {l l' : List Ed} (h : kM9 l l') : (jAV l).1 = (jAV l').1 ∧ ((jAV l).2 = 0 ↔ (jAV l').2 = 0) ∧ ((jAV l).2 = 13 ↔ (jAV l').2 = 13) := by
 by_cases hw : jAN l = 0
 ·have hw' := h.wrong.1 hw
  have e : jAV l = jAV l' := by
   unfold jAV
   rw [if_neg (by simp [hw]), if_neg (by simp [hw']), h.ns, jM3 (h.nd hw)]
  rw [e]; exact ⟨rfl, Iff.rfl, Iff.rfl⟩
 ·have hw' : jAN l' ≠ 0 := fun h' => hw (h.wrong.2 h')
  rw [jGN hw, jGN hw']
  refine ⟨rfl, ⟨fun h => absurd h hw, fun h => absurd h hw'⟩, ?_⟩
  have a := jG9 l
  have b := jG9 l'
  simp only; omega
structure kR5 (l : List Ed) (x : Ed) : Prop where
 name : ∀ e ∈ l, e.name ≠ x.name ∧ x.name ∉ e.needs
 self : x.name ∉ x.needs
section
variable {l : List Ed} {x : Ed} (hn : kR5 l x) (hw : jAN (l ++ [x]) = 0)
include hn hw
end
open Go PG Go.Proofs
set_option maxHeartbeats 4000000
set_option maxRecDepth 100000
theorem E12 : Ent Tryz.prog 12 := ⟨Tryz.f12, Tryz.func12, by kernel_rfl, by kernel_rfl⟩
theorem E33 : Ent Tryz.prog 33 := ⟨Tryz.f33, Tryz.func33, by kernel_rfl, by kernel_rfl⟩
theorem E32 : Ent Tryz.prog 32 := ⟨Tryz.f32, Tryz.func32, by kernel_rfl, by kernel_rfl⟩
theorem E35 : Ent Tryz.prog 35 := ⟨Tryz.f35, Tryz.func35, by kernel_rfl, by kernel_rfl⟩
theorem E36 : Ent Tryz.prog 36 := ⟨Tryz.f36, Tryz.func36, by kernel_rfl, by kernel_rfl⟩
theorem E37 : Ent Tryz.prog 37 := ⟨Tryz.f37, Tryz.func37, by kernel_rfl, by kernel_rfl⟩
theorem E38 : Ent Tryz.prog 38 := ⟨Tryz.f38, Tryz.func38, by kernel_rfl, by kernel_rfl⟩
theorem E39 : Ent Tryz.prog 39 := ⟨Tryz.f39, Tryz.func39, by kernel_rfl, by kernel_rfl⟩
theorem E58 : Ent Tryz.prog 58 := ⟨Tryz.f58, Tryz.func58, by kernel_rfl, by kernel_rfl⟩
theorem E59 : Ent Tryz.prog 59 := ⟨Tryz.f59, Tryz.func59, by kernel_rfl, by kernel_rfl⟩
def edP (e : Ed) : PV := .agg [.str e.name, .list none (e.needs.map PV.str)]
abbrev edL (l : List Ed) : PV := .list (some 2) (l.map edP)
abbrev txL (l : List St) : PV := .list none (l.map PV.str)
theorem jT6 (l : List Ed) (i : Nat) (h : i < l.length) : (l.map edP).getD i .junk = edP l[i] := by simp [List.getD, h]
theorem jD9 (l : List St) (i : Nat) (h : i < l.length) : (l.map PV.str).getD i .junk = .str l[i] := by simp [List.getD, h]
structure Cl (caps : List PV) : Prop where
 view : ∀ μ, caps.map (PV.view μ) = caps
 seen : ∀ μ, (caps.map (PV.seen μ)).all id = true
def kD2 (p : St -> Bool) (xs : List St) : Int := match xs.findIdx? p with
 | some i => i
 | none => -1
theorem kCF {p : St -> Bool} {xs : List St} {i : Nat} (h : i < xs.length) (hp : p xs[i] = true) (hn : ∀ j (h : j < xs.length), j < i -> p xs[j] = false) : kD2 p xs = i := by
 have : xs.findIdx? p = some i := List.findIdx?_eq_some_iff_getElem.2 ⟨h, hp, fun j hj => by rw [hn j (by omega) hj]; simp⟩
 unfold kD2; rw [this]
theorem jR6 {p : St -> Bool} {xs : List St} (hn : ∀ j (h : j < xs.length), p xs[j] = false) : kD2 p xs = -1 := by
 have : xs.findIdx? p = none := List.findIdx?_eq_none_iff.2 fun x hx => by
  obtain ⟨j, hj, rfl⟩ := List.getElem_of_mem hx; exact hn j hj
 unfold kD2; rw [this]
theorem kE8 (p : St -> Bool) (xs : List St) : decide (0 <= kD2 p xs) = xs.any p := by
 unfold kD2
 cases h : xs.findIdx? p with
 | some i =>
  obtain ⟨h1, h2, -⟩ := List.findIdx?_eq_some_iff_getElem.1 h
  have : xs.any p = true := List.any_eq_true.2 ⟨xs[i], List.getElem_mem h1, h2⟩
  rw [this]; simp only [decide_eq_true_eq]; omega
 | none =>
  have : xs.any p = false := by
   rw [List.any_eq_false]
   intro x hx; rw [List.findIdx?_eq_none_iff.1 h x hx]; simp
  rw [this]; rfl
theorem V37 (xs : List St) (p : St -> Bool) (g : Nat) (caps : List PV) (hE : Ent Tryz.prog g) (hC : Cl caps) (hl : xs.length <= 9223372036854775807) (hg : ∀ x ∈ xs, jAB Tryz.prog G0 g (.str x :: caps) (.bool (p x))) :
  jAB Tryz.prog G0 37 [txL xs, .fn g [] caps] (.int .i64 (kD2 p xs)) := by
 refine jAB.jAT Tryz.func37 k37 mix (by simp [c37]) ?_
 simp only [c37, L37, CC, jBW]
 have hv := hC.view
 have hs := hC.seen
 have hlen : ((xs.map PV.str).length : Nat) = xs.length := by simp
 repeat' (first | exact clo | (refine sqI ?_; intros) | refine stp ?_ | (refine cnd rfl ?_ ?_ <;> intro hcond <;> (try contradiction) <;> try simp only [DD] at hcond) | (refine jAG ?_; intro hg; try simp only [hg]) | (refine saI ?_ ?_; intros) | (refine ari ?_; first | omega | (simp only [DD, LL] <;> omega) | (go_unwrap; omega) | (simp only [DD] at hg; omega)) | (refine stq ?_; focus (simp only [hlen, SA, reduceAdd, reduceIte, reduceEqDiff, Nat.reduceBEq, reduceCtorEq]; (try go_unwrap; try simp only [hlen, RR, reduceCtorEq]))) | refine And.intro ?_ ?_)
 refine PW.loop (σ := Nat) [0, 1, 4, 7, 8] (fun i => [txL xs, .fn g [] caps, .int .i64 0, .int .i64 xs.length, .int .i64 i]) (fun _ => []) (fun i => i <= xs.length ∧ ∀ j (h : j < xs.length), j < i -> p xs[j] = false) (fun i => xs.length - i) 0 ?_ rfl ⟨by omega, fun j _ h => by omega⟩ ?_
 ·simp only [SA, reduceAdd, reduceIte, reduceEqDiff, Nat.reduceBEq, reduceCtorEq]; rfl
 rintro i ⟨hi, hall⟩
 simp only [List.zip_cons_cons, List.zip_nil_left]
 rcases Nat.lt_or_ge i xs.length with h | h
 ·have hd : decide ((i : Int) < xs.length) = true := by simp only [decide_eq_true_eq]; omega
  have hgt := jD9 xs i h
  have hgx := hg xs[i] (List.getElem_mem h)
  have hat : p xs[i] = true -> kD2 p xs = i := fun hp => kCF h hp hall
  have hnx : p xs[i] = false -> ∀ j (h : j < xs.length), j < i + 1 -> p xs[j] = false := fun hp j hj hji => by
   rcases Nat.lt_or_ge j i with h' | h'
   ·exact hall j hj h'
   ·obtain rfl : j = i := by omega
    exact hp
  generalize xs[i] = x at hgt hgx hat hnx
  generalize p x = b at hgx hat hnx
  cases b
  ·repeat' (first | exact clo | (refine sqI ?_; intros) | refine stp ?_ | (refine cnd rfl ?_ ?_ <;> intro hcond <;> (try contradiction) <;> try simp only [DD] at hcond) | (refine jAG ?_; intro hg; try simp only [hg]) | refine jAA hE (hgx) ?_ ?_ ?_ ?_ | (refine saI ?_ ?_; intros) | (refine ari ?_; first | omega | (simp only [DD, LL] <;> omega) | (go_unwrap; omega) | (simp only [DD] at hg; omega)) | (refine stq ?_; focus (simp only [hd, hgt, hlen, hv, hs, List.nil_append, List.cons_append, List.all_cons, SA, reduceAdd, reduceIte, reduceEqDiff, Nat.reduceBEq, reduceCtorEq]; (try go_unwrap; try simp only [hd, hgt, hlen, hv, hs, List.nil_append, List.cons_append, List.all_cons, RR, reduceCtorEq]))) | refine And.intro ?_ ?_)
   all_goals exact ⟨i + 1, rfl, ⟨by omega, hnx (by first | rfl | trivial)⟩, by omega⟩
  ·have := hat rfl
   repeat' (first | exact clo | (refine sqI ?_; intros) | refine stp ?_ | (refine cnd rfl ?_ ?_ <;> intro hcond <;> (try contradiction) <;> try simp only [DD] at hcond) | (refine jAG ?_; intro hg; try simp only [hg]) | refine jAA hE (hgx) ?_ ?_ ?_ ?_ | (refine saI ?_ ?_; intros) | (refine ari ?_; first | omega | (simp only [DD, LL] <;> omega) | (go_unwrap; omega) | (simp only [DD] at hg; omega)) | (refine stq ?_; focus (simp only [hd, hgt, hlen, hv, hs, List.nil_append, List.cons_append, List.all_cons, SA, reduceAdd, reduceIte, reduceEqDiff, Nat.reduceBEq, reduceCtorEq]; (try go_unwrap; try simp only [hd, hgt, hlen, hv, hs, List.nil_append, List.cons_append, List.all_cons, RR, reduceCtorEq]))) | refine And.intro ?_ ?_)
   all_goals (rw [this])
 ·have hd : decide ((i : Int) < xs.length) = false := by simp only [decide_eq_false_iff_not]; omega
  have := jR6 (p := p) (xs := xs) (fun j hj => hall j hj (by omega))
  repeat' (first | exact clo | (refine sqI ?_; intros) | refine stp ?_ | (refine cnd rfl ?_ ?_ <;> intro hcond <;> (try contradiction) <;> try simp only [DD] at hcond) | (refine jAG ?_; intro hg; try simp only [hg]) | (refine saI ?_ ?_; intros) | (refine ari ?_; first | omega | (simp only [DD, LL] <;> omega) | (go_unwrap; omega) | (simp only [DD] at hg; omega)) | (refine stq ?_; focus (simp only [hd, hlen, SA, reduceAdd, reduceIte, reduceEqDiff, Nat.reduceBEq, reduceCtorEq]; (try go_unwrap; try simp only [hd, hlen, RR, reduceCtorEq]))) | refine And.intro ?_ ?_)
  all_goals (rw [this])
theorem V39 (xs : List St) (p : St -> Bool) (g : Nat) (caps : List PV) (hE : Ent Tryz.prog g) (hC : Cl caps) (hl : xs.length <= 9223372036854775807) (hg : ∀ x ∈ xs, jAB Tryz.prog G0 g (.str x :: caps) (.bool (p x))) :
  jAB Tryz.prog G0 39 [txL xs, .fn g [] caps] (.bool (xs.any p)) := by
 refine jAB.jAT Tryz.func39 k39 mix (by simp [c39]) ?_
 simp only [c39, L39, CC, jBW]
 have hv := hC.view
 have hs := hC.seen
 have h41 := V37 xs p g caps hE hC hl hg
 rw [<- kE8]
 repeat' (first | exact clo | (refine sqI ?_; intros) | refine stp ?_ | (refine cnd rfl ?_ ?_ <;> intro hcond <;> (try contradiction) <;> try simp only [DD] at hcond) | (refine jAG ?_; intro hg; try simp only [hg]) | refine jAA E37 (h41) ?_ ?_ ?_ ?_ | (refine saI ?_ ?_; intros) | (refine ari ?_; first | omega | (simp only [DD, LL] <;> omega) | (go_unwrap; omega) | (simp only [DD] at hg; omega)) | (refine stq ?_; focus (simp only [hv, hs, SA, reduceAdd, reduceIte, reduceEqDiff, Nat.reduceBEq, reduceCtorEq]; (try go_unwrap; try simp only [hv, hs, RR, reduceCtorEq]))) | refine And.intro ?_ ?_)
theorem cl0 : Cl [] := ⟨fun _ => rfl, fun _ => rfl⟩
theorem V58 (s : St) : jAB Tryz.prog G0 58 [.str s] (.bool (jH1 s)) := by
 refine jAB.jAT Tryz.func58 k58 mix (by simp [c58]) ?_
 simp only [c58, L58, CC, jBW]
 by_cases h : s = []
 ·have d1 : decide (s = []) = true := by simpa using h
  have : jH1 s = false := by unfold jH1; rw [d1]; rfl
  rw [this]
  repeat' (first | exact clo | (refine sqI ?_; intros) | refine stp ?_ | (refine cnd rfl ?_ ?_ <;> intro hcond <;> (try contradiction) <;> try simp only [DD] at hcond) | (refine jAG ?_; intro hg; try simp only [hg]) | (refine saI ?_ ?_; intros) | (refine ari ?_; first | omega | (simp only [DD, LL] <;> omega) | (go_unwrap; omega) | (simp only [DD] at hg; omega)) | (refine stq ?_; focus (simp only [d1, SA, reduceAdd, reduceIte, reduceEqDiff, Nat.reduceBEq, reduceCtorEq]; (try go_unwrap; try simp only [d1, RR, reduceCtorEq]))) | refine And.intro ?_ ?_)
 ·have d1 : decide (s = []) = false := by simpa using h
  have : jH1 s = decide ((s.length : Int) <= 32) := by unfold jH1; rw [d1]; simp; omega
  rw [this]
  repeat' (first | exact clo | (refine sqI ?_; intros) | refine stp ?_ | (refine cnd rfl ?_ ?_ <;> intro hcond <;> (try contradiction) <;> try simp only [DD] at hcond) | (refine jAG ?_; intro hg; try simp only [hg]) | (refine saI ?_ ?_; intros) | (refine ari ?_; first | omega | (simp only [DD, LL] <;> omega) | (go_unwrap; omega) | (simp only [DD] at hg; omega)) | (refine stq ?_; focus (simp only [d1, SA, reduceAdd, reduceIte, reduceEqDiff, Nat.reduceBEq, reduceCtorEq]; (try go_unwrap; try simp only [d1, RR, reduceCtorEq]))) | refine And.intro ?_ ?_)
theorem V59 (s : St) : jAB Tryz.prog G0 59 [.str s] (.bool (!jH1 s)) := by
 refine jAB.jAT Tryz.func59 k59 mix (by simp [c59]) ?_
 simp only [c59, L59, CC, jBW]
 have h47 := V58 s
 repeat' (first | exact clo | (refine sqI ?_; intros) | refine stp ?_ | (refine cnd rfl ?_ ?_ <;> intro hcond <;> (try contradiction) <;> try simp only [DD] at hcond) | (refine jAG ?_; intro hg; try simp only [hg]) | refine jAA E58 (h47) ?_ ?_ ?_ ?_ | (refine saI ?_ ?_; intros) | (refine ari ?_; first | omega | (simp only [DD, LL] <;> omega) | (go_unwrap; omega) | (simp only [DD] at hg; omega)) | (refine stq ?_; focus (simp only [SA, reduceAdd, reduceIte, reduceEqDiff, Nat.reduceBEq, reduceCtorEq]; (try go_unwrap; try simp only [RR, reduceCtorEq]))) | refine And.intro ?_ ?_)
theorem kPF {a b : List St} (hl : a.length = b.length) (h : ∀ j (h : j < a.length) (h' : j < b.length), a[j] = b[j]) : a = b := List.ext_getElem hl fun i h1 h2 => h i h1 h2
abbrev jDE : Int -> PV := PV.int .i64
abbrev jH7 : List St -> PV := fun l => .list none (l.map PV.str)
theorem jZH (seen : List St) (l : List Ed) (i : Nat) (h : i < l.length) : jDM seen (l.drop i) = if jH1 l[i].name = false then 12 else if 64 < l[i].needs.length then 5 else if l[i].needs.all jH1 = false then 12 else if l[i].name ∈ seen then 7 else jDM (seen ++ [l[i].name]) (l.drop (i + 1)) := by
 rw [List.drop_eq_getElem_cons h]; rfl
def jIZ (seen : List St) : List (St × Int) := seen.map fun s => (s, 1)
theorem kEX (seen : List St) (s : St) : (jCA (jIZ seen) s).getD 0 = if s ∈ seen then 1 else 0 := by
 induction seen with
 | nil => rfl
 | cons x l ih =>
  simp only [jIZ, List.map_cons, jCA] at ih ⊢
  by_cases h : x = s
  ·simp [h]
  ·simp only [h, if_false]
   rw [ih]
   have : (s ∈ x :: l) ↔ s ∈ l := by simp [Ne.symm h]
   simp only [this]
theorem jVN {seen : List St} {s : St} (h : s ∉ seen) : jIN (jIZ seen) s 1 = jIZ (seen ++ [s]) := by
 induction seen with
 | nil => rfl
 | cons x l ih =>
  have h1 : x ≠ s := fun e => h (by simp [e])
  have h2 : s ∉ l := fun e => h (by simp [e])
  simp only [jIZ, List.map_cons, jIN, List.cons_append, h1, if_false] at ih ⊢
  rw [ih h2]
theorem V33 (l : List Ed) (hl : l.length <= 9223372036854775807) (hnl : ∀ e ∈ l, e.needs.length <= 9223372036854775807) : jAB Tryz.prog G0 33 [edL l] (.int .i64 (jAN l)) := by
 refine jAB.jAT Tryz.func33 k33 mix (by simp [c33]) ?_
 simp only [c33, L33, CC, jBW]
 have hlen : ((l.map edP).length : Nat) = l.length := by simp
 by_cases h64 : 64 < l.length
 ·have d1 : decide ((64 : Int) < l.length) = true := by simp only [decide_eq_true_eq]; omega
  have hX : jAN l = 5 := by unfold jAN; rw [if_pos h64]
  repeat' (first | exact clo | (refine sqI ?_; intros) | refine stp ?_ | (refine cnd rfl ?_ ?_ <;> intro hcond <;> (try contradiction) <;> try simp only [DD] at hcond) | (refine jAG ?_; intro hg; try simp only [hg]) | (refine saI ?_ ?_; intros) | (refine ari ?_; first | omega | (simp only [DD, LL] <;> omega) | (go_unwrap; omega) | (simp only [DD] at hg; omega)) | (refine stq ?_; focus (simp only [hlen, d1, SA, reduceAdd, reduceIte, reduceEqDiff, Nat.reduceBEq, reduceCtorEq]; (try go_unwrap; try simp only [hlen, d1, RR, reduceCtorEq]))) | refine And.intro ?_ ?_)
  all_goals (rw [hX])
 have d1 : decide ((64 : Int) < l.length) = false := by simp only [decide_eq_false_iff_not]; omega
 have hX : jAN l = jDM [] l := by unfold jAN; rw [if_neg h64]
 repeat' (first | exact clo | (refine sqI ?_; intros) | refine stp ?_ | (refine cnd rfl ?_ ?_ <;> intro hcond <;> (try contradiction) <;> try simp only [DD] at hcond) | (refine jAG ?_; intro hg; try simp only [hg]) | (refine saI ?_ ?_; intros) | (refine ari ?_; first | omega | (simp only [DD, LL] <;> omega) | (go_unwrap; omega) | (simp only [DD] at hg; omega)) | (refine stq ?_; focus (simp only [hlen, d1, SA, reduceAdd, reduceIte, reduceEqDiff, Nat.reduceBEq, reduceCtorEq]; (try go_unwrap; try simp only [hlen, d1, RR, reduceCtorEq]))) | refine And.intro ?_ ?_)
 refine PW.jDV (σ := Nat) 1 (fun _ _ => rfl) [2, 3, 10, 11, 12] (fun i => [.int .i64 0, .mref 0, edL l, .int .i64 l.length, .int .i64 i])
  (fun i => [some (.mp .str (jB4 jDE (jIZ ((l.take i).map (·.name)))))]) (fun i => i <= l.length ∧ jDM [] l = jDM ((l.take i).map (·.name)) (l.drop i)) (fun i => l.length - i) 0 ?_ rfl ⟨by omega, rfl⟩ ?_
 ·simp only [SA, reduceAdd, reduceIte, reduceEqDiff, Nat.reduceBEq, reduceCtorEq]; rfl
 rintro i ⟨hi, hw⟩
 simp only [List.zip_cons_cons, List.zip_nil_left]
 rcases Nat.lt_or_ge i l.length with h | h
 case inr =>
  have hd : decide ((i : Int) < l.length) = false := by simp only [decide_eq_false_iff_not]; omega
  rw [List.drop_of_length_le h] at hw
  have hw : jDM [] l = 0 := hw
  repeat' (first | exact clo | (refine sqI ?_; intros) | refine stp ?_ | (refine cnd rfl ?_ ?_ <;> intro hcond <;> (try contradiction) <;> try simp only [DD] at hcond) | (refine jAG ?_; intro hg; try simp only [hg]) | (refine saI ?_ ?_; intros) | (refine ari ?_; first | omega | (simp only [DD, LL] <;> omega) | (go_unwrap; omega) | (simp only [DD] at hg; omega)) | (refine stq ?_; focus (simp only [hd, hlen, SA, reduceAdd, reduceIte, reduceEqDiff, Nat.reduceBEq, reduceCtorEq]; (try go_unwrap; try simp only [hd, hlen, RR, reduceCtorEq]))) | refine And.intro ?_ ?_)
  all_goals (rw [hX, hw])
 have hd : decide ((i : Int) < l.length) = true := by simp only [decide_eq_true_eq]; omega
 have hg := jT6 l i h
 have hne := hnl l[i] (List.getElem_mem h)
 rw [jZH _ _ _ h] at hw
 have ht : (l.take (i + 1)).map (·.name) = (l.take i).map (·.name) ++ [l[i].name] := by rw [List.take_succ_eq_append_getElem h, List.map_append]; rfl
 generalize l[i] = e at hg hne hw ht
 generalize (l.take i).map (·.name) = seen at hw ht
 simp only [edP] at hg
 have h47 := V58 e.name
 have hnl : ((e.needs.map PV.str).length : Nat) = e.needs.length := by simp
 by_cases c1 : jH1 e.name = true
 case neg =>
  have c1 : jH1 e.name = false := by simpa using c1
  rw [if_pos c1] at hw
  rw [c1] at h47
  repeat' (first | exact clo | (refine sqI ?_; intros) | refine stp ?_ | (refine cnd rfl ?_ ?_ <;> intro hcond <;> (try contradiction) <;> try simp only [DD] at hcond) | (refine jAG ?_; intro hg; try simp only [hg]) | refine jAA E58 (h47) ?_ ?_ ?_ ?_ | (refine saI ?_ ?_; intros) | (refine ari ?_; first | omega | (simp only [DD, LL] <;> omega) | (go_unwrap; omega) | (simp only [DD] at hg; omega)) | (refine stq ?_; focus (simp only [hd, hg, hlen, SA, reduceAdd, reduceIte, reduceEqDiff, Nat.reduceBEq, reduceCtorEq]; (try go_unwrap; try simp only [hd, hg, hlen, RR, reduceCtorEq]))) | refine And.intro ?_ ?_)
  all_goals (rw [hX, hw])
 rw [if_neg (by simp [c1])] at hw
 rw [c1] at h47
 by_cases c2 : 64 < e.needs.length
 ·rw [if_pos c2] at hw
  have d2 : decide ((64 : Int) < e.needs.length) = true := by simp only [decide_eq_true_eq]; omega
  repeat' (first | exact clo | (refine sqI ?_; intros) | refine stp ?_ | (refine cnd rfl ?_ ?_ <;> intro hcond <;> (try contradiction) <;> try simp only [DD] at hcond) | (refine jAG ?_; intro hg; try simp only [hg]) | refine jAA E58 (h47) ?_ ?_ ?_ ?_ | (refine saI ?_ ?_; intros) | (refine ari ?_; first | omega | (simp only [DD, LL] <;> omega) | (go_unwrap; omega) | (simp only [DD] at hg; omega)) | (refine stq ?_; focus (simp only [hd, hg, hlen, hnl, d2, SA, reduceAdd, reduceIte, reduceEqDiff, Nat.reduceBEq, reduceCtorEq]; (try go_unwrap; try simp only [hd, hg, hlen, hnl, d2, RR, reduceCtorEq]))) | refine And.intro ?_ ?_)
  all_goals (rw [hX, hw])
 rw [if_neg c2] at hw
 have d2 : decide ((64 : Int) < e.needs.length) = false := by simp only [decide_eq_false_iff_not]; omega
 have h43 := V39 e.needs (fun s => !jH1 s) 59 [] E59 cl0 hne (fun x _ => V59 x)
 have hany : (e.needs.any fun s => !jH1 s) = !(e.needs.all jH1) := by rw [List.not_all_eq_any_not]
 rw [hany] at h43
 by_cases c3 : e.needs.all jH1 = true
 case neg =>
  have c3 : e.needs.all jH1 = false := by simpa using c3
  rw [if_pos c3] at hw
  rw [c3] at h43
  repeat' (first | exact clo | (refine sqI ?_; intros) | refine stp ?_ | (refine cnd rfl ?_ ?_ <;> intro hcond <;> (try contradiction) <;> try simp only [DD] at hcond) | (refine jAG ?_; intro hg; try simp only [hg]) | refine jAA E58 (h47) ?_ ?_ ?_ ?_ | refine jAA E39 (h43) ?_ ?_ ?_ ?_ | (refine saI ?_ ?_; intros) | (refine ari ?_; first | omega | (simp only [DD, LL] <;> omega) | (go_unwrap; omega) | (simp only [DD] at hg; omega)) | (refine stq ?_; focus (simp only [hd, hg, hlen, hnl, d2, SA, reduceAdd, reduceIte, reduceEqDiff, Nat.reduceBEq, reduceCtorEq]; (try go_unwrap; try simp only [hd, hg, hlen, hnl, d2, RR, reduceCtorEq]))) | refine And.intro ?_ ?_)
  all_goals (rw [hX, hw])
 rw [if_neg (by simp [c3])] at hw
 rw [c3] at h43
 have g1 : (jFK (jB4 jDE (jIZ seen)) (.str e.name)).getD (.int .i64 0) = .int .i64 (if e.name ∈ seen then 1 else 0) := by rw [jCR]; rw [<- kEX]; exact getD_map jDE _ 0
 by_cases c4 : e.name ∈ seen
 ·rw [if_pos c4] at hw g1
  have s1 : jF7 (jB4 jDE (jIZ seen)) (.str e.name) (.int .i64 2) = jB4 jDE (jIN (jIZ seen) e.name 2) := jD2 jDE _ _ _
  have g2 : (jFK (jB4 jDE (jIN (jIZ seen) e.name 2)) (.str e.name)).getD (.int .i64 0) = .int .i64 2 := by rw [jCR, jDT, if_pos rfl]; rfl
  have w1 : IntKind.i64.wrap (1 + 1) = 2 := rfl
  repeat' (first | exact clo | (refine sqI ?_; intros) | refine stp ?_ | (refine cnd rfl ?_ ?_ <;> intro hcond <;> (try contradiction) <;> try simp only [DD] at hcond) | (refine jAG ?_; intro hg; try simp only [hg]) | refine jAA E58 (h47) ?_ ?_ ?_ ?_ | refine jAA E39 (h43) ?_ ?_ ?_ ?_ | (refine saI ?_ ?_; intros) | (refine ari ?_; first | omega | (simp only [DD, LL] <;> omega) | (go_unwrap; omega) | (simp only [DD] at hg; omega)) | (refine stq ?_; focus (simp only [hd, hg, hlen, hnl, d2, g1, s1, g2, w1, SA, reduceAdd, reduceIte, reduceEqDiff, Nat.reduceBEq, reduceCtorEq]; (try go_unwrap; try simp only [hd, hg, hlen, hnl, d2, g1, s1, g2, w1, RR, reduceCtorEq]))) | refine And.intro ?_ ?_)
  all_goals first | rfl | (rw [hX, hw])
 ·rw [if_neg c4] at hw g1
  have s1 : jF7 (jB4 jDE (jIZ seen)) (.str e.name) (.int .i64 1) = jB4 jDE (jIZ (seen ++ [e.name])) := by rw [<- jVN c4]; exact jD2 jDE _ _ _
  have g2 : (jFK (jB4 jDE (jIZ (seen ++ [e.name]))) (.str e.name)).getD (.int .i64 0) = .int .i64 1 := by rw [jCR, <- jVN c4, jDT, if_pos rfl]; rfl
  have w1 : IntKind.i64.wrap (0 + 1) = 1 := rfl
  rw [<- ht] at hw
  repeat' (first | exact clo | (refine sqI ?_; intros) | refine stp ?_ | (refine cnd rfl ?_ ?_ <;> intro hcond <;> (try contradiction) <;> try simp only [DD] at hcond) | (refine jAG ?_; intro hg; try simp only [hg]) | refine jAA E58 (h47) ?_ ?_ ?_ ?_ | refine jAA E39 (h43) ?_ ?_ ?_ ?_ | (refine saI ?_ ?_; intros) | (refine ari ?_; first | omega | (simp only [DD, LL] <;> omega) | (go_unwrap; omega) | (simp only [DD] at hg; omega)) | (refine stq ?_; focus (simp only [hd, hg, hlen, hnl, d2, g1, s1, g2, w1, SA, reduceAdd, reduceIte, reduceEqDiff, Nat.reduceBEq, reduceCtorEq]; (try go_unwrap; try simp only [hd, hg, hlen, hnl, d2, g1, s1, g2, w1, RR, reduceCtorEq]))) | refine And.intro ?_ ?_)
  all_goals first | rfl | exact ⟨i + 1, (by first | rfl | (simp only [TT, jAF.kill, PV.kill, Nat.reduceLeDiff, reduceIte, Nat.le_refl, Nat.zero_le, Nat.not_le, Nat.lt_irrefl]; done) | (simp [jBE, jAZ, jAF.kill, PV.kill]; done)), (by rw [ht]; simp [jAZ, jAF.kill]), ⟨by omega, hw⟩, by omega⟩
def jGM (l : List Ed) : List (St × List St) := l.foldl (fun m e => jIN m e.name e.needs) []
theorem kEK (l : List Ed) (e : Ed) : jGM (l ++ [e]) = jIN (jGM l) e.name e.needs := by simp [jGM]
theorem jOL (l : List Ed) (i : Nat) (h : i < l.length) : jGM (l.take (i + 1)) = jIN (jGM (l.take i)) l[i].name l[i].needs := by
 rw [List.take_succ_eq_append_getElem h, kEK]
theorem V32 (l : List Ed) (hl : l.length <= 9223372036854775807) : jAB Tryz.prog G0 32 [edL l] (.jC9 .str (jB4 jH7 (jGM l))) := by
 refine jAB.jAT Tryz.func32 k32 mix (by simp [c32]) ?_
 simp only [c32, L32, CC, jBW]
 have hlen : ((l.map edP).length : Nat) = l.length := by simp
 repeat' (first | exact clo | (refine sqI ?_; intros) | refine stp ?_ | (refine cnd rfl ?_ ?_ <;> intro hcond <;> (try contradiction) <;> try simp only [DD] at hcond) | (refine jAG ?_; intro hg; try simp only [hg]) | (refine saI ?_ ?_; intros) | (refine ari ?_; first | omega | (simp only [DD, LL] <;> omega) | (go_unwrap; omega) | (simp only [DD] at hg; omega)) | (refine stq ?_; focus (simp only [hlen, SA, reduceAdd, reduceIte, reduceEqDiff, Nat.reduceBEq, reduceCtorEq]; (try go_unwrap; try simp only [hlen, RR, reduceCtorEq]))) | refine And.intro ?_ ?_)
 refine PW.jDV (σ := Nat) 1 (fun _ _ => rfl) [3, 7, 8, 9] (fun i => [.mref 0, edL l, .int .i64 l.length, .int .i64 i])
  (fun i => [some (.mp .str (jB4 jH7 (jGM (l.take i))))]) (fun i => i <= l.length) (fun i => l.length - i) 0 ?_ rfl (by omega) ?_
 ·simp only [SA, reduceAdd, reduceIte, reduceEqDiff, Nat.reduceBEq, reduceCtorEq]; rfl
 rintro i hi
 simp only [List.zip_cons_cons, List.zip_nil_left]
 rcases Nat.lt_or_ge i l.length with h | h
 ·have hd : decide ((i : Int) < l.length) = true := by simp only [decide_eq_true_eq]; omega
  have hg := jT6 l i h
  have ht := jOL l i h
  generalize l[i] = e at hg ht
  generalize jGM (l.take i) = m at ht
  simp only [edP] at hg
  have s1 : jF7 (jB4 jH7 m) (.str e.name) (.list none (e.needs.map PV.str)) = jB4 jH7 (jIN m e.name e.needs) := jD2 jH7 m e.name e.needs
  repeat' (first | exact clo | (refine sqI ?_; intros) | refine stp ?_ | (refine cnd rfl ?_ ?_ <;> intro hcond <;> (try contradiction) <;> try simp only [DD] at hcond) | (refine jAG ?_; intro hg; try simp only [hg]) | (refine saI ?_ ?_; intros) | (refine ari ?_; first | omega | (simp only [DD, LL] <;> omega) | (go_unwrap; omega) | (simp only [DD] at hg; omega)) | (refine stq ?_; focus (simp only [hd, hg, hlen, s1, SA, reduceAdd, reduceIte, reduceEqDiff, Nat.reduceBEq, reduceCtorEq]; (try go_unwrap; try simp only [hd, hg, hlen, s1, RR, reduceCtorEq]))) | refine And.intro ?_ ?_)
  all_goals first | rfl | exact ⟨i + 1, (by first | rfl | (simp only [TT, jAF.kill, PV.kill, Nat.reduceLeDiff, reduceIte, Nat.le_refl, Nat.zero_le, Nat.not_le, Nat.lt_irrefl]; done) | (simp [jBE, jAZ, jAF.kill, PV.kill]; done)), (by rw [ht]; simp [jAZ, jAF.kill]), by omega, by omega⟩
 ·have hd : decide ((i : Int) < l.length) = false := by simp only [decide_eq_false_iff_not]; omega
  have hi' : i = l.length := by omega
  subst hi'
  rw [List.take_length]
  repeat' (first | exact clo | (refine sqI ?_; intros) | refine stp ?_ | (refine cnd rfl ?_ ?_ <;> intro hcond <;> (try contradiction) <;> try simp only [DD] at hcond) | (refine jAG ?_; intro hg; try simp only [hg]) | (refine saI ?_ ?_; intros) | (refine ari ?_; first | omega | (simp only [DD, LL] <;> omega) | (go_unwrap; omega) | (simp only [DD] at hg; omega)) | (refine stq ?_; focus (simp only [hd, hlen, SA, reduceAdd, reduceIte, reduceEqDiff, Nat.reduceBEq, reduceCtorEq]; (try go_unwrap; try simp only [hd, hlen, RR, reduceCtorEq]))) | refine And.intro ?_ ?_)
end Go.Proofs.YthjkmhfiffojeaaGreatDoor
