import Derived.Test.YtjcoenideicmbaaQ5
import Derived.Test.YtjcoenideicmbaaP4
namespace Go.Proofs.Ytjcoenideicmbaa
open Go PG Go.Proofs
set_option linter.unusedSimpArgs false
set_option linter.unusedVariables false
set_option maxHeartbeats 4000000
set_option maxRecDepth 100000
/-! Rules by name -/
def isR (nm : List UInt8) (k : Kn) : Bool := decide (k.kind = 14) && decide (k.code = nm)
def fil (nm : List UInt8) (l : List Kn) : List Kn := l.filter (isR nm)
theorem fil_snoc (nm : List UInt8) (l : List Kn) (k : Kn) : fil nm (l ++ [k]) = fil nm l ++ (if isR nm k = true then [k] else []) := by
  unfold fil; rw [List.filter_append]; congr 1; by_cases h : isR nm k = true <;> simp [h]
theorem fil_len (nm : List UInt8) (l : List Kn) : (fil nm l).length ≤ l.length := List.length_filter_le _ _
/-- The rows so far: names, and where their rows lie. -/
abbrev Tb := List (List UInt8 × Nat)
def slV (l : List Kn) (q : List UInt8 × Nat) : PV := .sl (some 9) q.2 (fil q.1 l).length
def entV (l : List Kn) (T : Tb) : List (PV × PV) := T.map fun q => (.str q.1, slV l q)
def rowV (l : List Kn) (nm : List UInt8) : MObj := .row (some 9) ((fil nm l).map knP)
structure OfI (l : List Kn) (T : Tb) (R : Mem) : Prop where
  names : (T.map (·.1)).Nodup
  tags : (T.map (·.2)).Nodup
  rows : ∀ q ∈ T, 2 ≤ q.2 ∧ R[q.2 - 2]? = some (some (rowV l q.1))
  only : ∀ o ∈ R, o = none ∨ ∃ xs, o = some (.row (some 9) xs)
  all : ∀ k ∈ l, k.kind = 14 → ∃ t, (k.code, t) ∈ T
  ne : ∀ q ∈ T, fil q.1 l ≠ []
theorem get2 (v m : Option MObj) (R : Mem) (t : Nat) (h : 2 ≤ t) : Mem.get (v :: m :: R) t = (R[t - 2]?).join := by
  obtain ⟨n, rfl⟩ : ∃ n, t = n + 2 := ⟨t - 2, by omega⟩
  simp [Mem.get]
theorem set2 (v m x : Option MObj) (R : Mem) (t : Nat) (h : 2 ≤ t) : (v :: m :: R).set t x = v :: m :: R.set (t - 2) x := by
  obtain ⟨n, rfl⟩ : ∃ n, t = n + 2 := ⟨t - 2, by omega⟩
  simp
theorem mget_ent (l : List Kn) : ∀ {T : Tb} (nm : List UInt8), mget (entV l T) (.str nm) = (aget T nm).map fun t => slV l (nm, t)
  | [], nm => rfl
  | q :: T, nm => by
    have ih := mget_ent l (T := T) nm
    unfold mget at ih ⊢
    simp only [entV, List.map_cons, mfind, keyEq_str, aget]
    by_cases h : q.1 = nm
    · subst h; simp
    · simp only [h, decide_false, Bool.false_eq_true, if_false, Option.map_map]
      rw [← ih]
      rfl
theorem aget_mem : ∀ {T : Tb} {nm : List UInt8} {t : Nat}, aget T nm = some t → (nm, t) ∈ T
  | q :: T, nm, t, h => by
    simp only [aget] at h
    by_cases hq : q.1 = nm
    · subst hq; simp at h; subst h; simp
    · simp only [hq, if_false] at h; exact List.mem_cons_of_mem _ (aget_mem h)
theorem aget_none : ∀ {T : Tb} {nm : List UInt8}, aget T nm = none → ∀ q ∈ T, q.1 ≠ nm
  | q :: T, nm, h, q', hq' => by
    simp only [aget] at h
    by_cases hq : q.1 = nm
    · simp [hq] at h
    · simp only [hq, if_false] at h
      rcases List.mem_cons.1 hq' with rfl | hq'
      · exact hq
      · exact aget_none h q' hq'
theorem memS' (v m : Option MObj) (R : Mem) (o o' : Option MObj) : (v :: m :: (R ++ [o])).set (R.length + 1 + 1) o' = v :: m :: (R ++ [o']) := by
  rw [set2 _ _ _ _ _ (by omega)]; simp
theorem OfI.lt {l : List Kn} {T : Tb} {R : Mem} (h : OfI l T R) {q : List UInt8 × Nat} (hq : q ∈ T) : 2 ≤ q.2 ∧ q.2 < R.length + 2 := by
  obtain ⟨h1, h2⟩ := h.rows q hq
  have := (List.getElem?_eq_some_iff.1 h2).1
  omega
theorem OfI.frz {l : List Kn} {T : Tb} {R : Mem} (h : OfI l T R) (o x : MObj) :
    frzMem (R.length + 1 + 1) o (some (.var (some 1) (.agg [.nilMap])) :: some (.mpo .str (entV l T)) :: (R ++ [some x])) = some (.var (some 1) (.agg [.nilMap])) :: some (.mpo .str (entV l T)) :: (R ++ [none]) := by
  unfold frzMem
  simp only [List.map_cons, List.map_append, List.map_nil, Option.map_some, MObj.frz, PV.frz]
  have hR : R.map (Option.map (MObj.frz (R.length + 1 + 1) o)) = R := by
    refine (List.map_congr_left fun y hy => ?_).trans (List.map_id R)
    rcases h.only y hy with rfl | ⟨xs, rfl⟩ <;> rfl
  have hE : (entV l T).map (fun q => (q.1, q.2.frz (R.length + 1 + 1) o)) = entV l T := by
    unfold entV
    rw [List.map_map]
    refine List.map_congr_left fun q hq => ?_
    have := h.lt hq
    simp only [Function.comp_apply, slV, PV.frz]
    rw [if_neg (by omega)]
  have : ∀ A : Mem, A.length = R.length → ∀ (a b y z : Option MObj), (a :: b :: (A ++ [y])).set (R.length + 1 + 1) z = a :: b :: (A ++ [z]) := by
    intro A hA a b y z; rw [← hA]; exact memS' a b A y z
  rw [hR, hE, this R rfl]
theorem nd_inj {α β : Type} {f : α → β} : ∀ {T : List α}, (T.map f).Nodup → ∀ {q q' : α}, q ∈ T → q' ∈ T → f q = f q' → q = q'
  | x :: T, hn, q, q', h1, h2, he => by
    simp only [List.map_cons, List.nodup_cons] at hn
    rcases List.mem_cons.1 h1 with e1 | m1
    · rcases List.mem_cons.1 h2 with e2 | m2
      · rw [e1, e2]
      · exact absurd (List.mem_map.2 ⟨q', m2, by rw [← he, e1]⟩) hn.1
    · rcases List.mem_cons.1 h2 with e2 | m2
      · exact absurd (List.mem_map.2 ⟨q, m1, by rw [he, e2]⟩) hn.1
      · exact nd_inj hn.2 m1 m2 he
theorem mset_ent {α : Type} {f g : List UInt8 × α → PV} {nm : List UInt8} {v : PV} : ∀ {T : List (List UInt8 × α)} {t : α}, (T.map (·.1)).Nodup → (nm, t) ∈ T → (∀ q ∈ T, q.1 ≠ nm → f q = g q) → v = g (nm, t) →
    mset (T.map fun q => (.str q.1, f q)) (.str nm) v = T.map fun q => (.str q.1, g q)
  | q :: T, t, hn, hm, hfg, hv => by
    simp only [List.map_cons, List.nodup_cons] at hn
    simp only [List.map_cons, mset, keyEq_str]
    by_cases hq : q.1 = nm
    · have hqe : q = (nm, t) := by
        rcases List.mem_cons.1 hm with h | h
        · exact h.symm
        · exact absurd (List.mem_map.2 ⟨(nm, t), h, hq.symm⟩) hn.1
      subst hqe
      simp only [decide_true, if_true]
      rw [hv]
      congr 1
      refine List.map_congr_left fun q' hq' => ?_
      rw [hfg q' (List.mem_cons_of_mem _ hq') (fun e => hn.1 (List.mem_map.2 ⟨q', hq', e⟩))]
    · simp only [hq, decide_false, Bool.false_eq_true, if_false]
      rw [hfg q (by simp) hq]
      congr 1
      refine mset_ent hn.2 ?_ (fun q' hq' hne => hfg q' (List.mem_cons_of_mem _ hq') hne) hv
      rcases List.mem_cons.1 hm with h | h
      · subst h; exact absurd rfl hq
      · exact h
theorem mset_new {α : Type} {f : List UInt8 × α → PV} {nm : List UInt8} {v : PV} : ∀ {T : List (List UInt8 × α)}, (∀ q ∈ T, q.1 ≠ nm) → mset (T.map fun q => (.str q.1, f q)) (.str nm) v = (T.map fun q => (.str q.1, f q)) ++ [(.str nm, v)]
  | [], _ => rfl
  | q :: T, h => by
    simp only [List.map_cons, mset, keyEq_str]
    have hq := h q (by simp)
    simp only [hq, decide_false, Bool.false_eq_true, if_false]
    rw [mset_new (fun q' hq' => h q' (List.mem_cons_of_mem _ hq'))]
    rfl
theorem fil_other {nm : List UInt8} {l : List Kn} {k : Kn} (h : k.code ≠ nm) : fil nm (l ++ [k]) = fil nm l := by
  rw [fil_snoc, if_neg (by simp [isR, h])]; simp
theorem fil_same {l : List Kn} {k : Kn} (h : k.kind = 14) : fil k.code (l ++ [k]) = fil k.code l ++ [k] := by
  rw [fil_snoc, if_pos (by simp [isR, h])]
theorem OfI.other {l : List Kn} {T : Tb} {R : Mem} (hI : OfI l T R) {k : Kn} (hk : ¬ k.kind = 14) : entV (l ++ [k]) T = entV l T ∧ OfI (l ++ [k]) T (R ++ [none]) := by
  have hne : ∀ nm, fil nm (l ++ [k]) = fil nm l := fun nm => by rw [fil_snoc, if_neg (by simp [isR, hk])]; simp
  refine ⟨by unfold entV slV; simp only [hne], hI.names, hI.tags, fun q hq => ?_, fun o ho => ?_, fun k' hk' hkk => ?_, fun q hq => ?_⟩
  · obtain ⟨a1, a2⟩ := hI.rows q hq
    refine ⟨a1, ?_⟩
    rw [List.getElem?_append_left (List.getElem?_eq_some_iff.1 a2).1, a2]
    unfold rowV; rw [hne]
  · rcases List.mem_append.1 ho with ho | ho
    · exact hI.only o ho
    · simp at ho; exact .inl ho
  · rcases List.mem_append.1 hk' with hk' | hk'
    · exact hI.all k' hk' hkk
    · simp at hk'; subst hk'; exact absurd hkk hk
  · rw [hne]; exact hI.ne q hq
theorem OfI.pad {l : List Kn} {T : Tb} {R : Mem} (hI : OfI l T R) : OfI l T (R ++ [none]) := by
  refine ⟨hI.names, hI.tags, fun q hq => ?_, fun o ho => ?_, hI.all, hI.ne⟩
  · obtain ⟨a1, a2⟩ := hI.rows q hq
    exact ⟨a1, by rw [List.getElem?_append_left (List.getElem?_eq_some_iff.1 a2).1, a2]⟩
  · rcases List.mem_append.1 ho with ho | ho
    · exact hI.only o ho
    · simp at ho; exact .inl ho
theorem OfI.fresh {l : List Kn} {T : Tb} {R : Mem} (hI : OfI l T R) {k : Kn} (hk : k.kind = 14) (hag : aget T k.code = none) :
    mset (entV l T) (.str k.code) (.sl (some 9) (R.length + 1 + 1) 1) = entV (l ++ [k]) (T ++ [(k.code, R.length + 1 + 1)]) ∧ OfI (l ++ [k]) (T ++ [(k.code, R.length + 1 + 1)]) (R ++ [some (.row (some 9) [knP k])]) := by
  have hno := aget_none hag
  have hf0 : fil k.code l = [] := by
    rcases List.eq_nil_or_concat (fil k.code l) with h | ⟨L, x, h⟩
    · exact h
    · exfalso
      have hx : x ∈ fil k.code l := by rw [h]; simp
      obtain ⟨h1, h2⟩ := List.mem_filter.1 hx
      simp only [isR, Bool.and_eq_true, decide_eq_true_eq] at h2
      obtain ⟨t, ht⟩ := hI.all x h1 h2.1
      exact hno _ ht h2.2
  have hfk : fil k.code (l ++ [k]) = [k] := by rw [fil_same hk, hf0]; rfl
  have hfo : ∀ q ∈ T, fil q.1 (l ++ [k]) = fil q.1 l := fun q hq => fil_other (fun e => hno q hq e.symm)
  refine ⟨?_, ?_, ?_, fun q hq => ?_, fun o ho => ?_, fun k' hk' hkk => ?_, fun q hq => ?_⟩
  · unfold entV
    rw [mset_new hno, List.map_append]
    congr 1
    · refine List.map_congr_left fun q hq => ?_
      simp only [slV, hfo q hq]
    · simp only [List.map_cons, List.map_nil, slV, hfk]; rfl
  · rw [List.map_append, List.nodup_append]
    refine ⟨hI.names, by simp, fun a ha b hb => ?_⟩
    simp at hb; subst hb
    obtain ⟨q, hq, rfl⟩ := List.mem_map.1 ha
    exact hno q hq
  · rw [List.map_append, List.nodup_append]
    refine ⟨hI.tags, by simp, fun a ha b hb => ?_⟩
    simp at hb; subst hb
    obtain ⟨q, hq, rfl⟩ := List.mem_map.1 ha
    have := hI.lt hq
    omega
  · rcases List.mem_append.1 hq with hq | hq
    · obtain ⟨a1, a2⟩ := hI.rows q hq
      refine ⟨a1, ?_⟩
      rw [List.getElem?_append_left (List.getElem?_eq_some_iff.1 a2).1, a2]
      unfold rowV; rw [hfo q hq]
    · simp at hq; subst hq
      refine ⟨by simp, ?_⟩
      simp only [Nat.add_sub_cancel, show R.length + 1 + 1 - 2 = R.length by omega]
      rw [List.getElem?_append_right (Nat.le_refl _)]
      simp only [Nat.sub_self, List.getElem?_cons_zero, rowV, hfk]; rfl
  · rcases List.mem_append.1 ho with ho | ho
    · exact hI.only o ho
    · simp at ho; exact .inr ⟨_, ho⟩
  · rcases List.mem_append.1 hk' with hk' | hk'
    · obtain ⟨t, ht⟩ := hI.all k' hk' hkk
      exact ⟨t, by simp [ht]⟩
    · simp at hk'; subst hk'
      exact ⟨_, by simp; exact .inr rfl⟩
  · rcases List.mem_append.1 hq with hq | hq
    · rw [hfo q hq]; exact hI.ne q hq
    · simp at hq; subst hq; rw [hfk]; simp
theorem OfI.kills {l : List Kn} {T : Tb} {R : Mem} (hI : OfI l T R) (f : Nat → Bool) : R.map (Option.map (MObj.kill f)) = R := by
  refine (List.map_congr_left fun y hy => ?_).trans (List.map_id R)
  rcases hI.only y hy with rfl | ⟨xs, rfl⟩ <;> rfl
theorem OfI.again {l : List Kn} {T : Tb} {R : Mem} (hI : OfI l T R) {k : Kn} (hk : k.kind = 14) {t : Nat} (hag : aget T k.code = some t) :
    mset ((entV l T).map fun q => (q.1, q.2.kill (killTag t))) (.str k.code) (.sl (some 9) t ((fil k.code l).length + 1)) = entV (l ++ [k]) T ∧
    OfI (l ++ [k]) T (R.set (t - 2) (some (.row (some 9) ((fil k.code l).map knP ++ [knP k])))) := by
  have hm := aget_mem hag
  have hother : ∀ q ∈ T, q.1 ≠ k.code → fil q.1 (l ++ [k]) = fil q.1 l := fun q hq hne => fil_other (fun e => hne e.symm)
  have hsame : ∀ q ∈ T, q.1 = k.code → q = (k.code, t) := fun q hq he => nd_inj hI.names hq hm he
  have hlt := hI.lt hm
  simp only at hlt
  refine ⟨?_, hI.names, hI.tags, fun q hq => ?_, fun o ho => ?_, fun k' hk' hkk => ?_, fun q hq => ?_⟩
  · unfold entV
    rw [List.map_map]
    refine mset_ent (g := slV (l ++ [k])) hI.names hm (fun q hq hne => ?_) ?_
    · have htne : q.2 ≠ t := fun e => by
        have := nd_inj hI.tags hq hm e
        exact hne (congrArg Prod.fst this)
      have hkt : killTag t q.2 = false := by simp [killTag, htne]
      simp only [slV, PV.kill, hkt, Bool.false_eq_true, if_false]
      rw [hother q hq hne]
    · simp only [slV, fil_same hk, List.length_append, List.length_cons, List.length_nil]
  · obtain ⟨a1, a2⟩ := hI.rows q hq
    refine ⟨a1, ?_⟩
    have hl := (List.getElem?_eq_some_iff.1 a2).1
    by_cases he : q.1 = k.code
    · have := hsame q hq he
      subst this
      simp only at hl ⊢
      rw [List.getElem?_set_self hl]
      simp only [rowV, fil_same hk, List.map_append]; rfl
    · have htne : q.2 ≠ t := fun e => by
        have := nd_inj hI.tags hq hm e
        exact he (congrArg Prod.fst this)
      rw [List.getElem?_set_ne (by omega), a2]
      unfold rowV; rw [hother q hq he]
  · rcases List.mem_or_eq_of_mem_set ho with ho | ho
    · exact hI.only o ho
    · exact .inr ⟨_, ho⟩
  · rcases List.mem_append.1 hk' with hk' | hk'
    · exact hI.all k' hk' hkk
    · simp at hk'; subst hk'
      exact ⟨t, hm⟩
  · by_cases he : q.1 = k.code
    · have := hsame q hq he
      subst this
      simp only [fil_same hk]; simp
    · rw [hother q hq he]; exact hI.ne q hq
/-! All rows told by value -/
abbrev knQ (l : List Kn) (q : List UInt8 × Nat) : PV := knL (fil q.1 l)
section
variable {P : Program} {G : Globs} {N : Nat} {mv : Nat → Bool} {Q : Post}
theorem PW_frzT {x : PCode} {l : List Kn} {env : Env} {v0 : MObj} (henv : ∀ t o, 2 ≤ t → frzE t o env = env) (hv0 : ∀ t o, 2 ≤ t → MObj.frz t o v0 = v0) (hmv : ∀ t, mv t = true) : ∀ (T : Tb) (D : List (PV × PV)) (R : Mem), (T.map (·.2)).Nodup →
    (∀ q ∈ T, 2 ≤ q.2 ∧ R[q.2 - 2]? = some (some (rowV l q.1))) → (∀ o ∈ R, o = none ∨ ∃ xs, o = some (.row (some 9) xs)) → (∀ e ∈ D, ∀ t o, e.2.frz t o = e.2) →
    (∀ R', PW P G N mv x env (some v0 :: some (.mpo .str (D ++ T.map fun q => (.str q.1, knQ l q))) :: R') Q) → PW P G N mv x env (some v0 :: some (.mpo .str (D ++ entV l T)) :: R) Q
  | [], D, R, _, _, _, _, h => h R
  | q :: T, D, R, hn, hr, ho, hD, h => by
    simp only [List.map_cons, List.nodup_cons] at hn
    obtain ⟨h2, hrow⟩ := hr q (by simp)
    have hlt := (List.getElem?_eq_some_iff.1 hrow).1
    have hg : Mem.get (some v0 :: some (.mpo .str (D ++ entV l (q :: T))) :: R) q.2 = some (rowV l q.1) := by rw [get2 _ _ _ _ h2, hrow]; rfl
    refine PW.frz q.2 (rowV l q.1) hg (hmv _) ?_
    have hRf : R.map (Option.map (MObj.frz q.2 (rowV l q.1))) = R := by
      refine (List.map_congr_left fun y hy => ?_).trans (List.map_id R)
      rcases ho y hy with rfl | ⟨xs, rfl⟩ <;> rfl
    have hDf : D.map (fun e => (e.1, e.2.frz q.2 (rowV l q.1))) = D := by
      refine (List.map_congr_left fun e he => ?_).trans (List.map_id D)
      simp only [hD e he]; rfl
    have hEf : (entV l T).map (fun e => (e.1, e.2.frz q.2 (rowV l q.1))) = entV l T := by
      unfold entV
      rw [List.map_map]
      refine List.map_congr_left fun q' hq' => ?_
      have hne : q'.2 ≠ q.2 := fun e => hn.1 (List.mem_map.2 ⟨q', hq', e⟩)
      simp only [Function.comp_apply, slV, PV.frz, if_neg hne]
    have hqf : (slV l q).frz q.2 (rowV l q.1) = knQ l q := by
      simp only [slV, PV.frz, if_true, frzSl, rowV]
      rw [if_pos ⟨trivial, by simp⟩]
      unfold knQ knL
      congr 1
      exact List.take_of_length_le (by simp)
    have hmem : ((some v0 :: some (.mpo .str (D ++ entV l (q :: T))) :: R).map (Option.map (MObj.frz q.2 (rowV l q.1)))).set q.2 none = some v0 :: some (.mpo .str ((D ++ [(.str q.1, knQ l q)]) ++ entV l T)) :: R.set (q.2 - 2) none := by
      simp only [List.map_cons, Option.map_some, hRf, hv0 _ _ h2]
      rw [set2 _ _ _ _ _ h2]
      congr 3
      simp only [MObj.frz, List.map_append, hDf]
      rw [show entV l (q :: T) = (.str q.1, slV l q) :: entV l T from rfl]
      simp only [List.map_cons, hqf, hEf, List.append_assoc, List.cons_append, List.nil_append]
    have he := henv q.2 (rowV l q.1) h2
    unfold frzE at he
    rw [he, hmem]
    refine PW_frzT henv hv0 hmv T (D ++ [(.str q.1, knQ l q)]) (R.set (q.2 - 2) none) hn.2 (fun q' hq' => ?_) (fun o hoo => ?_) (fun e he t o => ?_) (fun R' => ?_)
    · obtain ⟨a1, a2⟩ := hr q' (List.mem_cons_of_mem _ hq')
      have hne : q'.2 ≠ q.2 := fun e => hn.1 (List.mem_map.2 ⟨q', hq', e⟩)
      exact ⟨a1, by rw [List.getElem?_set_ne (by omega), a2]⟩
    · rcases List.mem_or_eq_of_mem_set hoo with h' | h'
      · exact ho o h'
      · exact .inl h'
    · rcases List.mem_append.1 he with h' | h'
      · exact hD e h' t o
      · simp at h'; subst h'; simp only [PV.frz]
    · have := h R'
      rw [show (q :: T).map (fun q => (PV.str q.1, knQ l q)) = (.str q.1, knQ l q) :: T.map (fun q => (.str q.1, knQ l q)) from rfl] at this
      simpa using this
end
end Go.Proofs.Ytjcoenideicmbaa

namespace Go.Proofs.Ytjcoenideicmbaa
open Go PG Go.Proofs
set_option linter.unusedSimpArgs false
set_option linter.unusedVariables false
set_option maxHeartbeats 4000000
set_option maxRecDepth 100000
theorem getC4 (a b c d p : PV) (l : List PV) : (a :: b :: c :: d :: p :: l).getD 4 .junk = p := rfl
theorem getC5 (a b c d e p : PV) (l : List PV) : (a :: b :: c :: d :: e :: p :: l).getD 5 .junk = p := rfl
theorem getC6 (a b c d e f p : PV) (l : List PV) : (a :: b :: c :: d :: e :: f :: p :: l).getD 6 .junk = p := rfl
theorem getC7 (a b c d e f g p : PV) (l : List PV) : (a :: b :: c :: d :: e :: f :: g :: p :: l).getD 7 .junk = p := rfl
theorem getC8 (a b c d e f g h p : PV) (l : List PV) : (a :: b :: c :: d :: e :: f :: g :: h :: p :: l).getD 8 .junk = p := rfl
theorem part_agg8 (a b c d e f g h : PV) : partOf (.agg [a, b, c, d, e, f, g, h]) 8 = some [a, b, c, d, e, f, g, h] := rfl
theorem setAll_18 (x y0 y1 y2 y3 y4 y5 y6 y7 a b c d e f g h : PV) : setAll [x, y0, y1, y2, y3, y4, y5, y6, y7] 1 [a, b, c, d, e, f, g, h] = [x, a, b, c, d, e, f, g, h] := rfl
/-! The value of a place -/
structure Vl where
  n : Int
  num : Int
  text : List UInt8
  deriving DecidableEq
def vlP (v : Vl) : PV := .agg [.int .i64 v.n, .int .i64 v.num, .str v.text]
def vl0 : Vl := ⟨0, 0, []⟩
def valM (l : List Kn) (p : Int) : Vl := if p < 0 then vl0 else ⟨(l.getD p.toNat default).n, (l.getD p.toNat default).num, (l.getD p.toNat default).text⟩
theorem v49 (l : List Kn) (p : Int) (h : p < l.length) : VCalls Try.prog G0 49 [linP l, .int .i64 p] (vlP (valM l p)) := by
  refine VCalls.of_PW Try.func49 k49 mix (by simp [c49]) ?_
  simp only [c49, L49, argE]
  have hlen : ((l.map knP).length : Nat) = l.length := by simp
  rcases Int.lt_or_le p 0 with h0 | h0
  · have d0 : decide (p < 0) = true := by simpa using h0
    rw [show valM l p = vl0 by simp [valM, h0]]
    simp only [vlP, vl0]
    repeat' (first | exact True.intro | (refine PW.seqK ?_; intro K hK) | refine PW.block ?_ | refine PW.exit ?_ | refine PW.ret ?_ | refine PW.skip ?_ | refine seqK_n (by assumption) ?_ | refine seqK_r (by assumption) ?_ | refine seqK_e (by assumption) ?_ | refine PW.regionA ?_ | exact schedW_stop_i | refine schK_n (by assumption) ?_ | (refine schedW_alt_k ?_ ?_; focus (intro K hK; simp only [d0, hlen, SS, SS2, SS3, SS4, Option.map_some, Bool.not_false, Bool.not_true, gArgs, gOk, Nat.reduceAdd, PV.shift, MObj.shift, rdV, rdD, reduceIte, Nat.reduceEqDiff, Nat.reduceBEq, PV.bin, PV.binOk, binI, binS, PV.withInt, PV.withIntP, okAll, PV.under, PV.okUnder, eq_self, implies_true, deadOk, ne_eq, allOk, RVar.val, RVar.ok, retV, PV.seen, PV.view, beq_self_eq_true, PV.flat, PV.noOwn, id_eq, behind, PV.kill, MObj.kill, killTag, reduceCtorEq, nilB]; (try go_unwrap; try simp only [d0, hlen, toNat_add2, toNat_add1, Int.toNat_natCast, Bool.false_and, Bool.true_and, true_implies, true_and, Bool.false_eq_true, reduceCtorEq, false_implies, Bool.not_false, Bool.not_true, Bool.true_or, Bool.false_or]))) | (refine PW.cond rfl ?_ ?_ <;> intro hcond <;> (try contradiction) <;> try simp only [decide_eq_true_eq, decide_eq_false_iff_not] at hcond) | (refine gd_i ?_; intro hg; try simp only [hg]) | ((first | show @LE.le Nat _ _ _ | show @LT.lt Nat _ _ _ | show @LE.le Int _ _ _ | show @LT.lt Int _ _ _ | show @Eq Nat _ _ | show @Eq Int _ _ | show @Eq Bool _ _ | show _ ∨ _ | show ¬ _); first | omega | (simp only [decide_eq_true_eq, decide_eq_false_iff_not, List.length_cons, List.length_nil, List.length_append, List.length_map, Sh.size] <;> omega) | (go_unwrap; omega)) | ((first | refine PW.region ?_ | refine PW.regionQ ?_ | refine schedW_done_i ?_ | show (_ : Post) _ _ _ | show @Eq (List PV) _ _ | show @Eq Bool _ _ | show opsW _ _ _ _ _ _ _ _ | show okAll _ | show @Eq Bool _ _ ∨ _); focus (simp only [d0, hlen, SS, SS2, SS3, SS4, Option.map_some, Bool.not_false, Bool.not_true, gArgs, gOk, Nat.reduceAdd, PV.shift, MObj.shift, rdV, rdD, reduceIte, Nat.reduceEqDiff, Nat.reduceBEq, PV.bin, PV.binOk, binI, binS, PV.withInt, PV.withIntP, okAll, PV.under, PV.okUnder, eq_self, implies_true, deadOk, ne_eq, allOk, RVar.val, RVar.ok, retV, PV.seen, PV.view, beq_self_eq_true, PV.flat, PV.noOwn, id_eq, behind, PV.kill, MObj.kill, killTag, reduceCtorEq, nilB]; (try go_unwrap; try simp only [d0, hlen, toNat_add2, toNat_add1, Int.toNat_natCast, Bool.false_and, Bool.true_and, true_implies, true_and, Bool.false_eq_true, reduceCtorEq, false_implies, Bool.not_false, Bool.not_true, Bool.true_or, Bool.false_or]))) | refine And.intro ?_ ?_ | exact Or.inr ⟨rfl, Nat.le_refl _⟩ | exact (fun h => Bool.noConfusion h))
  · have d0 : decide (p < 0) = false := by simp only [decide_eq_false_iff_not]; omega
    have hg := kn_getD l p.toNat (by omega)
    have hgd : l.getD p.toNat default = l[p.toNat] := by simp [List.getD, show p.toNat < l.length by omega]
    have hv : valM l p = ⟨l[p.toNat].n, l[p.toNat].num, l[p.toNat].text⟩ := by
      unfold valM; rw [if_neg (by omega), hgd]
    rw [hv]
    generalize l[p.toNat] = k at hg
    simp only [knP] at hg
    simp only [vlP]
    repeat' (first | exact True.intro | (refine PW.seqK ?_; intro K hK) | refine PW.block ?_ | refine PW.exit ?_ | refine PW.ret ?_ | refine PW.skip ?_ | refine seqK_n (by assumption) ?_ | refine seqK_r (by assumption) ?_ | refine seqK_e (by assumption) ?_ | refine PW.regionA ?_ | exact schedW_stop_i | refine schK_n (by assumption) ?_ | (refine schedW_alt_k ?_ ?_; focus (intro K hK; simp only [d0, hlen, hg, getC4, getC5, getC6, getC7, getC8, SS, SS2, SS3, SS4, Option.map_some, Bool.not_false, Bool.not_true, gArgs, gOk, Nat.reduceAdd, PV.shift, MObj.shift, rdV, rdD, reduceIte, Nat.reduceEqDiff, Nat.reduceBEq, PV.bin, PV.binOk, binI, binS, PV.withInt, PV.withIntP, okAll, PV.under, PV.okUnder, eq_self, implies_true, deadOk, ne_eq, allOk, RVar.val, RVar.ok, retV, PV.seen, PV.view, beq_self_eq_true, PV.flat, PV.noOwn, id_eq, behind, PV.kill, MObj.kill, killTag, reduceCtorEq, nilB]; (try go_unwrap; try simp only [d0, hlen, hg, getC4, getC5, getC6, getC7, getC8, toNat_add2, toNat_add1, Int.toNat_natCast, Bool.false_and, Bool.true_and, true_implies, true_and, Bool.false_eq_true, reduceCtorEq, false_implies, Bool.not_false, Bool.not_true, Bool.true_or, Bool.false_or]))) | (refine PW.cond rfl ?_ ?_ <;> intro hcond <;> (try contradiction) <;> try simp only [decide_eq_true_eq, decide_eq_false_iff_not] at hcond) | (refine gd_i ?_; intro hg; try simp only [hg]) | ((first | show @LE.le Nat _ _ _ | show @LT.lt Nat _ _ _ | show @LE.le Int _ _ _ | show @LT.lt Int _ _ _ | show @Eq Nat _ _ | show @Eq Int _ _ | show @Eq Bool _ _ | show _ ∨ _ | show ¬ _); first | omega | (simp only [decide_eq_true_eq, decide_eq_false_iff_not, List.length_cons, List.length_nil, List.length_append, List.length_map, Sh.size] <;> omega) | (go_unwrap; omega)) | ((first | refine PW.region ?_ | refine PW.regionQ ?_ | refine schedW_done_i ?_ | show (_ : Post) _ _ _ | show @Eq (List PV) _ _ | show @Eq Bool _ _ | show opsW _ _ _ _ _ _ _ _ | show okAll _ | show @Eq Bool _ _ ∨ _); focus (simp only [d0, hlen, hg, getC4, getC5, getC6, getC7, getC8, SS, SS2, SS3, SS4, Option.map_some, Bool.not_false, Bool.not_true, gArgs, gOk, Nat.reduceAdd, PV.shift, MObj.shift, rdV, rdD, reduceIte, Nat.reduceEqDiff, Nat.reduceBEq, PV.bin, PV.binOk, binI, binS, PV.withInt, PV.withIntP, okAll, PV.under, PV.okUnder, eq_self, implies_true, deadOk, ne_eq, allOk, RVar.val, RVar.ok, retV, PV.seen, PV.view, beq_self_eq_true, PV.flat, PV.noOwn, id_eq, behind, PV.kill, MObj.kill, killTag, reduceCtorEq, nilB]; (try go_unwrap; try simp only [d0, hlen, hg, getC4, getC5, getC6, getC7, getC8, toNat_add2, toNat_add1, Int.toNat_natCast, Bool.false_and, Bool.true_and, true_implies, true_and, Bool.false_eq_true, reduceCtorEq, false_implies, Bool.not_false, Bool.not_true, Bool.true_or, Bool.false_or]))) | refine And.intro ?_ ?_ | exact Or.inr ⟨rfl, Nat.le_refl _⟩ | exact (fun h => Bool.noConfusion h))
theorem placeM_in (l : List Kn) (d : Int) : -1 ≤ placeM l d ∧ placeM l d < l.length := placeN_in l d l.length
theorem v27 (l : List Kn) (hl : l.length ≤ 1000000000) (d : Int) : VCalls Try.prog G0 27 [linP l, .int .i64 d] (.tup [vlP (valM l (placeM l d)), .bool (decide (0 ≤ placeM l d))]) := by
  refine VCalls.of_PW Try.func27 k27 mix (by simp [c27]) ?_
  simp only [c27, L27, argE]
  have h50 := v50 l hl d
  have h49 := v49 l (placeM l d) (placeM_in l d).2
  simp only [vlP] at h49 ⊢
  generalize valM l (placeM l d) = v at h49 ⊢
  generalize placeM l d = p at h50 h49 ⊢
  repeat' (first | exact True.intro | (refine PW.seqK ?_; intro K hK) | refine PW.block ?_ | refine PW.exit ?_ | refine PW.ret ?_ | refine PW.skip ?_ | refine seqK_n (by assumption) ?_ | refine seqK_r (by assumption) ?_ | refine seqK_e (by assumption) ?_ | refine PW.regionA ?_ | exact schedW_stop_i | refine schK_n (by assumption) ?_ | (refine schedW_alt_k ?_ ?_; focus (intro K hK; simp only [SS, SS2, SS3, SS4, Option.map_some, Bool.not_false, Bool.not_true, gArgs, gOk, Nat.reduceAdd, PV.shift, MObj.shift, rdV, rdD, reduceIte, Nat.reduceEqDiff, Nat.reduceBEq, PV.bin, PV.binOk, binI, binS, PV.withInt, PV.withIntP, okAll, PV.under, PV.okUnder, eq_self, implies_true, deadOk, ne_eq, allOk, RVar.val, RVar.ok, retV, PV.seen, PV.view, beq_self_eq_true, PV.flat, PV.noOwn, id_eq, behind, PV.kill, MObj.kill, killTag, reduceCtorEq, nilB]; (try go_unwrap; try simp only [toNat_add2, toNat_add1, Int.toNat_natCast, Bool.false_and, Bool.true_and, true_implies, true_and, Bool.false_eq_true, reduceCtorEq, false_implies, Bool.not_false, Bool.not_true, Bool.true_or, Bool.false_or]))) | (refine PW.cond rfl ?_ ?_ <;> intro hcond <;> (try contradiction) <;> try simp only [decide_eq_true_eq, decide_eq_false_iff_not] at hcond) | (refine gd_i ?_; intro hg; try simp only [hg]) | refine goCall_W e50 (h50) ?_ ?_ ?_ ?_ | refine goCall_W e49 (h49) ?_ ?_ ?_ ?_ | ((first | show @LE.le Nat _ _ _ | show @LT.lt Nat _ _ _ | show @LE.le Int _ _ _ | show @LT.lt Int _ _ _ | show @Eq Nat _ _ | show @Eq Int _ _ | show @Eq Bool _ _ | show _ ∨ _ | show ¬ _); first | omega | (simp only [decide_eq_true_eq, decide_eq_false_iff_not, List.length_cons, List.length_nil, List.length_append, List.length_map, Sh.size] <;> omega) | (go_unwrap; omega)) | ((first | refine PW.region ?_ | refine PW.regionQ ?_ | refine schedW_done_i ?_ | show (_ : Post) _ _ _ | show @Eq (List PV) _ _ | show @Eq Bool _ _ | show opsW _ _ _ _ _ _ _ _ | show okAll _ | show @Eq Bool _ _ ∨ _); focus (simp only [SS, SS2, SS3, SS4, Option.map_some, Bool.not_false, Bool.not_true, gArgs, gOk, Nat.reduceAdd, PV.shift, MObj.shift, rdV, rdD, reduceIte, Nat.reduceEqDiff, Nat.reduceBEq, PV.bin, PV.binOk, binI, binS, PV.withInt, PV.withIntP, okAll, PV.under, PV.okUnder, eq_self, implies_true, deadOk, ne_eq, allOk, RVar.val, RVar.ok, retV, PV.seen, PV.view, beq_self_eq_true, PV.flat, PV.noOwn, id_eq, behind, PV.kill, MObj.kill, killTag, reduceCtorEq, nilB]; (try go_unwrap; try simp only [toNat_add2, toNat_add1, Int.toNat_natCast, Bool.false_and, Bool.true_and, true_implies, true_and, Bool.false_eq_true, reduceCtorEq, false_implies, Bool.not_false, Bool.not_true, Bool.true_or, Bool.false_or]))) | refine And.intro ?_ ?_ | exact Or.inr ⟨rfl, Nat.le_refl _⟩ | exact (fun h => Bool.noConfusion h))
/-! Clones -/
theorem v47n : VCalls Try.prog G0 47 [.nilSl] .nilSl := by
  refine VCalls.of_PW Try.func47 k47 mix (by simp [c47]) ?_
  simp only [c47, L47, argE]
  repeat' (first | exact True.intro | (refine PW.seqK ?_; intro K hK) | refine PW.block ?_ | refine PW.exit ?_ | refine PW.ret ?_ | refine PW.skip ?_ | refine seqK_n (by assumption) ?_ | refine seqK_r (by assumption) ?_ | refine seqK_e (by assumption) ?_ | refine PW.regionA ?_ | exact schedW_stop_i | refine schK_n (by assumption) ?_ | (refine schedW_alt_k ?_ ?_; focus (intro K hK; simp only [nilB, SS, SS2, SS3, SS4, Option.map_some, Bool.not_false, Bool.not_true, gArgs, gOk, Nat.reduceAdd, PV.shift, MObj.shift, rdV, rdD, reduceIte, Nat.reduceEqDiff, Nat.reduceBEq, PV.bin, PV.binOk, binI, binS, PV.withInt, PV.withIntP, okAll, PV.under, PV.okUnder, eq_self, implies_true, deadOk, ne_eq, allOk, RVar.val, RVar.ok, retV, PV.seen, PV.view, beq_self_eq_true, PV.flat, PV.noOwn, id_eq, behind, PV.kill, MObj.kill, killTag, reduceCtorEq, nilB]; (try go_unwrap; try simp only [nilB, toNat_add2, toNat_add1, Int.toNat_natCast, Bool.false_and, Bool.true_and, true_implies, true_and, Bool.false_eq_true, reduceCtorEq, false_implies, Bool.not_false, Bool.not_true, Bool.true_or, Bool.false_or]))) | (refine PW.cond rfl ?_ ?_ <;> intro hcond <;> (try contradiction) <;> try simp only [decide_eq_true_eq, decide_eq_false_iff_not] at hcond) | (refine gd_i ?_; intro hg; try simp only [hg]) | ((first | show @LE.le Nat _ _ _ | show @LT.lt Nat _ _ _ | show @LE.le Int _ _ _ | show @LT.lt Int _ _ _ | show @Eq Nat _ _ | show @Eq Int _ _ | show @Eq Bool _ _ | show _ ∨ _ | show ¬ _); first | omega | (simp only [decide_eq_true_eq, decide_eq_false_iff_not, List.length_cons, List.length_nil, List.length_append, List.length_map, Sh.size] <;> omega) | (go_unwrap; omega)) | ((first | refine PW.region ?_ | refine PW.regionQ ?_ | refine schedW_done_i ?_ | show (_ : Post) _ _ _ | show @Eq (List PV) _ _ | show @Eq Bool _ _ | show opsW _ _ _ _ _ _ _ _ | show okAll _ | show @Eq Bool _ _ ∨ _); focus (simp only [nilB, SS, SS2, SS3, SS4, Option.map_some, Bool.not_false, Bool.not_true, gArgs, gOk, Nat.reduceAdd, PV.shift, MObj.shift, rdV, rdD, reduceIte, Nat.reduceEqDiff, Nat.reduceBEq, PV.bin, PV.binOk, binI, binS, PV.withInt, PV.withIntP, okAll, PV.under, PV.okUnder, eq_self, implies_true, deadOk, ne_eq, allOk, RVar.val, RVar.ok, retV, PV.seen, PV.view, beq_self_eq_true, PV.flat, PV.noOwn, id_eq, behind, PV.kill, MObj.kill, killTag, reduceCtorEq, nilB]; (try go_unwrap; try simp only [nilB, toNat_add2, toNat_add1, Int.toNat_natCast, Bool.false_and, Bool.true_and, true_implies, true_and, Bool.false_eq_true, reduceCtorEq, false_implies, Bool.not_false, Bool.not_true, Bool.true_or, Bool.false_or]))) | refine And.intro ?_ ?_ | exact Or.inr ⟨rfl, Nat.le_refl _⟩ | exact (fun h => Bool.noConfusion h))
theorem v47 (l : List Kn) (hl : l.length ≤ 1000000000) (hn : l ≠ []) : VCalls Try.prog G0 47 [knL l] (knL l) := by
  refine VCalls.of_PW Try.func47 k47 mix (by simp [c47]) ?_
  simp only [c47, L47, argE]
  obtain ⟨x, l', rfl⟩ := List.exists_cons_of_ne_nil hn
  have hA : knL (x :: l') = .list (some 9) (knP x :: l'.map knP) := rfl
  simp only [hA]
  have hm : (knP x :: l'.map knP).length = l'.length + 1 := by simp
  simp only [List.length_cons] at hl
  have h1 : (l'.length + 1) * 80 ≤ 281474976710656 := by omega
  have h2 : l'.length + 1 ≤ 9223372036854775807 := by omega
  repeat' (first | exact True.intro | (refine PW.seqK ?_; intro K hK) | refine PW.block ?_ | refine PW.exit ?_ | refine PW.ret ?_ | refine PW.skip ?_ | refine seqK_n (by assumption) ?_ | refine seqK_r (by assumption) ?_ | refine seqK_e (by assumption) ?_ | refine PW.regionA ?_ | exact schedW_stop_i | refine schK_n (by assumption) ?_ | (refine schedW_alt_k ?_ ?_; focus (intro K hK; simp only [hm, h1, h2, nilB, SS, SS2, SS3, SS4, Option.map_some, Bool.not_false, Bool.not_true, gArgs, gOk, Nat.reduceAdd, PV.shift, MObj.shift, rdV, rdD, reduceIte, Nat.reduceEqDiff, Nat.reduceBEq, PV.bin, PV.binOk, binI, binS, PV.withInt, PV.withIntP, okAll, PV.under, PV.okUnder, eq_self, implies_true, deadOk, ne_eq, allOk, RVar.val, RVar.ok, retV, PV.seen, PV.view, beq_self_eq_true, PV.flat, PV.noOwn, id_eq, behind, PV.kill, MObj.kill, killTag, reduceCtorEq, nilB]; (try go_unwrap; try simp only [hm, h1, h2, nilB, toNat_add2, toNat_add1, Int.toNat_natCast, Bool.false_and, Bool.true_and, true_implies, true_and, Bool.false_eq_true, reduceCtorEq, false_implies, Bool.not_false, Bool.not_true, Bool.true_or, Bool.false_or]))) | (refine PW.cond rfl ?_ ?_ <;> intro hcond <;> (try contradiction) <;> try simp only [decide_eq_true_eq, decide_eq_false_iff_not] at hcond) | (refine gd_i ?_; intro hg; try simp only [hg]) | ((first | show @LE.le Nat _ _ _ | show @LT.lt Nat _ _ _ | show @LE.le Int _ _ _ | show @LT.lt Int _ _ _ | show @Eq Nat _ _ | show @Eq Int _ _ | show @Eq Bool _ _ | show _ ∨ _ | show ¬ _); first | omega | (simp only [decide_eq_true_eq, decide_eq_false_iff_not, List.length_cons, List.length_nil, List.length_append, List.length_map, Sh.size] <;> omega) | (go_unwrap; omega)) | ((first | refine PW.region ?_ | refine PW.regionQ ?_ | refine schedW_done_i ?_ | show (_ : Post) _ _ _ | show @Eq (List PV) _ _ | show @Eq Bool _ _ | show opsW _ _ _ _ _ _ _ _ | show okAll _ | show @Eq Bool _ _ ∨ _); focus (simp only [hm, h1, h2, nilB, SS, SS2, SS3, SS4, Option.map_some, Bool.not_false, Bool.not_true, gArgs, gOk, Nat.reduceAdd, PV.shift, MObj.shift, rdV, rdD, reduceIte, Nat.reduceEqDiff, Nat.reduceBEq, PV.bin, PV.binOk, binI, binS, PV.withInt, PV.withIntP, okAll, PV.under, PV.okUnder, eq_self, implies_true, deadOk, ne_eq, allOk, RVar.val, RVar.ok, retV, PV.seen, PV.view, beq_self_eq_true, PV.flat, PV.noOwn, id_eq, behind, PV.kill, MObj.kill, killTag, reduceCtorEq, nilB]; (try go_unwrap; try simp only [hm, h1, h2, nilB, toNat_add2, toNat_add1, Int.toNat_natCast, Bool.false_and, Bool.true_and, true_implies, true_and, Bool.false_eq_true, reduceCtorEq, false_implies, Bool.not_false, Bool.not_true, Bool.true_or, Bool.false_or]))) | refine And.intro ?_ ?_ | exact Or.inr ⟨rfl, Nat.le_refl _⟩ | exact (fun h => Bool.noConfusion h))
  rw [if_pos (by simp)]
  refine congrArg _ ?_
  exact List.take_of_length_le (by simp)
def knV (l : List Kn) : PV := if l = [] then .nilSl else knL l
theorem v19 (l : List Kn) (hl : l.length ≤ 1000000000) : VCalls Try.prog G0 19 [knV l] (linP l) := by
  rcases Decidable.em (l = []) with h | h
  · subst h
    refine VCalls.res (p := .agg [.nilSl]) ?_ (.agg (.cons (.nil _) .nil))
    rw [show knV [] = .nilSl from rfl]
    refine VCalls.of_PW Try.func19 k19 mix (by simp [c19]) ?_
    simp only [c19, L19, argE]
    have h47 := v47n
    repeat' (first | exact True.intro | (refine PW.seqK ?_; intro K hK) | refine PW.block ?_ | refine PW.exit ?_ | refine PW.ret ?_ | refine PW.skip ?_ | refine seqK_n (by assumption) ?_ | refine seqK_r (by assumption) ?_ | refine seqK_e (by assumption) ?_ | refine PW.regionA ?_ | exact schedW_stop_i | refine schK_n (by assumption) ?_ | (refine schedW_alt_k ?_ ?_; focus (intro K hK; simp only [SS, SS2, SS3, SS4, Option.map_some, Bool.not_false, Bool.not_true, gArgs, gOk, Nat.reduceAdd, PV.shift, MObj.shift, rdV, rdD, reduceIte, Nat.reduceEqDiff, Nat.reduceBEq, PV.bin, PV.binOk, binI, binS, PV.withInt, PV.withIntP, okAll, PV.under, PV.okUnder, eq_self, implies_true, deadOk, ne_eq, allOk, RVar.val, RVar.ok, retV, PV.seen, PV.view, beq_self_eq_true, PV.flat, PV.noOwn, id_eq, behind, PV.kill, MObj.kill, killTag, reduceCtorEq, nilB]; (try go_unwrap; try simp only [toNat_add2, toNat_add1, Int.toNat_natCast, Bool.false_and, Bool.true_and, true_implies, true_and, Bool.false_eq_true, reduceCtorEq, false_implies, Bool.not_false, Bool.not_true, Bool.true_or, Bool.false_or]))) | (refine PW.cond rfl ?_ ?_ <;> intro hcond <;> (try contradiction) <;> try simp only [decide_eq_true_eq, decide_eq_false_iff_not] at hcond) | (refine gd_i ?_; intro hg; try simp only [hg]) | refine goCall_W e47 (h47) ?_ ?_ ?_ ?_ | ((first | show @LE.le Nat _ _ _ | show @LT.lt Nat _ _ _ | show @LE.le Int _ _ _ | show @LT.lt Int _ _ _ | show @Eq Nat _ _ | show @Eq Int _ _ | show @Eq Bool _ _ | show _ ∨ _ | show ¬ _); first | omega | (simp only [decide_eq_true_eq, decide_eq_false_iff_not, List.length_cons, List.length_nil, List.length_append, List.length_map, Sh.size] <;> omega) | (go_unwrap; omega)) | ((first | refine PW.region ?_ | refine PW.regionQ ?_ | refine schedW_done_i ?_ | show (_ : Post) _ _ _ | show @Eq (List PV) _ _ | show @Eq Bool _ _ | show opsW _ _ _ _ _ _ _ _ | show okAll _ | show @Eq Bool _ _ ∨ _); focus (simp only [SS, SS2, SS3, SS4, Option.map_some, Bool.not_false, Bool.not_true, gArgs, gOk, Nat.reduceAdd, PV.shift, MObj.shift, rdV, rdD, reduceIte, Nat.reduceEqDiff, Nat.reduceBEq, PV.bin, PV.binOk, binI, binS, PV.withInt, PV.withIntP, okAll, PV.under, PV.okUnder, eq_self, implies_true, deadOk, ne_eq, allOk, RVar.val, RVar.ok, retV, PV.seen, PV.view, beq_self_eq_true, PV.flat, PV.noOwn, id_eq, behind, PV.kill, MObj.kill, killTag, reduceCtorEq, nilB]; (try go_unwrap; try simp only [toNat_add2, toNat_add1, Int.toNat_natCast, Bool.false_and, Bool.true_and, true_implies, true_and, Bool.false_eq_true, reduceCtorEq, false_implies, Bool.not_false, Bool.not_true, Bool.true_or, Bool.false_or]))) | refine And.intro ?_ ?_ | exact Or.inr ⟨rfl, Nat.le_refl _⟩ | exact (fun h => Bool.noConfusion h))
  · rw [show knV l = knL l by simp [knV, h]]
    refine VCalls.of_PW Try.func19 k19 mix (by simp [c19]) ?_
    simp only [c19, L19, argE]
    have h47 := v47 l hl h
    repeat' (first | exact True.intro | (refine PW.seqK ?_; intro K hK) | refine PW.block ?_ | refine PW.exit ?_ | refine PW.ret ?_ | refine PW.skip ?_ | refine seqK_n (by assumption) ?_ | refine seqK_r (by assumption) ?_ | refine seqK_e (by assumption) ?_ | refine PW.regionA ?_ | exact schedW_stop_i | refine schK_n (by assumption) ?_ | (refine schedW_alt_k ?_ ?_; focus (intro K hK; simp only [SS, SS2, SS3, SS4, Option.map_some, Bool.not_false, Bool.not_true, gArgs, gOk, Nat.reduceAdd, PV.shift, MObj.shift, rdV, rdD, reduceIte, Nat.reduceEqDiff, Nat.reduceBEq, PV.bin, PV.binOk, binI, binS, PV.withInt, PV.withIntP, okAll, PV.under, PV.okUnder, eq_self, implies_true, deadOk, ne_eq, allOk, RVar.val, RVar.ok, retV, PV.seen, PV.view, beq_self_eq_true, PV.flat, PV.noOwn, id_eq, behind, PV.kill, MObj.kill, killTag, reduceCtorEq, nilB]; (try go_unwrap; try simp only [toNat_add2, toNat_add1, Int.toNat_natCast, Bool.false_and, Bool.true_and, true_implies, true_and, Bool.false_eq_true, reduceCtorEq, false_implies, Bool.not_false, Bool.not_true, Bool.true_or, Bool.false_or]))) | (refine PW.cond rfl ?_ ?_ <;> intro hcond <;> (try contradiction) <;> try simp only [decide_eq_true_eq, decide_eq_false_iff_not] at hcond) | (refine gd_i ?_; intro hg; try simp only [hg]) | refine goCall_W e47 (h47) ?_ ?_ ?_ ?_ | ((first | show @LE.le Nat _ _ _ | show @LT.lt Nat _ _ _ | show @LE.le Int _ _ _ | show @LT.lt Int _ _ _ | show @Eq Nat _ _ | show @Eq Int _ _ | show @Eq Bool _ _ | show _ ∨ _ | show ¬ _); first | omega | (simp only [decide_eq_true_eq, decide_eq_false_iff_not, List.length_cons, List.length_nil, List.length_append, List.length_map, Sh.size] <;> omega) | (go_unwrap; omega)) | ((first | refine PW.region ?_ | refine PW.regionQ ?_ | refine schedW_done_i ?_ | show (_ : Post) _ _ _ | show @Eq (List PV) _ _ | show @Eq Bool _ _ | show opsW _ _ _ _ _ _ _ _ | show okAll _ | show @Eq Bool _ _ ∨ _); focus (simp only [SS, SS2, SS3, SS4, Option.map_some, Bool.not_false, Bool.not_true, gArgs, gOk, Nat.reduceAdd, PV.shift, MObj.shift, rdV, rdD, reduceIte, Nat.reduceEqDiff, Nat.reduceBEq, PV.bin, PV.binOk, binI, binS, PV.withInt, PV.withIntP, okAll, PV.under, PV.okUnder, eq_self, implies_true, deadOk, ne_eq, allOk, RVar.val, RVar.ok, retV, PV.seen, PV.view, beq_self_eq_true, PV.flat, PV.noOwn, id_eq, behind, PV.kill, MObj.kill, killTag, reduceCtorEq, nilB]; (try go_unwrap; try simp only [toNat_add2, toNat_add1, Int.toNat_natCast, Bool.false_and, Bool.true_and, true_implies, true_and, Bool.false_eq_true, reduceCtorEq, false_implies, Bool.not_false, Bool.not_true, Bool.true_or, Bool.false_or]))) | refine And.intro ?_ ?_ | exact Or.inr ⟨rfl, Nat.le_refl _⟩ | exact (fun h => Bool.noConfusion h))
/-! Entries, as facts of both kinds -/
structure En where
  n : Int
  fr : Int
  to : Int
  num : Int
  text : List UInt8
  deriving Inhabited
def enP (e : En) : PV := .agg [.int .i64 e.n, .int .i64 e.fr, .int .i64 e.to, .int .i64 e.num, .str e.text]
abbrev enL (l : List En) : PV := .list (some 5) (l.map enP)
theorem en_getD (l : List En) (i : Nat) (h : i < l.length) : (l.map enP).getD i .junk = enP l[i] := by simp [List.getD, h]
end Go.Proofs.Ytjcoenideicmbaa

