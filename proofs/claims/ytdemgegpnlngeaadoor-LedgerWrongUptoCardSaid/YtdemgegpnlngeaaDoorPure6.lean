/-
  The pure layer: how a world goes on when a call makes or writes memory of its own.
-/
import Derived.Test.YtdemgegpnlngeaaDoorPure5
namespace PG
open Go

def Kap.set (κ : Kap) (t : Nat) (c : Option (Option Nat)) : Kap := ⟨fun i => if i = t then c else κ i, κ.ex⟩
@[simp] theorem Kap.set_self (κ : Kap) (t : Nat) (c : Option (Option Nat)) : (κ.set t c) t = c := by simp [Kap.set]
theorem Kap.set_other (κ : Kap) {t i : Nat} (c : Option (Option Nat)) (h : i ≠ t) : (κ.set t c) i = κ i := by simp [Kap.set, h]
@[simp] theorem Kap.set_ex (κ : Kap) (t : Nat) (c : Option (Option Nat)) : (κ.set t c).ex = κ.ex := rfl

section
variable {w w' : World} {κ κ' : Kap} {μ μ' : Mem}

theorem ORep.still {c : Option Nat} {o : MObj} (hG : Goes w κ w' κ' fun _ => False) (hb : ∀ b, c = some b → w'.heap[b]? = w.heap[b]?) (h : ORep w (own κ) κ c o) : ORep w' (own κ') κ' c o := by
  cases h with
  | var b arr E sh x h hs hsh hr => exact .var b arr E sh x (by rw [hb b rfl]; exact h) hs hsh (fun j p v hp hv => (hr j p v hp hv).still hG)
  | nilrow sh => exact .nilrow sh
  | row b cur E cap sh xs h hs hm hl hfit hr => exact .row b cur E cap sh xs (by rw [hb b rfl]; exact h) hs hm hl hfit (fun j p v hp hv => (hr j p v hp hv).mono hG.agree)
  | iter b kd es seen m h hm => exact .iter b kd es seen m (by rw [hb b rfl]; exact h) (hm.imp id fun ⟨r, h1, h2⟩ => ⟨r, h1, h2.mono hG.agree⟩)
  | mp b kd es ents clock h hs hB hkd hk hv => exact .mp b kd es ents clock (by rw [hb b rfl]; exact h) hs hB hkd (fun i e q a d => (hk i e q a d).mono hG.agree) (fun i e q a d => (hv i e q a d).mono hG.agree)

theorem shaped_kill {dead : Nat → Bool} {sh : Sh} {x : PV} (h : shaped sh x) : shaped sh (x.kill dead) := by
  cases sh with
  | none =>
    cases x <;> simp_all [shaped, PV.isAgg, PV.kill] <;> (split <;> first | rfl | (rename_i heq; split at heq <;> simp_all))
  | some n => obtain ⟨cs, rfl, h⟩ := h; exact ⟨cs.map (PV.kill dead), by simp [PV.kill], by simpa using h⟩

theorem cells_kill {dead : Nat → Bool} {sh : Sh} {x : PV} (h : shaped sh x) : (x.kill dead).cells = x.cells.map (PV.kill dead) := by
  cases sh with
  | none =>
    have h' := shaped_kill (dead := dead) h
    have e1 : x.cells = [x] := by cases x <;> simp_all [shaped, PV.isAgg, PV.cells]
    have e2 : (x.kill dead).cells = [x.kill dead] := by
      generalize x.kill dead = y at h'
      cases y <;> simp_all [shaped, PV.isAgg, PV.cells]
    rw [e1, e2]; rfl
  | some n => obtain ⟨cs, rfl, h⟩ := h; simp [PV.kill, PV.cells]

theorem ORep.goes {m : Nat → Prop} {dead : Nat → Bool} {c : Option Nat} {o : MObj} (hG : Goes w κ w' κ' m) (hd : ∀ t, m t → dead t = true) (hb : ∀ b, c = some b → w'.heap[b]? = w.heap[b]?)
    (h : ORep w (own κ) κ c o) : ORep w' (own κ') κ' c (o.kill dead) := by
  cases h with
  | var b arr E sh x h hs hsh hr =>
    refine .var b arr E sh _ (by rw [hb b rfl]; exact h) hs (shaped_kill hsh) (fun j p v hp hv => ?_)
    rw [cells_kill hsh, List.getElem?_map] at hp
    cases hq : x.cells[j]? with
    | none => simp [hq] at hp
    | some q => simp [hq] at hp; subst hp; exact (hr j q v hq hv).goes hG hd
  | nilrow sh => exact .nilrow sh
  | row b cur E cap sh xs h hs hm hl hfit hr => exact .row b cur E cap sh xs (by rw [hb b rfl]; exact h) hs hm hl hfit (fun j p v hp hv => (hr j p v hp hv).mono hG.agree)
  | iter b kd es seen m h hm => exact .iter b kd es seen m (by rw [hb b rfl]; exact h) (hm.imp id fun ⟨r, h1, h2⟩ => ⟨r, h1, h2.mono hG.agree⟩)
  | mp b kd es ents clock h hs hB hkd hk hv => exact .mp b kd es ents clock (by rw [hb b rfl]; exact h) hs hB hkd (fun i e q a d => (hk i e q a d).mono hG.agree) (fun i e q a d => (hv i e q a d).mono hG.agree)

/-- One object is new or changed; the others stay. -/
theorem Sim.change (hS : Sim w κ μ) {t1 : Nat} {c1 : Option Nat} {o1 : MObj} {f : MObj → MObj} {m : Nat → Prop} (hG : Goes w κ w' (κ.set t1 (some c1)) m)
    (hf : ∀ t c o, t ≠ t1 → κ t = some c → ORep w (own κ) κ c o → ORep w' (own (κ.set t1 (some c1))) (κ.set t1 (some c1)) c (f o))
    (hc : ∀ b, c1 = some b → b < w'.heap.size ∧ ¬ κ.ex b ∧ ∀ t, t ≠ t1 → κ t ≠ some (some b))
    (ho : ORep w' (own (κ.set t1 (some c1))) (κ.set t1 (some c1)) c1 o1) (h1 : μ'[t1]? = some (some o1)) (h2 : ∀ t, t ≠ t1 → μ'[t]? = (μ[t]?).map (Option.map f)) : Sim w' (κ.set t1 (some c1)) μ' := by
  refine ⟨?_, ?_, ?_, ?_, ?_, ?_⟩
  · intro t t' b ht ht'
    by_cases e : t = t1
    · by_cases e' : t' = t1
      · rw [e, e']
      · subst e
        rw [Kap.set_self] at ht; cases ht
        rw [Kap.set_other _ _ e'] at ht'
        exact absurd ht' ((hc b rfl).2.2 t' e')
    · rw [Kap.set_other _ _ e] at ht
      by_cases e' : t' = t1
      · subst e'
        rw [Kap.set_self] at ht'; cases ht'
        exact absurd ht ((hc b rfl).2.2 t e)
      · rw [Kap.set_other _ _ e'] at ht'
        exact hS.inj t t' b ht ht'
  · intro t b ht
    by_cases e : t = t1
    · subst e; rw [Kap.set_self] at ht; cases ht; exact (hc b rfl).1
    · rw [Kap.set_other _ _ e] at ht
      exact Nat.lt_of_lt_of_le (hS.lt t b ht) hG.size
  · intro t c ht
    by_cases e : t = t1
    · subst e; rw [Kap.set_self] at ht; cases ht; exact ⟨o1, h1, ho⟩
    · rw [Kap.set_other _ _ e] at ht
      obtain ⟨o, h3, h4⟩ := hS.live t c ht
      exact ⟨f o, by rw [h2 t e, h3]; rfl, hf t c o e ht h4⟩
  · intro t o ht
    by_cases e : t = t1
    · subst e; simp
    · rw [h2 t e] at ht
      cases hm : μ[t]? with
      | none => simp [hm] at ht
      | some x =>
        cases x with
        | none => simp [hm] at ht
        | some o' => rw [Kap.set_other _ _ e]; exact hS.dead t o' hm
  · intro b hb
    exact Nat.lt_of_lt_of_le (hS.exlt b hb) hG.size
  · intro t b ht
    by_cases e : t = t1
    · subst e; rw [Kap.set_self] at ht; cases ht; exact (hc b rfl).2.1
    · rw [Kap.set_other _ _ e] at ht
      exact hS.exout t b ht

theorem Sim.fresh (hS : Sim w κ μ) : κ μ.length = none := by
  cases h : κ μ.length with
  | none => rfl
  | some c => obtain ⟨o, ho, -⟩ := hS.live _ _ h; simp at ho

/-- The owned blocks, and what stays out. -/
theorem own_set {t1 : Nat} {c1 : Option Nat} {b : Nat} (h : tagged (κ.set t1 (some c1)) b) : tagged κ b ∨ c1 = some b := by
  obtain ⟨t, ht⟩ := h
  by_cases e : t = t1
  · subst e; rw [Kap.set_self] at ht; cases ht; exact .inr rfl
  · rw [Kap.set_other _ _ e] at ht; exact .inl ⟨t, ht⟩

theorem shape?_of_block {b : Nat} (h : w'.heap[b]? = w.heap[b]?) : w'.shape? b = w.shape? b := by simp [World.shape?, h]

/-- A new block. -/
theorem Goes.alloc (hS : Sim w κ μ) (o : Obj) : Goes w κ (w.alloc o) (κ.set μ.length (some (some w.heap.size))) fun _ => False := by
  refine ⟨rfl, rfl, rfl, by simp, rfl, fun b hb _ => RowKit.Below.heap_alloc w o b hb, fun b hb ho h => ?_, fun b s hs => ?_, fun t c hc _ => ?_⟩
  · rcases own_set h with h | h
    · exact ho h
    · cases h; exact Nat.lt_irrefl _ hb
  · have hb : b < w.heap.size := by
      unfold World.shape? at hs
      rcases Nat.lt_or_ge b w.heap.size with h | h
      · exact h
      · simp [Array.getElem?_eq_none h] at hs
    rw [shape?_of_block (RowKit.Below.heap_alloc w o b hb)]; exact hs
  · rw [Kap.set_other]; exact hc
    rintro rfl; rw [hS.fresh] at hc; cases hc

theorem heap_alloc_at (w : World) (o : Obj) : (w.alloc o).heap[w.heap.size]? = some o := by
  show (w.heap.push o)[w.heap.size]? = some o
  simp

theorem not_own_new (hS : Sim w κ μ) : ¬ own κ w.heap.size := by
  rintro (h | ⟨t, h⟩)
  · exact Nat.lt_irrefl _ (hS.exlt _ h)
  · exact Nat.lt_irrefl _ (hS.lt _ _ h)

theorem Sim.push (hS : Sim w κ μ) (o : Obj) (o1 : MObj)
    (ho : ORep (w.alloc o) (own (κ.set μ.length (some (some w.heap.size)))) (κ.set μ.length (some (some w.heap.size))) (some w.heap.size) o1) :
    Sim (w.alloc o) (κ.set μ.length (some (some w.heap.size))) (μ ++ [some o1]) := by
  have hG := Goes.alloc hS o
  refine hS.change (f := id) hG (fun t c o' _ hc h => ORep.still hG (fun b hb => ?_) h) (fun b hb => ?_) ho (by simp) (fun t ht => ?_)
  · subst hb; exact RowKit.Below.heap_alloc w o b (hS.lt _ _ hc)
  · cases hb
    exact ⟨by simp, fun h => Nat.lt_irrefl _ (hS.exlt _ h), fun t _ h => Nat.lt_irrefl _ (hS.lt _ _ h)⟩
  · rcases Nat.lt_trichotomy t μ.length with h | h | h
    · rw [List.getElem?_append_left h]; simp
    · exact absurd h ht
    · rw [List.getElem?_eq_none (by simp; omega), List.getElem?_eq_none (by omega)]; rfl

/-- A variable that comes to be with a value. -/
theorem Sim.newVar (hS : Sim w κ μ) (E : TypeId) {sh : Sh} {x : PV} {v : Value} (hv : Rep w (own κ) κ v x) {cs : List PV} (hx : partOf x sh.size = some cs) (hsh : shaped sh x) :
    Goes w κ (w.alloc (.cells v.cells E)) (κ.set μ.length (some (some w.heap.size))) (fun _ => False) ∧
    Sim (w.alloc (.cells v.cells E)) (κ.set μ.length (some (some w.heap.size))) (μ ++ [some (.var sh x)]) := by
  have hG := Goes.alloc hS (.cells v.cells E)
  obtain ⟨h1, h2, h3⟩ := rep_part hv hx
  have hcs : x.cells = cs := by
    unfold partOf at hx
    split at hx
    · split at hx <;> simp at hx; subst hx; rfl
    · split at hx
      · simp at hx; subst hx
        cases x <;> simp_all [PV.cells]
      · simp at hx
  refine ⟨hG, hS.push _ _ (.var _ v.cells E sh x (heap_alloc_at _ _) h1 hsh (fun j p u hp hu => ?_))⟩
  rw [hcs] at hp
  exact (h3 j u p hu hp).still hG


theorem Goes.drew (w : World) (κ : Kap) (m : Nat → Prop) : Goes w κ w.drew κ m := ⟨rfl, rfl, rfl, Nat.le_refl _, rfl, fun _ _ _ => rfl, fun _ _ h => h, fun _ _ h => h, fun _ _ h _ => h⟩

theorem Sim.drew (hS : Sim w κ μ) : Sim w.drew κ μ :=
  ⟨hS.inj, hS.lt, fun t c h => let ⟨o, h1, h2⟩ := hS.live t c h; ⟨o, h1, ORep.still (Goes.drew w κ _) (fun _ _ => rfl) h2⟩, hS.dead, hS.exlt, hS.exout⟩

theorem Kap.set_eq {t : Nat} {c : Option Nat} (h : κ t = some c) : κ.set t (some c) = κ := by
  cases κ with
  | mk tag ex =>
    unfold Kap.set
    congr 1
    funext i
    split
    · subst_vars; exact h.symm
    · rfl

/-- One owned row of cells is written. -/
theorem Goes.setRow {t b : Nat} {cur cur' : Array Value} {E : TypeId} (hk : κ t = some (some b)) (hg : w.heap[b]? = some (.cells cur E (0, 0))) (hsz : cur'.size = cur.size) (m : Nat → Prop) :
    Goes w κ (w.setRow b cur') κ m := by
  refine ⟨rfl, rfl, rfl, by simp, rfl, fun k hkk ho => ?_, fun _ _ h => h, fun k s hs => ?_, fun _ _ h _ => h⟩
  · exact setRow_other w b k cur' (fun e => ho ⟨t, by rw [e]; exact hk⟩)
  · by_cases e : k = b
    · subst e
      have := setRow_heap w k cur cur' E (0, 0) hg
      unfold World.shape? at hs ⊢
      rw [hg] at hs; rw [this]
      simpa [hsz] using hs
    · rw [shape?_of_block (setRow_other w b k cur' e)]; exact hs

theorem Mem.set_get (μ : Mem) (t : Nat) (o : MObj) (h : ∃ o', μ[t]? = some o') : (μ.set t (some o))[t]? = some (some o) := by
  obtain ⟨o', h⟩ := h
  have : t < μ.length := by
    rcases Nat.lt_or_ge t μ.length with h' | h'
    · exact h'
    · simp [List.getElem?_eq_none h'] at h
  simp [this]

/-- An object keeps its block and gets another content. -/
theorem Sim.put (hS : Sim w κ μ) {t b : Nat} {cur cur' : Array Value} {E : TypeId} {o o1 : MObj} (hk : κ t = some (some b)) (hm : μ.get t = some o) (hg : w.heap[b]? = some (.cells cur E (0, 0)))
    (hsz : cur'.size = cur.size) (ho : ORep (w.setRow b cur') (own κ) κ (some b) o1) : Sim (w.setRow b cur') κ (μ.set t (some o1)) := by
  have hG := Goes.setRow hk hg hsz (fun _ => False)
  have he := Kap.set_eq hk
  have := hS.change (w' := w.setRow b cur') (μ' := μ.set t (some o1)) (t1 := t) (c1 := some b) (o1 := o1) (f := id) (m := fun _ => False) (by rw [he]; exact hG)
    (fun t' c o' hne hc h => by
      rw [he]
      refine ORep.still hG (fun b' hb' => ?_) h
      subst hb'
      exact setRow_other w b b' cur' (fun e => hne (hS.inj t' t b' hc (by rw [e]; exact hk))))
    (fun b' hb' => by
      cases hb'
      exact ⟨by simp; exact hS.lt _ _ hk, hS.exout _ _ hk, fun t' hne h => hne (hS.inj t' t b h hk)⟩)
    (by rw [he]; exact ho) (Mem.set_get μ t o1 ⟨_, Mem.get_some hm⟩) (fun t' hne => by rw [List.getElem?_set_ne (Ne.symm hne)]; simp)
  rwa [he] at this

theorem rep_one {v : Value} {p : PV} (h : Rep w (own κ) κ v p) (hp : p.scalar = true) : v.oneCell' = true := by
  cases h with
  | junk => simp [PV.scalar] at hp
  | closed h => cases h <;> first | rfl | simp [PV.scalar] at hp
  | agg => simp [PV.scalar] at hp
  | tup => simp [PV.scalar] at hp
  | cond => simp [PV.scalar] at hp
  | _ => rfl

theorem part_one {v : Value} {p : PV} {size : Nat} {cs : List PV} (h : Rep w (own κ) κ v p) (hp : partOf p size = some cs) (hs : ∀ c ∈ cs, c.scalar = true) : ∀ u ∈ v.cells.toList, u.oneCell' = true := by
  obtain ⟨h1, h2, h3⟩ := rep_part h hp
  intro u hu
  obtain ⟨i, hi, he⟩ := List.getElem_of_mem hu
  have hi' : i < cs.length := by simp at hi; omega
  have h4 := h3 i u cs[i] (by simpa using List.getElem?_eq_some_iff.2 ⟨hi, he⟩) (List.getElem?_eq_getElem hi')
  exact rep_one h4 (hs _ (List.getElem_mem hi'))

/-- A store into cells of an owned block. -/
theorem store_run {P : Program} {T : TypeId} {n : Nat} (hT : ∀ w, (Go.sizeOf T).run P w = .ok n w) {b off : Nat} {cur : Array Value} {E : TypeId} {v : Value} (hg : w.heap[b]? = some (.cells cur E (0, 0)))
    (hv : v.cells.size = n) (hin : off + n ≤ cur.size) (h1 : ∀ u ∈ v.cells.toList, u.oneCell' = true) :
    (storeVar T ⟨b, off, none⟩ v).run P w = .ok () (w.setRow b (cur.toList.take off ++ v.cells.toList ++ cur.toList.drop (off + n)).toArray) := by
  have := run_storeCells_at P b off E v.cells.toList 0 cur w hg (by simp; omega) h1
  simp only [Nat.add_zero, Array.length_toList] at this
  simp only [storeVar, Sem.run_bind, hT, Result.andThen_ok, hv, ne_eq, not_true_eq_false, if_false]
  rw [this, hv]

theorem seg_get (cur new : List Value) (off j : Nat) (h : off + new.length ≤ cur.length) :
    (cur.take off ++ new ++ cur.drop (off + new.length))[j]? = if off ≤ j ∧ j < off + new.length then new[j - off]? else cur[j]? := by
  rw [List.append_assoc]
  by_cases h1 : j < off
  · rw [List.getElem?_append_left (by simp; omega), if_neg (by omega), List.getElem?_take_of_lt h1]
  · rw [List.getElem?_append_right (by simp; omega)]
    simp only [List.length_take, Nat.min_eq_left (show off ≤ cur.length by omega)]
    by_cases h2 : j < off + new.length
    · rw [if_pos (by omega), List.getElem?_append_left (by omega)]
    · rw [if_neg (by omega), List.getElem?_append_right (by omega), List.getElem?_drop]
      congr 1; omega

/-- The cells of a value of a shape. -/
def partSh (p : PV) (sh : Sh) : Option (List PV) :=
  match sh, p with
  | none, p => if p.scalar = true then some [p] else none
  | some n, .agg cs => if cs.length = n then some cs else none
  | _, _ => none

theorem partSh_spec {p : PV} {sh : Sh} {cs : List PV} (h : partSh p sh = some cs) : partOf p sh.size = some cs ∧ shaped sh p ∧ p.cells = cs ∧ cs.length = sh.size := by
  unfold partSh at h
  split at h
  · split at h
    · rename_i hp
      simp at h; subst h
      cases p <;> simp_all [partOf, PV.scalar, Sh.size, shaped, PV.isAgg, PV.cells]
    · simp at h
  · split at h
    · rename_i n cs' hl
      simp at h; subst h
      exact ⟨by simp [partOf, Sh.size, hl], ⟨_, rfl, hl⟩, rfl, hl⟩
    · simp at h
  · simp at h

/-- What a variable holds behind a store of a part of it. -/
def putPart (sh' sh : Sh) (x : PV) (off : Nat) (p : PV) : PV := if off = 0 ∧ sh' = sh then p else .agg (setAll x.cells off ((partSh p sh).getD []))

theorem putPart_spec {sh' sh : Sh} {x p : PV} {off : Nat} {cs : List PV} (hx : shaped sh' x) (hp : partSh p sh = some cs)
    (hok : (off = 0 ∧ sh' = sh) ∨ (sh'.isSome = true ∧ off + sh.size ≤ sh'.size)) :
    shaped sh' (putPart sh' sh x off p) ∧ ∀ j, (putPart sh' sh x off p).cells[j]? = if off ≤ j ∧ j < off + sh.size then cs[j - off]? else x.cells[j]? := by
  obtain ⟨h1, h2, h3, h4⟩ := partSh_spec hp
  unfold putPart
  by_cases h : off = 0 ∧ sh' = sh
  · rw [if_pos h]
    obtain ⟨rfl, rfl⟩ := h
    refine ⟨h2, fun j => ?_⟩
    rw [h3]
    split
    · simp
    · rename_i hn
      rw [List.getElem?_eq_none (by omega), List.getElem?_eq_none (by rw [shaped_len hx]; omega)]
  · rw [if_neg h]
    rcases hok with h' | ⟨hs1, hs2⟩
    · exact absurd h' h
    · obtain ⟨n, rfl⟩ := Option.isSome_iff_exists.1 hs1
      obtain ⟨xs, rfl, hxs⟩ := hx
      have hs2 : off + sh.size ≤ n := hs2
      rw [hp]
      have hle : off + cs.length ≤ xs.length := by omega
      refine ⟨⟨_, rfl, ?_⟩, fun j => ?_⟩
      · simp only [Option.getD_some, PV.cells]
        rw [setAll_length _ _ _ hle]; exact hxs
      · simp only [PV.cells, Option.getD_some]
        rw [setAll_get _ _ _ _ hle, h4]

/-- A store into an owned variable. -/
theorem Sim.store {P : Program} (hS : Sim w κ μ) {T : TypeId} {sh sh' : Sh} (hT : shOf P T = some sh) {t off : Nat} {a v : Value} {x p : PV} {cs : List PV} (ha : Rep w (own κ) κ a (.ref t off)) (hm : μ.get t = some (.var sh' x))
    (hv : Rep w (own κ) κ v p) (hp : partSh p sh = some cs) (hsc : ∀ c ∈ cs, c.scalar = true) (hok : (off = 0 ∧ sh' = sh) ∨ (sh'.isSome = true ∧ off + sh.size ≤ sh'.size)) :
    ∃ w', (Instr.storeAt T a v).run P w = .ok () w' ∧ Goes w κ w' κ (fun _ => False) ∧ Sim w' κ (μ.set t (some (.var sh' (putPart sh' sh x off p)))) := by
  obtain ⟨c, hc, hO⟩ := hS.at hm
  obtain ⟨hsz, -, -⟩ := shOf_spec hT
  cases ha with
  | closed ha => cases ha
  | ref _ _ b hb =>
    rw [hb] at hc; cases hc
    cases hO with
    | var b arr E sh' x hh hs hsh hr =>
      obtain ⟨hq, -, -, -⟩ := partSh_spec hp
      obtain ⟨h1, h2, h3⟩ := rep_part hv hq
      have hin : off + sh.size ≤ arr.size := by
        rcases hok with ⟨rfl, rfl⟩ | ⟨-, h⟩
        · omega
        · omega
      obtain ⟨hp1, hp2⟩ := putPart_spec hsh hp hok
      have hlen : v.cells.toList.length = sh.size := by simpa using h1
      have hsize : (arr.toList.take off ++ v.cells.toList ++ arr.toList.drop (off + sh.size)).toArray.size = arr.size := by
        simp [hlen]; omega
      have hG := Goes.setRow (w := w) hb hh hsize (fun _ => False)
      have hrun := store_run (P := P) hsz hh h1 hin (part_one hv hq hsc)
      refine ⟨_, by simp only [Instr.storeAt, Instr.sureAddr, Sem.run_bind, Sem.run_pure, Result.andThen_ok]; exact hrun, hG, ?_⟩
      refine hS.put hb hm hh hsize (.var b _ E sh' _ (setRow_heap w b arr _ E (0, 0) hh) (by rw [hsize, hs]) hp1 (fun j q u hq' hu => ?_))
      rw [hp2] at hq'
      rw [List.getElem?_toArray, show off + sh.size = off + v.cells.toList.length by rw [hlen], seg_get _ _ _ _ (by rw [hlen]; simpa using hin), hlen] at hu
      split at hq'
      · rename_i hj
        rw [if_pos hj] at hu
        exact (h3 _ u q (by simpa using hu) hq').still hG
      · rename_i hj
        rw [if_neg hj] at hu
        exact (hr j q u hq' (by simpa using hu)).still hG

end
end PG
