import Derived.Maps.RangeRun
import Derived.Carry
import Derived.Laws.IdiomStrings
import Derived.Laws.MakeOwn
import Derived.Laws.BytesArg
import Derived.Test.YthjkmhfiffojeaaGreatDoorP1
namespace PG
open Go
def Kap.set (κ : Kap) (t : Nat) (c : Option (Option Nat)) : Kap := ⟨fun i => if i = t then c else κ i, κ.ex⟩
@[simp] theorem Kap.set_self (κ : Kap) (t : Nat) (c : Option (Option Nat)) : (κ.set t c) t = c := by simp [Kap.set]
theorem Kap.jCI (κ : Kap) {t i : Nat} (c : Option (Option Nat)) (h : i ≠ t) : (κ.set t c) i = κ i := by simp [Kap.set, h]
@[simp] theorem Kap.kPZ (κ : Kap) (t : Nat) (c : Option (Option Nat)) : (κ.set t c).ex = κ.ex := rfl
section
variable {w w' : World} {κ κ' : Kap} {μ μ' : Mem}
theorem jD7.still {c : Option Nat} {o : jAF} (hG : Goes w κ w' κ' fun _ => False) (hb : ∀ b, c = some b -> w'.heap[b]? = w.heap[b]?) (h : jD7 w (own κ) κ c o) : jD7 w' (own κ') κ' c o := by
 cases h with
 | var b arr E sh x h hs hsh hr => exact .var b arr E sh x (by rw [hb b rfl]; exact h) hs hsh (fun j p v hp hv => (hr j p v hp hv).still hG)
 | jCE sh => exact .jCE sh
 | row b cur E cap sh xs h hs hm hl hfit hr => exact .row b cur E cap sh xs (by rw [hb b rfl]; exact h) hs hm hl hfit (fun j p v hp hv => (hr j p v hp hv).mono hG.agree)
 | iter b kd es seen m h hm => exact .iter b kd es seen m (by rw [hb b rfl]; exact h) (hm.imp id fun ⟨r, h1, h2⟩ => ⟨r, h1, h2.mono hG.agree⟩)
 | mp b kd es ents clock h hs hB hkd hk hv => exact .mp b kd es ents clock (by rw [hb b rfl]; exact h) hs hB hkd (fun i e q a d => (hk i e q a d).mono hG.agree) (fun i e q a d => (hv i e q a d).mono hG.agree)
 | mpg b kd es ents clock h hs hkd hk hv => exact .mpg b kd es ents clock (by rw [hb b rfl]; exact h) hs hkd (fun i e q a d => (hk i e q a d).mono hG.agree) (fun i e q a d => (hv i e q a d).mono hG.agree)
 | mpo b kd es ents clock h hs hB hkd hk hv => exact .mpo b kd es ents clock (by rw [hb b rfl]; exact h) hs hB hkd (fun i e q a d => (hk i e q a d).mono hG.agree) (fun i e q a d => (hv i e q a d).still hG)
theorem jDL {f : PV -> PV} {es : List (PV × PV)} {i : Nat} {q : PV × PV} (h : (es.map fun q => (q.1, f q.2))[i]? = some q) : ∃ q0, es[i]? = some q0 ∧ q = (q0.1, f q0.2) := by
 rw [List.getElem?_map] at h
 cases hq : es[i]? with
 | none => simp [hq] at h
 | some q0 => simp [hq] at h; exact ⟨q0, rfl, h.symm⟩
theorem jHA {dead : Nat -> Bool} {sh : Sh} {x : PV} (h : shaped sh x) : shaped sh (x.kill dead) := by
 cases sh with
 | none =>
  cases x <;> simp_all [shaped, PV.isAgg, PV.kill] <;> (split <;> first | rfl | (rename_i heq; split at heq <;> simp_all))
 | some n => obtain ⟨cs, rfl, h⟩ := h; exact ⟨cs.map (PV.kill dead), by simp [PV.kill], by simpa using h⟩
theorem jN8 {dead : Nat -> Bool} {sh : Sh} {x : PV} (h : shaped sh x) : (x.kill dead).cells = x.cells.map (PV.kill dead) := by
 cases sh with
 | none =>
  have h' := jHA (dead := dead) h
  have e1 : x.cells = [x] := by cases x <;> simp_all [shaped, PV.isAgg, PV.cells]
  have e2 : (x.kill dead).cells = [x.kill dead] := by
   generalize x.kill dead = y at h'
   cases y <;> simp_all [shaped, PV.isAgg, PV.cells]
  rw [e1, e2]; rfl
 | some n => obtain ⟨cs, rfl, h⟩ := h; simp [PV.kill, PV.cells]
theorem jD7.goes {m : Nat -> Prop} {dead : Nat -> Bool} {c : Option Nat} {o : jAF} (hG : Goes w κ w' κ' m) (hd : ∀ t, m t -> dead t = true) (hb : ∀ b, c = some b -> w'.heap[b]? = w.heap[b]?)
  (h : jD7 w (own κ) κ c o) : jD7 w' (own κ') κ' c (o.kill dead) := by
 cases h with
 | var b arr E sh x h hs hsh hr =>
  refine .var b arr E sh _ (by rw [hb b rfl]; exact h) hs (jHA hsh) (fun j p v hp hv => ?_)
  rw [jN8 hsh, List.getElem?_map] at hp
  cases hq : x.cells[j]? with
  | none => simp [hq] at hp
  | some q => simp [hq] at hp; subst hp; exact (hr j q v hq hv).goes hG hd
 | jCE sh => exact .jCE sh
 | row b cur E cap sh xs h hs hm hl hfit hr => exact .row b cur E cap sh xs (by rw [hb b rfl]; exact h) hs hm hl hfit (fun j p v hp hv => (hr j p v hp hv).mono hG.agree)
 | iter b kd es seen m h hm => exact .iter b kd es seen m (by rw [hb b rfl]; exact h) (hm.imp id fun ⟨r, h1, h2⟩ => ⟨r, h1, h2.mono hG.agree⟩)
 | mp b kd es ents clock h hs hB hkd hk hv => exact .mp b kd es ents clock (by rw [hb b rfl]; exact h) hs hB hkd (fun i e q a d => (hk i e q a d).mono hG.agree) (fun i e q a d => (hv i e q a d).mono hG.agree)
 | mpg b kd es ents clock h hs hkd hk hv => exact .mpg b kd es ents clock (by rw [hb b rfl]; exact h) hs hkd (fun i e q a d => (hk i e q a d).mono hG.agree) (fun i e q a d => (hv i e q a d).mono hG.agree)
 | mpo b kd es ents clock h hs hB hkd hk hv =>
  refine .mpo b kd _ ents clock (by rw [hb b rfl]; exact h) (by simpa using hs) hB (fun q hq => ?_) (fun i e q a d => ?_) (fun i e q a d => ?_)
  ·obtain ⟨q0, h0, rfl⟩ := List.mem_map.1 hq; exact hkd q0 h0
  ·obtain ⟨q0, h0, rfl⟩ := jDL (f := PV.kill dead) d; exact (hk i e q0 a h0).mono hG.agree
  ·obtain ⟨q0, h0, rfl⟩ := jDL (f := PV.kill dead) d; exact (hv i e q0 a h0).goes hG hd
theorem Sim.change (hS : Sim w κ μ) {t1 : Nat} {c1 : Option Nat} {o1 : jAF} {f : jAF -> jAF} {m : Nat -> Prop} (hG : Goes w κ w' (κ.set t1 (some c1)) m)
  (hf : ∀ t c o, t ≠ t1 -> κ t = some c -> jD7 w (own κ) κ c o -> jD7 w' (own (κ.set t1 (some c1))) (κ.set t1 (some c1)) c (f o))
  (hc : ∀ b, c1 = some b -> b < w'.heap.size ∧ ¬ κ.ex b ∧ ∀ t, t ≠ t1 -> κ t ≠ some (some b))
  (ho : jD7 w' (own (κ.set t1 (some c1))) (κ.set t1 (some c1)) c1 o1) (h1 : μ'[t1]? = some (some o1)) (h2 : ∀ t, t ≠ t1 -> μ'[t]? = (μ[t]?).map (Option.map f)) : Sim w' (κ.set t1 (some c1)) μ' := by
 refine ⟨?_, ?_, ?_, ?_, ?_, ?_⟩
 ·intro t t' b ht ht'
  by_cases e : t = t1
  ·by_cases e' : t' = t1
   ·rw [e, e']
   ·subst e
    rw [Kap.set_self] at ht; cases ht
    rw [Kap.jCI _ _ e'] at ht'
    exact absurd ht' ((hc b rfl).2.2 t' e')
  ·rw [Kap.jCI _ _ e] at ht
   by_cases e' : t' = t1
   ·subst e'
    rw [Kap.set_self] at ht'; cases ht'
    exact absurd ht ((hc b rfl).2.2 t e)
   ·rw [Kap.jCI _ _ e'] at ht'
    exact hS.inj t t' b ht ht'
 ·intro t b ht
  by_cases e : t = t1
  ·subst e; rw [Kap.set_self] at ht; cases ht; exact (hc b rfl).1
  ·rw [Kap.jCI _ _ e] at ht
   exact Nat.lt_of_lt_of_le (hS.lt t b ht) hG.size
 ·intro t c ht
  by_cases e : t = t1
  ·subst e; rw [Kap.set_self] at ht; cases ht; exact ⟨o1, h1, ho⟩
  ·rw [Kap.jCI _ _ e] at ht
   obtain ⟨o, h3, h4⟩ := hS.live t c ht
   exact ⟨f o, by rw [h2 t e, h3]; rfl, hf t c o e ht h4⟩
 ·intro t o ht
  by_cases e : t = t1
  ·subst e; simp
  ·rw [h2 t e] at ht
   cases hm : μ[t]? with
   | none => simp [hm] at ht
   | some x =>
    cases x with
    | none => simp [hm] at ht
    | some o' => rw [Kap.jCI _ _ e]; exact hS.dead t o' hm
 ·intro b hb
  exact Nat.lt_of_lt_of_le (hS.jN3 b hb) hG.size
 ·intro t b ht
  by_cases e : t = t1
  ·subst e; rw [Kap.set_self] at ht; cases ht; exact (hc b rfl).2.1
  ·rw [Kap.jCI _ _ e] at ht
   exact hS.jEJ t b ht
theorem Sim.fresh (hS : Sim w κ μ) : κ μ.length = none := by
 cases h : κ μ.length with
 | none => rfl
 | some c => obtain ⟨o, ho, -⟩ := hS.live _ _ h; simp at ho
theorem jTK {t1 : Nat} {c1 : Option Nat} {b : Nat} (h : tagged (κ.set t1 (some c1)) b) : tagged κ b ∨ c1 = some b := by
 obtain ⟨t, ht⟩ := h
 by_cases e : t = t1
 ·subst e; rw [Kap.set_self] at ht; cases ht; exact .inr rfl
 ·rw [Kap.jCI _ _ e] at ht; exact .inl ⟨t, ht⟩
theorem jB5 {b : Nat} (h : w'.heap[b]? = w.heap[b]?) : w'.shape? b = w.shape? b := by simp [World.shape?, h]
theorem Goes.alloc (hS : Sim w κ μ) (o : Obj) : Goes w κ (w.alloc o) (κ.set μ.length (some (some w.heap.size))) fun _ => False := by
 refine ⟨rfl, rfl, rfl, by simp, rfl, fun b hb _ => RowKit.Below.heap_alloc w o b hb, fun b hb ho h => ?_, fun b s hs => ?_, fun t c hc _ => ?_⟩
 ·rcases jTK h with h | h
  ·exact ho h
  ·cases h; exact Nat.lt_irrefl _ hb
 ·have hb : b < w.heap.size := by
   unfold World.shape? at hs
   rcases Nat.lt_or_ge b w.heap.size with h | h
   ·exact h
   ·simp [Array.getElem?_eq_none h] at hs
  rw [jB5 (RowKit.Below.heap_alloc w o b hb)]; exact hs
 ·rw [Kap.jCI]; exact hc
  rintro rfl; rw [hS.fresh] at hc; cases hc
theorem jBA (w : World) (o : Obj) : (w.alloc o).heap[w.heap.size]? = some o := by
 show (w.heap.push o)[w.heap.size]? = some o
 simp
theorem jLB (hS : Sim w κ μ) : ¬ own κ w.heap.size := by
 rintro (h | ⟨t, h⟩)
 ·exact Nat.lt_irrefl _ (hS.jN3 _ h)
 ·exact Nat.lt_irrefl _ (hS.lt _ _ h)
theorem Sim.push (hS : Sim w κ μ) (o : Obj) (o1 : jAF)
  (ho : jD7 (w.alloc o) (own (κ.set μ.length (some (some w.heap.size)))) (κ.set μ.length (some (some w.heap.size))) (some w.heap.size) o1) :
  Sim (w.alloc o) (κ.set μ.length (some (some w.heap.size))) (μ ++ [some o1]) := by
 have hG := Goes.alloc hS o
 refine hS.change (f := id) hG (fun t c o' _ hc h => jD7.still hG (fun b hb => ?_) h) (fun b hb => ?_) ho (by simp) (fun t ht => ?_)
 ·subst hb; exact RowKit.Below.heap_alloc w o b (hS.lt _ _ hc)
 ·cases hb
  exact ⟨by simp, fun h => Nat.lt_irrefl _ (hS.jN3 _ h), fun t _ h => Nat.lt_irrefl _ (hS.lt _ _ h)⟩
 ·rcases Nat.lt_trichotomy t μ.length with h | h | h
  ·rw [List.getElem?_append_left h]; simp
  ·exact absurd h ht
  ·rw [List.getElem?_eq_none (by simp; omega), List.getElem?_eq_none (by omega)]; rfl
theorem Sim.newVar (hS : Sim w κ μ) (E : TypeId) {sh : Sh} {x : PV} {v : Value} (hv : Rep w (own κ) κ v x) {cs : List PV} (hx : partOf x sh.size = some cs) (hsh : shaped sh x) :
  Goes w κ (w.alloc (.cells v.cells E)) (κ.set μ.length (some (some w.heap.size))) (fun _ => False) ∧
  Sim (w.alloc (.cells v.cells E)) (κ.set μ.length (some (some w.heap.size))) (μ ++ [some (.var sh x)]) := by
 have hG := Goes.alloc hS (.cells v.cells E)
 obtain ⟨h1, h2, h3⟩ := jHU hv hx
 have hcs : x.cells = cs := by
  unfold partOf at hx
  split at hx
  ·split at hx <;> simp at hx; subst hx; rfl
  ·split at hx
   ·simp at hx; subst hx
    cases x <;> simp_all [PV.cells]
   ·simp at hx
 refine ⟨hG, hS.push _ _ (.var _ v.cells E sh x (jBA _ _) h1 hsh (fun j p u hp hu => ?_))⟩
 rw [hcs] at hp
 exact (h3 j u p hu hp).still hG
theorem Goes.drew (w : World) (κ : Kap) (m : Nat -> Prop) : Goes w κ w.drew κ m := ⟨rfl, rfl, rfl, Nat.le_refl _, rfl, fun _ _ _ => rfl, fun _ _ h => h, fun _ _ h => h, fun _ _ h _ => h⟩
theorem Sim.drew (hS : Sim w κ μ) : Sim w.drew κ μ :=
 ⟨hS.inj, hS.lt, fun t c h => let ⟨o, h1, h2⟩ := hS.live t c h; ⟨o, h1, jD7.still (Goes.drew w κ _) (fun _ _ => rfl) h2⟩, hS.dead, hS.jN3, hS.jEJ⟩
theorem Kap.jUV {t : Nat} {c : Option Nat} (h : κ t = some c) : κ.set t (some c) = κ := by
 cases κ with
 | mk tag ex =>
  unfold Kap.set
  congr 1
  funext i
  split
  ·subst_vars; exact h.symm
  ·rfl
theorem Goes.setRow {t b : Nat} {cur cur' : Array Value} {E : TypeId} (hk : κ t = some (some b)) (hg : w.heap[b]? = some (.cells cur E (0, 0))) (hsz : cur'.size = cur.size) (m : Nat -> Prop) :
  Goes w κ (w.setRow b cur') κ m := by
 refine ⟨rfl, rfl, rfl, by simp, rfl, fun k hkk ho => ?_, fun _ _ h => h, fun k s hs => ?_, fun _ _ h _ => h⟩
 ·exact setRow_other w b k cur' (fun e => ho ⟨t, by rw [e]; exact hk⟩)
 ·by_cases e : k = b
  ·subst e
   have := setRow_heap w k cur cur' E (0, 0) hg
   unfold World.shape? at hs ⊢
   rw [hg] at hs; rw [this]
   simpa [hsz] using hs
  ·rw [jB5 (setRow_other w b k cur' e)]; exact hs
theorem Mem.jKQ (μ : Mem) (t : Nat) (o : jAF) (h : ∃ o', μ[t]? = some o') : (μ.set t (some o))[t]? = some (some o) := by
 obtain ⟨o', h⟩ := h
 have : t < μ.length := by
  rcases Nat.lt_or_ge t μ.length with h' | h'
  ·exact h'
  ·simp [List.getElem?_eq_none h'] at h
 simp [this]
theorem Sim.put (hS : Sim w κ μ) {t b : Nat} {cur cur' : Array Value} {E : TypeId} {o o1 : jAF} (hk : κ t = some (some b)) (hm : μ.get t = some o) (hg : w.heap[b]? = some (.cells cur E (0, 0)))
  (hsz : cur'.size = cur.size) (ho : jD7 (w.setRow b cur') (own κ) κ (some b) o1) : Sim (w.setRow b cur') κ (μ.set t (some o1)) := by
 have hG := Goes.setRow hk hg hsz (fun _ => False)
 have he := Kap.jUV hk
 have := hS.change (w' := w.setRow b cur') (μ' := μ.set t (some o1)) (t1 := t) (c1 := some b) (o1 := o1) (f := id) (m := fun _ => False) (by rw [he]; exact hG)
  (fun t' c o' hne hc h => by
   rw [he]
   refine jD7.still hG (fun b' hb' => ?_) h
   subst hb'
   exact setRow_other w b b' cur' (fun e => hne (hS.inj t' t b' hc (by rw [e]; exact hk))))
  (fun b' hb' => by
   cases hb'
   exact ⟨by simp; exact hS.lt _ _ hk, hS.jEJ _ _ hk, fun t' hne h => hne (hS.inj t' t b h hk)⟩)
  (by rw [he]; exact ho) (Mem.jKQ μ t o1 ⟨_, Mem.get_some hm⟩) (fun t' hne => by rw [List.getElem?_set_ne (Ne.symm hne)]; simp)
 rwa [he] at this
theorem kBD {v : Value} {p : PV} (h : Rep w (own κ) κ v p) (hp : p.scalar = true) : v.oneCell' = true := by
 cases h with
 | junk => simp [PV.scalar] at hp
 | closed h => cases h <;> first | rfl | simp [PV.scalar] at hp
 | agg => simp [PV.scalar] at hp
 | tup => simp [PV.scalar] at hp
 | cond => simp [PV.scalar] at hp
 | _ => rfl
theorem jVH {v : Value} {p : PV} {size : Nat} {cs : List PV} (h : Rep w (own κ) κ v p) (hp : partOf p size = some cs) (hs : ∀ c ∈ cs, c.scalar = true) : ∀ u ∈ v.cells.toList, u.oneCell' = true := by
 obtain ⟨h1, h2, h3⟩ := jHU h hp
 intro u hu
 obtain ⟨i, hi, he⟩ := List.getElem_of_mem hu
 have hi' : i < cs.length := by simp at hi; omega
 have h4 := h3 i u cs[i] (by simpa using List.getElem?_eq_some_iff.2 ⟨hi, he⟩) (List.getElem?_eq_getElem hi')
 exact kBD h4 (hs _ (List.getElem_mem hi'))
theorem jQA {P : Program} {T : TypeId} {n : Nat} (hT : ∀ w, (Go.sizeOf T).run P w = .ok n w) {b off : Nat} {cur : Array Value} {E : TypeId} {v : Value} (hg : w.heap[b]? = some (.cells cur E (0, 0)))
  (hv : v.cells.size = n) (hin : off + n <= cur.size) (h1 : ∀ u ∈ v.cells.toList, u.oneCell' = true) :
  (storeVar T ⟨b, off, none⟩ v).run P w = .ok () (w.setRow b (cur.toList.take off ++ v.cells.toList ++ cur.toList.drop (off + n)).toArray) := by
 have := run_storeCells_at P b off E v.cells.toList 0 cur w hg (by simp; omega) h1
 simp only [Nat.add_zero, Array.length_toList] at this
 simp only [storeVar, Sem.run_bind, hT, Result.andThen_ok, hv, ne_eq, not_true_eq_false, if_false]
 rw [this, hv]
theorem jTF (cur new : List Value) (off j : Nat) (h : off + new.length <= cur.length) :
  (cur.take off ++ new ++ cur.drop (off + new.length))[j]? = if off <= j ∧ j < off + new.length then new[j - off]? else cur[j]? := by
 rw [List.append_assoc]
 by_cases h1 : j < off
 ·rw [List.getElem?_append_left (by simp; omega), if_neg (by omega), List.getElem?_take_of_lt h1]
 ·rw [List.getElem?_append_right (by simp; omega)]
  simp only [List.length_take, Nat.min_eq_left (show off <= cur.length by omega)]
  by_cases h2 : j < off + new.length
  ·rw [if_pos (by omega), List.getElem?_append_left (by omega)]
  ·rw [if_neg (by omega), List.getElem?_append_right (by omega), List.getElem?_drop]
   congr 1; omega
def jBK (p : PV) (sh : Sh) : Option (List PV) :=
 match sh, p with
 | none, p => if p.scalar = true then some [p] else none
 | some n, .agg cs => if cs.length = n then some cs else none
 | _, _ => none
theorem jFO {p : PV} {sh : Sh} {cs : List PV} (h : jBK p sh = some cs) : partOf p sh.size = some cs ∧ shaped sh p ∧ p.cells = cs ∧ cs.length = sh.size := by
 unfold jBK at h
 split at h
 ·split at h
  ·rename_i hp
   simp at h; subst h
   cases p <;> simp_all [partOf, PV.scalar, Sh.size, shaped, PV.isAgg, PV.cells]
  ·simp at h
 ·split at h
  ·rename_i n cs' hl
   simp at h; subst h
   exact ⟨by simp [partOf, Sh.size, hl], ⟨_, rfl, hl⟩, rfl, hl⟩
  ·simp at h
 ·simp at h
def jBZ (sh' sh : Sh) (x : PV) (off : Nat) (p : PV) : PV := if off = 0 ∧ sh' = sh then p else .agg (jCZ x.cells off ((jBK p sh).getD []))
theorem jJG {sh' sh : Sh} {x p : PV} {off : Nat} {cs : List PV} (hx : shaped sh' x) (hp : jBK p sh = some cs)
  (hok : (off = 0 ∧ sh' = sh) ∨ (sh'.isSome = true ∧ off + sh.size <= sh'.size)) :
  shaped sh' (jBZ sh' sh x off p) ∧ ∀ j, (jBZ sh' sh x off p).cells[j]? = if off <= j ∧ j < off + sh.size then cs[j - off]? else x.cells[j]? := by
 obtain ⟨h1, h2, h3, h4⟩ := jFO hp
 unfold jBZ
 by_cases h : off = 0 ∧ sh' = sh
 ·rw [if_pos h]
  obtain ⟨rfl, rfl⟩ := h
  refine ⟨h2, fun j => ?_⟩
  rw [h3]
  split
  ·simp
  ·rename_i hn
   rw [List.getElem?_eq_none (by omega), List.getElem?_eq_none (by rw [jGO hx]; omega)]
 ·rw [if_neg h]
  rcases hok with h' | ⟨hs1, hs2⟩
  ·exact absurd h' h
  ·obtain ⟨n, rfl⟩ := Option.isSome_iff_exists.1 hs1
   obtain ⟨xs, rfl, hxs⟩ := hx
   have hs2 : off + sh.size <= n := hs2
   rw [hp]
   have hle : off + cs.length <= xs.length := by omega
   refine ⟨⟨_, rfl, ?_⟩, fun j => ?_⟩
   ·simp only [Option.getD_some, PV.cells]
    rw [jFM _ _ _ hle]; exact hxs
   ·simp only [PV.cells, Option.getD_some]
    rw [jM6 _ _ _ _ hle, h4]
theorem Sim.store {P : Program} (hS : Sim w κ μ) {T : TypeId} {sh sh' : Sh} (hT : jEZ P T = some sh) {t off : Nat} {a v : Value} {x p : PV} {cs : List PV} (ha : Rep w (own κ) κ a (.ref t off)) (hm : μ.get t = some (.var sh' x))
  (hv : Rep w (own κ) κ v p) (hp : jBK p sh = some cs) (hsc : ∀ c ∈ cs, c.scalar = true) (hok : (off = 0 ∧ sh' = sh) ∨ (sh'.isSome = true ∧ off + sh.size <= sh'.size)) :
  ∃ w', (Instr.storeAt T a v).run P w = .ok () w' ∧ Goes w κ w' κ (fun _ => False) ∧ Sim w' κ (μ.set t (some (.var sh' (jBZ sh' sh x off p)))) := by
 obtain ⟨c, hc, hO⟩ := hS.at hm
 obtain ⟨hsz, -, -⟩ := jBD hT
 cases ha with
 | closed ha => cases ha
 | ref _ _ b hb =>
  rw [hb] at hc; cases hc
  cases hO with
  | var b arr E sh' x hh hs hsh hr =>
   obtain ⟨hq, -, -, -⟩ := jFO hp
   obtain ⟨h1, h2, h3⟩ := jHU hv hq
   have hin : off + sh.size <= arr.size := by
    rcases hok with ⟨rfl, rfl⟩ | ⟨-, h⟩
    ·omega
    ·omega
   obtain ⟨hp1, hp2⟩ := jJG hsh hp hok
   have hlen : v.cells.toList.length = sh.size := by simpa using h1
   have hsize : (arr.toList.take off ++ v.cells.toList ++ arr.toList.drop (off + sh.size)).toArray.size = arr.size := by
    simp [hlen]; omega
   have hG := Goes.setRow (w := w) hb hh hsize (fun _ => False)
   have hrun := jQA (P := P) hsz hh h1 hin (jVH hv hq hsc)
   refine ⟨_, by simp only [Instr.storeAt, Instr.sureAddr, Sem.run_bind, Sem.run_pure, Result.andThen_ok]; exact hrun, hG, ?_⟩
   refine hS.put hb hm hh hsize (.var b _ E sh' _ (setRow_heap w b arr _ E (0, 0) hh) (by rw [hsize, hs]) hp1 (fun j q u hq' hu => ?_))
   rw [hp2] at hq'
   rw [List.getElem?_toArray, show off + sh.size = off + v.cells.toList.length by rw [hlen], jTF _ _ _ _ (by rw [hlen]; simpa using hin), hlen] at hu
   split at hq'
   ·rename_i hj
    rw [if_pos hj] at hu
    exact (h3 _ u q (by simpa using hu) hq').still hG
   ·rename_i hj
    rw [if_neg hj] at hu
    exact (hr j q u hq' (by simpa using hu)).still hG
end
section
variable {P : Program} {w : World} {κ : Kap} {μ : Mem}
def jCY (μ : Mem) (sh : Sh) : PV -> Option (List PV)
 | .list sh' xs => if sh' = sh then some xs else none
 | .jAH => some []
 | .sl sh' t n => if sh' = sh then (match μ.get t with
   | some (.row jS4 xs) => if jS4 = sh ∧ n <= xs.length then some (xs.take n) else none
   | _ => none) else none
 | _ => none
def kF1 (w : World) (κ : Kap) (sh : Sh) (ys : List PV) (u : Value) : Prop :=
 ∃ (a : Option Addr) (c : Nat) (news : List Value), u = .slice a ys.length c ∧ news.length = (flat ys).length ∧ (∀ y ∈ ys, fits sh y) ∧
  (∀ (j : Nat) (p : PV) (v : Value), (flat ys)[j]? = some p -> news[j]? = some v -> jAW w (own κ) v p) ∧
  (ys ≠ [] -> ∃ ad, a = some ad ∧ ∀ (j : Nat) (v : Value), news[j]? = some v -> w.cell? (ad.add j) = some v)
theorem jZ5 (hS : Sim w κ μ) {sh : Sh} {q : PV} {ys : List PV} {u : Value} (hu : Rep w (own κ) κ u q) (h : jCY μ sh q = some ys) : kF1 w κ sh ys u := by
 unfold jCY at h
 split at h
 ·rename_i sh' xs
  split at h
  ·rename_i hsh
   subst hsh
   simp at h; subst h
   obtain ⟨a, cap, b, off, val, hv, hcap, hmax, hfit, ha, hc, hr⟩ := jDN hu
   refine ⟨a, cap, (List.range (flat xs).length).map val, hv, by simp, hfit, fun j p v hp hv => ?_, fun hne => ⟨_, ha hne, fun j v hv => ?_⟩⟩
   ·have hj : j < (flat xs).length := (List.getElem?_eq_some_iff.1 hp).1
    simp [hj] at hv; subst hv
    exact hr j p hp
   ·have hj : j < (flat xs).length := by
     rcases Nat.lt_or_ge j (flat xs).length with h | h
     ·exact h
     ·simp [h] at hv
    simp [hj] at hv; subst hv
    rw [Addr.add_lit]; exact (hc j hj).2
  ·simp at h
 ·simp at h; subst h
  have := jDC hu
  exact ⟨none, 0, [], this, by simp [flat], by simp, fun j p v hp => by simp [flat] at hp, fun h => absurd rfl h⟩
 ·rename_i sh' t n
  split at h
  ·rename_i hsh
   subst hsh
   split at h
   ·rename_i jS4 xs hg
    split at h
    ·rename_i hc
     obtain ⟨rfl, hn⟩ := hc
     simp at h; subst h
     obtain ⟨c, hc, hO⟩ := hS.at hg
     rcases jNB hu with ⟨b, cap, hb, hv, hl, hm, -⟩ | ⟨hb, rfl, hv⟩
     ·rw [hb] at hc; cases hc
      cases hO with
      | row b cur E cap' sh xs hh hs hm' hl' hfit hr =>
       have jR7 : ∀ y ∈ xs.take n, fits jS4 y := fun y hy => hfit y (List.mem_of_mem_take hy)
       have hfl : flat (xs.take n) = (flat xs).take (n * jS4.size) := jEH hfit n
       have hfn : (flat (xs.take n)).length = n * jS4.size := by rw [flat_length jR7]; simp [Nat.min_eq_left hn]
       have hcur : n * jS4.size <= cur.size := by rw [hs]; exact Nat.mul_le_mul_right _ (by omega)
       refine ⟨some ⟨b, 0, none⟩, cap, cur.toList.take (n * jS4.size), by rw [hv]; simp [Nat.min_eq_left hn], by simp [hfn]; omega, jR7, fun j p v hp hv' => ?_, fun hne => ⟨_, rfl, fun j v hv' => ?_⟩⟩
       ·have hj : j < n * jS4.size := by rw [<- hfn]; exact (List.getElem?_eq_some_iff.1 hp).1
        rw [hfl, List.getElem?_take_of_lt hj] at hp
        rw [List.getElem?_take_of_lt hj] at hv'
        exact hr j p v hp (by simpa using hv')
       ·have hj : j < n * jS4.size := by
         rcases Nat.lt_or_ge j (n * jS4.size) with h | h
         ·exact h
         ·rw [List.getElem?_eq_none (by simp; omega)] at hv'; cases hv'
        rw [List.getElem?_take_of_lt hj] at hv'
        rw [Addr.add_lit, Nat.zero_add, jB0 hh]
        simpa using hv'
     ·exact ⟨none, 0, [], by rw [hv]; simp, by simp [flat], by simp, fun j p v hp => by simp [flat] at hp, fun h => by simp at h⟩
    ·simp at h
   ·simp at h
  ·simp at h
 ·simp at h
theorem kFK {sh : Sh} {ys : List PV} (hf : ∀ y ∈ ys, fits sh y) : ∀ c ∈ flat ys, c.scalar = true := by
 intro c hc
 simp only [flat, List.mem_flatMap] at hc
 obtain ⟨y, hy, hc⟩ := hc
 exact (hf y hy).kP0 c hc
theorem jVQ {sh : Sh} {ys : List PV} {news : List Value} (hl : news.length = (flat ys).length) (hf : ∀ y ∈ ys, fits sh y)
  (hr : ∀ (j : Nat) (p : PV) (v : Value), (flat ys)[j]? = some p -> news[j]? = some v -> jAW w (own κ) v p) : ∀ u ∈ news, u.oneCell' = true := by
 intro u hu
 obtain ⟨i, hi, he⟩ := List.getElem_of_mem hu
 have hi' : i < (flat ys).length := by omega
 have h4 := hr i _ u (List.getElem?_eq_getElem hi') (List.getElem?_eq_some_iff.2 ⟨hi, he⟩)
 exact kBD (.closed h4) (kFK hf _ (List.getElem_mem hi'))
theorem jJ1 {t : Nat} {sh : Sh} {zs : List PV} {olds rest : List Value} {cap : Nat} (e : TypeId) (hz : ∀ z ∈ zs, fits sh z) (hl : olds.length = (flat zs).length)
  (hr : ∀ (j : Nat) (p : PV) (v : Value), (flat zs)[j]? = some p -> olds[j]? = some v -> jAW w (own κ) v p) (hsz : (olds ++ rest).length = cap * sh.size) (hcap : zs.length <= cap) (hm : cap <= maxLen) :
  let w' := w.drew.alloc (.cells (olds ++ rest).toArray e)
  let κ' := κ.set t (some (some w.heap.size))
  Goes w κ w' κ' (fun i => i = t ∧ κ t ≠ none) ∧ jD7 w' (own κ') κ' (some w.heap.size) (.row sh zs) ∧ Rep w' (own κ') κ' (.slice (some ⟨w.heap.size, 0, none⟩) zs.length cap) (.sl sh t zs.length) := by
 intro w' κ'
 have hA : ∀ k, k < w.heap.size -> w'.heap[k]? = w.heap[k]? := fun k hk => RowKit.Below.heap_alloc w.drew _ k hk
 have hnew : w'.heap[w.heap.size]? = some (.cells (olds ++ rest).toArray e (0, 0)) := jBA w.drew _
 have hG : Goes w κ w' κ' (fun i => i = t ∧ κ t ≠ none) := by
  refine ⟨rfl, rfl, rfl, by simp [w'], rfl, fun b hb _ => hA b hb, fun b hb ho h => ?_, fun b s hs => ?_, fun i c hc hn => ?_⟩
  ·rcases jTK h with h | h
   ·exact ho h
   ·cases h; exact Nat.lt_irrefl _ hb
  ·have hb : b < w.heap.size := by
    unfold World.shape? at hs
    rcases Nat.lt_or_ge b w.heap.size with h | h
    ·exact h
    ·simp [Array.getElem?_eq_none h] at hs
   rw [jB5 (hA b hb)]; exact hs
  ·have hi : i ≠ t := by rintro rfl; exact hn ⟨rfl, by rw [hc]; simp⟩
   rw [Kap.jCI _ _ hi]; exact hc
 refine ⟨hG, ?_, ?_⟩
 ·refine .row _ _ e cap sh zs hnew (by simpa using hsz) hm hcap hz (fun j p v hp hv => ?_)
  have hj : j < (flat zs).length := (List.getElem?_eq_some_iff.1 hp).1
  rw [List.getElem?_toArray, List.getElem?_append_left (by omega)] at hv
  exact (hr j p v hp hv).mono hG.agree
 ·refine .sl sh t _ _ cap (by simp [κ']) ⟨e, ?_⟩ hcap hm
  simp only [World.shape?, hnew]
  congr 2
def jAR (t : Nat) : Nat -> Bool := fun i => i == t
def Mem.kill (μ : Mem) (dead : Nat -> Bool) : Mem := μ.map (Option.map (jAF.kill dead))
theorem jGU (μ : Mem) (dead : Nat -> Bool) (t : Nat) : (μ.kill dead)[t]? = (μ[t]?).map (Option.map (jAF.kill dead)) := by simp [Mem.kill]
theorem Sim.moved (hS : Sim w κ μ) {w' : World} {t b' : Nat} {c : Option Nat} {o1 : jAF} (hc : κ t = some c) (hb' : b' = w.heap.size) (hb2 : b' < w'.heap.size) (hold : ∀ b, b < w.heap.size -> w'.heap[b]? = w.heap[b]?)
  (hG : Goes w κ w' (κ.set t (some (some b'))) (fun i => i = t ∧ κ t ≠ none)) (ho : jD7 w' (own (κ.set t (some (some b')))) (κ.set t (some (some b'))) (some b') o1) :
  Sim w' (κ.set t (some (some b'))) ((μ.kill (jAR t)).set t (some o1)) := by
 refine hS.change (f := jAF.kill (jAR t)) hG (fun t' c' o' hne hc' h => ?_) (fun b hb => ?_) ho ?_ (fun t' hne => ?_)
 ·refine jD7.goes hG (fun i hi => by simp [jAR, hi.1]) (fun b hb => ?_) h
  subst hb; exact hold b (hS.lt _ _ hc')
 ·cases hb
  subst hb'
  exact ⟨hb2, fun h => Nat.lt_irrefl _ (hS.jN3 _ h), fun t' _ h => Nat.lt_irrefl _ (hS.lt _ _ h)⟩
 ·obtain ⟨o, h, -⟩ := hS.live t c hc
  exact Mem.jKQ _ t o1 ⟨_, by rw [jGU, h]; rfl⟩
 ·rw [List.getElem?_set_ne (Ne.symm hne), jGU]
structure kF3 (P : Program) (T e : TypeId) (sh : Sh) (bytes : Nat) : Prop where
 und : P.underlying T = some (.slice e)
 hsh : jEZ P e = some sh
 pos : 0 < Sh.size sh
 info : ∃ i z, P.info? e = some i ∧ i.zero = some z ∧ z.cells.size = i.size ∧ i.bytes = bytes
theorem kDV (hS : Sim w κ μ) {T e ty : TypeId} {sh : Sh} {bytes : Nat} (hT : kF3 P T e sh bytes) {t n : Nat} {v u : Value} {xs ys : List PV} (hv : Rep w (own κ) κ v (.sl sh t n)) (hm : μ.get t = some (.row sh xs)) (hn : n <= xs.length)
  (hu : kF1 w κ sh ys u) (hmax : n + ys.length <= maxLen) (hby : (n + ys.length) * bytes <= 140737488355328) :
  ∃ v' w' κ', (Builtin.append_ #[T, T] ty #[v, u]).run P w = .ok v' w' ∧ Goes w κ w' κ' (fun i => i = t) ∧ Sim w' κ' ((μ.kill (jAR t)).set t (some (.row sh (xs.take n ++ ys)))) ∧
   Rep w' (own κ') κ' v' (.sl sh t (n + ys.length)) := by
 obtain ⟨i, z, hi, hz, hzs, hib⟩ := hT.info
 obtain ⟨hsz, -, i', hi', hisz⟩ := jBD hT.hsh
 rw [hi] at hi'; cases hi'
 obtain ⟨c, hc, hO⟩ := hS.at hm
 obtain ⟨a, sc, news, hue, hnl, hyf, hyr, hya⟩ := hu
 have hfit : ∀ x ∈ xs, fits sh x := by cases hO <;> first | assumption | (intro x hx; cases hx)
 have hzf : ∀ z ∈ xs.take n ++ ys, fits sh z := fun z hz => by
  rcases List.mem_append.1 hz with h | h
  ·exact hfit z (List.mem_of_mem_take h)
  ·exact hyf z h
 have jFS : (flat ys).length = ys.length * sh.size := flat_length hyf
 have hint : ((n : Int) + (ys.length : Int)) <= 9223372036854775807 := by simp only [maxLen] at hmax; omega
 rw [hue]
 have hlt : (xs.take n ++ ys).length = n + ys.length := by simp [Nat.min_eq_left hn]
 rcases jNB hv with ⟨b, cap, hb, rfl, hl, hcm, E0, hE0⟩ | ⟨hb, rfl, rfl⟩
 ·-- a block is there
  rw [hb] at hc; cases hc
  cases hO with
  | row _ cur E cap' _ _ hh hs hm' hl' _ hr =>
   have hcap : cap = cap' := by
    simp only [World.shape?, hh, Option.some.injEq, Prod.mk.injEq] at hE0
    have := hE0.2
    rw [hs] at this
    exact (Nat.eq_of_mul_eq_mul_right hT.pos this).symm
   subst hcap
   have hfl : flat (xs.take n ++ ys) = (flat xs).take (n * sh.size) ++ flat ys := by rw [jDJ, jEH hfit]
   have hxl : (flat xs).length = xs.length * sh.size := flat_length hfit
   have hnx : n * sh.size <= (flat xs).length := by rw [hxl]; exact Nat.mul_le_mul_right _ hn
   have hcl : n * sh.size <= cur.size := by rw [hs]; exact Nat.mul_le_mul_right _ hl
   by_cases hroom : n + ys.length <= cap
   ·-- in place
    have kFA : n * sh.size + news.length <= cur.size := by rw [hnl, jFS, hs, <- Nat.add_mul]; exact Nat.mul_le_mul_right _ hroom
    have hsize : (cur.toList.take (n * sh.size) ++ news ++ cur.toList.drop (n * sh.size + news.length)).toArray.size = cur.size := by simp; omega
    have hrun : (Builtin.append_ #[T, T] ty #[.slice (some ⟨b, 0, none⟩) n cap, .slice a ys.length sc]).run P w =
      .ok (.slice (some ⟨b, 0, none⟩) (n + ys.length) cap) (w.setRow b (cur.toList.take (n * sh.size) ++ news ++ cur.toList.drop (n * sh.size + news.length)).toArray) := by
     have hf : (Builtin.firstCells sh.size ys.length (.slice a ys.length sc)).run P w = .ok news.toArray w := by
      by_cases hy : ys = []
      ·subst hy
       have : news = [] := List.eq_nil_of_length_eq_zero (by simpa [flat] using hnl)
       subst this
       cases a <;> simp [Builtin.firstCells, loadCells, loadCellsFrom]
      ·obtain ⟨ad, rfl, had⟩ := hya hy
       exact run_firstCells_some (P := P) w sh.size ys.length ad ys.length sc news (by rw [hnl, jFS]) had
     have hst := run_storeCells_at P b (n * sh.size) E news 0 cur w hh (by simpa using kFA) (jVQ hnl hyf hyr)
     simp only [Nat.add_zero] at hst
     simp [Builtin.append_, run_underlying hT.und, hsz, Builtin.lenOf, hroom, hf, Addr.add_lit, hst]
    have hG := Goes.setRow (w := w) (cur' := (cur.toList.take (n * sh.size) ++ news ++ cur.toList.drop (n * sh.size + news.length)).toArray) hb hh hsize (fun i => i = t)
    have hset := Kap.jUV hb
    refine ⟨_, _, κ, hrun, hG, ?_, ?_⟩
    ·have := hS.change (w' := w.setRow b (cur.toList.take (n * sh.size) ++ news ++ cur.toList.drop (n * sh.size + news.length)).toArray)
      (μ' := (μ.kill (jAR t)).set t (some (.row sh (xs.take n ++ ys)))) (t1 := t) (c1 := some b) (o1 := .row sh (xs.take n ++ ys)) (f := jAF.kill (jAR t)) (m := fun i => i = t) (by rw [hset]; exact hG)
      (fun t' c' o' hne hc' h => by
       rw [hset]
       refine jD7.goes hG (fun i hi => by simp [jAR, hi]) (fun b' hb' => ?_) h
       subst hb'
       exact setRow_other w b b' _ (fun e => hne (hS.inj t' t b' hc' (by rw [e]; exact hb))))
      (fun b' hb' => by cases hb'; exact ⟨by simp; exact hS.lt _ _ hb, hS.jEJ _ _ hb, fun t' hne h => hne (hS.inj t' t b h hb)⟩)
      (by
       rw [hset]
       refine .row b _ E cap sh _ (setRow_heap w b cur _ E (0, 0) hh) (by rw [hsize, hs]) hcm (by rw [hlt]; exact hroom) hzf (fun j p v' hp hv' => ?_)
       rw [List.getElem?_toArray, jTF _ _ _ _ (by simpa using kFA)] at hv'
       rw [hfl] at hp
       have htl : ((flat xs).take (n * sh.size)).length = n * sh.size := by simp; omega
       by_cases hj : j < n * sh.size
       ·rw [if_neg (by omega)] at hv'
        rw [List.getElem?_append_left (by omega), List.getElem?_take_of_lt hj] at hp
        exact (hr j p v' hp (by simpa using hv')).mono hG.agree
       ·have hj2 : j < n * sh.size + (flat ys).length := by
         have := (List.getElem?_eq_some_iff.1 hp).1
         rw [List.length_append, htl] at this; exact this
        rw [if_pos ⟨by omega, by omega⟩] at hv'
        rw [List.getElem?_append_right (by omega), htl] at hp
        exact (hyr _ p v' hp hv').mono hG.agree)
      (Mem.jKQ _ t _ ⟨_, by rw [jGU, Mem.get_some hm]; rfl⟩) (fun t' hne => by rw [List.getElem?_set_ne (Ne.symm hne), jGU])
     rwa [hset] at this
    ·exact .sl sh t _ b cap hb ⟨E0, hG.shape _ _ hE0⟩ hroom hcm
   ·-- a new row
    have hy : ys ≠ [] := by rintro rfl; simp at hroom; omega
    obtain ⟨ad, rfl, had⟩ := hya hy
    have holds : ∀ j v, (cur.toList.take (n * sh.size))[j]? = some v -> w.cell? ((⟨b, 0, none⟩ : Addr).add j) = some v := by
     intro j v hv'
     have hj : j < n * sh.size := by
      rcases Nat.lt_or_ge j (n * sh.size) with h | h
      ·exact h
      ·rw [List.getElem?_eq_none (by simp; omega)] at hv'; cases hv'
     rw [List.getElem?_take_of_lt hj] at hv'
     rw [Addr.add_lit, Nat.zero_add, jB0 hh]
     simpa using hv'
    have hrun := run_append_grow (P := P) w T ty e i z hT.und hi hz ⟨b, 0, none⟩ n cap (cur.toList.take (n * sh.size)) (by simp [hisz]; omega) holds ad ys.length sc news (by rw [hnl, jFS, hisz]) had (by omega) (by omega)
     (by rw [hib]; exact growslice_fits (by omega) hby)
    have hge := grownCap_ge w (n + ys.length) cap e
    have hgm := grownCap_le_maxLen w (n + ys.length) cap e hmax
    obtain ⟨hG, hO', hR'⟩ := jJ1 (w := w) (κ := κ) (t := t) (sh := sh) (zs := xs.take n ++ ys) (olds := cur.toList.take (n * sh.size) ++ news)
     (rest := (Builtin.zeroCells z.cells (grownCap w (n + ys.length) cap e - (n + ys.length))).toList) (cap := grownCap w (n + ys.length) cap e) e hzf
     (by rw [hfl]; simp [hnl]; omega)
     (fun j p v' hp hv' => by
      rw [hfl] at hp
      have htl : ((flat xs).take (n * sh.size)).length = n * sh.size := by simp; omega
      have hol : (cur.toList.take (n * sh.size)).length = n * sh.size := by simp; omega
      by_cases hj : j < n * sh.size
      ·rw [List.getElem?_append_left (by omega), List.getElem?_take_of_lt hj] at hp
       rw [List.getElem?_append_left (by omega), List.getElem?_take_of_lt hj] at hv'
       exact hr j p v' hp (by simpa using hv')
      ·rw [List.getElem?_append_right (by omega), htl] at hp
       rw [List.getElem?_append_right (by omega), hol] at hv'
       exact hyr _ p v' hp hv')
     (by
      simp only [List.length_append, List.length_take, Array.length_toList, Nat.min_eq_left hcl, hnl, jFS, size_zeroCells, hzs, hisz]
      rw [<- Nat.add_mul, <- Nat.add_mul]; congr 1; omega)
     (by rw [hlt]; exact hge) hgm
    have harr : ((cur.toList.take (n * sh.size)).toArray ++ news.toArray ++ Builtin.zeroCells z.cells (grownCap w (n + ys.length) cap e - (n + ys.length))) =
      (cur.toList.take (n * sh.size) ++ news ++ (Builtin.zeroCells z.cells (grownCap w (n + ys.length) cap e - (n + ys.length))).toList).toArray := by
     apply Array.ext'; simp
    rw [harr] at hrun
    refine ⟨_, _, _, hrun, (hG.weak fun i hi => hi.1), ?_, ?_⟩
    ·exact hS.moved hb rfl (by simp) (fun b hb => RowKit.Below.heap_alloc w.drew _ b hb) hG hO'
    ·rw [hlt] at hR'; exact hR'
 ·-- no block yet
  rw [hb] at hc; cases hc
  cases hO with
  | jCE =>
   have kSB : ∀ y ∈ ys, fits sh y := hyf
   by_cases hy : ys = []
   ·subst hy
    have hG := Goes.refl w κ (fun i => i = t)
    have hset := Kap.jUV hb
    refine ⟨.slice none 0 0, w, κ, ?_, hG, ?_, .slnil sh t hb⟩
    ·cases a <;> simp [Builtin.append_, run_underlying hT.und, hsz, Builtin.lenOf, Builtin.firstCells, loadCells, loadCellsFrom]
    ·have := hS.change (w' := w) (μ' := (μ.kill (jAR t)).set t (some (.row sh ([].take 0 ++ [])))) (t1 := t) (c1 := none) (o1 := .row sh []) (f := jAF.kill (jAR t)) (m := fun i => i = t) (by rw [hset]; exact hG)
      (fun t' c' o' _ _ h => by rw [hset]; exact jD7.goes hG (fun i hi => by simp [jAR, hi]) (fun _ _ => rfl) h) (fun b hb => by cases hb) (.jCE sh)
      (by simpa using Mem.jKQ _ t (.row sh []) ⟨_, by rw [jGU, Mem.get_some hm]; rfl⟩) (fun t' hne => by rw [List.getElem?_set_ne (Ne.symm hne), jGU])
     rwa [hset] at this
   ·obtain ⟨ad, rfl, had⟩ := hya hy
    have hpos : 0 < ys.length := List.length_pos_iff.2 hy
    have hrun := run_append_nil (P := P) w T ty e i z hT.und hi hz ad ys.length sc news (by rw [hnl, jFS, hisz]) had hpos (by omega) (by rw [hib]; simp only [Nat.zero_add] at hby; omega)
    have hge := grownCap_ge w ys.length 0 e
    have hgm := grownCap_le_maxLen w ys.length 0 e (by omega)
    obtain ⟨hG, hO', hR'⟩ := jJ1 (w := w) (κ := κ) (t := t) (sh := sh) (zs := ys) (olds := news) (rest := (Builtin.zeroCells z.cells (grownCap w ys.length 0 e - ys.length)).toList) (cap := grownCap w ys.length 0 e) e hyf hnl hyr
     (by
      simp only [List.length_append, Array.length_toList, hnl, jFS, size_zeroCells, hzs, hisz]
      rw [<- Nat.add_mul]; congr 1; omega) hge hgm
    have harr : news.toArray ++ Builtin.zeroCells z.cells (grownCap w ys.length 0 e - ys.length) = (news ++ (Builtin.zeroCells z.cells (grownCap w ys.length 0 e - ys.length)).toList).toArray := by
     apply Array.ext'; simp
    rw [harr] at hrun
    refine ⟨.slice (some ⟨w.heap.size, 0, none⟩) ys.length (grownCap w ys.length 0 e), _, _, by simpa using hrun, (hG.weak fun i hi => hi.1), ?_, ?_⟩
    ·simp only [List.take_nil, List.nil_append]
     exact hS.moved hb rfl (by simp) (fun b hb => RowKit.Below.heap_alloc w.drew _ b hb) hG hO'
    ·simpa using hR'
end
set_option linter.unusedSimpArgs false
set_option linter.unusedVariables false
section
variable {P : Program} {w : World} {κ : Kap} {μ : Mem}
theorem jVD (μ : Mem) (o : jAF) : (μ ++ [some o])[μ.length]? = some (some o) := by simp
theorem jNE (μ : Mem) (o : jAF) {t : Nat} (h : t ≠ μ.length) : (μ ++ [some o])[t]? = (μ[t]?).map (Option.map id) := by
 rcases Nat.lt_trichotomy t μ.length with h' | h' | h'
 ·rw [List.getElem?_append_left h']; simp
 ·exact absurd h' h
 ·rw [List.getElem?_eq_none (by simp; omega), List.getElem?_eq_none (by omega)]; rfl
theorem Sim.jCE (hS : Sim w κ μ) (sh : Sh) : Goes w κ w (κ.set μ.length (some none)) (fun _ => False) ∧ Sim w (κ.set μ.length (some none)) (μ ++ [some (.row sh [])]) := by
 have hG : Goes w κ w (κ.set μ.length (some none)) (fun _ => False) := by
  refine ⟨rfl, rfl, rfl, Nat.le_refl _, rfl, fun _ _ _ => rfl, fun b hb ho h => ?_, fun _ _ h => h, fun t c hc _ => ?_⟩
  ·rcases jTK h with h | h
   ·exact ho h
   ·cases h
  ·rw [Kap.jCI]; exact hc
   rintro rfl; rw [hS.fresh] at hc; cases hc
 exact ⟨hG, hS.change (f := id) hG (fun t c o' _ hc h => jD7.still hG (fun b hb => rfl) h) (fun b hb => by cases hb) (.jCE sh) (jVD μ _) (fun t ht => jNE μ _ ht)⟩
theorem Sim.pushRow (hS : Sim w κ μ) {w' : World} {o1 : jAF} (hb2 : w.heap.size < w'.heap.size) (hold : ∀ b, b < w.heap.size -> w'.heap[b]? = w.heap[b]?)
  (hG : Goes w κ w' (κ.set μ.length (some (some w.heap.size))) (fun _ => False)) (ho : jD7 w' (own (κ.set μ.length (some (some w.heap.size)))) (κ.set μ.length (some (some w.heap.size))) (some w.heap.size) o1) :
  Sim w' (κ.set μ.length (some (some w.heap.size))) (μ ++ [some o1]) := by
 refine hS.change (f := id) hG (fun t c o' _ hc h => jD7.still hG (fun b hb => ?_) h) (fun b hb => ?_) ho (jVD μ _) (fun t ht => jNE μ _ ht)
 ·subst hb; exact hold b (hS.lt _ _ hc)
 ·cases hb
  exact ⟨hb2, fun h => Nat.lt_irrefl _ (hS.jN3 _ h), fun t _ h => Nat.lt_irrefl _ (hS.lt _ _ h)⟩
theorem jS1 (hS : Sim w κ μ) {T e ty : TypeId} {sh : Sh} {bytes : Nat} (hT : kF3 P T e sh bytes) {u : Value} {ys : List PV}
  (hu : kF1 w κ sh ys u) (hmax : ys.length <= maxLen) (hby : ys.length * bytes <= 140737488355328) :
  ∃ v' w' κ', (Builtin.append_ #[T, T] ty #[.slice none 0 0, u]).run P w = .ok v' w' ∧ Goes w κ w' κ' (fun _ => False) ∧ Sim w' κ' (μ ++ [some (.row sh ys)]) ∧ Rep w' (own κ') κ' v' (.sl sh μ.length ys.length) := by
 obtain ⟨i, z, hi, hz, hzs, hib⟩ := hT.info
 obtain ⟨hsz, -, i', hi', hisz⟩ := jBD hT.hsh
 rw [hi] at hi'; cases hi'
 obtain ⟨a, sc, news, hue, hnl, hyf, hyr, hya⟩ := hu
 have jFS : (flat ys).length = ys.length * sh.size := flat_length hyf
 have hint : ((ys.length : Int)) <= 9223372036854775807 := by simp only [maxLen] at hmax; omega
 rw [hue]
 by_cases hy : ys = []
 ·subst hy
  obtain ⟨hG, hS'⟩ := hS.jCE sh
  refine ⟨.slice none 0 0, w, _, ?_, hG, hS', .slnil sh μ.length (by simp)⟩
  cases a <;> simp [Builtin.append_, run_underlying hT.und, hsz, Builtin.lenOf, Builtin.firstCells, loadCells, loadCellsFrom]
 ·obtain ⟨ad, rfl, had⟩ := hya hy
  have hpos : 0 < ys.length := List.length_pos_iff.2 hy
  have hrun := run_append_nil (P := P) w T ty e i z hT.und hi hz ad ys.length sc news (by rw [hnl, jFS, hisz]) had hpos (by omega) (by rw [hib]; omega)
  have hge := grownCap_ge w ys.length 0 e
  have hgm := grownCap_le_maxLen w ys.length 0 e (by omega)
  obtain ⟨hG, hO', hR'⟩ := jJ1 (w := w) (κ := κ) (t := μ.length) (sh := sh) (zs := ys) (olds := news) (rest := (Builtin.zeroCells z.cells (grownCap w ys.length 0 e - ys.length)).toList) (cap := grownCap w ys.length 0 e) e hyf hnl hyr
   (by
    simp only [List.length_append, Array.length_toList, hnl, jFS, size_zeroCells, hzs, hisz]
    rw [<- Nat.add_mul]; congr 1; omega) hge hgm
  have harr : news.toArray ++ Builtin.zeroCells z.cells (grownCap w ys.length 0 e - ys.length) = (news ++ (Builtin.zeroCells z.cells (grownCap w ys.length 0 e - ys.length)).toList).toArray := by
   apply Array.ext'; simp
  rw [harr] at hrun
  have hG' := hG.weak (m' := fun _ => False) (fun i hi => absurd hS.fresh hi.2)
  exact ⟨_, _, _, hrun, hG', hS.pushRow (by simp) (fun b hb => RowKit.Below.heap_alloc w.drew _ b hb) hG' hO', hR'⟩
theorem jUB (hS : Sim w κ μ) {T e ty : TypeId} {sh : Sh} {bytes : Nat} (hT : kF3 P T e sh bytes) {v u : Value} {xs ys : List PV} (hv : Rep w (own κ) κ v (.full sh xs))
  (hu : kF1 w κ sh ys u) (hmax : xs.length + ys.length <= maxLen) (hby : (xs.length + ys.length) * bytes <= 140737488355328) (hpos : 0 < ys.length) :
  ∃ v' w' κ', (Builtin.append_ #[T, T] ty #[v, u]).run P w = .ok v' w' ∧ Goes w κ w' κ' (fun _ => False) ∧ Sim w' κ' (μ ++ [some (.row sh (xs ++ ys))]) ∧ Rep w' (own κ') κ' v' (.sl sh μ.length (xs.length + ys.length)) := by
 obtain ⟨i, z, hi, hz, hzs, hib⟩ := hT.info
 obtain ⟨hsz, -, i', hi', hisz⟩ := jBD hT.hsh
 rw [hi] at hi'; cases hi'
 obtain ⟨a, sc, news, hue, hnl, hyf, hyr, hya⟩ := hu
 have jFS : (flat ys).length = ys.length * sh.size := flat_length hyf
 have hint : ((xs.length : Int) + (ys.length : Int)) <= 9223372036854775807 := by simp only [maxLen] at hmax; omega
 have hy : ys ≠ [] := List.length_pos_iff.1 hpos
 obtain ⟨ad, rfl, had⟩ := hya hy
 rw [hue]
 cases hv with
 | closed hv =>
 cases hv with
 | full A len sh xs b off val hlen hm hfit ha hc hr =>
 subst hlen
 have kIP : (flat xs).length = xs.length * sh.size := flat_length hfit
 have hzf : ∀ z ∈ xs ++ ys, fits sh z := fun z hz => (List.mem_append.1 hz).elim (hfit z) (hyf z)
 let olds : List Value := (List.range (xs.length * sh.size)).map val
 have hol : olds.length = xs.length * sh.size := by simp [olds]
 have kOL : ∀ (j : Nat) (p : PV) (v' : Value), (flat xs)[j]? = some p -> olds[j]? = some v' -> jAW w (own κ) v' p := by
  intro j p v' hp hv'
  have hj : j < xs.length * sh.size := by rw [<- hol]; exact (List.getElem?_eq_some_iff.1 hv').1
  simp only [olds, List.getElem?_map, List.getElem?_range hj, Option.map_some, Option.some.injEq] at hv'
  subst hv'; exact hr j p hp
 have hB : ∀ C : Nat, xs.length + ys.length <= C -> C <= maxLen -> ∀ w1 v', (Builtin.append_ #[T, T] ty #[.slice A xs.length xs.length, .slice (some ad) ys.length sc]).run P w = .ok v' w1 ->
   v' = .slice (some ⟨w.heap.size, 0, none⟩) (xs.length + ys.length) C -> w1 = w.drew.alloc (.cells (olds ++ news ++ (Builtin.zeroCells z.cells (C - (xs.length + ys.length))).toList).toArray e) ->
   ∃ v' w' κ', (Builtin.append_ #[T, T] ty #[.slice A xs.length xs.length, .slice (some ad) ys.length sc]).run P w = .ok v' w' ∧ Goes w κ w' κ' (fun _ => False) ∧ Sim w' κ' (μ ++ [some (.row sh (xs ++ ys))]) ∧ Rep w' (own κ') κ' v' (.sl sh μ.length (xs.length + ys.length)) := by
  intro C hC1 hC2 w1 v' hrun hv1 hw1
  obtain ⟨hG, hO', hR'⟩ := jJ1 (w := w) (κ := κ) (t := μ.length) (sh := sh) (zs := xs ++ ys) (olds := olds ++ news) (rest := (Builtin.zeroCells z.cells (C - (xs.length + ys.length))).toList) (cap := C) e hzf
   (by rw [jDJ, List.length_append, List.length_append, hol, hnl, kIP])
   (fun j p v' hp hv' => by
    rw [jDJ] at hp
    by_cases hj : j < xs.length * sh.size
    ·rw [List.getElem?_append_left (by omega)] at hp
     rw [List.getElem?_append_left (by omega)] at hv'
     exact kOL j p v' hp hv'
    ·rw [List.getElem?_append_right (by omega), kIP] at hp
     rw [List.getElem?_append_right (by omega), hol] at hv'
     exact hyr _ p v' hp hv')
   (by
    simp only [List.length_append, Array.length_toList, hol, hnl, jFS, size_zeroCells, hzs, hisz]
    rw [<- Nat.add_mul, <- Nat.add_mul]; congr 1; omega) (by simpa using hC1) hC2
  have hG' := hG.weak (m' := fun _ => False) (fun i hi => absurd hS.fresh hi.2)
  subst hv1; subst hw1
  refine ⟨_, _, _, hrun, hG', hS.pushRow (by simp) (fun b hb => RowKit.Below.heap_alloc w.drew _ b hb) hG' hO', ?_⟩
  simpa using hR'
 by_cases hx : xs = []
 ·subst hx
  simp only [List.length_nil, Nat.zero_add] at *
  have kP9 : olds = [] := by simp [olds]
  cases A with
  | none =>
   have hrun := run_append_nil (P := P) w T ty e i z hT.und hi hz ad ys.length sc news (by rw [hnl, jFS, hisz]) had hpos (by omega) (by rw [hib]; omega)
   refine hB (grownCap w ys.length 0 e) (grownCap_ge w ys.length 0 e) (grownCap_le_maxLen w ys.length 0 e (by omega)) _ _ hrun rfl ?_
   congr 2
   apply Array.ext'; simp [kP9]
  | some A =>
   have hrun := run_append_grow (P := P) w T ty e i z hT.und hi hz A 0 0 [] (by simp) (by simp) ad ys.length sc news (by rw [hnl, jFS, hisz]) had (by omega) (by omega) (by rw [hib]; exact growslice_fits (by omega) (by simpa using hby))
   refine hB (grownCap w (0 + ys.length) 0 e) (by simpa using grownCap_ge w (0 + ys.length) 0 e) (grownCap_le_maxLen w (0 + ys.length) 0 e (by omega)) _ _ hrun (by simp) ?_
   congr 2
   apply Array.ext'; simp [kP9]
 ·have hA := ha hx
  subst hA
  have holds : ∀ j v, olds[j]? = some v -> w.cell? ((⟨b, off, none⟩ : Addr).add j) = some v := by
   intro j v hv'
   have hj : j < xs.length * sh.size := by rw [<- hol]; exact (List.getElem?_eq_some_iff.1 hv').1
   simp only [olds, List.getElem?_map, List.getElem?_range hj, Option.map_some, Option.some.injEq] at hv'
   rw [Addr.add_lit, (hc j (by rw [kIP]; exact hj)).2, hv']
  have hrun := run_append_grow (P := P) w T ty e i z hT.und hi hz ⟨b, off, none⟩ xs.length xs.length olds (by rw [hol, hisz]) holds ad ys.length sc news (by rw [hnl, jFS, hisz]) had (by omega) (by omega)
   (by rw [hib]; exact growslice_fits (by omega) hby)
  refine hB (grownCap w (xs.length + ys.length) xs.length e) (grownCap_ge w _ _ e) (grownCap_le_maxLen w _ _ e hmax) _ _ hrun rfl ?_
  congr 2
  apply Array.ext'; simp
theorem jSD {sh : Sh} : ∀ (done ps : List PV) (n : Nat), (∀ y ∈ done, fits sh y) -> (∀ y ∈ ps, fits sh y) -> n = done.length ->
  ∀ cs : List PV, cs.length = (done.length + ps.length) * sh.size -> cs.take (done.length * sh.size) = flat done ->
  (∀ y ∈ ps, partOf y sh.size = some y.cells) ->
  jHI cs ((List.range' n ps.length).map fun i => (i * sh.size, sh.size)) ps = flat (done ++ ps)
 | done, [], n, hd, _, hn, cs, hl, ht, _ => by
  simp [jHI] at hl ⊢
  rw [<- ht, <- hl, List.take_length]
 | done, p :: ps, n, hd, hp, hn, cs, hl, ht, hpo => by
  subst hn
  have hpl := (hp p (by simp)).len
  have h1 : partOf p sh.size = some p.cells := hpo p (by simp)
  simp only [List.length_cons, List.range'_succ, List.map_cons, jHI, h1, Option.getD_some]
  have hle : done.length * sh.size + p.cells.length <= cs.length := by
   rw [hl, hpl]
   simp only [List.length_cons, Nat.add_mul, Nat.one_mul]; omega
  have := jSD (sh := sh) (done ++ [p]) ps (done.length + 1) (fun y hy => by
    rcases List.mem_append.1 hy with h | h
    ·exact hd y h
    ·simp at h; subst h; exact hp y (by simp))
   (fun y hy => hp y (by simp [hy])) (by simp) (jCZ cs (done.length * sh.size) p.cells) (by
    rw [jFM _ _ _ hle, hl]; simp; congr 1; omega)
   (by
    have hlen : ((done ++ [p]).length * sh.size) = done.length * sh.size + p.cells.length := by rw [hpl]; simp [Nat.add_mul]
    rw [hlen, jDJ, <- ht]
    simp only [jCZ]
    rw [List.take_append_of_le_length (by simp; omega), List.take_of_length_le (by simp; omega)]
    simp [flat])
   (fun y hy => hpo y (by simp [hy]))
  simpa using this
theorem jSF {sh : Sh} {y : PV} (h : fits sh y) : partOf y sh.size = some y.cells := by
 cases sh with
 | none => cases y <;> simp_all [fits, PV.scalar, partOf, Sh.size, PV.cells]
 | some n => obtain ⟨cs, rfl, h, _⟩ := h; simp [partOf, Sh.size, PV.cells, h]
theorem kCU {sh : Sh} (len : Nat) : ∀ (ps : List PV) (n : Nat), (∀ y ∈ ps, fits sh y) -> (n + ps.length) * sh.size <= len -> jIC len ((List.range' n ps.length).map fun i => (i * sh.size, sh.size)) ps
 | [], n, _, _ => by simp [jIC]
 | p :: ps, n, h, hl => by
  simp only [List.length_cons, List.range'_succ, List.map_cons, jIC]
  have h1 := jSF (h p (by simp))
  have h2 : (n + 1) * sh.size <= (n + (ps.length + 1)) * sh.size := Nat.mul_le_mul_right _ (by omega)
  refine ⟨by rw [h1]; rfl, ?_, kCU len ps (n + 1) (fun y hy => h y (by simp [hy])) ?_⟩
  ·simp only [List.length_cons] at hl
   rw [Nat.add_mul] at h2; omega
  ·simp only [List.length_cons] at hl
   have : n + 1 + ps.length = n + (ps.length + 1) := by omega
   rw [this]; exact hl
theorem jUA {T e : TypeId} {sh : Sh} (hT : P.underlying T = some (.slice e)) (he : jEZ P e = some sh) {i : TypeInfo} {z : Value} (hi : P.info? e = some i) (hz : i.zero = some z) (hzs : z.cells.size = i.size)
  {vs : List Value} {ps : List PV} (hl : vs.length = ps.length) (hr : ∀ (i : Nat) (v : Value) (p : PV), vs[i]? = some v -> ps[i]? = some p -> Rep w (own κ) κ v p) (hf : ∀ y ∈ ps, fits sh y) (hpos : 0 < sh.size)
  (hbig : ps.length * sh.size <= 16777216) :
  ∃ arr : Array Value, (Instr.buildSlice T ps.length ((List.range ps.length).zip vs).toArray).run P w = .ok (.slice (some ⟨w.heap.size, 0, none⟩) ps.length ps.length) (w.alloc (.cells arr e)) ∧ arr.size = ps.length * sh.size ∧
   ∀ (j : Nat) (v : Value) (p : PV), arr[j]? = some v -> (flat ps)[j]? = some p -> Rep w (own κ) κ v p := by
 obtain ⟨hsz, -, i', hi', hisz⟩ := jBD he
 rw [hi] at hi'; cases hi'
 have hzero : (zeroValue e).run P w = .ok z w := by simp [zeroValue, typeInfo, hi, hz]
 let start : Array Value := (Array.range (ps.length * sh.size)).map ((if ps.length * sh.size = 0 then #[] else z.cells)[· % (if ps.length * sh.size = 0 then #[] else z.cells).size]!)
 have hss : start.size = ps.length * sh.size := by simp [start]
 obtain ⟨arr, h1, h2, h3⟩ := jPI (w := w) (κ := κ) (fun i => some (i * sh.size, sh.size)) ((List.range ps.length).zip vs) ((List.range' 0 ps.length).map fun i => (i * sh.size, sh.size)) ps start (List.replicate (ps.length * sh.size) .junk)
  (by
   rw [List.range_eq_range']
   have hm : ((List.range' 0 ps.length).zip vs).map Prod.fst = List.range' 0 ps.length := List.map_fst_zip (by simp [hl])
   calc ((List.range' 0 ps.length).zip vs).map (fun x => some (x.1 * sh.size, sh.size))
     = (((List.range' 0 ps.length).zip vs).map Prod.fst).map (fun i => some (i * sh.size, sh.size)) := by simp [Function.comp_def]
    _ = _ := by rw [hm]; simp [Function.comp_def])
  (by simp [hl]) (fun k x p hx hp => by
   rw [List.getElem?_zip_eq_some] at hx
   exact hr k x.2 p hx.2 hp)
  (by simp [hss]) (fun k v p _ hp => by
   rw [List.getElem?_replicate] at hp
   split at hp <;> simp at hp
   subst hp; exact .junk v)
  (by simpa using kCU _ ps 0 hf (by simp))
 have hff := jSD (sh := sh) [] ps 0 (by simp) hf rfl (List.replicate (ps.length * sh.size) .junk) (by simp) (by simp [flat]) (fun y hy => jSF (hf y hy))
 simp only [List.nil_append] at hff
 rw [hff] at h2 h3
 refine ⟨arr, ?_, by rw [h2, flat_length hf], h3⟩
 have hb : ¬ (16777216 < ps.length * sh.size) := by omega
 by_cases h0 : ps.length * sh.size = 0
 ·simp only [start, h0, if_true] at h1
  simp [Instr.buildSlice, run_underlying hT, hsz, h0, newRow]
  simp at h1
  rw [h1]
  simp
 ·simp only [start, h0, if_false] at h1
  simp [Instr.buildSlice, run_underlying hT, hsz, h0, hb, newRow, hzero]
  rw [h1]
  simp
end
def PV.jA5 : PV -> Bool
 | .junk | .ref _ _ | .jDX _ _ _ _ | .sl _ _ _ | .mref _ | .cond _ _ => false
 | .agg ps => (ps.map PV.jA5).all id
 | .tup ps => (ps.map PV.jA5).all id
 | .fn _ ps qs => (ps.map PV.jA5).all id && (qs.map PV.jA5).all id
 | _ => true
def PV.flat : PV -> Bool
 | .int _ _ | .bool _ | .str _ | .nilFn | .nilPtr | .jAH | .jA0 => true
 | .agg ps => (ps.map PV.flat).all id
 | .tup ps => (ps.map PV.flat).all id
 | _ => false
def PV.view (μ : Mem) : PV -> PV
 | .sl sh t n => match μ.get t with
   | some (.row sh' xs) => if sh' = sh ∧ n <= xs.length then .list sh (xs.take n) else .junk
   | _ => .junk
 | .mref t => match μ.get t with
   | some (.mp kd es) => .jC9 kd es
   | _ => .junk
 | .agg ps => .agg (ps.map (PV.view μ))
 | .tup ps => .tup (ps.map (PV.view μ))
 | .fn f ps qs => .fn f (ps.map (PV.view μ)) (qs.map (PV.view μ))
 | .ref _ _ | .jDX _ _ _ _ | .cond _ _ => .junk
 | p => p
def PV.seen (μ : Mem) : PV -> Bool
 | .sl sh t n => match μ.get t with
   | some (.row sh' xs) => decide (sh' = sh ∧ n <= xs.length)
   | _ => false
 | .mref t => match μ.get t with
   | some (.mp _ _) => true
   | _ => false
 | .agg ps => (ps.map (PV.seen μ)).all id
 | .tup ps => (ps.map (PV.seen μ)).all id
 | .fn _ ps qs => (ps.map (PV.seen μ)).all id && (qs.map (PV.seen μ)).all id
 | .junk | .ref _ _ | .jDX _ _ _ _ | .cond _ _ => false
 | _ => true
theorem jB3 {f : PV -> Bool} {ps : List PV} : (ps.map f).all id = true ↔ ∀ p ∈ ps, f p = true := by simp [List.all_eq_true]
section
variable {P : Program} {w : World} {κ : Kap} {μ : Mem}
theorem jDB {v : Value} {p : PV} (h : Rep w (own κ) κ v p) (hp : p.jA5 = true) : jAW w (own κ) v p := by
 induction h with
 | junk => simp [PV.jA5] at hp
 | closed h => exact h
 | ref => simp [PV.jA5] at hp
 | jDX => simp [PV.jA5] at hp
 | sl => simp [PV.jA5] at hp
 | slnil => simp [PV.jA5] at hp
 | mref => simp [PV.jA5] at hp
 | agg vs ps hs hr ih =>
  simp only [PV.jA5, jB3] at hp
  exact .agg vs ps hs (fun i v p a b => ih i v p a b (hp p (List.mem_of_getElem? b)))
 | tup vs ps hs hr ih =>
  simp only [PV.jA5, jB3] at hp
  exact .tup vs ps hs (fun i v p a b => ih i v p a b (hp p (List.mem_of_getElem? b)))
 | fn f first caps ps qs h1 h2 h3 h4 ih3 ih4 =>
  simp only [PV.jA5, Bool.and_eq_true, jB3] at hp
  exact .fn f first caps ps qs h1 h2 (fun i v p a b => ih3 i v p a b (hp.1 p (List.mem_of_getElem? b))) (fun i v p a b => ih4 i v p a b (hp.2 p (List.mem_of_getElem? b)))
 | cond => simp [PV.jA5] at hp
theorem jHW {w' : World} {ex ex' : Nat -> Prop} {v : Value} {p : PV} (h : jAW w ex v p) (hp : p.flat = true) : jAW w' ex' v p := by
 induction h with
 | int k n => exact .int k n
 | bool b => exact .bool b
 | str s => exact .str s
 | fn => simp [PV.flat] at hp
 | nilFn => exact .nilFn
 | nilPtr => exact .nilPtr
 | jAH => exact .jAH
 | jA0 => exact .jA0
 | yl => simp [PV.flat] at hp
 | list => simp [PV.flat] at hp
 | full => simp [PV.flat] at hp
 | jC9 => simp [PV.flat] at hp
 | jC2 => simp [PV.flat] at hp
 | agg vs ps hs hr ih =>
  simp only [PV.flat, jB3] at hp
  exact .agg vs ps hs (fun i v p a b => ih i v p a b (hp p (List.mem_of_getElem? b)))
 | tup vs ps hs hr ih =>
  simp only [PV.flat, jB3] at hp
  exact .tup vs ps hs (fun i v p a b => ih i v p a b (hp p (List.mem_of_getElem? b)))
theorem jQU {w' : World} {ex ex' : Nat -> Prop} {v : Value} {p : PV} (h : jAW w ex v p) (hp : p.flat = true) : ∀ {v' : Value}, jAW w' ex' v' p -> v' = v := by
 induction h with
 | int k n => intro v' h; cases h; rfl
 | bool b => intro v' h; cases h; rfl
 | str s =>
  intro v' h
  generalize hl : s.data.toList = l at h
  cases h with
  | str s' => congr 1; exact ByteArray.ext (Array.ext' hl.symm)
 | fn => simp [PV.flat] at hp
 | nilFn => intro v' h; cases h; rfl
 | nilPtr => intro v' h; cases h; rfl
 | jAH => intro v' h; cases h; rfl
 | jA0 => intro v' h; cases h; rfl
 | yl => simp [PV.flat] at hp
 | list => simp [PV.flat] at hp
 | full => simp [PV.flat] at hp
 | jC9 => simp [PV.flat] at hp
 | jC2 => simp [PV.flat] at hp
 | agg vs ps hs hr ih =>
  intro v' h
  simp only [PV.flat, jB3] at hp
  cases h with
  | agg vs' ps hs' hr' =>
   congr 1
   apply Array.ext (by omega)
   intro i h1 h2
   have hi : i < ps.length := by omega
   have hb := List.getElem?_eq_getElem hi
   exact ih i _ _ (Array.getElem?_eq_getElem h2) hb (hp _ (List.getElem_mem hi)) (hr' i _ _ (Array.getElem?_eq_getElem h1) hb)
 | tup vs ps hs hr ih =>
  intro v' h
  simp only [PV.flat, jB3] at hp
  cases h with
  | tup vs' ps hs' hr' =>
   congr 1
   apply Array.ext (by omega)
   intro i h1 h2
   have hi : i < ps.length := by omega
   have hb := List.getElem?_eq_getElem hi
   exact ih i _ _ (Array.getElem?_eq_getElem h2) hb (hp _ (List.getElem_mem hi)) (hr' i _ _ (Array.getElem?_eq_getElem h1) hb)
theorem jOV (hS : Sim w κ μ) {v : Value} {p : PV} (h : Rep w (own κ) κ v p) (hp : p.seen μ = true) : jAW w κ.ex v (p.view μ) := by
 have hA : Agree w (own κ) w κ.ex := ⟨fun _ _ _ => rfl, fun b _ h h' => h (.inl h')⟩
 have jA9 : ∀ (ps : List PV) (i : Nat) (p : PV), (ps.map (PV.view μ))[i]? = some p -> ∃ q, ps[i]? = some q ∧ p = q.view μ := by
  intro ps i p h
  rw [List.getElem?_map] at h
  cases hq : ps[i]? with
  | none => simp [hq] at h
  | some q => simp [hq] at h; exact ⟨q, rfl, h.symm⟩
 have jI9 : ∀ {v : Value} {p : PV}, jAW w (own κ) v p -> p.seen μ = true -> jAW w κ.ex v (p.view μ) := by
  intro v p h
  induction h with
  | fn f first caps ps qs h1 h2 h3 h4 ih3 ih4 =>
   intro hp
   simp only [PV.seen, Bool.and_eq_true, jB3] at hp
   simp only [PV.view]
   refine .fn f first caps _ _ (by simpa using h1) (by simpa using h2) (fun i v p a b => ?_) (fun i v p a b => ?_)
   ·obtain ⟨q, hq, rfl⟩ := jA9 ps i p b
    exact ih3 i v q a hq (hp.1 q (List.mem_of_getElem? hq))
   ·obtain ⟨q, hq, rfl⟩ := jA9 qs i p b
    exact ih4 i v q a hq (hp.2 q (List.mem_of_getElem? hq))
  | agg vs ps hs hr ih =>
   intro hp
   simp only [PV.seen, jB3] at hp
   simp only [PV.view]
   refine .agg vs _ (by simpa using hs) (fun i v p a b => ?_)
   obtain ⟨q, hq, rfl⟩ := jA9 ps i p b
   exact ih i v q a hq (hp q (List.mem_of_getElem? hq))
  | tup vs ps hs hr ih =>
   intro hp
   simp only [PV.seen, jB3] at hp
   simp only [PV.view]
   refine .tup vs _ (by simpa using hs) (fun i v p a b => ?_)
   obtain ⟨q, hq, rfl⟩ := jA9 ps i p b
   exact ih i v q a hq (hp q (List.mem_of_getElem? hq))
  | int k n => intro _; simp only [PV.view]; exact .int k n
  | bool b => intro _; simp only [PV.view]; exact .bool b
  | str s => intro _; simp only [PV.view]; exact .str s
  | nilFn => intro _; simp only [PV.view]; exact .nilFn
  | nilPtr => intro _; simp only [PV.view]; exact .nilPtr
  | jAH => intro _; simp only [PV.view]; exact .jAH
  | jA0 => intro _; simp only [PV.view]; exact .jA0
  | yl l => intro _; simp only [PV.view]; exact .yl l
  | list a len cap sh xs b off val h1 h2 h3 h4 h5 h6 h7 _ => intro _; simp only [PV.view]; exact (jAW.list a len cap sh xs b off val h1 h2 h3 h4 h5 h6 h7).mono hA
  | full a len sh xs b off val h1 h3 h4 h5 h6 h7 _ => intro _; simp only [PV.view]; exact (jAW.full a len sh xs b off val h1 h3 h4 h5 h6 h7).mono hA
  | jC9 r kd es ents clock h1 h2 h3 h4 h4' h5 h6 _ _ => intro _; simp only [PV.view]; exact (jAW.jC9 r kd es ents clock h1 h2 h3 h4 h4' h5 h6).mono hA
  | jC2 b o off sh x val h1 h2 h3 h4 _ => intro _; simp only [PV.view]; exact (jAW.jC2 b o off sh x val h1 h2 h3 h4).mono hA
 induction h with
 | junk => simp [PV.seen] at hp
 | closed h => exact jI9 h hp
 | ref => simp [PV.seen] at hp
 | jDX => simp [PV.seen] at hp
 | sl sh t n b cap hb hs hl hm =>
  simp only [PV.seen, PV.view] at hp ⊢
  split at hp
  ·rename_i sh' xs hg
   simp only [decide_eq_true_eq] at hp
   obtain ⟨rfl, hn⟩ := hp
   rw [if_pos ⟨rfl, hn⟩]
   obtain ⟨c, hc, hO⟩ := hS.at hg
   rw [hb] at hc; cases hc
   cases hO with
   | row _ cur E cap' _ _ hh hcs hm' hl' hfit hr =>
    have jR7 : ∀ y ∈ xs.take n, fits sh' y := fun y hy => hfit y (List.mem_of_mem_take hy)
    have hfl : PG.flat (xs.take n) = (PG.flat xs).take (n * sh'.size) := jEH hfit n
    have hfn : (PG.flat (xs.take n)).length = n * sh'.size := by rw [flat_length jR7]; simp [Nat.min_eq_left hn]
    have hcur : n * sh'.size <= cur.size := by rw [hcs]; exact Nat.mul_le_mul_right _ (by omega)
    refine .list _ n cap sh' _ b 0 (fun j => cur.getD j undef) (by simp [Nat.min_eq_left hn]) hl hm jR7 (fun _ => rfl) (fun j hj => ⟨hS.jEJ _ _ hb, ?_⟩) (fun j p hp => ?_)
    ·rw [Nat.zero_add, jB0 hh]
     rw [hfn] at hj
     simp [show j < cur.size by omega]
    ·have hj : j < n * sh'.size := by rw [<- hfn]; exact (List.getElem?_eq_some_iff.1 hp).1
     rw [hfl, List.getElem?_take_of_lt hj] at hp
     exact (hr j p _ hp (by simp [show j < cur.size by omega])).mono hA
  ·simp at hp
 | slnil sh t hb =>
  simp only [PV.seen, PV.view] at hp ⊢
  split at hp
  ·rename_i sh' xs hg
   simp only [decide_eq_true_eq] at hp
   obtain ⟨rfl, hn⟩ := hp
   rw [if_pos ⟨rfl, hn⟩]
   exact .list none 0 0 sh' _ 0 0 (fun _ => undef) (by simp) (Nat.le_refl _) (Nat.zero_le _) (by simp) (fun h => by simp at h) (fun j hj => by simp [PG.flat] at hj) (fun j p hp => by simp [PG.flat] at hp)
  ·simp at hp
 | mref t b hb =>
  simp only [PV.seen, PV.view] at hp ⊢
  split at hp
  ·rename_i kd es hg
   obtain ⟨c, hc, hO⟩ := hS.at hg
   rw [hb] at hc; cases hc
   cases hO with
   | mp _ _ _ ents clock h hs hB hkd hk hv =>
    exact .jC9 b kd es ents clock (hS.jEJ _ _ hb) h hs hB hkd (fun i e q a d => (hk i e q a d).mono hA) (fun i e q a d => (hv i e q a d).mono hA)
  ·simp at hp
 | agg vs ps hs hr ih =>
  simp only [PV.seen, jB3] at hp
  simp only [PV.view]
  refine .agg vs _ (by simpa using hs) (fun i v p a b => ?_)
  obtain ⟨q, hq, rfl⟩ := jA9 ps i p b
  exact ih i v q a hq (hp q (List.mem_of_getElem? hq))
 | tup vs ps hs hr ih =>
  simp only [PV.seen, jB3] at hp
  simp only [PV.view]
  refine .tup vs _ (by simpa using hs) (fun i v p a b => ?_)
  obtain ⟨q, hq, rfl⟩ := jA9 ps i p b
  exact ih i v q a hq (hp q (List.mem_of_getElem? hq))
 | fn f first caps ps qs h1 h2 h3 h4 ih3 ih4 =>
  simp only [PV.seen, Bool.and_eq_true, jB3] at hp
  simp only [PV.view]
  refine .fn f first caps _ _ (by simpa using h1) (by simpa using h2) (fun i v p a b => ?_) (fun i v p a b => ?_)
  ·obtain ⟨q, hq, rfl⟩ := jA9 ps i p b
   exact ih3 i v q a hq (hp.1 q (List.mem_of_getElem? hq))
  ·obtain ⟨q, hq, rfl⟩ := jA9 qs i p b
   exact ih4 i v q a hq (hp.2 q (List.mem_of_getElem? hq))
 | cond => simp [PV.seen] at hp
def PV.lend : Nat -> Mem -> PV -> PV
 | 0, μ, p => p.view μ
 | n + 1, μ, p => match p with
   | .ref t off => match μ.get t with
     | some (.var sh (.agg cs)) => .jC2 sh (.agg (cs.map (PV.lend n μ))) off
     | some (.var sh x) => .jC2 sh (x.lend n μ) off
     | _ => .junk
   | .fn f ps qs => .fn f (ps.map (PV.lend n μ)) (qs.map (PV.lend n μ))
   | .agg ps => .agg (ps.map (PV.lend n μ))
   | .tup ps => .tup (ps.map (PV.lend n μ))
   | p => p.view μ
def jHH : Sh -> PV -> Bool
 | none, x => x.scalar
 | some n, .agg cs => decide (cs.length = n) && (cs.map PV.scalar).all id
 | _, _ => false
theorem jSI {sh : Sh} {x : PV} (h : jHH sh x = true) : fits sh x := by
 cases sh with
 | none => exact h
 | some n =>
  cases x <;> simp only [jHH, Bool.false_eq_true] at h
  rename_i cs
  simp only [Bool.and_eq_true, decide_eq_true_eq, jB3] at h
  exact ⟨cs, rfl, h.1, h.2⟩
def PV.jBU : Nat -> Mem -> PV -> Bool
 | 0, μ, p => p.seen μ
 | n + 1, μ, p => match p with
   | .ref t off => match μ.get t with
     | some (.var sh (.agg cs)) => jHH sh (.agg (cs.map (PV.lend n μ))) && (decide (off <= sh.size) && (cs.map (PV.jBU n μ)).all id)
     | some (.var sh x) => jHH sh (x.lend n μ) && (decide (off <= sh.size) && x.jBU n μ)
     | _ => false
   | .fn _ ps qs => (ps.map (PV.jBU n μ)).all id && (qs.map (PV.jBU n μ)).all id
   | .agg ps => (ps.map (PV.jBU n μ)).all id
   | .tup ps => (ps.map (PV.jBU n μ)).all id
   | p => p.seen μ
theorem jFQ {n : Nat} {ps : List PV} {i : Nat} {p : PV} (h : (ps.map (PV.lend n μ))[i]? = some p) : ∃ q, ps[i]? = some q ∧ p = q.lend n μ := by
 rw [List.getElem?_map] at h
 cases hq : ps[i]? with
 | none => simp [hq] at h
 | some q => simp [hq] at h; exact ⟨q, rfl, h.symm⟩
theorem kDL {b off : Nat} {sh : Sh} {x : PV} {arr : Array Value} {E : TypeId} (hex : ¬ κ.ex b) (hb : w.heap[b]? = some (.cells arr E (0, 0))) (hs : arr.size = sh.size) (hfit : fits sh x) (hoff : off <= sh.size)
  (hr : ∀ (j : Nat) (p : PV) (v : Value), x.cells[j]? = some p -> arr[j]? = some v -> jAW w κ.ex v p) : jAW w κ.ex (.pointer (some ⟨b, off, none⟩)) (.jC2 sh x off) := by
 have hl := hfit.len
 have := jAW.jC2 (w := w) (ex := κ.ex) b 0 off sh x (fun j => arr.getD j undef) hfit hoff (fun j hj => ⟨hex, by
  rw [Nat.zero_add, jB0 hb]
  have : j < arr.size := by omega
  simp [this]⟩) (fun j p hp => by
  have hj : j < x.cells.length := (List.getElem?_eq_some_iff.1 hp).1
  exact hr j p _ hp (by simp [show j < arr.size by omega]))
 simpa using this
theorem jU8 (hS : Sim w κ μ) : ∀ (n : Nat) {v : Value} {p : PV}, Rep w (own κ) κ v p -> p.jBU n μ = true -> jAW w κ.ex v (p.lend n μ) := by
 intro n
 induction n with
 | zero => intro v p h hp; exact jOV hS h hp
 | succ n ih =>
  intro v p h hp
  have hfn : ∀ {f : Nat} {first caps : Array Value} {ps qs : List PV}, first.size = ps.length -> caps.size = qs.length -> (∀ (i : Nat) (v : Value) (p : PV), first[i]? = some v -> ps[i]? = some p -> Rep w (own κ) κ v p) ->
    (∀ (i : Nat) (v : Value) (p : PV), caps[i]? = some v -> qs[i]? = some p -> Rep w (own κ) κ v p) -> (PV.fn f ps qs).jBU (n + 1) μ = true -> jAW w κ.ex (.func (.func f) first caps) ((PV.fn f ps qs).lend (n + 1) μ) := by
   intro f first caps ps qs h1 h2 h3 h4 hp
   simp only [PV.jBU, Bool.and_eq_true, jB3] at hp
   simp only [PV.lend]
   refine .fn f first caps _ _ (by simpa using h1) (by simpa using h2) (fun i v p a b => ?_) (fun i v p a b => ?_)
   ·obtain ⟨q, hq, rfl⟩ := jFQ b
    exact ih (h3 i v q a hq) (hp.1 q (List.mem_of_getElem? hq))
   ·obtain ⟨q, hq, rfl⟩ := jFQ b
    exact ih (h4 i v q a hq) (hp.2 q (List.mem_of_getElem? hq))
  have hagg : ∀ {vs : Array Value} {ps : List PV}, vs.size = ps.length -> (∀ (i : Nat) (v : Value) (p : PV), vs[i]? = some v -> ps[i]? = some p -> Rep w (own κ) κ v p) -> (PV.agg ps).jBU (n + 1) μ = true -> jAW w κ.ex (.agg vs) ((PV.agg ps).lend (n + 1) μ) := by
   intro vs ps hs hr hp
   simp only [PV.jBU, jB3] at hp
   simp only [PV.lend]
   refine .agg vs _ (by simpa using hs) (fun i v p a b => ?_)
   obtain ⟨q, hq, rfl⟩ := jFQ b
   exact ih (hr i v q a hq) (hp q (List.mem_of_getElem? hq))
  have kOJ : ∀ {vs : Array Value} {ps : List PV}, vs.size = ps.length -> (∀ (i : Nat) (v : Value) (p : PV), vs[i]? = some v -> ps[i]? = some p -> Rep w (own κ) κ v p) -> (PV.tup ps).jBU (n + 1) μ = true -> jAW w κ.ex (.tuple vs) ((PV.tup ps).lend (n + 1) μ) := by
   intro vs ps hs hr hp
   simp only [PV.jBU, jB3] at hp
   simp only [PV.lend]
   refine .tup vs _ (by simpa using hs) (fun i v p a b => ?_)
   obtain ⟨q, hq, rfl⟩ := jFQ b
   exact ih (hr i v q a hq) (hp q (List.mem_of_getElem? hq))
  cases p with
  | fn f ps qs =>
   cases h with
   | closed h =>
    cases h with
    | fn _ first caps _ _ h1 h2 h3 h4 => exact hfn h1 h2 (fun i v p a b => .closed (h3 i v p a b)) (fun i v p a b => .closed (h4 i v p a b)) hp
   | fn _ first caps _ _ h1 h2 h3 h4 => exact hfn h1 h2 h3 h4 hp
  | agg ps =>
   cases h with
   | closed h =>
    cases h with
    | agg vs _ hs hr => exact hagg hs (fun i v p a b => .closed (hr i v p a b)) hp
   | agg vs _ hs hr => exact hagg hs hr hp
  | tup ps =>
   cases h with
   | closed h =>
    cases h with
    | tup vs _ hs hr => exact kOJ hs (fun i v p a b => .closed (hr i v p a b)) hp
   | tup vs _ hs hr => exact kOJ hs hr hp
  | ref t off =>
   cases h with
   | closed h => cases h
   | ref _ _ b hb =>
    obtain ⟨o, ho, hO⟩ := hS.live t _ hb
    have hg : μ.get t = some o := by simp [Mem.get, ho]
    simp only [PV.jBU, PV.lend, hg] at hp ⊢
    have hex := hS.jEJ _ _ hb
    split at hp
    ·rename_i sh cs he
     cases he
     simp only [Bool.and_eq_true, decide_eq_true_eq, jB3] at hp
     obtain ⟨h1, h2, h3⟩ := hp
     cases hO with
     | var _ arr E _ _ h hs hsh hr =>
      refine kDL hex h hs (jSI h1) h2 (fun j p v hj hv => ?_)
      obtain ⟨q, hq, rfl⟩ := jFQ (show (cs.map (PV.lend n μ))[j]? = some p from hj)
      exact ih (hr j q v hq hv) (h3 q (List.mem_of_getElem? hq))
    ·rename_i sh x hx he
     cases he
     simp only [Bool.and_eq_true, decide_eq_true_eq] at hp
     obtain ⟨h1, h2, h3⟩ := hp
     cases hO with
     | var _ arr E _ _ h hs hsh hr =>
      have hxc : x.cells = [x] := by cases x <;> first | rfl | exact (hx _ rfl).elim
      have hlc : (x.lend n μ).cells = [x.lend n μ] := by
       cases sh with
       | none =>
        have : (x.lend n μ).scalar = true := h1
        revert this
        cases x.lend n μ <;> simp [PV.scalar, PV.cells]
       | some k =>
        obtain ⟨cs, rfl, -⟩ := hsh
        exact (hx _ rfl).elim
      refine kDL hex h hs (jSI h1) h2 (fun j p v hj hv => ?_)
      rw [hlc] at hj
      match j, hj with
      | 0, hj =>
       simp only [List.getElem?_cons_zero, Option.some.injEq] at hj
       subst hj
       exact ih (hr 0 x v (by rw [hxc]; rfl) hv) h3
    ·cases hp
  | _ => exact jOV hS h hp
theorem Goes.below {w' : World} (h : RowKit.Below w.heap.size w w') (m : Nat -> Prop) : Goes w κ w' κ m :=
 ⟨h.os, h.tape, h.output, h.size, rfl, fun b hb _ => h.block b hb, fun _ _ h => h, fun b s hs => by
  have hb : b < w.heap.size := by
   unfold World.shape? at hs
   rcases Nat.lt_or_ge b w.heap.size with h | h
   ·exact h
   ·simp [Array.getElem?_eq_none h] at hs
  rw [jB5 (h.block b hb)]; exact hs, fun _ _ h _ => h⟩
theorem Sim.below (hS : Sim w κ μ) {w' : World} (h : RowKit.Below w.heap.size w w') : Sim w' κ μ :=
 ⟨hS.inj, fun t b hb => Nat.lt_of_lt_of_le (hS.lt t b hb) h.size, fun t c hc => let ⟨o, h1, h2⟩ := hS.live t c hc; ⟨o, h1, jD7.still (Goes.below h _) (fun b hb => by subst hb; exact h.block b (hS.lt _ _ hc)) h2⟩,
  hS.dead, fun b hb => Nat.lt_of_lt_of_le (hS.jN3 b hb) h.size, hS.jEJ⟩
theorem Same.below {w' : World} (h : RowKit.Below w.heap.size w w') : Same w w' := h.block
theorem Below.kEY (w : World) (o : Obj) : RowKit.Below w.heap.size w (w.alloc o) := (RowKit.Below.refl _ _).alloc (Nat.le_refl _) o
end
def jUC (w : World) (ex : Nat -> Prop) (vs : Array Value) (ps : List PV) : Prop := vs.size = ps.length ∧ ∀ (i : Nat) (v : Value) (p : PV), vs[i]? = some v -> ps[i]? = some p -> jAW w ex v p
def kHP (w : World) (κ : Kap) (vs : Array Value) (ps : List PV) : Prop := vs.size = ps.length ∧ ∀ (i : Nat) (v : Value) (p : PV), vs[i]? = some v -> ps[i]? = some p -> Rep w (own κ) κ v p
def jAB (P : Program) (G : jA3) (f : Nat) (args : List PV) (res : PV) : Prop :=
 ∀ (w : World) (ex : Nat -> Prop) (vs : Array Value), (∀ b, ex b -> b < w.heap.size) -> jDF w ex G -> jUC w ex vs args ->
  Calls P f vs w fun e w' => ∃ v, e = .returned v ∧ RowKit.Below w.heap.size w w' ∧ jAW w' ex v res
def jA2 (P : Program) (G : jA3) (f : Nat) (args : List PV) (μ : Mem) (mv : Nat -> Bool) (R : PV -> Mem -> Prop) : Prop :=
 ∀ (w : World) (κ : Kap) (vs : Array Value), Sim w κ μ -> jDF w (own κ) G -> kHP w κ vs args ->
  Calls P f vs w fun e w' => ∃ v p μ' κ', e = .returned v ∧ R p μ' ∧ Sim w' κ' μ' ∧ Rep w' (own κ') κ' v p ∧ Goes w κ w' κ' (fun t => mv t = true)
inductive EK where
 | store (sh : Sh)
 | alloc (sh : Sh) (z : PV)
 | box (sh : Sh)
 | lit (sh : Sh) (own : Bool)
 | make (sh : Sh) (z : PV) (bytes : Nat)
 | append (sh : Sh) (bytes : Nat)
 | s2b
 | b2s
 | mmk (kd : KK)
 | jP1 (kd : KK)
 | kNK (kd : KK) (z : PV)
 | mst
 | rng (kd : KK)
 | nxt
 | ent
 | copy (sh : Sh)
 | kBX (kd : KK)
 deriving Inhabited
def u8s (l : List UInt8) : List PV := l.map fun b => .int .u8 b.toNat
def allFit (sh : Sh) : List PV -> Prop
 | [] => True
 | p :: ps => fits sh p ∧ allFit sh ps
theorem jOE {sh : Sh} : ∀ {ps : List PV}, allFit sh ps ↔ ∀ p ∈ ps, fits sh p
 | [] => by simp [allFit]
 | p :: ps => by simp [allFit, jOE (ps := ps)]
def jIO : List PV -> Prop
 | [] => True
 | .int .u8 _ :: ps => jIO ps
 | _ :: _ => False
def midx (es : List (PV × PV)) (k : PV) : Nat :=
 match jI2 es k with
 | some x => x.1
 | none => es.length
def enK (es : List (PV × PV)) (i : Nat) : PV := (es.getD i default).1
def enV (es : List (PV × PV)) (i : Nat) : PV := (es.getD i default).2
def jCG (μ : Mem) (k : EK) (ps : List PV) (K : PV -> Option Nat -> Mem -> Prop) : Prop :=
 match k, ps with
 | .store sh, [.ref t off, v] => match μ.get t, jBK v sh with
   | some (.var sh' x), some cs => (∀ c ∈ cs, c.scalar = true) ∧ ((off = 0 ∧ sh' = sh) ∨ (sh'.isSome = true ∧ off + sh.size <= sh'.size)) ∧ K .junk none (μ.set t (some (.var sh' (jBZ sh' sh x off v))))
   | _, _ => False
 | .store sh, [.jDX t n i off, v] => match μ.get t, jBK v sh with
   | some (.row sh' xs), some cs => (∀ c ∈ cs, c.scalar = true) ∧ v.jA5 = true ∧ n = sh'.size ∧ i < xs.length ∧ ((off = 0 ∧ sh' = sh) ∨ (sh'.isSome = true ∧ off + sh.size <= sh'.size)) ∧
     K .junk none (μ.set t (some (.row sh' (xs.set i (jBZ sh' sh (xs.getD i .junk) off v)))))
   | _, _ => False
 | .alloc sh z, [] => K (.ref μ.length 0) none (μ ++ [some (.var sh z)])
 | .box sh, [v] => (jBK v sh).isSome = true ∧ K (.ref μ.length 0) none (μ ++ [some (.var sh v)])
 | .lit sh own, ps => allFit sh ps ∧ (ps.map PV.jA5).all id = true ∧ ps.length * sh.size <= 16777216 ∧ if own = true then K (.sl sh μ.length ps.length) none (μ ++ [some (.row sh ps)]) else K (.list sh ps) none μ
 | .make sh z bytes, [.int _ l, c] => c.jA4 fun c => 0 <= l ∧ l <= c ∧ (bytes : Int) * c <= 281474976710656 ∧ c <= 9223372036854775807 ∧ K (.sl sh μ.length l.toNat) none (μ ++ [some (.row sh (List.replicate l.toNat z))])
 | .append sh bytes, [a, b] => match jCY μ sh b with
   | some ys => match a with
     | .jAH => ys.length <= maxLen ∧ ys.length * bytes <= 140737488355328 ∧ K (.sl sh μ.length ys.length) none (μ ++ [some (.row sh ys)])
     | .sl sh' t n => match μ.get t with
       | some (.row jS4 xs) => sh' = sh ∧ jS4 = sh ∧ n <= xs.length ∧ n + ys.length <= maxLen ∧ (n + ys.length) * bytes <= 140737488355328 ∧
         K (.sl sh t (n + ys.length)) (some t) ((μ.kill (jAR t)).set t (some (.row sh (xs.take n ++ ys))))
       | _ => False
     | .full sh' xs => sh' = sh ∧ xs.length + ys.length <= maxLen ∧ (xs.length + ys.length) * bytes <= 140737488355328 ∧ 0 < ys.length ∧ K (.sl sh μ.length (xs.length + ys.length)) none (μ ++ [some (.row sh (xs ++ ys))])
     | _ => False
   | none => False
 | .copy sh, [.sl sh' t n, b] => match jCY μ sh b, μ.get t with
   | some ys, some (.row jS4 xs) => sh' = sh ∧ jS4 = sh ∧ n = xs.length ∧ ys.length <= n ∧ K (.int .i64 ys.length) none (μ.set t (some (.row sh (ys ++ xs.drop ys.length))))
   | _, _ => False
 | .mmk kd, _ => K (.mref μ.length) none (μ ++ [some (.mp kd [])])
 | .jP1 kd, [.mref t, k, v] => match μ.get t with
   | some (.mp kd' es) => kd' = kd ∧ jBT kd k = true ∧ v.jA5 = true ∧ K .junk none (μ.set t (some (.mp kd (jF7 es k v))))
   | some (.mpo kd' es) => kd' = kd ∧ jBT kd k = true ∧ K .junk none (μ.set t (some (.mpo kd (jF7 es k v))))
   | _ => False
 | .kBX kd, [.mref t, k] => match μ.get t with
   | some (.mp kd' es) => kd' = kd ∧ jBT kd k = true ∧ K (.tup []) none (μ.set t (some (.mpg kd (kBX es k))))
   | some (.mpg kd' es) => kd' = kd ∧ jBT kd k = true ∧ K (.tup []) none (μ.set t (some (.mpg kd (kBX es k))))
   | _ => False
 | .kNK kd z, [.mref t, k] => match μ.get t with
   | some (.mp kd' es) => kd' = kd ∧ jBT kd k = true ∧ K (.tup [(jFK es k).getD z, .int .i64 (midx es k)]) none (μ.set t (some (.mp kd (jF7 es k ((jFK es k).getD z)))))
   | _ => False
 | .mst, [.mref t, .int _ i, v] => match μ.get t with
   | some (.mp kd es) => 0 <= i ∧ i < es.length ∧ v.jA5 = true ∧ K .junk none (μ.set t (some (.mp kd (es.set i.toNat (enK es i.toNat, v)))))
   | _ => False
 | .rng kd, [.jA0] => K (.ref μ.length 0) none (μ ++ [some (.iter kd [] [])])
 | .rng kd, [.jC9 kd' es] => kd' = kd ∧ K (.ref μ.length 0) none (μ ++ [some (.iter kd es [])])
 | .nxt, [.ref t 0] => match μ.get t with
   | some (.iter kd es seen) => (∀ i, i < es.length -> i ∉ seen -> K (.tup [.bool true, enK es i, enV es i]) none (μ.set t (some (.iter kd es (seen ++ [i]))))) ∧ ((∀ i, i < es.length -> i ∈ seen) -> K (.tup [.bool false]) none μ)
   | _ => False
 | .ent, [.ref t 0] => match μ.get t with
   | some (.iter _ es seen) => match seen.getLast? with
     | some i => i < es.length ∧ K (.tup [enK es i, enV es i]) none μ
     | none => False
   | _ => False
 | .s2b, [.str l] => l.length <= maxLen ∧ K (.list none (u8s l)) none μ
 | .b2s, [p] => match jCY μ none p with
   | some ys => jIO ys ∧ K (.str (ys.map byteOf)) none μ
   | none => False
 | _, _ => False
def zeroOf (P : Program) (t : TypeId) : Option (Sh × PV) :=
 (jEZ P t).bind fun sh => (jKG P t).bind fun zs => match sh with
  | none => match zs with
    | [z] => some (none, z)
    | _ => none
  | some n => if zs.length = n then some (some n, .agg zs) else none
def jKU (P : Program) (T : TypeId) : Option (Sh × TypeInfo × Value) :=
 match P.underlying T with
 | some (.slice e) => (jEZ P e).bind fun sh => (P.info? e).bind fun i => i.zero.bind fun z => if z.cells.size = i.size ∧ 0 < sh.size then some (sh, i, z) else none
 | _ => none
def jKB (P : Program) (ow : List Nat) (o : Oper) : Option (EK × List Operand) :=
  match o.op with
  | .store t a v => (jEZ P t).map fun sh => (.store sh, [a, v])
  | .alloc e => (zeroOf P e).map fun x => (.alloc x.1 x.2, [])
  | .box e x => (jEZ P e).map fun sh => (.box sh, [x])
  | .buildSlice t len parts =>
    (jKU P t).bind fun x => if parts.toList.map (·.1) = List.range len then some (.lit x.1 (len == 0 || (o.dst.map fun d => ow.contains d).getD false), parts.toList.map (·.2)) else none
  | .makeSlice t l c =>
    match P.underlying t with
    | some (.slice e) => (jKU P t).bind fun x => (zeroOf P e).map fun z => (.make z.1 z.2 x.2.1.bytes, [l, c])
    | _ => none
  | .convert s d x =>
    match P.underlying s, P.underlying d with
    | some .string, some (.slice e) => if P.underlying e matches some (.int .u8) then some (.s2b, [x]) else none
    | some (.slice e), some .string => if P.underlying e matches some (.int .u8) then some (.b2s, [x]) else none
    | _, _ => none
  | .makeMap t r =>
    match P.underlying t, r with
    | some (.map k _), none => (jYU P k).map fun kd => (.mmk kd, [])
    | _, _ => none
  | .mapUpdate t m k x =>
    match P.underlying t with
    | some (.map kt _) => (jYU P kt).map fun kd => (.jP1 kd, [m, k, x])
    | _ => none
  | .insert t m k x =>
    match P.underlying t with
    | some (.map kt _) => (jYU P kt).map fun kd => (.jP1 kd, [m, k, x])
    | _ => none
  | .mapEntry t m k =>
    match P.underlying t with
    | some (.map kt et) => (jYU P kt).bind fun kd => (zeroV P et).bind fun z => if z.jA5 = true then some (.kNK kd z, [m, k]) else none
    | _ => none
  | .entryStore _ m s x => some (.mst, [m, s, x])
  | .range t x =>
    match P.underlying t with
    | some (.map k _) => (jYU P k).map fun kd => (.rng kd, [x])
    | _ => none
  | .next x false => some (.nxt, [x])
  | .entry x => some (.ent, [x])
  | .call c =>
    match c.callee, c.args.toList, c.argTypes.toList with
    | .builtin .append, [a, b], [t, t'] => if t = t' then (jKU P t).map fun x => (.append x.1 x.2.1.bytes, [a, b]) else none
    | .builtin .copy, [a, b], [t, t'] => if t = t' then (jKU P t).map fun x => (.copy x.1, [a, b]) else none
    | .builtin .delete, [a, b], [t, t'] => match P.underlying t with
      | some (.map kt _) => if t' = t' then (jYU P kt).map fun kd => (.kBX kd, [a, b]) else none
      | _ => none
    | _, _, _ => none
  | _ => none
section
variable {P : Program} {w : World} {κ : Kap} {μ : Mem} {ρ : Operand -> Value}
def jFJ (P : Program) (w : World) (κ : Kap) (ρ : Operand -> Value) (o : Oper) (K : PV -> Option Nat -> Mem -> Prop) : Prop :=
 ∃ v p dead μ' w' κ', ((execOp ρ o).run P w = .ok (.value v) w' ∨ ((execOp ρ o).run P w = .ok .skip w' ∧ v = undef)) ∧ K p dead μ' ∧ Sim w' κ' μ' ∧ Goes w κ w' κ' (fun t => dead = some t) ∧ Rep w' (own κ') κ' v p
theorem jAX {w' : World} {κ' : Kap} (h : Goes w κ w' κ' fun _ => False) : Goes w κ w' κ' (fun t => (none : Option Nat) = some t) := h.weak fun _ h => h.elim
theorem jIW {T : TypeId} {sh : Sh} {i : TypeInfo} {z : Value} (h : jKU P T = some (sh, i, z)) : ∃ e, P.underlying T = some (.slice e) ∧ jEZ P e = some sh ∧ P.info? e = some i ∧ i.zero = some z ∧ z.cells.size = i.size ∧ 0 < sh.size := by
 unfold jKU at h
 split at h
 ·rename_i e hu
  simp only [Option.bind_eq_some_iff] at h
  obtain ⟨sh', h1, i', h2, z', h3, h4⟩ := h
  split at h4
  ·rename_i hc
   simp at h4
   obtain ⟨rfl, rfl, rfl⟩ := h4
   exact ⟨e, hu, h1, h2, h3, hc.1, hc.2⟩
  ·simp at h4
 ·simp at h
theorem jKH {t : TypeId} {sh : Sh} {z : PV} (h : zeroOf P t = some (sh, z)) :
  jEZ P t = some sh ∧ shaped sh z ∧ ∃ i zv, P.info? t = some i ∧ i.zero = some zv ∧ zv.cells.size = sh.size ∧ z.cells.length = sh.size ∧ fits sh z ∧
   ∀ (w : World) (ex : Nat -> Prop) (j : Nat) (v : Value) (p : PV), zv.cells[j]? = some v -> z.cells[j]? = some p -> jAW w ex v p := by
 unfold zeroOf at h
 simp only [Option.bind_eq_some_iff] at h
 obtain ⟨sh', h1, zs, h2, h⟩ := h
 simp only [jKG, Option.bind_eq_some_iff] at h2
 obtain ⟨i, hi, zv, hz, hm⟩ := h2
 have hmr := fun (w : World) (ex : Nat -> Prop) => jJ3 (w := w) (ex := ex) hm
 have hsc : ∀ p ∈ zs, p.scalar = true := by
  intro p hp
  have := jH5 hm
  obtain ⟨k, hk, rfl⟩ := List.getElem_of_mem hp
  have h3 : (zs.map some)[k]? = some (some zs[k]) := by simp [List.getElem?_eq_getElem hk]
  rw [<- this, List.getElem?_map] at h3
  cases hv : zv.cells.toList[k]? with
  | none => simp [hv] at h3
  | some v =>
   simp [hv] at h3
   unfold PV.jRJ at h3
   split at h3 <;> simp at h3 <;> rw [<- h3] <;> rfl
 obtain ⟨-, -, i', hi', hisz⟩ := jBD h1
 rw [hi] at hi'; cases hi'
 split at h
 ·split at h
  ·rename_i z'
   simp at h; obtain ⟨rfl, rfl⟩ := h
   have hz1 := hsc z' (by simp)
   have hc1 : z'.cells = [z'] := by cases z' <;> simp_all [PV.cells, PV.scalar]
   refine ⟨h1, by cases z' <;> simp_all [shaped, PV.isAgg, PV.scalar], i, zv, hi, hz, ?_, ?_, hz1, fun w ex j v p hv hp => ?_⟩
   ·have := (hmr default (fun _ => False)).1; simp at this; simp [Sh.size]; omega
   ·rw [hc1]; rfl
   ·rw [hc1] at hp
    exact (hmr w ex).2 j v p (by simpa using hv) hp
  ·simp at h
 ·rename_i n
  split at h
  ·rename_i hl
   simp at h; obtain ⟨rfl, rfl⟩ := h
   refine ⟨h1, ⟨zs, rfl, hl⟩, i, zv, hi, hz, ?_, by simpa [PV.cells, Sh.size] using hl, ⟨zs, rfl, hl, hsc⟩, fun w ex j v p hv hp => ?_⟩
   ·have := (hmr default (fun _ => False)).1; simp at this; simp [Sh.size]; omega
   ·exact (hmr w ex).2 j v p (by simpa using hv) (by simpa [PV.cells] using hp)
  ·simp at h
theorem jQB (hS : Sim w κ μ) {o : Oper} {t : TypeId} {x y : Operand} {sh : Sh} (ho : o.op = .store t x y) (ht : jEZ P t = some sh) {ps : List PV} (hk : Known w κ ρ [x, y] ps) {K : PV -> Option Nat -> Mem -> Prop}
  (h : jCG μ (.store sh) ps K) : jFJ P w κ ρ o K := by
 obtain ⟨p, q, rfl, hp, hq⟩ := jCW hk
 cases p <;> simp only [jCG] at h
 ·rename_i tg off
  split at h
  ·rename_i sh' xv cs hm hps
   obtain ⟨h1, h2, h3⟩ := h
   obtain ⟨w', hrun, hG, hS'⟩ := hS.store (P := P) ht hp hm hq hps h1 h2
   exact ⟨undef, .junk, none, _, w', κ, .inr ⟨by simp [execOp, ho, hrun], rfl⟩, h3, hS', jAX hG, .junk _⟩
  ·exact h.elim
 ·rename_i tg n i off
  split at h
  ·rename_i sh' xs cs hm hps
   obtain ⟨h1, hno, rfl, hil, hok, h3⟩ := h
   obtain ⟨c, hc, hO⟩ := hS.at hm
   obtain ⟨hsz, -, -⟩ := jBD ht
   generalize hvx : ρ x = vx at hp
   cases hp with
   | closed hp => cases hp
   | jDX _ _ _ _ b hb =>
    rw [hb] at hc; cases hc
    cases hO with
    | row _ cur E cap _ _ hh hs hm' hl' hfit hr =>
     obtain ⟨hqo, -, -, hcl⟩ := jFO hps
     obtain ⟨hr1, hr2, hr3⟩ := jHU hq hqo
     have hgd : xs.getD i .junk = xs[i] := by rw [List.getD_eq_getElem?_getD, List.getElem?_eq_getElem hil]; rfl
     have hfx := hfit xs[i] (List.getElem_mem hil)
     obtain ⟨hp1, hp2⟩ := jJG (off := off) (jFU hfx) hps hok
     have kSD : off + sh.size <= sh'.size := by
      rcases hok with ⟨rfl, rfl⟩ | ⟨-, h⟩
      ·omega
      ·exact h
     have hidx : (i + 1) * sh'.size <= xs.length * sh'.size := Nat.mul_le_mul_right _ (by omega)
     have hcap : xs.length * sh'.size <= cur.size := by rw [hs]; exact Nat.mul_le_mul_right _ hl'
     rw [Nat.add_mul] at hidx
     have hin : i * sh'.size + off + sh.size <= cur.size := by omega
     have hlen : (ρ y).cells.toList.length = sh.size := by simpa using hr1
     have hsize : (cur.toList.take (i * sh'.size + off) ++ (ρ y).cells.toList ++ cur.toList.drop (i * sh'.size + off + sh.size)).toArray.size = cur.size := by simp [hlen]; omega
     have hG := Goes.setRow (w := w) hb hh hsize (fun _ => False)
     have hrun := jQA (P := P) hsz hh hr1 hin (jVH hq hqo h1)
     have hnc : ∀ c ∈ cs, c.jA5 = true := by
      intro c hcm
      unfold jBK at hps
      split at hps
      ·split at hps
       ·simp at hps; subst hps; simp at hcm; subst hcm; exact hno
       ·simp at hps
      ·split at hps
       ·simp at hps; subst hps
        simp only [PV.jA5, jB3] at hno
        exact hno c hcm
       ·simp at hps
      ·simp at hps
     have kOP : fits sh' (jBZ sh' sh xs[i] off q) := by
      have hsc : ∀ c ∈ (jBZ sh' sh xs[i] off q).cells, c.scalar = true := by
       intro c hcm
       obtain ⟨j, hj, rfl⟩ := List.getElem_of_mem hcm
       have := hp2 j
       rw [List.getElem?_eq_getElem hj] at this
       split at this
       ·exact h1 _ (List.mem_of_getElem? this.symm)
       ·exact hfx.kP0 _ (List.mem_of_getElem? this.symm)
      cases hsh' : sh' with
      | none =>
       subst hsh'
       generalize jBZ none sh xs[i] off q = y at hp1 hsc
       have : y.cells = [y] := by cases y <;> simp_all [shaped, PV.isAgg, PV.cells]
       rw [this] at hsc
       exact hsc y (by simp)
      | some n =>
       subst hsh'
       obtain ⟨ds, hds, hdl⟩ := hp1
       rw [hds] at hsc ⊢
       exact ⟨ds, rfl, hdl, hsc⟩
     refine ⟨undef, .junk, none, _, _, κ, .inr ⟨by simp [execOp, ho, hvx, Instr.storeAt, Instr.sureAddr, hrun], rfl⟩, h3, ?_, jAX hG, .junk _⟩
     rw [hgd]
     have jY0 : ∀ z ∈ xs.set i (jBZ sh' sh xs[i] off q), fits sh' z := fun z hz => by
      rcases List.mem_or_eq_of_mem_set hz with h | h
      ·exact hfit z h
      ·rw [h]; exact kOP
     refine hS.put hb hm hh hsize (.row b _ E cap sh' _ (setRow_heap w b cur _ E (0, 0) hh) (by rw [hsize, hs]) hm' (by simpa using hl') jY0 (fun j p v hpj hvj => ?_))
     have hjl : j < xs.length * sh'.size := by
      have := (List.getElem?_eq_some_iff.1 hpj).1
      rw [flat_length jY0] at this; simpa using this
     have hpos : 0 < sh'.size := by
      rcases Nat.eq_zero_or_pos sh'.size with h0 | h0
      ·rw [h0] at hjl; omega
      ·exact h0
     have hdm := Nat.div_add_mod j sh'.size
     have hml := Nat.mod_lt j hpos
     have hjd : j / sh'.size < xs.length := by
      rw [Nat.div_lt_iff_lt_mul hpos]; exact hjl
     have hje : j = j / sh'.size * sh'.size + j % sh'.size := by rw [Nat.mul_comm]; exact hdm.symm
     rw [List.getElem?_toArray, show i * sh'.size + off + sh.size = i * sh'.size + off + (ρ y).cells.toList.length by rw [hlen], jTF _ _ _ _ (by rw [hlen]; simpa using hin), hlen] at hvj
     by_cases hji : j / sh'.size = i
     ·have hx' : (xs.set i (jBZ sh' sh xs[i] off q))[j / sh'.size]? = some (jBZ sh' sh xs[i] off q) := by rw [hji]; simp [hil]
      have := flat_get jY0 (j / sh'.size) (j % sh'.size) _ hx' hml
      rw [<- hje] at this
      rw [this, hp2] at hpj
      rw [hji] at hje
      split at hpj
      ·rename_i hin2
       rw [if_pos (by omega)] at hvj
       have he : j - (i * sh'.size + off) = j % sh'.size - off := by omega
       rw [he] at hvj
       exact (jDB (hr3 _ v p (by simpa using hvj) hpj) (hnc _ (List.mem_of_getElem? hpj))).mono hG.agree
      ·rename_i hout
       rw [if_neg (by omega)] at hvj
       have hxi : xs[i]? = some xs[i] := List.getElem?_eq_getElem hil
       have hfg := flat_get hfit i (j % sh'.size) _ hxi hml
       rw [<- hje] at hfg
       exact (hr j p v (by rw [hfg]; exact hpj) (by simpa using hvj)).mono hG.agree
     ·have hx' : (xs.set i (jBZ sh' sh xs[i] off q))[j / sh'.size]? = some xs[j / sh'.size] := by
       rw [List.getElem?_set_ne (fun h => hji h.symm)]; exact List.getElem?_eq_getElem hjd
      have h4 := flat_get jY0 (j / sh'.size) (j % sh'.size) _ hx' hml
      have h5 := flat_get hfit (j / sh'.size) (j % sh'.size) _ (List.getElem?_eq_getElem hjd) hml
      rw [<- hje] at h4 h5
      rw [h4, <- h5] at hpj
      have kON : ¬ (i * sh'.size + off <= j ∧ j < i * sh'.size + off + sh.size) := by
       rintro ⟨ha, hb'⟩
       apply hji
       have h6 : i * sh'.size <= j := by omega
       have h7 : j < (i + 1) * sh'.size := by rw [Nat.add_mul]; omega
       exact Nat.le_antisymm (Nat.lt_succ_iff.1 ((Nat.div_lt_iff_lt_mul hpos).2 h7)) ((Nat.le_div_iff_mul_le hpos).2 h6)
      rw [if_neg kON] at hvj
      exact (hr j p v hpj (by simpa using hvj)).mono hG.agree
  ·exact h.elim
theorem jS2 (hS : Sim w κ μ) {o : Oper} {t : TypeId} {sh : Sh} {z : PV} (ho : o.op = .alloc t) (ht : zeroOf P t = some (sh, z)) {ps : List PV} (hk : Known w κ ρ [] ps) {K : PV -> Option Nat -> Mem -> Prop}
  (h : jCG μ (.alloc sh z) ps K) : jFJ P w κ ρ o K := by
 have hps : ps = [] := List.eq_nil_of_length_eq_zero hk.1.symm
 subst hps
 simp only [jCG] at h
 obtain ⟨h1, h2, i, zv, hi, hz, h3, h4, h5, h6⟩ := jKH ht
 have hzero : (zeroValue t).run P w = .ok zv w := by simp [zeroValue, typeInfo, hi, hz]
 have hG := Goes.alloc hS (.cells zv.cells t)
 refine ⟨.pointer (some ⟨w.heap.size, 0, none⟩), .ref μ.length 0, none, _, _, _, .inl ?_, h, hS.push (.cells zv.cells t) (.var sh z) (.var _ zv.cells t sh z (jBA _ _) h3 h2 (fun j p u hp hu => .closed ((h6 _ _ j u p hu hp)))), jAX hG, .ref _ 0 _ (by simp)⟩
 simp [execOp, ho, Instr.alloc, hzero, newVar, newRow]
theorem jY7 (hS : Sim w κ μ) {o : Oper} {t : TypeId} {sh : Sh} {x : Operand} (ho : o.op = .box t x) {ps : List PV} (hk : Known w κ ρ [x] ps) {K : PV -> Option Nat -> Mem -> Prop}
  (h : jCG μ (.box sh) ps K) : jFJ P w κ ρ o K := by
 obtain ⟨p, rfl, hp⟩ := known1 hk
 simp only [jCG] at h
 obtain ⟨h1, h2⟩ := h
 obtain ⟨cs, hcs⟩ := Option.isSome_iff_exists.1 h1
 obtain ⟨ha, hb, -, -⟩ := jFO hcs
 obtain ⟨hG, hS'⟩ := hS.newVar t hp ha hb
 refine ⟨.pointer (some ⟨w.heap.size, 0, none⟩), .ref μ.length 0, none, _, _, _, .inl ?_, h2, hS', jAX hG, .ref _ 0 _ (by simp)⟩
 simp [execOp, ho, Instr.box, newVar, newRow]
theorem kB9 {xs : List Operand} {ps : List PV} (hk : Known w κ ρ xs ps) : (xs.map ρ).length = ps.length ∧ ∀ (i : Nat) (v : Value) (p : PV), (xs.map ρ)[i]? = some v -> ps[i]? = some p -> Rep w (own κ) κ v p := by
 refine ⟨by simpa using hk.1, fun i v p hv hp => ?_⟩
 rw [List.getElem?_map] at hv
 cases hx : xs[i]? with
 | none => simp [hx] at hv
 | some x => simp [hx] at hv; subst hv; exact hk.2 i x p hx hp
theorem jMA {y : PV} (h : y.jA5 = true) : ∀ p ∈ y.cells, p.jA5 = true := by
 intro p hp
 cases y <;> first | (simp only [PV.cells, List.mem_singleton] at hp; subst hp; exact h) | (simp only [PV.jA5, jB3] at h; exact h p hp)
theorem jUU {b : Nat} {arr : Array Value} {E : TypeId} {fr : Nat × Nat} (h : w.heap[b]? = some (.cells arr E fr)) : w.shape? b = some (E, arr.size) := by
 simp [World.shape?, h]
theorem jP3 (ρ : Operand -> Value) : ∀ l : List (Nat × Operand), l.map (fun x => (x.1, ρ x.2)) = (l.map fun x => x.1).zip (l.map fun x => ρ x.2)
 | [] => rfl
 | x :: l => by simp [jP3 ρ l]
theorem jYP (hS : Sim w κ μ) {o : Oper} {T : TypeId} {len : Nat} {parts : Array (Nat × Operand)} {sh : Sh} {i : TypeInfo} {z : Value} {ow : Bool} (ho : o.op = .buildSlice T len parts) (hr : jKU P T = some (sh, i, z))
  (hpl : parts.toList.map (·.1) = List.range len) {ps : List PV} (hk : Known w κ ρ (parts.toList.map (·.2)) ps) {K : PV -> Option Nat -> Mem -> Prop}
  (h : jCG μ (.lit sh ow) ps K) : jFJ P w κ ρ o K := by
 obtain ⟨e, hu, hsh, hi, hz, hzs, hpos⟩ := jIW hr
 simp only [jCG] at h
 obtain ⟨h1, h2, h3, h4⟩ := h
 rw [jOE] at h1
 rw [jB3] at h2
 obtain ⟨hl, hrep⟩ := kB9 hk
 have hlen : len = ps.length := by
  have := congrArg List.length hpl
  simp at this hl; omega
 subst hlen
 obtain ⟨arr, hrun, hsz, harr⟩ := jUA (P := P) hu hsh hi hz hzs hl hrep h1 hpos h3
 have hparts : (parts.map fun x => (x.1, ρ x.2)) = ((List.range ps.length).zip ((parts.toList.map (·.2)).map ρ)).toArray := by
  apply Array.ext'
  rw [<- hpl]
  simp only [Array.toList_map, List.map_map, Function.comp_def]
  exact jP3 ρ parts.toList
 have hex : (execOp ρ o).run P w = .ok (.value (.slice (some ⟨w.heap.size, 0, none⟩) ps.length ps.length)) (w.alloc (.cells arr e)) := by
  have : (Instr.buildSlice T ps.length (parts.map fun x => (x.1, ρ x.2))).run P w = .ok (.slice (some ⟨w.heap.size, 0, none⟩) ps.length ps.length) (w.alloc (.cells arr e)) := by rw [hparts]; exact hrun
  simp [execOp, ho, this]
 have hmax : ps.length <= maxLen := by
  have : ps.length * 1 <= ps.length * sh.size := Nat.mul_le_mul_left _ hpos
  simp only [maxLen]; omega
 by_cases hb : ow = true
 ·rw [if_pos hb] at h4
  have hG := Goes.alloc hS (.cells arr e)
  refine ⟨_, _, none, _, _, _, .inl hex, h4, hS.push (.cells arr e) (.row sh ps) (.row _ arr e ps.length sh ps (jBA _ _) hsz hmax (Nat.le_refl _) h1 (fun j p v hp hv => ?_)), jAX hG, ?_⟩
  ·have hpm : p.jA5 = true := by
    obtain ⟨y, hy, hpy⟩ := List.mem_flatMap.1 (List.mem_of_getElem? hp)
    exact jMA (h2 y hy) p hpy
   exact (jDB (harr j v p hv hp) hpm).mono hG.agree
  ·refine .sl sh _ _ _ ps.length (by simp) ⟨e, ?_⟩ (Nat.le_refl _) hmax
   rw [jUU (jBA _ _), hsz]
 ·rw [if_neg hb] at h4
  have hB := Below.kEY w (.cells arr e)
  refine ⟨_, _, none, _, _, κ, .inl hex, h4, hS.below hB, jAX (Goes.below hB _), .closed ?_⟩
  have hnew : ¬ own κ w.heap.size := jLB hS
  refine .list _ ps.length ps.length sh ps w.heap.size 0 (fun j => arr.getD j undef) rfl (Nat.le_refl _) hmax h1 (fun _ => rfl) (fun j hj => ⟨hnew, ?_⟩) (fun j p hp => ?_)
  ·rw [Nat.zero_add, jB0 (jBA _ _)]
   rw [flat_length h1, <- hsz] at hj
   simp [hj]
  ·have hj : j < arr.size := by rw [hsz, <- flat_length h1]; exact (List.getElem?_eq_some_iff.1 hp).1
   have hpm : p.jA5 = true := by
    obtain ⟨y, hy, hpy⟩ := List.mem_flatMap.1 (List.mem_of_getElem? hp)
    exact jMA (h2 y hy) p hpy
   have := harr j (arr.getD j undef) p (by simp [hj]) hp
   exact (jDB this hpm).mono (Goes.below hB (fun _ => False)).agree
theorem jTV (hS : Sim w κ μ) {o : Oper} {T e : TypeId} {l c : Operand} {sh : Sh} {z : PV} {i : TypeInfo} {zv : Value} {sh0 : Sh} (ho : o.op = .makeSlice T l c) (hu0 : P.underlying T = some (.slice e)) (hr : jKU P T = some (sh0, i, zv))
  (hz0 : zeroOf P e = some (sh, z)) {ps : List PV} (hk : Known w κ ρ [l, c] ps) {K : PV -> Option Nat -> Mem -> Prop} (h : jCG μ (.make sh z i.bytes) ps K) : jFJ P w κ ρ o K := by
 obtain ⟨e', hu, hsh, hi, hz, hzs, hpos⟩ := jIW hr
 rw [hu0] at hu; cases hu
 obtain ⟨h1, h2, i', zv', hi', hz', h3, h4, h5, h6⟩ := jKH hz0
 rw [hi] at hi'; cases hi'
 rw [hz] at hz'; cases hz'
 rw [hsh] at h1; cases h1
 obtain ⟨hsz, -, i', hi', hisz⟩ := jBD hsh
 rw [hi] at hi'; cases hi'
 obtain ⟨p, q, rfl, hp, hq⟩ := jCW hk
 cases p <;> simp only [jCG] at h
 rename_i kl nl
 obtain ⟨kc, nc, rfl, ha, hb, hc, hd, hK⟩ := jAL h
 have e1 := jAP hp
 have e2 := jAP hq
 have hrun := run_make (P := P) w T e i zv hu0 hi hz kl kc nl nc ha hb hc hd
 have hnl : nl.toNat <= nc.toNat := by omega
 have hG := Goes.alloc hS (.cells (madeCells zv.cells (nc.toNat * i.size)) e)
 have hsz2 : (madeCells zv.cells (nc.toNat * i.size)).size = nc.toNat * sh.size := by rw [size_madeCells, hisz]
 have hmax : nc.toNat <= maxLen := by simp only [maxLen]; omega
 have hfit : ∀ x ∈ List.replicate nl.toNat z, fits sh x := fun x hx => by rw [(List.mem_replicate.1 hx).2]; exact h5
 have hex : (execOp ρ o).run P w = .ok (.value (.slice (some ⟨w.heap.size, 0, none⟩) nl.toNat nc.toNat)) (w.alloc (.cells (madeCells zv.cells (nc.toNat * i.size)) e)) := by simp [execOp, ho, e1, e2, hrun]
 refine ⟨_, _, none, _, _, _, .inl hex, hK, hS.push _ (.row sh (List.replicate nl.toNat z)) (.row _ _ e nc.toNat sh _ (jBA _ _) hsz2 hmax (by simpa using hnl) hfit (fun j p v hpj hvj => ?_)), jAX hG, ?_⟩
 ·have hj : j < nl.toNat * sh.size := by
   have := (List.getElem?_eq_some_iff.1 hpj).1
   rw [flat_length hfit] at this; simpa using this
  have hml := Nat.mod_lt j hpos
  have hjd : j / sh.size < nl.toNat := by rw [Nat.div_lt_iff_lt_mul hpos]; exact hj
  have hje : j = j / sh.size * sh.size + j % sh.size := by rw [Nat.mul_comm]; exact (Nat.div_add_mod j sh.size).symm
  have hx : (List.replicate nl.toNat z)[j / sh.size]? = some z := by simp [hjd]
  have hf := flat_get hfit (j / sh.size) (j % sh.size) z hx hml
  rw [<- hje, hpj] at hf
  have hjn : j < nc.toNat * i.size := by
   have : nl.toNat * sh.size <= nc.toNat * sh.size := Nat.mul_le_mul_right _ hnl
   rw [hisz]; omega
  have hv2 : v = zv.cells[j % sh.size]! := by
   simp [madeCells, hjn, h3] at hvj; exact hvj.symm
  refine h6 _ _ (j % sh.size) v p ?_ hf.symm
  rw [hv2]
  have : j % sh.size < zv.cells.size := by rw [h3]; exact hml
  simp [this]
 ·refine .sl sh _ _ _ nc.toNat (by simp) ⟨e, ?_⟩ hnl hmax
  rw [jUU (jBA _ _), hsz2]
theorem jXG {T : TypeId} {sh : Sh} {i : TypeInfo} {z : Value} (h : jKU P T = some (sh, i, z)) : ∃ e, kF3 P T e sh i.bytes := by
 obtain ⟨e, hu, hsh, hi, hz, hzs, hpos⟩ := jIW h
 exact ⟨e, hu, hsh, hpos, i, z, hi, hz, hzs, rfl⟩
theorem jPY (hS : Sim w κ μ) {o : Oper} {T : TypeId} {a b : Operand} {sh : Sh} {i : TypeInfo} {z : Value} (ho : o.op = .call { callee := .builtin .append, args := #[a, b], argTypes := #[T, T] }) (hr : jKU P T = some (sh, i, z))
  {ps : List PV} (hk : Known w κ ρ [a, b] ps) {K : PV -> Option Nat -> Mem -> Prop} (h : jCG μ (.append sh i.bytes) ps K) : jFJ P w κ ρ o K := by
 obtain ⟨e, hT⟩ := jXG hr
 obtain ⟨p, q, rfl, hp, hq⟩ := jCW hk
 simp only [jCG] at h
 split at h
 ·rename_i ys hy
  have hsrc := jZ5 hS hq hy
  split at h
  ·obtain ⟨h1, h2, h3⟩ := h
   have hv := jDC hp
   obtain ⟨v', w', κ', hrun, hG, hS', hR⟩ := jS1 (P := P) (ty := o.type) hS hT hsrc h1 h2
   exact ⟨v', _, none, _, w', κ', .inl (by simp [execOp, ho, resolve, invoke, builtin, hv, hrun]), h3, hS', jAX hG, hR⟩
  ·rename_i sh1 t n
   split at h
   ·rename_i sh2 xs hm
    obtain ⟨rfl, rfl, hn, h1, h2, h3⟩ := h
    obtain ⟨v', w', κ', hrun, hG, hS', hR⟩ := kDV (P := P) (ty := o.type) hS hT hp hm hn hsrc h1 h2
    exact ⟨v', _, some t, _, w', κ', .inl (by simp [execOp, ho, resolve, invoke, builtin, hrun]), h3, hS', hG.weak (fun i hi => by rw [hi]), hR⟩
   ·exact h.elim
  ·obtain ⟨rfl, h1, h2, h3, h4⟩ := h
   obtain ⟨v', w', κ', hrun, hG, hS', hR⟩ := jUB (P := P) (ty := o.type) hS hT hp hsrc h1 h2 h3
   exact ⟨v', _, none, _, w', κ', .inl (by simp [execOp, ho, resolve, invoke, builtin, hrun]), h4, hS', jAX hG, hR⟩
  ·exact h.elim
 ·exact h.elim
theorem jT8 (hS : Sim w κ μ) {o : Oper} {T : TypeId} {a b : Operand} {sh : Sh} {i : TypeInfo} {z : Value} (ho : o.op = .call { callee := .builtin .copy, args := #[a, b], argTypes := #[T, T] }) (hr : jKU P T = some (sh, i, z))
  {ps : List PV} (hk : Known w κ ρ [a, b] ps) {K : PV -> Option Nat -> Mem -> Prop} (h : jCG μ (.copy sh) ps K) : jFJ P w κ ρ o K := by
 obtain ⟨e, hT⟩ := jXG hr
 obtain ⟨i', z', hi, hz, hzs, hib⟩ := hT.info
 obtain ⟨hsz, -, i2, hi2, hisz⟩ := jBD hT.hsh
 rw [hi] at hi2; cases hi2
 obtain ⟨p, q, rfl, hp, hq⟩ := jCW hk
 cases p <;> simp only [jCG] at h
 rename_i sh1 t n
 split at h
 ·rename_i ys sh2 xs hy hm
  obtain ⟨rfl, rfl, rfl, hle, hK⟩ := h
  obtain ⟨a', sc, news, hue, hnl, hyf, hyr, hya⟩ := jZ5 hS hq hy
  have jFS : (flat ys).length = ys.length * sh2.size := flat_length hyf
  have hmin : Nat.min ys.length xs.length = ys.length := Nat.min_eq_left hle
  obtain ⟨c, hc, hO⟩ := hS.at hm
  have hf : (Builtin.firstCells sh2.size ys.length (.slice a' ys.length sc)).run P w = .ok news.toArray w := by
   by_cases hy : ys = []
   ·subst hy
    have : news = [] := List.eq_nil_of_length_eq_zero (by simpa [flat] using hnl)
    subst this
    cases a' <;> simp [Builtin.firstCells, loadCells, loadCellsFrom]
   ·obtain ⟨ad, rfl, had⟩ := hya hy
    exact run_firstCells_some (P := P) w sh2.size ys.length ad ys.length sc news (by rw [hnl, jFS]) had
  rcases jNB hp with ⟨bb, cap, hb, hv, hl, hcm, E0, hE0⟩ | ⟨hb, hn0, hv⟩
  ·rw [hb] at hc; cases hc
   cases hO with
   | row _ cur E cap' _ _ hh hs hm' hl' hfit hrr =>
    have kFA : 0 + news.length <= cur.size := by
     rw [hnl, jFS, hs, Nat.zero_add]
     exact Nat.mul_le_mul_right _ (Nat.le_trans hle hl')
    have hst := run_storeCells_at P bb 0 E news 0 cur w hh (by simpa using kFA) (jVQ hnl hyf hyr)
    simp only [Nat.add_zero, Nat.zero_add, List.take_zero, List.nil_append] at hst
    have hsize : (news ++ cur.toList.drop news.length).toArray.size = cur.size := by simp; omega
    have hrun : (Builtin.copy_ #[T, T] o.type #[ρ a, ρ b]).run P w = .ok (goInt ys.length) (w.setRow bb (news ++ cur.toList.drop news.length).toArray) := by
     rw [hv, hue]
     simp [Builtin.copy_, run_underlying hT.und, hsz, Builtin.lenOf, hmin, hf, hst]
    have hG := Goes.setRow (w := w) hb hh hsize (fun _ => False)
    refine ⟨goInt ys.length, _, none, _, _, κ, .inl (by simp [execOp, ho, resolve, invoke, builtin, hrun]), hK, ?_, jAX hG, ?_⟩
    ·have jY0 : ∀ z ∈ ys ++ xs.drop ys.length, fits sh2 z := fun z hz => by
      rcases List.mem_append.1 hz with h | h
      ·exact hyf z h
      ·exact hfit z (List.mem_of_mem_drop h)
     refine hS.put hb hm hh hsize (.row bb _ E cap' sh2 _ (setRow_heap w bb cur _ E (0, 0) hh) (by rw [hsize, hs]) hm' (by simp; omega) jY0 (fun j p v hpj hvj => ?_))
     rw [jDJ] at hpj
     rw [List.getElem?_toArray] at hvj
     by_cases hj : j < (flat ys).length
     ·rw [List.getElem?_append_left hj] at hpj
      rw [List.getElem?_append_left (by omega)] at hvj
      exact (hyr j p v hpj hvj).mono hG.agree
     ·have hdr : flat (xs.drop ys.length) = (flat xs).drop (ys.length * sh2.size) := by
       have h1 := jDJ (xs.take ys.length) (xs.drop ys.length)
       rw [List.take_append_drop, jEH hfit] at h1
       have hxl : (flat xs).length = xs.length * sh2.size := flat_length hfit
       have h2 : ((flat xs).take (ys.length * sh2.size)).length = ys.length * sh2.size := by
        rw [List.length_take, hxl]; exact Nat.min_eq_left (Nat.mul_le_mul_right _ hle)
       have h3 := List.take_append_drop (ys.length * sh2.size) (flat xs)
       have h4 := h3.trans h1
       exact (List.append_inj h4 rfl).2.symm
      rw [List.getElem?_append_right (by omega), hdr, List.getElem?_drop, jFS] at hpj
      rw [List.getElem?_append_right (by omega), List.getElem?_drop, hnl, jFS] at hvj
      exact (hrr _ p v hpj (by simpa using hvj)).mono hG.agree
    ·exact .closed (.int _ _)
  ·obtain rfl : xs = [] := List.eq_nil_of_length_eq_zero hn0
   obtain rfl : ys = [] := List.eq_nil_of_length_eq_zero (by simpa using hle)
   have hrun : (Builtin.copy_ #[T, T] o.type #[ρ a, ρ b]).run P w = .ok (goInt 0) w := by
    simp only [List.length_nil] at hf
    rw [hv, hue]
    simp [Builtin.copy_, run_underlying hT.und, hsz, Builtin.lenOf, hf]
   have hset : μ.set t (some (.row sh2 ([] ++ [].drop ([] : List PV).length))) = μ := by
    refine List.ext_getElem? fun j => ?_
    rw [List.getElem?_set]
    split
    ·rename_i h; subst h
     have := Mem.get_some hm
     rw [this]; simp
     exact (List.getElem?_eq_some_iff.1 this).1
    ·rfl
   simp only [List.length_nil] at hK hset
   rw [hset] at hK
   exact ⟨goInt 0, _, none, μ, w, κ, .inl (by simp [execOp, ho, resolve, invoke, builtin, hrun]), hK, hS, jAX (Goes.refl _ _ _), .closed (.int _ _)⟩
 ·exact h.elim
theorem kHW (l : List UInt8) : ∀ x ∈ u8s l, fits none x := by
 intro x hx
 simp only [u8s, List.mem_map] at hx
 obtain ⟨b, -, rfl⟩ := hx
 rfl
theorem jUN (l : List UInt8) : flat (u8s l) = u8s l := by
 induction l with
 | nil => rfl
 | cons b l ih => simp only [u8s, flat, List.map_cons, List.flatMap_cons, PV.cells] at *; rw [ih]; rfl
theorem jX0 (hS : Sim w κ μ) {o : Oper} {s d e : TypeId} {x : Operand} (ho : o.op = .convert s d x) (hs : P.underlying s = some .string) (hd : P.underlying d = some (.slice e)) (he : P.underlying e = some (.int .u8))
  {ps : List PV} (hk : Known w κ ρ [x] ps) {K : PV -> Option Nat -> Mem -> Prop} (h : jCG μ .s2b ps K) : jFJ P w κ ρ o K := by
 obtain ⟨p, rfl, hp⟩ := known1 hk
 cases p <;> simp only [jCG] at h
 obtain ⟨b, hb, rfl⟩ := jCP hp
 obtain ⟨h1, h2⟩ := h
 have hrun := run_bytes_of_string (P := P) w s d e b hs hd he
 have hge := grownCap_ge w b.size 0 e
 have hgm := grownCap_le_maxLen w b.size 0 e (by simpa using h1)
 have hB : RowKit.Below w.heap.size w (w.drew.alloc (.cells (bytesRow b (grownCap w b.size 0 e)) e ((bytesRow b (grownCap w b.size 0 e)).size, (bytesRow b (grownCap w b.size 0 e)).size + 1))) :=
  ((RowKit.Below.refl _ _).drew).alloc (Nat.le_refl _) _
 have hnew : ¬ own κ w.heap.size := jLB hS
 have hex : (execOp ρ o).run P w = .ok (.value (.slice (some ⟨w.heap.size, 0, none⟩) b.size (grownCap w b.size 0 e))) (w.drew.alloc (.cells (bytesRow b (grownCap w b.size 0 e)) e ((bytesRow b (grownCap w b.size 0 e)).size, (bytesRow b (grownCap w b.size 0 e)).size + 1))) := by
  simp [execOp, ho, hb, hrun]
 refine ⟨_, _, none, _, _, κ, .inl hex, h2, hS.below hB, jAX (Goes.below hB _), .closed ?_⟩
 refine .list _ b.size _ none _ w.heap.size 0 (fun j => .int .u8 (b.data.toList.getD j 0).toNat) (by simp [u8s]) hge hgm (kHW _) (fun _ => rfl) (fun j hj => ⟨hnew, ?_⟩) (fun j p hp => ?_)
 ·rw [jUN] at hj
  have hj' : j < b.size := by simpa [u8s] using hj
  have hh : (w.drew.alloc (.cells (bytesRow b (grownCap w b.size 0 e)) e ((bytesRow b (grownCap w b.size 0 e)).size, (bytesRow b (grownCap w b.size 0 e)).size + 1))).heap[w.heap.size]? = _ := jBA w.drew _
  rw [Nat.zero_add, jB0 hh]
  have hjd : j < b.data.size := hj'
  rw [bytesRow, Array.getElem?_append_left (by simpa using hj')]
  have hje : b.data[j]? = some b.data[j] := Array.getElem?_eq_getElem hjd
  simp only [Array.getElem?_map, List.getD_eq_getElem?_getD, Array.getElem?_toList, hje, Option.map_some, Option.getD_some]
 ·rw [jUN] at hp
  simp only [u8s, List.getElem?_map] at hp
  cases hq : b.data.toList[j]? with
  | none => rw [hq] at hp; cases hp
  | some c =>
   rw [hq] at hp
   simp at hp; subst hp
   rw [List.getD_eq_getElem?_getD, hq]
   exact .int _ _
theorem jZB (hS : Sim w κ μ) {o : Oper} {s d e : TypeId} {x : Operand} (ho : o.op = .convert s d x) (hs : P.underlying s = some (.slice e)) (hd : P.underlying d = some .string) (he : P.underlying e = some (.int .u8))
  {ps : List PV} (hk : Known w κ ρ [x] ps) {K : PV -> Option Nat -> Mem -> Prop} (h : jCG μ .b2s ps K) : jFJ P w κ ρ o K := by
 obtain ⟨p, rfl, hp⟩ := known1 hk
 simp only [jCG] at h
 split at h
 ·rename_i ys hy
  obtain ⟨hb, hK⟩ := h
  obtain ⟨a, sc, news, hv, hnl, hyf, hyr, hya⟩ := jZ5 hS hp hy
  have hfl : ∀ {ys : List PV}, jIO ys -> flat ys = ys ∧ ∃ ns : List Int, ys = ns.map (PV.int .u8) := by
   intro ys
   induction ys with
   | nil => intro _; exact ⟨rfl, [], rfl⟩
   | cons y ys ih =>
    intro hb
    cases y with
    | int k n =>
     cases k <;> simp only [jIO] at hb
     obtain ⟨h1, ns, h2⟩ := ih hb
     refine ⟨?_, n :: ns, by rw [h2]; rfl⟩
     simp only [PG.flat, List.flatMap_cons, PV.cells] at h1 ⊢
     rw [h1]; rfl
    | _ => exact hb.elim
  obtain ⟨hf, ns, rfl⟩ := hfl hb
  rw [hf] at hnl hyr
  have hnews : news = ns.map (Value.int .u8) := by
   apply List.ext_getElem?
   intro j
   rw [List.getElem?_map]
   cases hj : ns[j]? with
   | none =>
    rw [List.getElem?_eq_none_iff] at hj
    simp at hnl
    rw [List.getElem?_eq_none (by omega)]; rfl
   | some n =>
    have hjl : j < news.length := by
     have := (List.getElem?_eq_some_iff.1 hj).1
     simp at hnl; omega
    have := hyr j (.int .u8 n) news[j] (by rw [List.getElem?_map, hj]; rfl) (List.getElem?_eq_getElem hjl)
    rw [List.getElem?_eq_getElem hjl]
    generalize news[j] = u at this
    cases this; rfl
  have hstr : (ns.map (PV.int .u8)).map byteOf = (strOfNums ns).data.toList := by
   rw [strOfNums_data]
   simp [byteOf, Function.comp_def]
  refine ⟨.string (strOfNums ns), .str ((ns.map (PV.int .u8)).map byteOf), none, μ, w, κ, .inl ?_, hK, hS, jAX (Goes.refl _ _ _), .closed (by rw [hstr]; exact .str _)⟩
  by_cases hn : ns = []
  ·subst hn
   cases a with
   | none =>
    have := run_convert_bytes_nil (P := P) w s e hs he 0 sc d hd
    simp at hv
    simp [execOp, ho, hv, this]; rfl
   | some ad =>
    have := run_bytesToString (P := P) w ad 0 sc [] (by simp [loadCells, loadCellsFrom])
    have h2 := run_convert_bytes_string (P := P) w s d e (some ad) 0 sc hs he hd
    simp at hv
    simp [execOp, ho, hv, h2, this]; rfl
  ·obtain ⟨ad, rfl, had⟩ := hya (by simpa using hn)
   have hld : (loadCells ad ns.length).run P w = .ok (ns.map (Value.int .u8)).toArray w := by
    have := run_loadCells_list (P := P) w ad (ns.map (Value.int .u8)) (fun j v hj => had j v (by rw [hnews]; exact hj))
    simpa using this
   have h1 := run_bytesToString (P := P) w ad ns.length sc ns hld
   have h2 := run_convert_bytes_string (P := P) w s d e (some ad) ns.length sc hs he hd
   rw [foldl_push_bytes] at h1
   have h3 : (⟨ByteArray.empty.data ++ (ns.map fun n => UInt8.ofNat n.toNat).toArray⟩ : ByteArray) = strOfNums ns := by
    apply ByteArray.ext; apply Array.ext'; simp [strOfNums_data]
   rw [h3] at h1
   simp at hv
   simp [execOp, ho, hv, h2, h1]
 ·exact h.elim
def setH (w : World) (b : Nat) (o : Obj) : World := { w with heap := w.heap.setIfInBounds b o }
theorem jOO {b : Nat} {o o' : Obj} (h : w.heap[b]? = some o) : (setH w b o').heap[b]? = some o' := (MapKept.heap_set h).1
theorem jIU {b k : Nat} {o' : Obj} (h : k ≠ b) : (setH w b o').heap[k]? = w.heap[k]? := by
 simp [setH, Ne.symm h]
theorem Goes.setObj {t b : Nat} {o o' : Obj} (hk : κ t = some (some b)) (hg : w.heap[b]? = some o) (hsh : w.shape? b = none) (m : Nat -> Prop) : Goes w κ (setH w b o') κ m := by
 refine ⟨rfl, rfl, rfl, by simp [setH], rfl, fun k hkk ho => ?_, fun _ _ h => h, fun k s hs => ?_, fun _ _ h _ => h⟩
 ·exact jIU (fun e => ho ⟨t, by rw [e]; exact hk⟩)
 ·by_cases e : k = b
  ·subst e; rw [hsh] at hs; cases hs
  ·rw [jB5 (jIU e)]; exact hs
theorem Sim.putObj (hS : Sim w κ μ) {t b : Nat} {ob ob' : Obj} {o o1 : jAF} (hk : κ t = some (some b)) (hm : μ.get t = some o) (hg : w.heap[b]? = some ob) (hsh : w.shape? b = none)
  (ho : jD7 (setH w b ob') (own κ) κ (some b) o1) : Sim (setH w b ob') κ (μ.set t (some o1)) := by
 have hG := Goes.setObj (o' := ob') hk hg hsh (fun _ => False)
 have he := Kap.jUV hk
 have := hS.change (w' := setH w b ob') (μ' := μ.set t (some o1)) (t1 := t) (c1 := some b) (o1 := o1) (f := id) (m := fun _ => False) (by rw [he]; exact hG)
  (fun t' c o' hne hc h => by
   rw [he]
   refine jD7.still hG (fun b' hb' => ?_) h
   subst hb'
   exact jIU (fun e => hne (hS.inj t' t b' hc (by rw [e]; exact hk))))
  (fun b' hb' => by
   cases hb'
   exact ⟨by simp [setH]; exact hS.lt _ _ hk, hS.jEJ _ _ hk, fun t' hne h => hne (hS.inj t' t b h hk)⟩)
  (by rw [he]; exact ho) (Mem.jKQ μ t o1 ⟨_, Mem.get_some hm⟩) (fun t' hne => by rw [List.getElem?_set_ne (Ne.symm hne)]; simp)
 rwa [he] at this
theorem jH2 (hS : Sim w κ μ) {tg : Nat} {kd : KK} {es es' : List (PV × PV)} {r : Nat} {ents jCT : Array MapEntry} {clock clock' : Nat} (hb : κ tg = some (some r)) (hm : μ.get tg = some (.mp kd es)) (h : w.heap[r]? = some (.map ents clock))
  (hs' : jCT.size = es'.length) (hB' : Born jCT clock') (kLU : ∀ q ∈ es', jBT kd q.1 = true)
  (hk' : ∀ (i : Nat) (e : MapEntry) (q : PV × PV), jCT[i]? = some e -> es'[i]? = some q -> jAW w (own κ) e.key q.1) (hv' : ∀ (i : Nat) (e : MapEntry) (q : PV × PV), jCT[i]? = some e -> es'[i]? = some q -> jAW w (own κ) e.val q.2) :
  (setObj r (.map jCT clock')).run P w = .ok () (setH w r (.map jCT clock')) ∧ Sim (setH w r (.map jCT clock')) κ (μ.set tg (some (.mp kd es'))) ∧ Goes w κ (setH w r (.map jCT clock')) κ fun _ => False := by
 have hsh : w.shape? r = none := by simp [World.shape?, h]
 have hG := Goes.setObj (o' := .map jCT clock') hb h hsh (fun _ => False)
 refine ⟨MapKept.run_setObj_map _ h, hS.putObj hb hm h hsh ?_, hG⟩
 exact .mp r kd es' jCT clock' (jOO h) hs' hB' kLU (fun i e q a b => (hk' i e q a b).mono hG.agree) (fun i e q a b => (hv' i e q a b).mono hG.agree)
theorem jRP (hS : Sim w κ μ) {tg : Nat} {kd : KK} {o : jAF} {es' : List (PV × PV)} {r : Nat} {ents jCT : Array MapEntry} {clock clock' : Nat} (hb : κ tg = some (some r)) (hm : μ.get tg = some o) (h : w.heap[r]? = some (.map ents clock))
  (hs' : jCT.size = es'.length) (kLU : ∀ q ∈ es', jBT kd q.1 = true)
  (hk' : ∀ (i : Nat) (e : MapEntry) (q : PV × PV), jCT[i]? = some e -> es'[i]? = some q -> jAW w (own κ) e.key q.1) (hv' : ∀ (i : Nat) (e : MapEntry) (q : PV × PV), jCT[i]? = some e -> es'[i]? = some q -> jAW w (own κ) e.val q.2) :
  (setObj r (.map jCT clock')).run P w = .ok () (setH w r (.map jCT clock')) ∧ Sim (setH w r (.map jCT clock')) κ (μ.set tg (some (.mpg kd es'))) ∧ Goes w κ (setH w r (.map jCT clock')) κ fun _ => False := by
 have hsh : w.shape? r = none := by simp [World.shape?, h]
 have hG := Goes.setObj (o' := .map jCT clock') hb h hsh (fun _ => False)
 refine ⟨MapKept.run_setObj_map _ h, hS.putObj hb hm h hsh ?_, hG⟩
 exact .mpg r kd es' jCT clock' (jOO h) hs' kLU (fun i e q a b => (hk' i e q a b).mono hG.agree) (fun i e q a b => (hv' i e q a b).mono hG.agree)
theorem jRO (hS : Sim w κ μ) {tg : Nat} {kd : KK} {es es' : List (PV × PV)} {r : Nat} {ents jCT : Array MapEntry} {clock clock' : Nat} (hb : κ tg = some (some r)) (hm : μ.get tg = some (.mpo kd es)) (h : w.heap[r]? = some (.map ents clock))
  (hs' : jCT.size = es'.length) (hB' : Born jCT clock') (kLU : ∀ q ∈ es', jBT kd q.1 = true)
  (hk' : ∀ (i : Nat) (e : MapEntry) (q : PV × PV), jCT[i]? = some e -> es'[i]? = some q -> jAW w (own κ) e.key q.1) (hv' : ∀ (i : Nat) (e : MapEntry) (q : PV × PV), jCT[i]? = some e -> es'[i]? = some q -> Rep w (own κ) κ e.val q.2) :
  (setObj r (.map jCT clock')).run P w = .ok () (setH w r (.map jCT clock')) ∧ Sim (setH w r (.map jCT clock')) κ (μ.set tg (some (.mpo kd es'))) ∧ Goes w κ (setH w r (.map jCT clock')) κ fun _ => False := by
 have hsh : w.shape? r = none := by simp [World.shape?, h]
 have hG := Goes.setObj (o' := .map jCT clock') hb h hsh (fun _ => False)
 refine ⟨MapKept.run_setObj_map _ h, hS.putObj hb hm h hsh ?_, hG⟩
 exact .mpo r kd es' jCT clock' (jOO h) hs' hB' kLU (fun i e q a b => (hk' i e q a b).mono hG.agree) (fun i e q a b => (hv' i e q a b).still hG)
theorem jH3 {ents : Array MapEntry} {j : Nat} {f : MapEntry -> MapEntry} {i : Nat} {e : MapEntry} (h : (ents.modify j f)[i]? = some e) : (i = j ∧ ∃ e0, ents[i]? = some e0 ∧ e = f e0) ∨ (i ≠ j ∧ ents[i]? = some e) := by
 rw [Array.getElem?_modify] at h
 split at h
 ·rename_i hij
  cases he : ents[i]? with
  | none => rw [he] at h; cases h
  | some e0 => rw [he] at h; cases h; exact .inl ⟨hij.symm, e0, rfl, rfl⟩
 ·rename_i hij
  exact .inr ⟨fun e => hij e.symm, h⟩
theorem jLL {kt : TypeId} {d : TypeDesc} {kd : KK} (hu : P.underlying kt = some d) (hkd : kIN kd d) {ex : Nat -> Prop} {ents : Array MapEntry} {clock : Nat} {es : List (PV × PV)} (hs : ents.size = es.length) (hB : Born ents clock) (hko : ∀ q ∈ es, jBT kd q.1 = true)
  (hkk : ∀ (i : Nat) (e : MapEntry) (q : PV × PV), ents[i]? = some e -> es[i]? = some q -> jAW w ex e.key q.1) {R : Value -> PV -> Prop} (hvv : ∀ (i : Nat) (e : MapEntry) (q : PV × PV), ents[i]? = some e -> es[i]? = some q -> R e.val q.2)
  {u : Value} {p : PV} (hup : jAW w ex u p) (hpk : jBT kd p = true) :
  (Instr.findNow d u ents.toList 0 = some none ∧ jI2 es p = none ∧ (∀ v, jF7 es p v = es ++ [(p, v)]) ∧
   ∀ (x : Value) (v : PV), R x v -> (ents.push { key := u, val := x, born := clock }).size = (jF7 es p v).length ∧ Born (ents.push { key := u, val := x, born := clock }) (clock + 1) ∧ (∀ q ∈ jF7 es p v, jBT kd q.1 = true) ∧
    (∀ (i : Nat) (e : MapEntry) (q : PV × PV), (ents.push { key := u, val := x, born := clock })[i]? = some e -> (jF7 es p v)[i]? = some q -> jAW w ex e.key q.1) ∧
    (∀ (i : Nat) (e : MapEntry) (q : PV × PV), (ents.push { key := u, val := x, born := clock })[i]? = some e -> (jF7 es p v)[i]? = some q -> R e.val q.2)) ∨
  ∃ j e q, Instr.findNow d u ents.toList 0 = some (some (j, e.val)) ∧ ents[j]? = some e ∧ es[j]? = some q ∧ e.key = u ∧ jI2 es p = some (j, q.2) ∧ (∀ v, jF7 es p v = es.set j (p, v)) ∧
   ∀ (f : MapEntry -> MapEntry) (v : PV), (∀ e', (f e').born = e'.born) -> (f e).key = u -> R (f e).val v -> (ents.modify j f).size = (jF7 es p v).length ∧ Born (ents.modify j f) clock ∧ (∀ q ∈ jF7 es p v, jBT kd q.1 = true) ∧
    (∀ (i : Nat) (e : MapEntry) (q : PV × PV), (ents.modify j f)[i]? = some e -> (jF7 es p v)[i]? = some q -> jAW w ex e.key q.1) ∧
    (∀ (i : Nat) (e : MapEntry) (q : PV × PV), (ents.modify j f)[i]? = some e -> (jF7 es p v)[i]? = some q -> R e.val q.2) := by
 obtain ⟨hB1, rfl⟩ := hB
 rcases find_spec hkd hup hpk ents.toList es 0 (by simpa using hs) (fun i e q a b => hkk i e q (by simpa using a) b) hko with ⟨h1, h2, h3⟩ | ⟨j, e, q, h1, h2, h3, h4, h5, h6⟩
 ·refine .inl ⟨h1, h2, h3, fun x v hxv => ?_⟩
  rw [h3]
  have jQC : ∀ (i : Nat) (e : MapEntry) (q : PV × PV), (ents.push { key := u, val := x, born := ents.size })[i]? = some e -> (es ++ [(p, v)])[i]? = some q -> (i < ents.size ∧ ents[i]? = some e ∧ es[i]? = some q) ∨ (i = ents.size ∧ e = { key := u, val := x, born := ents.size } ∧ q = (p, v)) := by
   intro i e q a b
   rw [Array.getElem?_push] at a
   split at a
   ·rename_i hi
    cases a
    rw [List.getElem?_append_right (by omega)] at b
    rw [show i - es.length = 0 by omega] at b
    simp at b
    exact .inr ⟨hi, rfl, b.symm⟩
   ·have hi := (Array.getElem?_eq_some_iff.1 a).1
    rw [List.getElem?_append_left (by omega)] at b
    exact .inl ⟨hi, a, b⟩
  refine ⟨by simp [hs], ⟨fun i e he => ?_, by simp⟩, fun q hq => ?_, fun i e q a b => ?_, fun i e q a b => ?_⟩
  ·rw [Array.getElem?_push] at he
   split at he
   ·rename_i hi; cases he; exact hi.symm
   ·exact hB1 i e he
  ·rcases List.mem_append.1 hq with h | h
   ·exact hko q h
   ·simp at h; subst h; exact hpk
  ·rcases jQC i e q a b with ⟨-, a, b⟩ | ⟨-, rfl, rfl⟩
   ·exact hkk i e q a b
   ·exact hup
  ·rcases jQC i e q a b with ⟨-, a, b⟩ | ⟨-, rfl, rfl⟩
   ·exact hvv i e q a b
   ·exact hxv
 ·rw [Nat.zero_add] at h1
  have hj : ents[j]? = some e := by simpa using h2
  refine .inr ⟨j, e, q, h1, hj, h3, h4, h5, h6, fun f v hfb hfk hfv => ?_⟩
  rw [h6]
  have hjl : j < es.length := (List.getElem?_eq_some_iff.1 h3).1
  have jQC : ∀ (i : Nat) (e' : MapEntry) (q' : PV × PV), (ents.modify j f)[i]? = some e' -> (es.set j (p, v))[i]? = some q' -> (i = j ∧ e' = f e ∧ q' = (p, v)) ∨ (ents[i]? = some e' ∧ es[i]? = some q') := by
   intro i e' q' a b
   rcases jH3 a with ⟨rfl, e0, h0, rfl⟩ | ⟨hne, h0⟩
   ·rw [hj] at h0; cases h0
    rw [List.getElem?_set_self hjl] at b
    exact .inl ⟨rfl, rfl, (Option.some.inj b).symm⟩
   ·rw [List.getElem?_set_ne (Ne.symm hne)] at b
    exact .inr ⟨h0, b⟩
  refine ⟨by simp [hs], ⟨fun i e' he => ?_, by simp⟩, fun q' hq => ?_, fun i e' q' a b => ?_, fun i e' q' a b => ?_⟩
  ·rcases jH3 he with ⟨rfl, e0, h0, rfl⟩ | ⟨hne, h0⟩
   ·rw [hfb]; exact hB1 i e0 h0
   ·exact hB1 i e' h0
  ·rcases List.mem_or_eq_of_mem_set hq with h | h
   ·exact hko q' h
   ·subst h; exact hpk
  ·rcases jQC i e' q' a b with ⟨-, rfl, rfl⟩ | ⟨a, b⟩
   ·show jAW w ex (f e).key p
    rw [hfk]; exact hup
   ·exact hkk i e' q' a b
  ·rcases jQC i e' q' a b with ⟨-, rfl, rfl⟩ | ⟨a, b⟩
   ·exact hfv
   ·exact hvv i e' q' a b
theorem jLD (hS : Sim w κ μ) {o : Oper} {t kt et : TypeId} {kd : KK} {m k x : Operand} (ho : o.op = .mapUpdate t m k x ∨ o.op = .insert t m k x) (ht : P.underlying t = some (.map kt et)) (hk0 : jYU P kt = some kd)
  {ps : List PV} (hk : Known w κ ρ [m, k, x] ps) {K : PV -> Option Nat -> Mem -> Prop} (h : jCG μ (.jP1 kd) ps K) : jFJ P w κ ρ o K := by
 obtain ⟨p, q, v, rfl, hp, hq, hv⟩ := jNU hk
 obtain ⟨d, hu, hkd⟩ := jIA hk0
 cases p <;> simp only [jCG] at h
 rename_i tg
 split at h
 ·rename_i kd' es hm
  obtain ⟨rfl, hqk, hno, hK⟩ := h
  obtain ⟨r, ents, clock, hmv, hb, hh, hs, hB, hko, hkk, hvv⟩ := jC6 hS hp hm
  have hqc := jGP hq hqk
  have hvc := jDB hv hno
  have hik := jDP hkd hqc hqk
  have exec : ∀ w', (Instr.mapUpdate t (ρ m) (ρ k) (ρ x)).run P w = .ok () w' -> (execOp ρ o).run P w = .ok .skip w' := by
   intro w' hr
   rcases ho with ho | ho <;> simp [execOp, ho, hr]
  rcases jLL (R := jAW w (own κ)) hu hkd hs hB hko hkk hvv hqc hqk with ⟨h1, -, -, hw⟩ | ⟨j, e, q', h1, hj, -, h4, -, -, hw⟩
  ·obtain ⟨a1, a2, a3, a4, a5⟩ := hw (ρ x) v hvc
   obtain ⟨hrun, hS', hG⟩ := jH2 (P := P) hS hb hm hh a1 a2 a3 a4 a5
   refine ⟨undef, .junk, none, _, _, κ, .inr ⟨exec _ ?_, rfl⟩, hK, hS', jAX hG, .junk _⟩
   simp only [Instr.mapUpdate, hmv, Sem.run_bind, run_underlying ht, Result.andThen_ok, MapKept.run_getObj_map hh, MapKept.run_checkKey hu hik, MapKept.run_findKey hu h1, hrun]
  ·obtain ⟨a1, a2, a3, a4, a5⟩ := hw (fun e => { e with key := ρ k, val := ρ x }) v (fun _ => rfl) rfl hvc
   obtain ⟨hrun, hS', hG⟩ := jH2 (P := P) hS hb hm hh a1 a2 a3 a4 a5
   refine ⟨undef, .junk, none, _, _, κ, .inr ⟨exec _ ?_, rfl⟩, hK, hS', jAX hG, .junk _⟩
   simp only [Instr.mapUpdate, hmv, Sem.run_bind, run_underlying ht, Result.andThen_ok, MapKept.run_getObj_map hh, MapKept.run_checkKey hu hik, MapKept.run_findKey hu h1, hj, Option.map_some, Option.getD_some, h4, MapKept.run_keyThatStays hik, hrun]
 ·rename_i kd' es hm
  obtain ⟨rfl, hqk, hK⟩ := h
  obtain ⟨r, ents, clock, hmv, hb, hh, hs, hB, hko, hkk, hvv⟩ := jHV hS hp hm
  have hqc := jGP hq hqk
  have hik := jDP hkd hqc hqk
  have exec : ∀ w', (Instr.mapUpdate t (ρ m) (ρ k) (ρ x)).run P w = .ok () w' -> (execOp ρ o).run P w = .ok .skip w' := by
   intro w' hr
   rcases ho with ho | ho <;> simp [execOp, ho, hr]
  rcases jLL (R := Rep w (own κ) κ) hu hkd hs hB hko hkk hvv hqc hqk with ⟨h1, -, -, hw⟩ | ⟨j, e, q', h1, hj, -, h4, -, -, hw⟩
  ·obtain ⟨a1, a2, a3, a4, a5⟩ := hw (ρ x) v hv
   obtain ⟨hrun, hS', hG⟩ := jRO (P := P) hS hb hm hh a1 a2 a3 a4 a5
   refine ⟨undef, .junk, none, _, _, κ, .inr ⟨exec _ ?_, rfl⟩, hK, hS', jAX hG, .junk _⟩
   simp only [Instr.mapUpdate, hmv, Sem.run_bind, run_underlying ht, Result.andThen_ok, MapKept.run_getObj_map hh, MapKept.run_checkKey hu hik, MapKept.run_findKey hu h1, hrun]
  ·obtain ⟨a1, a2, a3, a4, a5⟩ := hw (fun e => { e with key := ρ k, val := ρ x }) v (fun _ => rfl) rfl hv
   obtain ⟨hrun, hS', hG⟩ := jRO (P := P) hS hb hm hh a1 a2 a3 a4 a5
   refine ⟨undef, .junk, none, _, _, κ, .inr ⟨exec _ ?_, rfl⟩, hK, hS', jAX hG, .junk _⟩
   simp only [Instr.mapUpdate, hmv, Sem.run_bind, run_underlying ht, Result.andThen_ok, MapKept.run_getObj_map hh, MapKept.run_checkKey hu hik, MapKept.run_findKey hu h1, hj, Option.map_some, Option.getD_some, h4, MapKept.run_keyThatStays hik, hrun]
 ·exact h.elim
theorem jTU (hS : Sim w κ μ) {o : Oper} {t t' kt et : TypeId} {kd : KK} {m k : Operand} (ho : o.op = .call { callee := .builtin .delete, args := #[m, k], argTypes := #[t, t'] }) (ht : P.underlying t = some (.map kt et)) (hk0 : jYU P kt = some kd)
  {ps : List PV} (hk : Known w κ ρ [m, k] ps) {K : PV -> Option Nat -> Mem -> Prop} (h : jCG μ (.kBX kd) ps K) : jFJ P w κ ρ o K := by
 obtain ⟨p, q, rfl, hp, hq⟩ := jCW hk
 obtain ⟨d, hu, hkd⟩ := jIA hk0
 have main : ∀ (tg r : Nat) (ents : Array MapEntry) (clock : Nat) (es : List (PV × PV)) (ob : jAF), μ.get tg = some ob -> ρ m = .map (some r) -> κ tg = some (some r) -> w.heap[r]? = some (.map ents clock) -> ents.size = es.length -> (∀ q ∈ es, jBT kd q.1 = true) ->
   (∀ (i : Nat) (e : MapEntry) (q : PV × PV), ents[i]? = some e -> es[i]? = some q -> jAW w (own κ) e.key q.1) -> (∀ (i : Nat) (e : MapEntry) (q : PV × PV), ents[i]? = some e -> es[i]? = some q -> jAW w (own κ) e.val q.2) -> jBT kd q = true ->
   K (.tup []) none (μ.set tg (some (.mpg kd (kBX es q)))) -> jFJ P w κ ρ o K := by
  intro tg r ents clock es ob hm hmv hb hh hs hko hkk hvv hqk hK
  have hqc := jGP hq hqk
  have hik := jDP hkd hqc hqk
  have kOJ : Rep w (own κ) κ (.tuple #[]) (.tup []) := .tup _ _ rfl (fun i v p a b => by simp at a)
  have exec : ∀ w', (Builtin.delete_ #[t, t'] o.type #[ρ m, ρ k]).run P w = .ok (.tuple #[]) w' -> (execOp ρ o).run P w = .ok (.value (.tuple #[])) w' := by
   intro w' hr
   simp [execOp, ho, resolve, invoke, builtin, hr]
  rcases find_spec hkd hqc hqk ents.toList es 0 (by simpa using hs) (fun i e q a b => hkk i e q (by simpa using a) b) hko with ⟨h1, h2, -⟩ | ⟨j, e', q', h1, hj, hjq, -, h5, -⟩
  ·have hd : kBX es q = es := by unfold kBX; rw [h2]
   rw [hd] at hK
   obtain ⟨hrun, hS', hG⟩ := jRP (P := P) (kd := kd) (es' := es) (jCT := ents) (clock' := clock) hS hb hm hh hs hko hkk hvv
   refine ⟨.tuple #[], _, none, _, _, κ, .inl (exec _ ?_), hK, hS', jAX hG, .tup _ _ rfl (fun i v p a b => by simp at a)⟩
   simp [Builtin.delete_, hmv, run_underlying ht, MapKept.run_getObj_map hh, MapKept.run_checkKey hu hik, MapKept.run_findKey hu h1, hrun, Result.andThen]
  ·have hd : kBX es q = es.eraseIdx j := by unfold kBX; rw [h5]
   rw [hd] at hK
   have hjl : j < ents.size := by
    rcases Nat.lt_or_ge j ents.size with h | h
    ·exact h
    ·rw [List.getElem?_eq_none (by simpa using h)] at hj; cases hj
   have hsub : (ents.eraseIdxIfInBounds j).toList = ents.toList.eraseIdx j := by
    unfold Array.eraseIdxIfInBounds
    rw [dif_pos hjl]; simp
   have hat : ∀ i : Nat, (ents.eraseIdxIfInBounds j)[i]? = if i < j then ents[i]? else ents[i + 1]? := fun i => by
    rw [<- Array.getElem?_toList, hsub, List.getElem?_eraseIdx]; simp
   have kQF : ∀ i : Nat, (es.eraseIdx j)[i]? = if i < j then es[i]? else es[i + 1]? := fun i => List.getElem?_eraseIdx ..
   have hsz : (ents.eraseIdxIfInBounds j).size = (es.eraseIdx j).length := by
    rw [<- Array.length_toList, hsub, List.length_eraseIdx, List.length_eraseIdx]
    simp [hs]
   obtain ⟨hrun, hS', hG⟩ := jRP (P := P) (kd := kd) (es' := es.eraseIdx j) (jCT := ents.eraseIdxIfInBounds j) (clock' := clock) hS hb hm hh hsz (fun q hq => hko q ((List.eraseIdx_sublist _ _).subset hq))
    (fun i e q a b => by
     rw [hat] at a; rw [kQF] at b
     by_cases hij : i < j
     ·rw [if_pos hij] at a b; exact hkk i e q a b
     ·rw [if_neg hij] at a b; exact hkk (i + 1) e q a b)
    (fun i e q a b => by
     rw [hat] at a; rw [kQF] at b
     by_cases hij : i < j
     ·rw [if_pos hij] at a b; exact hvv i e q a b
     ·rw [if_neg hij] at a b; exact hvv (i + 1) e q a b)
   refine ⟨.tuple #[], _, none, _, _, κ, .inl (exec _ ?_), hK, hS', jAX hG, .tup _ _ rfl (fun i v p a b => by simp at a)⟩
   rw [Nat.zero_add] at h1
   simp [Builtin.delete_, hmv, run_underlying ht, MapKept.run_getObj_map hh, MapKept.run_checkKey hu hik, MapKept.run_findKey hu h1, hrun, Result.andThen]
 cases p <;> simp only [jCG] at h
 rename_i tg
 split at h
 ·rename_i kd' es hm
  obtain ⟨rfl, hqk, hK⟩ := h
  obtain ⟨r, ents, clock, hmv, hb, hh, hs, -, hko, hkk, hvv⟩ := jC6 hS hp hm
  exact main tg r ents clock es _ hm hmv hb hh hs hko hkk hvv hqk hK
 ·rename_i kd' es hm
  obtain ⟨rfl, hqk, hK⟩ := h
  obtain ⟨r, ents, clock, hmv, hb, hh, hs, hko, hkk, hvv⟩ := jFN hS hp hm
  exact main tg r ents clock es _ hm hmv hb hh hs hko hkk hvv hqk hK
 ·exact h.elim
theorem jTT (hS : Sim w κ μ) {o : Oper} {t kt et : TypeId} {kd : KK} {z : PV} {m k : Operand} (ho : o.op = .mapEntry t m k) (ht : P.underlying t = some (.map kt et)) (hk0 : jYU P kt = some kd) (hz : zeroV P et = some z)
  {ps : List PV} (hk : Known w κ ρ [m, k] ps) {K : PV -> Option Nat -> Mem -> Prop} (h : jCG μ (.kNK kd z) ps K) : jFJ P w κ ρ o K := by
 obtain ⟨p, q, rfl, hp, hq⟩ := jCW hk
 obtain ⟨d, hu, hkd⟩ := jIA hk0
 obtain ⟨zv, hzr, hzc⟩ := jMY hz
 cases p <;> simp only [jCG] at h
 rename_i tg
 split at h
 ·rename_i kd' es hm
  obtain ⟨rfl, hqk, hK⟩ := h
  obtain ⟨r, ents, clock, hmv, hb, hh, hs, hB, hko, hkk, hvv⟩ := jC6 hS hp hm
  have hqc := jGP hq hqk
  have hik := jDP hkd hqc hqk
  have tup : ∀ {w' : World} (x : Value) (xp : PV) (n : Nat), Rep w' (own κ) κ x xp -> Rep w' (own κ) κ (.tuple #[x, goInt n]) (.tup [xp, .int .i64 n]) := by
   intro w' x xp n hx
   refine .tup _ _ rfl fun i v p a b => ?_
   match i, a, b with
   | 0, a, b => simp at a b; subst a; subst b; exact hx
   | 1, a, b => simp at a b; subst a; subst b; exact .closed (.int _ _)
  rcases jLL (R := jAW w (own κ)) hu hkd hs hB hko hkk hvv hqc hqk with ⟨h1, h2, -, hw⟩ | ⟨j, e, q', h1, hj, hq', h4, h5, -, hw⟩
  ·have e1 : (jFK es q).getD z = z := by simp [jFK, h2]
   have e2 : midx es q = clock := by rw [hB.2, hs]; simp [midx, h2]
   rw [e1, e2] at hK
   obtain ⟨a1, a2, a3, a4, a5⟩ := hw zv z (hzc _ _)
   obtain ⟨hrun, hS', hG⟩ := jH2 (P := P) hS hb hm hh a1 a2 a3 a4 a5
   refine ⟨.tuple #[zv, goInt clock], _, none, _, _, κ, .inl ?_, hK, hS', jAX hG, tup zv z clock (.closed (hzc _ _))⟩
   simp only [execOp, ho, Instr.mapEntry, hmv, Sem.run_bind, run_underlying ht, Result.andThen_ok, MapKept.run_getObj_map hh, MapKept.run_checkKey hu hik, MapKept.run_findKey hu h1, hzr, hrun, Sem.run_pure]
  ·have e1 : (jFK es q).getD z = q'.2 := by simp [jFK, h5]
   have e2 : midx es q = j := by simp [midx, h5]
   rw [e1, e2] at hK
   have hev := hvv j e q' hj hq'
   obtain ⟨a1, a2, a3, a4, a5⟩ := hw (fun e => { e with key := ρ k }) q'.2 (fun _ => rfl) rfl hev
   obtain ⟨hrun, hS', hG⟩ := jH2 (P := P) hS hb hm hh a1 a2 a3 a4 a5
   have hbj := hB.1 j e hj
   refine ⟨.tuple #[e.val, goInt j], _, none, _, _, κ, .inl ?_, hK, hS', jAX hG, tup e.val q'.2 j (.closed (hev.mono hG.agree))⟩
   simp only [execOp, ho, Instr.mapEntry, hmv, Sem.run_bind, run_underlying ht, Result.andThen_ok, MapKept.run_getObj_map hh, MapKept.run_checkKey hu hik, MapKept.run_findKey hu h1, hj, Option.map_some, Option.getD_some, h4, MapKept.run_keyThatStays hik, hrun, Sem.run_pure, hbj]
 ·exact h.elim
theorem jYG (hS : Sim w κ μ) {o : Oper} {t : TypeId} {m s x : Operand} (ho : o.op = .entryStore t m s x)
  {ps : List PV} (hk : Known w κ ρ [m, s, x] ps) {K : PV -> Option Nat -> Mem -> Prop} (h : jCG μ .mst ps K) : jFJ P w κ ρ o K := by
 obtain ⟨p, q, v, rfl, hp, hq, hv⟩ := jNU hk
 cases p <;> (try simp only [jCG] at h)
 cases q <;> simp only [jCG] at h
 rename_i tg kk i
 split at h
 ·rename_i kd es hm
  obtain ⟨h0, hi, hno, hK⟩ := h
  obtain ⟨r, ents, clock, hmv, hb, hh, hs, hB, hko, hkk, hvv⟩ := jC6 hS hp hm
  have hvc := jDB hv hno
  have e2 := jAP hq
  obtain ⟨j, rfl⟩ := Int.eq_ofNat_of_zero_le h0
  have hje : j < es.length := by omega
  have hjl : j < ents.size := by omega
  simp only [Int.ofNat_eq_natCast, Int.toNat_natCast] at hK
  have hfi : ents.findIdx? (fun e => (e.born : Int) == (j : Int)) = some j := by
   rw [Array.findIdx?_eq_some_iff_getElem]
   refine ⟨hjl, ?_, fun i hij => ?_⟩
   ·have := hB.1 j _ (Array.getElem?_eq_getElem hjl); simp [this]
   ·have := hB.1 i _ (Array.getElem?_eq_getElem (by omega)); simp [this]; omega
  have hen : enK es j = (es[j]).1 := by simp [enK, List.getD, hje]
  have a0 : ∀ (i : Nat) (e : MapEntry) (q : PV × PV), (ents.modify j fun e => { e with val := ρ x })[i]? = some e -> (es.set j (enK es j, v))[i]? = some q ->
    (i = j ∧ (∃ e0, ents[j]? = some e0 ∧ e = { e0 with val := ρ x }) ∧ q = (enK es j, v)) ∨ (ents[i]? = some e ∧ es[i]? = some q) := by
   intro i e q a b
   rcases jH3 a with ⟨rfl, e0, h0, rfl⟩ | ⟨hne, h0⟩
   ·rw [List.getElem?_set_self hje] at b
    exact .inl ⟨rfl, ⟨e0, h0, rfl⟩, (Option.some.inj b).symm⟩
   ·rw [List.getElem?_set_ne (Ne.symm hne)] at b
    exact .inr ⟨h0, b⟩
  obtain ⟨hrun, hS', hG⟩ := jH2 (P := P) (jCT := ents.modify j fun e => { e with val := ρ x }) (clock' := clock) (es' := es.set j (enK es j, v)) hS hb hm hh (by simp [hs])
   ⟨fun i e he => by
    rcases jH3 he with ⟨rfl, e0, h0, rfl⟩ | ⟨hne, h0⟩
    ·exact hB.1 i e0 h0
    ·exact hB.1 i e h0, by simp [hB.2]⟩
   (fun q hq => by
    rcases List.mem_or_eq_of_mem_set hq with h | h
    ·exact hko q h
    ·subst h; show jBT kd (enK es j) = true
     rw [hen]; exact hko es[j] (List.getElem_mem hje))
   (fun i e q a b => by
    rcases a0 i e q a b with ⟨rfl, ⟨e0, h0, rfl⟩, rfl⟩ | ⟨a, b⟩
    ·show jAW w (own κ) e0.key (enK es i)
     rw [hen]; exact hkk i e0 _ h0 (List.getElem?_eq_getElem hje)
    ·exact hkk i e q a b)
   (fun i e q a b => by
    rcases a0 i e q a b with ⟨rfl, ⟨e0, h0, rfl⟩, rfl⟩ | ⟨a, b⟩
    ·exact hvc
    ·exact hvv i e q a b)
  refine ⟨undef, .junk, none, _, _, κ, .inr ⟨?_, rfl⟩, hK, hS', jAX hG, .junk _⟩
  simp only [execOp, ho, Instr.entryStore, hmv, e2, Sem.run_bind, MapKept.run_getObj_map hh, Result.andThen_ok, asInt, asIntOf, Sem.run_map, Sem.run_pure, Int.ofNat_eq_natCast, hfi, hrun]
 ·exact h.elim
theorem jYH (hS : Sim w κ μ) {o : Oper} {t : TypeId} {kd : KK} (ho : o.op = .makeMap t none) {ps : List PV} (hk : Known w κ ρ [] ps) {K : PV -> Option Nat -> Mem -> Prop} (h : jCG μ (.mmk kd) ps K) : jFJ P w κ ρ o K := by
 have hps : ps = [] := List.eq_nil_of_length_eq_zero hk.1.symm
 subst hps
 simp only [jCG] at h
 have hG := Goes.alloc hS (.map #[] 0)
 refine ⟨.map (some w.heap.size), .mref μ.length, none, _, _, _, .inl ?_, h, hS.push (.map #[] 0) (.mp kd []) (.mp _ kd [] #[] 0 (jBA _ _) rfl ⟨fun i e h => by simp at h, rfl⟩ (by simp) (fun i e q h => by simp at h) (fun i e q h => by simp at h)), jAX hG, .mref _ _ (by simp)⟩
 simp [execOp, ho, RowKit.run_makeMap]
theorem jX3 (hS : Sim w κ μ) {o : Oper} {t k e : TypeId} {kd : KK} {x : Operand} (ho : o.op = .range t x) (ht : P.underlying t = some (.map k e)) {ps : List PV} (hk : Known w κ ρ [x] ps) {K : PV -> Option Nat -> Mem -> Prop} (h : jCG μ (.rng kd) ps K) : jFJ P w κ ρ o K := by
 obtain ⟨p, rfl, hp⟩ := known1 hk
 cases p <;> simp only [jCG] at h
 ·have hv := jIX hp
  have hG := Goes.alloc hS (.mapIter none 0 #[] 0)
  refine ⟨.pointer (some ⟨w.heap.size, 0, none⟩), .ref μ.length 0, none, _, _, _, .inl ?_, h, hS.push (.mapIter none 0 #[] 0) (.iter kd [] []) (.iter _ kd [] [] none (jBA _ _) (.inl ⟨rfl, rfl⟩)), jAX hG, .ref _ 0 _ (by simp)⟩
  simp [execOp, ho, Instr.range, hv, run_underlying ht]
 ·obtain ⟨rfl, h⟩ := h
  rename_i kd' es
  obtain ⟨r, ents, clock, hv, hr, -, hh, hs, hB, -⟩ := jDO hp
  have hG := Goes.alloc hS (.mapIter (some r) clock #[] clock)
  have hcl : clock = es.length := by rw [hB.2, hs]
  refine ⟨.pointer (some ⟨w.heap.size, 0, none⟩), .ref μ.length 0, none, _, _, _, .inl ?_, h, hS.push (.mapIter (some r) clock #[] clock) (.iter kd' es []) ?_, jAX hG, .ref _ 0 _ (by simp)⟩
  ·simp [execOp, ho, Instr.range, hv, run_underlying ht, MapKept.run_getObj_map hh]
  ·refine .iter _ kd' es [] (some r) (by rw [<- hcl]; exact jBA _ _) (.inr ⟨r, rfl, ?_⟩)
   rw [hv] at hp
   cases hp with | closed hp => exact hp.mono hG.agree
theorem jYE (hS : Sim w κ μ) {o : Oper} {x : Operand} (ho : o.op = .next x false) {ps : List PV} (hk : Known w κ ρ [x] ps) {K : PV -> Option Nat -> Mem -> Prop} (h : jCG μ .nxt ps K) : jFJ P w κ ρ o K := by
 obtain ⟨p, rfl, hp⟩ := known1 hk
 cases p <;> (try simp only [jCG] at h)
 rename_i tg off
 cases off <;> simp only [jCG] at h
 split at h
 ·rename_i kd es seen hm
  obtain ⟨h1, h2⟩ := h
  obtain ⟨c, hc, hO⟩ := hS.at hm
  generalize hvx : ρ x = vx at hp
  cases hp with
  | closed hp => cases hp
  | ref _ _ b hb =>
   rw [hb] at hc; cases hc
   cases hO with
   | iter _ _ _ _ mo hh hmo =>
    have over : (∀ i, i < es.length -> i ∈ seen) -> (Instr.next (.pointer (some ⟨b, 0, none⟩)) false o.type).run P w = .ok (.tuple #[.bool false]) w -> jFJ P w κ ρ o K := by
     intro hall hrun
     refine ⟨.tuple #[.bool false], .tup [.bool false], none, μ, w, κ, .inl ?_, h2 hall, hS, Goes.refl _ _ _, .tup _ _ rfl fun i v p a b => ?_⟩
     ·simp [execOp, ho, hvx, hrun]
     ·match i, a, b with
      | 0, a, b => simp at a b; subst a; subst b; exact .closed (.bool _)
    rcases hmo with ⟨rfl, rfl⟩ | ⟨r, rfl, hrc⟩
    ·refine over (fun i hi => by simp at hi) ?_
     simp [Instr.next, getObj, Sem.run, hh]
    ·obtain ⟨r', ents, clock, hv', -, -, hh', hs, hB, hko, hkk, hvv⟩ := jDO (κ := κ) (.closed hrc)
     cases hv'
     have hcl : clock = es.length := by rw [hB.2, hs]
     have hbo : ∀ e ∈ ents.toList, e.born < es.length ∧ ents[e.born]? = some e := by
      intro e he
      obtain ⟨i, hi⟩ := List.mem_iff_getElem?.1 he
      have hi' : ents[i]? = some e := by simpa using hi
      have := hB.1 i e hi'
      rw [this]
      exact ⟨by rw [<- hs]; exact (Array.getElem?_eq_some_iff.1 hi').1, hi'⟩
     rcases run_next_at (P := P) w o.type b r es.length es.length seen.toArray ents clock hh hh' (fun e he => (hbo e he).1) (Nat.le_refl _) with ⟨hz, hrun⟩ | ⟨e, he, w1, hw1, hrun⟩
     ·refine over (fun i hi => ?_) hrun
      have hie : i < ents.size := by omega
      have hbi := hB.1 i _ (Array.getElem?_eq_getElem hie)
      have : leftOf ents seen.toArray = #[] := Array.eq_empty_of_size_eq_zero hz
      unfold leftOf at this
      rw [Array.filter_eq_empty_iff] at this
      have h3 := this ents[i] (Array.getElem_mem hie)
      rw [hbi] at h3
      simpa using h3
     ·have hmem := Array.mem_filter.1 (Array.mem_toList_iff.1 he)
      obtain ⟨hlt, hget⟩ := hbo e (Array.mem_toList_iff.2 hmem.1)
      have hnot : e.born ∉ seen := by simpa using hmem.2
      have hes : es[e.born]? = some es[e.born] := List.getElem?_eq_getElem hlt
      have hK := h1 e.born hlt hnot
      have eK : enK es e.born = (es[e.born]).1 := by simp [enK, List.getD, hlt]
      have eV : enV es e.born = (es[e.born]).2 := by simp [enV, List.getD, hlt]
      have hh1 : w1.heap = w.heap := by rcases hw1 with rfl | rfl <;> rfl
      have hSw : Sim w1 κ μ := by rcases hw1 with rfl | rfl; exact hS; exact hS.drew
      have hGw : Goes w κ w1 κ (fun _ => False) := by rcases hw1 with rfl | rfl; exact Goes.refl _ _ _; exact Goes.drew _ _ _
      have hsh : w1.shape? b = none := by simp [World.shape?, hh1, hh]
      have hG2 := Goes.setObj (w := w1) (o' := .mapIter (some r) es.length (seen.toArray.push e.born) clock) hb (by rw [hh1]; exact hh) hsh (fun _ => False)
      have hG := hGw.trans hG2
      refine ⟨.tuple #[.bool true, e.key, e.val], _, none, _, setH w1 b (.mapIter (some r) es.length (seen.toArray.push e.born) clock), κ, .inl ?_, hK, ?_, jAX hG, ?_⟩
      ·simp only [execOp, ho, hvx, Sem.run_bind, hrun, Result.andThen_ok, Sem.run_pure]; rfl
      ·refine hSw.putObj hb hm (by rw [hh1]; exact hh) hsh (.iter b kd es (seen ++ [e.born]) (some r) ?_ (.inr ⟨r, rfl, hrc.mono hG.agree⟩))
       rw [jOO (by rw [hh1]; exact hh), hcl]
       congr 2
       simp
      ·refine .tup _ _ rfl fun i v p a b => ?_
       match i, a, b with
       | 0, a, b => simp at a b; subst a; subst b; exact .closed (.bool _)
       | 1, a, b => simp at a b; subst a; subst b; rw [eK]; exact .closed ((hkk _ e _ hget hes).mono hG.agree)
       | 2, a, b => simp at a b; subst a; subst b; rw [eV]; exact .closed ((hvv _ e _ hget hes).mono hG.agree)
 ·exact h.elim
theorem jY5 (hS : Sim w κ μ) {o : Oper} {x : Operand} (ho : o.op = .entry x) {ps : List PV} (hk : Known w κ ρ [x] ps) {K : PV -> Option Nat -> Mem -> Prop} (h : jCG μ .ent ps K) : jFJ P w κ ρ o K := by
 obtain ⟨p, rfl, hp⟩ := known1 hk
 cases p <;> (try simp only [jCG] at h)
 rename_i tg off
 cases off <;> simp only [jCG] at h
 split at h
 ·rename_i kd es seen hm
  split at h
  ·rename_i i hi
   obtain ⟨hlt, hK⟩ := h
   obtain ⟨c, hc, hO⟩ := hS.at hm
   generalize hvx : ρ x = vx at hp
   cases hp with
   | closed hp => cases hp
   | ref _ _ b hb =>
    rw [hb] at hc; cases hc
    cases hO with
    | iter _ _ _ _ mo hh hmo =>
     rcases hmo with ⟨rfl, rfl⟩ | ⟨r, rfl, hrc⟩
     ·simp at hlt
     ·obtain ⟨r', ents, clock, hv', -, -, hh', hs, hB, hko, hkk, hvv⟩ := jDO (κ := κ) (.closed hrc)
      cases hv'
      have hcl : clock = es.length := by rw [hB.2, hs]
      have hie : i < ents.size := by omega
      have hget := Array.getElem?_eq_getElem hie
      have hbi := hB.1 i _ hget
      have hes : es[i]? = some es[i] := List.getElem?_eq_getElem hlt
      have eK : enK es i = (es[i]).1 := by simp [enK, List.getD, hlt]
      have eV : enV es i = (es[i]).2 := by simp [enV, List.getD, hlt]
      obtain ⟨sn, rfl⟩ : ∃ sn, seen = sn ++ [i] := by
       rw [List.getLast?_eq_some_iff] at hi; exact hi
      have hnd : (ents.toList.map (·.born)).Nodup := by
       have : ents.toList.map (·.born) = List.range ents.size := by
        apply List.ext_getElem
        ·simp
        ·intro j h1 h2
         simp at h1 h2 ⊢
         exact hB.1 j _ (Array.getElem?_eq_getElem h2)
       rw [this]; exact List.nodup_range
      have hrun := run_entry_at (P := P) w b r es.length sn.toArray ents es.length ents[i] (by rw [hh, hbi]; congr 2; simp) (by rw [hh', hcl]) (by simp) hnd
      refine ⟨.tuple #[ents[i].key, ents[i].val], _, none, μ, w, κ, .inl ?_, hK, hS, Goes.refl _ _ _, ?_⟩
      ·simp only [execOp, ho, hvx, Sem.run_bind, hrun, Result.andThen_ok, Sem.run_pure]
      ·refine .tup _ _ rfl fun j v p a b => ?_
       match j, a, b with
       | 0, a, b => simp at a b; subst a; subst b; rw [eK]; exact .closed (hkk _ _ _ hget hes)
       | 1, a, b => simp at a b; subst a; subst b; rw [eV]; exact .closed (hvv _ _ _ hget hes)
  ·exact h.elim
 ·exact h.elim
theorem jIE (hS : Sim w κ μ) {o : Oper} {ow : List Nat} {k : EK} {xs : List Operand} (hc : jKB P ow o = some (k, xs)) {ps : List PV} (hk : Known w κ ρ xs ps) {K : PV -> Option Nat -> Mem -> Prop}
  (h : jCG μ k ps K) : jFJ P w κ ρ o K := by
 unfold jKB at hc
 split at hc
 ·rename_i ho
  simp only [Option.map_eq_some_iff] at hc
  obtain ⟨sh, hsh, hc⟩ := hc
  cases hc; exact jQB hS ho hsh hk h
 ·rename_i ho
  simp only [Option.map_eq_some_iff] at hc
  obtain ⟨⟨sh, z⟩, hsh, hc⟩ := hc
  cases hc; exact jS2 hS ho hsh hk h
 ·rename_i ho
  simp only [Option.map_eq_some_iff] at hc
  obtain ⟨sh, hsh, hc⟩ := hc
  cases hc; exact jY7 hS ho hk h
 ·rename_i ho
  simp only [Option.bind_eq_some_iff] at hc
  obtain ⟨⟨sh, i, z⟩, hr, hc⟩ := hc
  split at hc
  ·cases hc; exact jYP hS ho hr ‹_› hk h
  ·cases hc
 ·rename_i ho
  split at hc
  ·simp only [Option.bind_eq_some_iff, Option.map_eq_some_iff] at hc
   obtain ⟨⟨sh0, i, zv⟩, hr, ⟨sh, z⟩, hz, hc⟩ := hc
   cases hc; exact jTV hS ho ‹_› hr hz hk h
  ·cases hc
 ·rename_i ho
  split at hc
  ·split at hc
   ·rename_i he
    cases hc
    exact jX0 hS ho ‹_› ‹_› he hk h
   ·cases hc
  ·split at hc
   ·rename_i he
    cases hc
    exact jZB hS ho ‹_› ‹_› he hk h
   ·cases hc
  ·cases hc
 ·rename_i ho
  split at hc
  ·simp only [Option.map_eq_some_iff] at hc
   obtain ⟨kd, hkd, hc⟩ := hc
   cases hc; exact jYH hS ho hk h
  ·cases hc
 ·rename_i ho
  split at hc
  ·simp only [Option.map_eq_some_iff] at hc
   obtain ⟨kd, hkd, hc⟩ := hc
   cases hc; exact jLD hS (.inl ho) ‹_› hkd hk h
  ·cases hc
 ·rename_i ho
  split at hc
  ·simp only [Option.map_eq_some_iff] at hc
   obtain ⟨kd, hkd, hc⟩ := hc
   cases hc; exact jLD hS (.inr ho) ‹_› hkd hk h
  ·cases hc
 ·rename_i ho
  split at hc
  ·simp only [Option.bind_eq_some_iff] at hc
   obtain ⟨kd, hkd, z, hz, hc⟩ := hc
   split at hc
   ·cases hc; exact jTT hS ho ‹_› hkd hz hk h
   ·cases hc
  ·cases hc
 ·rename_i ho
  cases hc; exact jYG hS ho hk h
 ·rename_i ho
  split at hc
  ·simp only [Option.map_eq_some_iff] at hc
   obtain ⟨kd, hkd, hc⟩ := hc
   cases hc; exact jX3 hS ho ‹_› hk h
  ·cases hc
 ·rename_i ho
  cases hc; exact jYE hS ho hk h
 ·rename_i ho
  cases hc; exact jY5 hS ho hk h
 ·rename_i c ho
  split at hc
  ·rename_i h1 h2 h3
   split at hc
   ·rename_i ht
    subst ht
    simp only [Option.map_eq_some_iff] at hc
    obtain ⟨⟨sh, i, z⟩, hr, hc⟩ := hc
    cases hc
    obtain ⟨cal, args, ts⟩ := c
    simp only at h1 h2 h3
    subst h1
    have e1 := congrArg List.toArray h2
    have e2 := congrArg List.toArray h3
    simp at e1 e2
    subst e1 e2
    exact jPY hS ho hr hk h
   ·cases hc
  ·rename_i h1 h2 h3
   split at hc
   ·rename_i ht
    subst ht
    simp only [Option.map_eq_some_iff] at hc
    obtain ⟨⟨sh, i, z⟩, hr, hc⟩ := hc
    cases hc
    obtain ⟨cal, args, ts⟩ := c
    simp only at h1 h2 h3
    subst h1
    have e1 := congrArg List.toArray h2
    have e2 := congrArg List.toArray h3
    simp at e1 e2
    subst e1 e2
    exact jT8 hS ho hr hk h
   ·cases hc
  ·rename_i h1 h2 h3
   split at hc
   ·rename_i kt et ht
    rw [if_pos rfl] at hc
    simp only [Option.map_eq_some_iff] at hc
    obtain ⟨kd, hkd, hc⟩ := hc
    cases hc
    obtain ⟨cal, args, ts⟩ := c
    simp only at h1 h2 h3
    subst h1
    have e1 := congrArg List.toArray h2
    have e2 := congrArg List.toArray h3
    simp at e1 e2
    subst e1 e2
    exact jTU hS ho ht hkd hk h
   ·cases hc
  ·cases hc
 ·cases hc
end
end PG
