/-
  The pure layer: calls by value, calls that own, and the effects of operations.
-/
import Derived.Test.YtdemgegpnlngeaaDoorPure8
namespace PG
open Go

/-- No owned memory is told of. -/
def PV.noOwn : PV → Bool
  | .junk | .ref _ _ | .eptr _ _ _ _ | .sl _ _ _ | .mref _ | .cond _ _ => false
  | .agg ps => (ps.map PV.noOwn).all id
  | .tup ps => (ps.map PV.noOwn).all id
  | .fn _ ps qs => (ps.map PV.noOwn).all id && (qs.map PV.noOwn).all id
  | _ => true

/-- No memory at all is told of. -/
def PV.flat : PV → Bool
  | .int _ _ | .bool _ | .str _ | .nilFn | .nilPtr | .nilSl | .nilMap => true
  | .agg ps => (ps.map PV.flat).all id
  | .tup ps => (ps.map PV.flat).all id
  | _ => false

def PV.view (μ : Mem) : PV → PV
  | .sl sh t n => match μ.get t with
    | some (.row sh' xs) => if sh' = sh ∧ n ≤ xs.length then .list sh (xs.take n) else .junk
    | _ => .junk
  | .mref t => match μ.get t with
    | some (.mp kd es) => .cmap kd es
    | _ => .junk
  | .agg ps => .agg (ps.map (PV.view μ))
  | .tup ps => .tup (ps.map (PV.view μ))
  | .fn f ps qs => .fn f (ps.map (PV.view μ)) (qs.map (PV.view μ))
  | .ref _ _ | .eptr _ _ _ _ | .cond _ _ => .junk
  | p => p

def PV.seen (μ : Mem) : PV → Bool
  | .sl sh t n => match μ.get t with
    | some (.row sh' xs) => decide (sh' = sh ∧ n ≤ xs.length)
    | _ => false
  | .mref t => match μ.get t with
    | some (.mp _ _) => true
    | _ => false
  | .agg ps => (ps.map (PV.seen μ)).all id
  | .tup ps => (ps.map (PV.seen μ)).all id
  | .fn _ ps qs => (ps.map (PV.seen μ)).all id && (qs.map (PV.seen μ)).all id
  | .junk | .ref _ _ | .eptr _ _ _ _ | .cond _ _ => false
  | _ => true

theorem allMap {f : PV → Bool} {ps : List PV} : (ps.map f).all id = true ↔ ∀ p ∈ ps, f p = true := by simp [List.all_eq_true]

section
variable {P : Program} {w : World} {κ : Kap} {μ : Mem}

theorem rep_noOwn {v : Value} {p : PV} (h : Rep w (own κ) κ v p) (hp : p.noOwn = true) : RepC w (own κ) v p := by
  induction h with
  | junk => simp [PV.noOwn] at hp
  | closed h => exact h
  | ref => simp [PV.noOwn] at hp
  | eptr => simp [PV.noOwn] at hp
  | sl => simp [PV.noOwn] at hp
  | slnil => simp [PV.noOwn] at hp
  | mref => simp [PV.noOwn] at hp
  | agg vs ps hs hr ih =>
    simp only [PV.noOwn, allMap] at hp
    exact .agg vs ps hs (fun i v p a b => ih i v p a b (hp p (List.mem_of_getElem? b)))
  | tup vs ps hs hr ih =>
    simp only [PV.noOwn, allMap] at hp
    exact .tup vs ps hs (fun i v p a b => ih i v p a b (hp p (List.mem_of_getElem? b)))
  | fn f first caps ps qs h1 h2 h3 h4 ih3 ih4 =>
    simp only [PV.noOwn, Bool.and_eq_true, allMap] at hp
    exact .fn f first caps ps qs h1 h2 (fun i v p a b => ih3 i v p a b (hp.1 p (List.mem_of_getElem? b))) (fun i v p a b => ih4 i v p a b (hp.2 p (List.mem_of_getElem? b)))
  | cond => simp [PV.noOwn] at hp

theorem repC_flat {w' : World} {ex ex' : Nat → Prop} {v : Value} {p : PV} (h : RepC w ex v p) (hp : p.flat = true) : RepC w' ex' v p := by
  induction h with
  | int k n => exact .int k n
  | bool b => exact .bool b
  | str s => exact .str s
  | fn => simp [PV.flat] at hp
  | nilFn => exact .nilFn
  | nilPtr => exact .nilPtr
  | nilSl => exact .nilSl
  | nilMap => exact .nilMap
  | list => simp [PV.flat] at hp
  | full => simp [PV.flat] at hp
  | cmap => simp [PV.flat] at hp
  | cptr => simp [PV.flat] at hp
  | agg vs ps hs hr ih =>
    simp only [PV.flat, allMap] at hp
    exact .agg vs ps hs (fun i v p a b => ih i v p a b (hp p (List.mem_of_getElem? b)))
  | tup vs ps hs hr ih =>
    simp only [PV.flat, allMap] at hp
    exact .tup vs ps hs (fun i v p a b => ih i v p a b (hp p (List.mem_of_getElem? b)))

/-- One value alone is told by what has no memory. -/
theorem repC_uniq {w' : World} {ex ex' : Nat → Prop} {v : Value} {p : PV} (h : RepC w ex v p) (hp : p.flat = true) : ∀ {v' : Value}, RepC w' ex' v' p → v' = v := by
  induction h with
  | int k n => intro v' h; cases h; rfl
  | bool b => intro v' h; cases h; rfl
  | str s =>
    intro v' h
    generalize hl : s.data.toList = l at h
    cases h with
    | str s' => congr 1; exact ByteArray.ext (Array.ext' hl.symm)
  | fn => simp [PV.flat] at hp
  | nilFn => intro v' h; cases h; rfl
  | nilPtr => intro v' h; cases h; rfl
  | nilSl => intro v' h; cases h; rfl
  | nilMap => intro v' h; cases h; rfl
  | list => simp [PV.flat] at hp
  | full => simp [PV.flat] at hp
  | cmap => simp [PV.flat] at hp
  | cptr => simp [PV.flat] at hp
  | agg vs ps hs hr ih =>
    intro v' h
    simp only [PV.flat, allMap] at hp
    cases h with
    | agg vs' ps hs' hr' =>
      congr 1
      apply Array.ext (by omega)
      intro i h1 h2
      have hi : i < ps.length := by omega
      have hb := List.getElem?_eq_getElem hi
      exact ih i _ _ (Array.getElem?_eq_getElem h2) hb (hp _ (List.getElem_mem hi)) (hr' i _ _ (Array.getElem?_eq_getElem h1) hb)
  | tup vs ps hs hr ih =>
    intro v' h
    simp only [PV.flat, allMap] at hp
    cases h with
    | tup vs' ps hs' hr' =>
      congr 1
      apply Array.ext (by omega)
      intro i h1 h2
      have hi : i < ps.length := by omega
      have hb := List.getElem?_eq_getElem hi
      exact ih i _ _ (Array.getElem?_eq_getElem h2) hb (hp _ (List.getElem_mem hi)) (hr' i _ _ (Array.getElem?_eq_getElem h1) hb)

/-- What is lent to a callee: it sees lists. -/
theorem rep_view (hS : Sim w κ μ) {v : Value} {p : PV} (h : Rep w (own κ) κ v p) (hp : p.seen μ = true) : RepC w κ.ex v (p.view μ) := by
  have hA : Agree w (own κ) w κ.ex := ⟨fun _ _ _ => rfl, fun b _ h h' => h (.inl h')⟩
  have map_get : ∀ (ps : List PV) (i : Nat) (p : PV), (ps.map (PV.view μ))[i]? = some p → ∃ q, ps[i]? = some q ∧ p = q.view μ := by
    intro ps i p h
    rw [List.getElem?_map] at h
    cases hq : ps[i]? with
    | none => simp [hq] at h
    | some q => simp [hq] at h; exact ⟨q, rfl, h.symm⟩
  have closedCase : ∀ {v : Value} {p : PV}, RepC w (own κ) v p → p.seen μ = true → RepC w κ.ex v (p.view μ) := by
    intro v p h
    induction h with
    | fn f first caps ps qs h1 h2 h3 h4 ih3 ih4 =>
      intro hp
      simp only [PV.seen, Bool.and_eq_true, allMap] at hp
      simp only [PV.view]
      refine .fn f first caps _ _ (by simpa using h1) (by simpa using h2) (fun i v p a b => ?_) (fun i v p a b => ?_)
      · obtain ⟨q, hq, rfl⟩ := map_get ps i p b
        exact ih3 i v q a hq (hp.1 q (List.mem_of_getElem? hq))
      · obtain ⟨q, hq, rfl⟩ := map_get qs i p b
        exact ih4 i v q a hq (hp.2 q (List.mem_of_getElem? hq))
    | agg vs ps hs hr ih =>
      intro hp
      simp only [PV.seen, allMap] at hp
      simp only [PV.view]
      refine .agg vs _ (by simpa using hs) (fun i v p a b => ?_)
      obtain ⟨q, hq, rfl⟩ := map_get ps i p b
      exact ih i v q a hq (hp q (List.mem_of_getElem? hq))
    | tup vs ps hs hr ih =>
      intro hp
      simp only [PV.seen, allMap] at hp
      simp only [PV.view]
      refine .tup vs _ (by simpa using hs) (fun i v p a b => ?_)
      obtain ⟨q, hq, rfl⟩ := map_get ps i p b
      exact ih i v q a hq (hp q (List.mem_of_getElem? hq))
    | int k n => intro _; simp only [PV.view]; exact .int k n
    | bool b => intro _; simp only [PV.view]; exact .bool b
    | str s => intro _; simp only [PV.view]; exact .str s
    | nilFn => intro _; simp only [PV.view]; exact .nilFn
    | nilPtr => intro _; simp only [PV.view]; exact .nilPtr
    | nilSl => intro _; simp only [PV.view]; exact .nilSl
    | nilMap => intro _; simp only [PV.view]; exact .nilMap
    | list a len cap sh xs b off val h1 h2 h3 h4 h5 h6 h7 _ => intro _; simp only [PV.view]; exact (RepC.list a len cap sh xs b off val h1 h2 h3 h4 h5 h6 h7).mono hA
    | full a len sh xs b off val h1 h3 h4 h5 h6 h7 _ => intro _; simp only [PV.view]; exact (RepC.full a len sh xs b off val h1 h3 h4 h5 h6 h7).mono hA
    | cmap r kd es ents clock h1 h2 h3 h4 h4' h5 h6 _ _ => intro _; simp only [PV.view]; exact (RepC.cmap r kd es ents clock h1 h2 h3 h4 h4' h5 h6).mono hA
    | cptr b o off sh x val h1 h2 h3 h4 _ => intro _; simp only [PV.view]; exact (RepC.cptr b o off sh x val h1 h2 h3 h4).mono hA
  induction h with
  | junk => simp [PV.seen] at hp
  | closed h => exact closedCase h hp
  | ref => simp [PV.seen] at hp
  | eptr => simp [PV.seen] at hp
  | sl sh t n b cap hb hs hl hm =>
    simp only [PV.seen, PV.view] at hp ⊢
    split at hp
    · rename_i sh' xs hg
      simp only [decide_eq_true_eq] at hp
      obtain ⟨rfl, hn⟩ := hp
      rw [if_pos ⟨rfl, hn⟩]
      obtain ⟨c, hc, hO⟩ := hS.at hg
      rw [hb] at hc; cases hc
      cases hO with
      | row _ cur E cap' _ _ hh hcs hm' hl' hfit hr =>
        have hfit' : ∀ y ∈ xs.take n, fits sh' y := fun y hy => hfit y (List.mem_of_mem_take hy)
        have hfl : PG.flat (xs.take n) = (PG.flat xs).take (n * sh'.size) := flat_take hfit n
        have hfn : (PG.flat (xs.take n)).length = n * sh'.size := by rw [flat_length hfit']; simp [Nat.min_eq_left hn]
        have hcur : n * sh'.size ≤ cur.size := by rw [hcs]; exact Nat.mul_le_mul_right _ (by omega)
        refine .list _ n cap sh' _ b 0 (fun j => cur.getD j undef) (by simp [Nat.min_eq_left hn]) hl hm hfit' (fun _ => rfl) (fun j hj => ⟨hS.exout _ _ hb, ?_⟩) (fun j p hp => ?_)
        · rw [Nat.zero_add, cell?_cells hh]
          rw [hfn] at hj
          simp [show j < cur.size by omega]
        · have hj : j < n * sh'.size := by rw [← hfn]; exact (List.getElem?_eq_some_iff.1 hp).1
          rw [hfl, List.getElem?_take_of_lt hj] at hp
          exact (hr j p _ hp (by simp [show j < cur.size by omega])).mono hA
    · simp at hp
  | slnil sh t hb =>
    simp only [PV.seen, PV.view] at hp ⊢
    split at hp
    · rename_i sh' xs hg
      simp only [decide_eq_true_eq] at hp
      obtain ⟨rfl, hn⟩ := hp
      rw [if_pos ⟨rfl, hn⟩]
      exact .list none 0 0 sh' _ 0 0 (fun _ => undef) (by simp) (Nat.le_refl _) (Nat.zero_le _) (by simp) (fun h => by simp at h) (fun j hj => by simp [PG.flat] at hj) (fun j p hp => by simp [PG.flat] at hp)
    · simp at hp
  | mref t b hb =>
    simp only [PV.seen, PV.view] at hp ⊢
    split at hp
    · rename_i kd es hg
      obtain ⟨c, hc, hO⟩ := hS.at hg
      rw [hb] at hc; cases hc
      cases hO with
      | mp _ _ _ ents clock h hs hB hkd hk hv =>
        exact .cmap b kd es ents clock (hS.exout _ _ hb) h hs hB hkd (fun i e q a d => (hk i e q a d).mono hA) (fun i e q a d => (hv i e q a d).mono hA)
    · simp at hp
  | agg vs ps hs hr ih =>
    simp only [PV.seen, allMap] at hp
    simp only [PV.view]
    refine .agg vs _ (by simpa using hs) (fun i v p a b => ?_)
    obtain ⟨q, hq, rfl⟩ := map_get ps i p b
    exact ih i v q a hq (hp q (List.mem_of_getElem? hq))
  | tup vs ps hs hr ih =>
    simp only [PV.seen, allMap] at hp
    simp only [PV.view]
    refine .tup vs _ (by simpa using hs) (fun i v p a b => ?_)
    obtain ⟨q, hq, rfl⟩ := map_get ps i p b
    exact ih i v q a hq (hp q (List.mem_of_getElem? hq))
  | fn f first caps ps qs h1 h2 h3 h4 ih3 ih4 =>
    simp only [PV.seen, Bool.and_eq_true, allMap] at hp
    simp only [PV.view]
    refine .fn f first caps _ _ (by simpa using h1) (by simpa using h2) (fun i v p a b => ?_) (fun i v p a b => ?_)
    · obtain ⟨q, hq, rfl⟩ := map_get ps i p b
      exact ih3 i v q a hq (hp.1 q (List.mem_of_getElem? hq))
    · obtain ⟨q, hq, rfl⟩ := map_get qs i p b
      exact ih4 i v q a hq (hp.2 q (List.mem_of_getElem? hq))
  | cond => simp [PV.seen] at hp

/-- Behind a call that only makes new blocks. -/
theorem Goes.below {w' : World} (h : RowKit.Below w.heap.size w w') (m : Nat → Prop) : Goes w κ w' κ m :=
  ⟨h.os, h.tape, h.output, h.size, rfl, fun b hb _ => h.block b hb, fun _ _ h => h, fun b s hs => by
    have hb : b < w.heap.size := by
      unfold World.shape? at hs
      rcases Nat.lt_or_ge b w.heap.size with h | h
      · exact h
      · simp [Array.getElem?_eq_none h] at hs
    rw [shape?_of_block (h.block b hb)]; exact hs, fun _ _ h _ => h⟩

theorem Sim.below (hS : Sim w κ μ) {w' : World} (h : RowKit.Below w.heap.size w w') : Sim w' κ μ :=
  ⟨hS.inj, fun t b hb => Nat.lt_of_lt_of_le (hS.lt t b hb) h.size, fun t c hc => let ⟨o, h1, h2⟩ := hS.live t c hc; ⟨o, h1, ORep.still (Goes.below h _) (fun b hb => by subst hb; exact h.block b (hS.lt _ _ hc)) h2⟩,
    hS.dead, fun b hb => Nat.lt_of_lt_of_le (hS.exlt b hb) h.size, hS.exout⟩

theorem Same.below {w' : World} (h : RowKit.Below w.heap.size w w') : Same w w' := h.block

theorem Below.of_alloc (w : World) (o : Obj) : RowKit.Below w.heap.size w (w.alloc o) := (RowKit.Below.refl _ _).alloc (Nat.le_refl _) o

end

/-! ### Contracts -/
def RepCs (w : World) (ex : Nat → Prop) (vs : Array Value) (ps : List PV) : Prop := vs.size = ps.length ∧ ∀ (i : Nat) (v : Value) (p : PV), vs[i]? = some v → ps[i]? = some p → RepC w ex v p
def Reps (w : World) (κ : Kap) (vs : Array Value) (ps : List PV) : Prop := vs.size = ps.length ∧ ∀ (i : Nat) (v : Value) (p : PV), vs[i]? = some v → ps[i]? = some p → Rep w (own κ) κ v p

/-- A call by value: it makes new blocks alone, and hands back 'res'. -/
def VCalls (P : Program) (G : Globs) (f : Nat) (args : List PV) (res : PV) : Prop :=
  ∀ (w : World) (ex : Nat → Prop) (vs : Array Value), (∀ b, ex b → b < w.heap.size) → GlobsIn w ex G → RepCs w ex vs args →
    Calls P f vs w fun e w' => ∃ v, e = .returned v ∧ RowKit.Below w.heap.size w w' ∧ RepC w' ex v res

/-- A call over owned objects: which tags may move, and what stands behind it. -/
def PCalls (P : Program) (G : Globs) (f : Nat) (args : List PV) (μ : Mem) (mv : Nat → Bool) (R : PV → Mem → Prop) : Prop :=
  ∀ (w : World) (κ : Kap) (vs : Array Value), Sim w κ μ → GlobsIn w (own κ) G → Reps w κ vs args →
    Calls P f vs w fun e w' => ∃ v p μ' κ', e = .returned v ∧ R p μ' ∧ Sim w' κ' μ' ∧ Rep w' (own κ') κ' v p ∧ Goes w κ w' κ' (fun t => mv t = true)

end PG
