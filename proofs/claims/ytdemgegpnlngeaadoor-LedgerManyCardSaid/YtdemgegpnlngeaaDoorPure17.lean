/-
  The pure layer: calls that own; calls that hand new memory over; what is frozen.
-/
import Derived.Test.YtdemgegpnlngeaaDoorPure16
namespace PG
open Go
set_option linter.unusedSimpArgs false
set_option linter.unusedVariables false

section
variable {P : Program} {G : Globs} {N : Nat} {w : World} {κ : Kap} {env : Env} {μ : Mem} {mv : Nat → Bool} {Q : Post}

/-- How a call that owns ends. -/
def endP (rs : List RVar) (R : PV → Mem → Prop) : Post := fun e env μ =>
  match e with
  | .normal | .ret => allOk env μ rs ∧ R (retV (rs.map (RVar.val env μ))) μ
  | _ => False
theorem endP_normal (rs : List RVar) (R : PV → Mem → Prop) : endP rs R .normal env μ = (allOk env μ rs ∧ R (retV (rs.map (RVar.val env μ))) μ) := rfl
theorem endP_ret (rs : List RVar) (R : PV → Mem → Prop) : endP rs R .ret env μ = (allOk env μ rs ∧ R (retV (rs.map (RVar.val env μ))) μ) := rfl

theorem PCalls.of_PW {f : Nat} {fn : Func} {ow L : List Nat} {cf : CF} (hf : P.funcs[f]? = some fn) (hc : compileF P ow L fn = some cf) (hmix : P.follows .mixedOrders = true) {args : List PV} {R : PV → Mem → Prop} (hn : args.length ≤ cf.N)
    (h : PW P G cf.N mv cf.code (argE 0 args) μ (endP cf.rs R)) : PCalls P G f args μ mv R := by
  intro w κ vs hS hG hv
  simp only [compileF, Option.bind_eq_some_iff, Option.map_eq_some_iff] at hc
  obtain ⟨b, hb, c, hcc, rs, hrs, rfl⟩ := hc
  refine calls_of_wp hf hb ?_
  let C : Ctx := ⟨w, κ, mv⟩
  have hR : SR G fn.ntmps C { tmps := vs ++ Array.replicate (fn.ntmps - vs.size) undef, defers := [] } w κ (argE 0 args) μ := by
    refine ⟨by have := hv.1; simp; simp at hn; omega, rfl, fun i => ?_, hS, hG, Goes.refl _ _ _⟩
    rw [argE_get, if_pos (Nat.zero_le _), Nat.sub_zero]
    cases hp : args[i]? with
    | none => exact .junk _
    | some p =>
      have hi : i < args.length := (List.getElem?_eq_some_iff.1 hp).1
      have hiv : i < vs.size := by rw [hv.1]; exact hi
      have hgd : (vs ++ Array.replicate (fn.ntmps - vs.size) undef).getD i undef = vs[i] := by
        rw [Array.getD_eq_getD_getElem?, Array.getElem?_append_left hiv, Array.getElem?_eq_getElem hiv]; rfl
      simp only [Option.getD_some]
      rw [hgd]
      exact hv.2 i _ p (Array.getElem?_eq_getElem hiv) hp
  refine wp_mono (h ow L b hcc hmix C _ w κ rfl hR) ?_
  rintro e a' w' ⟨env', μ', κ', hq, hR'⟩
  have fin : (allOk env' μ' rs ∧ R (retV (rs.map (RVar.val env' μ'))) μ') →
      a'.defers = [] ∧ ∃ v, (results fn a'.tmps).run P w' = .ok v w' ∧ (∃ v' p μ2 κ2, Ending.returned v = .returned v' ∧ R p μ2 ∧ Sim w' κ2 μ2 ∧ Rep w' (own κ2) κ2 v' p ∧ Goes w κ w' κ2 (fun t => mv t = true)) := by
    rintro ⟨h1, h2⟩
    obtain ⟨v, hv', hrun⟩ := results_run hR'.sim hR'.regs hrs h1
    exact ⟨hR'.defers, v, hrun, v, _, μ', κ', rfl, h2, hR'.sim, hv', hR'.goes⟩
  cases e with
  | normal => exact fin hq
  | ret => exact fin hq
  | exit id' => exact hq.elim
  | goto l => exact hq.elim
  | panic ch => exact hq.elim
  | outgrown => exact hq.elim

theorem PCalls.moves {f : Nat} {args : List PV} {mv mv' : Nat → Bool} {R : PV → Mem → Prop} (hm : ∀ t, t < μ.length → mv t = true → mv' t = true) (h : PCalls P G f args μ mv R) : PCalls P G f args μ mv' R := by
  intro w κ vs hS hG hv
  refine (h w κ vs hS hG hv).mono ?_
  rintro e w' ⟨v, p, μ', κ', rfl, hR, hS', hv', hGo⟩
  refine ⟨v, p, μ', κ', rfl, hR, hS', hv', { hGo with tags := fun t c hc hn => hGo.tags t c hc (fun hh => hn (hm t ?_ hh)) }⟩
  obtain ⟨o, h1, -⟩ := hS.live t c hc
  exact (List.getElem?_eq_some_iff.1 h1).1

/-! ### New memory handed over -/
def PV.shift (n : Nat) : PV → PV
  | .sl sh t len => .sl sh (n + t) len
  | .ref t off => .ref (n + t) off
  | .eptr t m i off => .eptr (n + t) m i off
  | .mref t => .mref (n + t)
  | .agg ps => .agg (ps.map (PV.shift n))
  | .tup ps => .tup (ps.map (PV.shift n))
  | .fn f ps qs => .fn f (ps.map (PV.shift n)) (qs.map (PV.shift n))
  | .cond b p => .cond b (PV.shift n p)
  | p => p
def MObj.shift (n : Nat) : MObj → MObj
  | .var sh x => .var sh (x.shift n)
  | o => o

/-- A call by value whose result lies in memory of its own: told as if nothing else were there. -/
def FCalls (P : Program) (G : Globs) (f : Nat) (args : List PV) (R : PV → Mem → Prop) : Prop :=
  ∀ (w : World) (ex : Nat → Prop) (vs : Array Value), (∀ b, ex b → b < w.heap.size) → GlobsIn w ex G → RepCs w ex vs args →
    Calls P f vs w fun e w' => ∃ v p ν κ', e = .returned v ∧ R p ν ∧ Sim w' κ' ν ∧ κ'.ex = ex ∧ Rep w' (own κ') κ' v p ∧ RowKit.Below w.heap.size w w' ∧ (∀ t b, κ' t = some (some b) → w.heap.size ≤ b)

theorem FCalls.of_PW {f : Nat} {fn : Func} {ow L : List Nat} {cf : CF} (hf : P.funcs[f]? = some fn) (hc : compileF P ow L fn = some cf) (hmix : P.follows .mixedOrders = true) {args : List PV} {R : PV → Mem → Prop} (hn : args.length ≤ cf.N)
    (h : PW P G cf.N (fun _ => true) cf.code (argE 0 args) [] (endP cf.rs R)) : FCalls P G f args R := by
  intro w ex vs hex hG hv
  have hex' : own ⟨fun _ => none, ex⟩ = ex := by
    funext b
    simp only [own, eq_iff_iff]
    exact ⟨fun h => h.elim id (fun ⟨t, ht⟩ => by simp at ht), .inl⟩
  have hS : Sim w ⟨fun _ => none, ex⟩ [] := ⟨fun t t' b h => by simp at h, fun t b h => by simp at h, fun t c h => by simp at h, fun t o h => by simp at h, hex, fun t b h => by simp at h⟩
  refine ((PCalls.of_PW (mv := fun _ => true) hf hc hmix hn h) w ⟨fun _ => none, ex⟩ vs hS (by rw [hex']; exact hG) ⟨hv.1, fun i v p a b => .closed (by rw [hex']; exact hv.2 i v p a b)⟩).mono ?_
  rintro e w' ⟨v, p, μ', κ', rfl, hR, hS', hv', hGo⟩
  refine ⟨v, p, μ', κ', rfl, hR, hS', hGo.ex, hv', ⟨hGo.os, hGo.tape, hGo.output, hGo.size, fun k hk => hGo.block k hk (fun ⟨t, ht⟩ => by simp at ht)⟩, fun t b ht => ?_⟩
  rcases Nat.lt_or_ge b w.heap.size with hlt | hge
  · exact absurd ⟨t, ht⟩ (hGo.out b hlt (fun ⟨t, ht⟩ => by simp at ht))
  · exact hge

theorem Rep.shift {w' : World} {κ' κ2 : Kap} {n : Nat} (ho : own κ' = own κ2) (ht : ∀ t, κ2 (n + t) = κ' t) {v : Value} {p : PV} (h : Rep w' (own κ') κ' v p) : Rep w' (own κ2) κ2 v (p.shift n) := by
  rw [← ho]
  have map_get : ∀ (ps : List PV) (i : Nat) (p : PV), (ps.map (PV.shift n))[i]? = some p → ∃ q, ps[i]? = some q ∧ p = q.shift n := by
    intro ps i p h
    rw [List.getElem?_map] at h
    cases hq : ps[i]? with
    | none => simp [hq] at h
    | some q => simp [hq] at h; exact ⟨q, rfl, h.symm⟩
  have closedCase : ∀ {v : Value} {p : PV}, RepC w' (own κ') v p → RepC w' (own κ') v (p.shift n) := by
    intro v p h
    induction h with
    | fn f first caps ps qs h1 h2 h3 h4 ih3 ih4 =>
      simp only [PV.shift]
      refine .fn f first caps _ _ (by simpa using h1) (by simpa using h2) (fun i v p a b => ?_) (fun i v p a b => ?_)
      · obtain ⟨q, hq, rfl⟩ := map_get ps i p b
        exact ih3 i v q a hq
      · obtain ⟨q, hq, rfl⟩ := map_get qs i p b
        exact ih4 i v q a hq
    | agg vs ps hs hr ih =>
      simp only [PV.shift]
      refine .agg vs _ (by simpa using hs) (fun i v p a b => ?_)
      obtain ⟨q, hq, rfl⟩ := map_get ps i p b
      exact ih i v q a hq
    | tup vs ps hs hr ih =>
      simp only [PV.shift]
      refine .tup vs _ (by simpa using hs) (fun i v p a b => ?_)
      obtain ⟨q, hq, rfl⟩ := map_get ps i p b
      exact ih i v q a hq
    | int k n => simp only [PV.shift]; exact .int k n
    | bool b => simp only [PV.shift]; exact .bool b
    | str s => simp only [PV.shift]; exact .str s
    | nilFn => simp only [PV.shift]; exact .nilFn
    | nilPtr => simp only [PV.shift]; exact .nilPtr
    | nilSl => simp only [PV.shift]; exact .nilSl
    | nilMap => simp only [PV.shift]; exact .nilMap
    | list a len cap sh xs b off val h1 h2 h3 h4 h5 h6 h7 _ => simp only [PV.shift]; exact RepC.list a len cap sh xs b off val h1 h2 h3 h4 h5 h6 h7
    | full a len sh xs b off val h1 h3 h4 h5 h6 h7 _ => simp only [PV.shift]; exact RepC.full a len sh xs b off val h1 h3 h4 h5 h6 h7
    | cmap r kd es ents clock h1 h2 h3 h4 h4' h5 h6 _ _ => simp only [PV.shift]; exact RepC.cmap r kd es ents clock h1 h2 h3 h4 h4' h5 h6
    | cptr b o off sh x val h1 h2 h3 h4 _ => simp only [PV.shift]; exact RepC.cptr b o off sh x val h1 h2 h3 h4
  induction h with
  | junk v => simp only [PV.shift]; exact .junk v
  | closed h => exact .closed (closedCase h)
  | ref t off b h => simp only [PV.shift]; exact .ref (n + t) off b (by rw [ht]; exact h)
  | eptr t m i off b h => simp only [PV.shift]; exact .eptr (n + t) m i off b (by rw [ht]; exact h)
  | sl sh t len b cap h hs hl hm => simp only [PV.shift]; exact .sl sh (n + t) len b cap (by rw [ht]; exact h) hs hl hm
  | slnil sh t h => simp only [PV.shift]; exact .slnil sh (n + t) (by rw [ht]; exact h)
  | mref t b h => simp only [PV.shift]; exact .mref (n + t) b (by rw [ht]; exact h)
  | agg vs ps hs hr ih =>
    simp only [PV.shift]
    refine .agg vs _ (by simpa using hs) (fun i v p a b => ?_)
    obtain ⟨q, hq, rfl⟩ := map_get ps i p b
    exact ih i v q a hq
  | tup vs ps hs hr ih =>
    simp only [PV.shift]
    refine .tup vs _ (by simpa using hs) (fun i v p a b => ?_)
    obtain ⟨q, hq, rfl⟩ := map_get ps i p b
    exact ih i v q a hq
  | fn f first caps ps qs h1 h2 h3 h4 ih3 ih4 =>
    simp only [PV.shift]
    refine .fn f first caps _ _ (by simpa using h1) (by simpa using h2) (fun i v p a b => ?_) (fun i v p a b => ?_)
    · obtain ⟨q, hq, rfl⟩ := map_get ps i p b
      exact ih3 i v q a hq
    · obtain ⟨q, hq, rfl⟩ := map_get qs i p b
      exact ih4 i v q a hq
  | cond b h hu ih => simp only [PV.shift]; exact .cond b (fun hb => ih hb) hu

theorem shaped_shift {n : Nat} {sh : Sh} {x : PV} (h : shaped sh x) : shaped sh (x.shift n) ∧ (x.shift n).cells = x.cells.map (PV.shift n) := by
  cases sh with
  | none =>
    cases x <;> simp_all [shaped, PV.isAgg, PV.shift, PV.cells]
  | some m => obtain ⟨cs, rfl, h⟩ := h; exact ⟨⟨cs.map (PV.shift n), by simp [PV.shift], by simpa using h⟩, by simp [PV.shift, PV.cells]⟩

theorem FCalls.lift {f : Nat} {args : List PV} {R : PV → Mem → Prop} (h : FCalls P G f args R) (hno : (args.map PV.noOwn).all id = true) :
    PCalls P G f args μ (fun _ => false) fun p μ' => ∃ p0 ν, R p0 ν ∧ p = p0.shift μ.length ∧ μ' = μ ++ ν.map (Option.map (MObj.shift μ.length)) := by
  intro w κ vs hS hG hv
  have hex : ∀ b, own κ b → b < w.heap.size := fun b hb => hb.elim (hS.exlt b) (fun ⟨t, ht⟩ => hS.lt t b ht)
  refine (h w (own κ) vs hex hG ⟨hv.1, fun i v p a b => rep_noOwn (hv.2 i v p a b) (allMap.1 hno p (List.mem_of_getElem? b))⟩).mono ?_
  rintro e w' ⟨v, p0, ν, κ', rfl, hR, hS', hx, hv', hB, hnew⟩
  let κ2 : Kap := ⟨fun t => if t < μ.length then κ t else κ' (t - μ.length), κ.ex⟩
  have t1 : ∀ t, t < μ.length → κ2 t = κ t := fun t ht => by show (if t < μ.length then κ t else _) = _; rw [if_pos ht]
  have t2 : ∀ t, κ2 (μ.length + t) = κ' t := fun t => by show (if μ.length + t < μ.length then _ else κ' (μ.length + t - μ.length)) = _; rw [if_neg (by omega), Nat.add_sub_cancel_left]
  have klt : ∀ t c, κ t = some c → t < μ.length := by
    intro t c hc
    obtain ⟨o, h1, -⟩ := hS.live t c hc
    exact (List.getElem?_eq_some_iff.1 h1).1
  have ho : own κ' = own κ2 := by
    funext b
    apply propext
    constructor
    · rintro (hb | ⟨t, ht⟩)
      · rw [hx] at hb
        rcases hb with hb | ⟨t, ht⟩
        · exact .inl hb
        · exact .inr ⟨t, by rw [t1 t (klt t _ ht)]; exact ht⟩
      · exact .inr ⟨μ.length + t, by rw [t2]; exact ht⟩
    · rintro (hb | ⟨t, ht⟩)
      · exact .inl (by rw [hx]; exact .inl hb)
      · by_cases htl : t < μ.length
        · rw [t1 t htl] at ht; exact .inl (by rw [hx]; exact .inr ⟨t, ht⟩)
        · obtain ⟨d, rfl⟩ : ∃ d, t = μ.length + d := ⟨t - μ.length, by omega⟩
          rw [t2] at ht; exact .inr ⟨d, ht⟩
  have hGo : Goes w κ w' κ2 (fun t => (fun _ => false : Nat → Bool) t = true) := by
    have hb := Goes.below (κ := κ) hB (fun _ => False)
    refine ⟨hB.os, hB.tape, hB.output, hB.size, rfl, fun b hb' _ => hB.block b hb', fun b hb' hnt => ?_, hb.shape, fun t c hc _ => by rw [t1 t (klt t c hc)]; exact hc⟩
    rintro ⟨t, ht⟩
    by_cases htl : t < μ.length
    · rw [t1 t htl] at ht; exact hnt ⟨t, ht⟩
    · obtain ⟨d, rfl⟩ : ∃ d, t = μ.length + d := ⟨t - μ.length, by omega⟩
      rw [t2] at ht
      have := hnew d b ht; omega
  refine ⟨v, p0.shift μ.length, μ ++ ν.map (Option.map (MObj.shift μ.length)), κ2, rfl, ⟨p0, ν, hR, rfl, rfl⟩, ?_, Rep.shift ho t2 hv', hGo⟩
  refine ⟨?_, ?_, ?_, ?_, ?_, ?_⟩
  · intro t t' b ht ht'
    by_cases h1 : t < μ.length <;> by_cases h2 : t' < μ.length
    · rw [t1 t h1] at ht; rw [t1 t' h2] at ht'; exact hS.inj t t' b ht ht'
    · obtain ⟨d, rfl⟩ : ∃ d, t' = μ.length + d := ⟨t' - μ.length, by omega⟩
      rw [t1 t h1] at ht; rw [t2] at ht'
      have := hnew d b ht'; have := hS.lt t b ht; omega
    · obtain ⟨d, rfl⟩ : ∃ d, t = μ.length + d := ⟨t - μ.length, by omega⟩
      rw [t1 t' h2] at ht'; rw [t2] at ht
      have := hnew d b ht; have := hS.lt t' b ht'; omega
    · obtain ⟨d, rfl⟩ : ∃ d, t = μ.length + d := ⟨t - μ.length, by omega⟩
      obtain ⟨d', rfl⟩ : ∃ d, t' = μ.length + d := ⟨t' - μ.length, by omega⟩
      rw [t2] at ht ht'
      rw [hS'.inj d d' b ht ht']
  · intro t b ht
    by_cases h1 : t < μ.length
    · rw [t1 t h1] at ht; exact Nat.lt_of_lt_of_le (hS.lt t b ht) hB.size
    · obtain ⟨d, rfl⟩ : ∃ d, t = μ.length + d := ⟨t - μ.length, by omega⟩
      rw [t2] at ht; exact hS'.lt d b ht
  · intro t c hc
    by_cases h1 : t < μ.length
    · rw [t1 t h1] at hc
      obtain ⟨o, h2, h3⟩ := hS.live t c hc
      refine ⟨o, by rw [List.getElem?_append_left h1]; exact h2, ?_⟩
      have hGs : Goes w κ w' κ2 (fun _ => False) := hGo.weak (fun t h => by cases h)
      exact ORep.still hGs (fun b hb => by subst hb; exact hB.block b (hS.lt t b hc)) h3
    · obtain ⟨d, rfl⟩ : ∃ d, t = μ.length + d := ⟨t - μ.length, by omega⟩
      rw [t2] at hc
      obtain ⟨o, h2, h3⟩ := hS'.live d c hc
      refine ⟨o.shift μ.length, by rw [List.getElem?_append_right (by omega), Nat.add_sub_cancel_left, List.getElem?_map, h2]; rfl, ?_⟩
      cases h3 with
      | var b arr E sh x hh hs hsh hr =>
        obtain ⟨hs1, hs2⟩ := shaped_shift (n := μ.length) hsh
        refine .var b arr E sh _ hh hs hs1 (fun j p v' hp hv => ?_)
        rw [hs2, List.getElem?_map] at hp
        cases hq : x.cells[j]? with
        | none => simp [hq] at hp
        | some q => simp [hq] at hp; subst hp; exact Rep.shift ho t2 (hr j q v' hq hv)
      | nilrow sh => exact .nilrow sh
      | row b cur E cap sh xs hh hs hm hl hfit hr => exact .row b cur E cap sh xs hh hs hm hl hfit (by rw [← ho]; exact hr)
      | mp b kd es ents clock hh hs hB' hkd hk hv => exact .mp b kd es ents clock hh hs hB' hkd (by rw [← ho]; exact hk) (by rw [← ho]; exact hv)
      | iter b kd es seen m hh hm => exact .iter b kd es seen m hh (by rw [← ho]; exact hm)
  · intro t o hto
    by_cases h1 : t < μ.length
    · rw [List.getElem?_append_left h1] at hto; rw [t1 t h1]; exact hS.dead t o hto
    · obtain ⟨d, rfl⟩ : ∃ d, t = μ.length + d := ⟨t - μ.length, by omega⟩
      rw [List.getElem?_append_right (by omega), Nat.add_sub_cancel_left, List.getElem?_map] at hto
      rw [t2]
      cases hd : ν[d]? with
      | none => simp [hd] at hto
      | some x =>
        cases x with
        | none => simp [hd] at hto
        | some o' => exact hS'.dead d o' hd
  · intro b hb
    exact Nat.lt_of_lt_of_le (hS.exlt b hb) hB.size
  · intro t b ht
    by_cases h1 : t < μ.length
    · rw [t1 t h1] at ht; exact hS.exout t b ht
    · obtain ⟨d, rfl⟩ : ∃ d, t = μ.length + d := ⟨t - μ.length, by omega⟩
      rw [t2] at ht
      have h3 := hS'.exout d b ht
      rw [hx] at h3
      exact fun h => h3 (.inl h)

/-- The rules of a walk for such calls. -/
theorem goCall_F {d : Option Nat} {rest : List CO} {K : Env → Mem → Prop} {f : Nat} {ps qs as : List PV} {p0 : PV} {ν : Mem} (hE : Ent P f) (hV : FCalls P G f (ps ++ as ++ qs) (fun p ν' => p = p0 ∧ ν' = ν)) (hs : ((ps ++ as ++ qs).map PV.noOwn).all id = true)
    (h : opsW P G false mv rest (putE env d (p0.shift μ.length)) (μ ++ ν.map (Option.map (MObj.shift μ.length))) K) : goCall P G false mv d rest env K μ (.fn f ps qs) as := by
  refine .inr ⟨rfl, hE, .inl ⟨_, hV.lift hs, ?_⟩⟩
  rintro p μ' ⟨p', ν', ⟨rfl, rfl⟩, rfl, rfl⟩
  exact ⟨trivial, h⟩
theorem goCall_P {d : Option Nat} {rest : List CO} {K : Env → Mem → Prop} {f : Nat} {ps qs as : List PV} {R : PV → Mem → Prop} (hE : Ent P f) (hV : PCalls P G f (ps ++ as ++ qs) μ (fun _ => false) R)
    (h : ∀ p μ', R p μ' → opsW P G false mv rest (putE env d p) μ' K) : goCall P G false mv d rest env K μ (.fn f ps qs) as :=
  .inr ⟨rfl, hE, .inl ⟨R, hV, fun p μ' hR => ⟨trivial, h p μ' hR⟩⟩⟩

/-! ### Freezing -/
/-- What was an owned row or map is told by value from here on. -/
def frzSl (sh : Sh) (n : Nat) : MObj → PV
  | .row sh' xs => if sh' = sh ∧ n ≤ xs.length then .list sh (xs.take n) else .junk
  | _ => .junk
def frzM : MObj → PV
  | .mp kd es => .cmap kd es
  | _ => .junk
theorem frzSl_agg (sh : Sh) (n : Nat) (o : MObj) : (frzSl sh n o).isAgg = none := by
  cases o with
  | row sh' xs =>
    unfold frzSl
    by_cases h : sh' = sh ∧ n ≤ xs.length
    · simp only [if_pos h]; rfl
    · simp only [if_neg h]; rfl
  | _ => rfl
theorem frzM_agg (o : MObj) : (frzM o).isAgg = none := by
  cases o <;> simp only [frzM, PV.isAgg]
def PV.frz (t : Nat) (o : MObj) : PV → PV
  | .sl sh t' n => if t' = t then frzSl sh n o else .sl sh t' n
  | .mref t' => if t' = t then frzM o else .mref t'
  | .ref t' off => if t' = t then .junk else .ref t' off
  | .eptr t' m i off => if t' = t then .junk else .eptr t' m i off
  | .agg ps => .agg (ps.map (PV.frz t o))
  | .tup ps => .tup (ps.map (PV.frz t o))
  | .fn f ps qs => .fn f (ps.map (PV.frz t o)) (qs.map (PV.frz t o))
  | .cond b p => .cond b (PV.frz t o p)
  | p => p
def MObj.frz (t : Nat) (o : MObj) : MObj → MObj
  | .var sh x => .var sh (x.frz t o)
  | o' => o'
def isHeld : MObj → Bool
  | .row _ _ | .mp _ _ => true
  | _ => false

theorem frz_closed {ex : Nat → Prop} {t : Nat} {o : MObj} {v : Value} {p : PV} (h : RepC w ex v p) : RepC w ex v (p.frz t o) := by
  have map_get : ∀ (ps : List PV) (i : Nat) (p : PV), (ps.map (PV.frz t o))[i]? = some p → ∃ q, ps[i]? = some q ∧ p = q.frz t o := by
    intro ps i p h
    rw [List.getElem?_map] at h
    cases hq : ps[i]? with
    | none => simp [hq] at h
    | some q => simp [hq] at h; exact ⟨q, rfl, h.symm⟩
  induction h with
  | fn f first caps ps qs h1 h2 h3 h4 ih3 ih4 =>
    simp only [PV.frz]
    refine .fn f first caps _ _ (by simpa using h1) (by simpa using h2) (fun i v p a b => ?_) (fun i v p a b => ?_)
    · obtain ⟨q, hq, rfl⟩ := map_get ps i p b
      exact ih3 i v q a hq
    · obtain ⟨q, hq, rfl⟩ := map_get qs i p b
      exact ih4 i v q a hq
  | agg vs ps hs hr ih =>
    simp only [PV.frz]
    refine .agg vs _ (by simpa using hs) (fun i v p a b => ?_)
    obtain ⟨q, hq, rfl⟩ := map_get ps i p b
    exact ih i v q a hq
  | tup vs ps hs hr ih =>
    simp only [PV.frz]
    refine .tup vs _ (by simpa using hs) (fun i v p a b => ?_)
    obtain ⟨q, hq, rfl⟩ := map_get ps i p b
    exact ih i v q a hq
  | int k n => simp only [PV.frz]; exact .int k n
  | bool b => simp only [PV.frz]; exact .bool b
  | str s => simp only [PV.frz]; exact .str s
  | nilFn => simp only [PV.frz]; exact .nilFn
  | nilPtr => simp only [PV.frz]; exact .nilPtr
  | nilSl => simp only [PV.frz]; exact .nilSl
  | nilMap => simp only [PV.frz]; exact .nilMap
  | list a len cap sh xs b off val h1 h2 h3 h4 h5 h6 h7 _ => simp only [PV.frz]; exact RepC.list a len cap sh xs b off val h1 h2 h3 h4 h5 h6 h7
  | full a len sh xs b off val h1 h3 h4 h5 h6 h7 _ => simp only [PV.frz]; exact RepC.full a len sh xs b off val h1 h3 h4 h5 h6 h7
  | cmap r kd es ents clock h1 h2 h3 h4 h4' h5 h6 _ _ => simp only [PV.frz]; exact RepC.cmap r kd es ents clock h1 h2 h3 h4 h4' h5 h6
  | cptr b o off sh x val h1 h2 h3 h4 _ => simp only [PV.frz]; exact RepC.cptr b o off sh x val h1 h2 h3 h4

/-- The tags, but for one. -/
def Kap.del (κ : Kap) (t : Nat) : Kap := ⟨fun i => if i = t then none else κ i, κ.ex⟩
theorem own_del (hS : Sim w κ μ) {t b : Nat} (h : κ t = some (some b)) : ¬ own (κ.del t) b := by
  rintro (h' | ⟨t', ht'⟩)
  · exact hS.exout t b h h'
  · simp only [Kap.del] at ht'
    split at ht'
    · cases ht'
    · rename_i hne; exact hne (hS.inj t' t b ht' h)
theorem Goes.del (t : Nat) : Goes w κ w (κ.del t) (fun i => i = t) := by
  refine ⟨rfl, rfl, rfl, Nat.le_refl _, rfl, fun _ _ _ => rfl, fun b _ hn ht => ?_, fun _ _ h => h, fun i c hc hi => ?_⟩
  · obtain ⟨i, hi⟩ := ht
    simp only [Kap.del] at hi
    split at hi
    · cases hi
    · exact hn ⟨i, hi⟩
  · simp only [Kap.del]; rw [if_neg hi]; exact hc

theorem Rep.frz (hS : Sim w κ μ) {t : Nat} {o : MObj} (hm : μ.get t = some o) {v : Value} {p : PV} (h : Rep w (own κ) κ v p) : Rep w (own (κ.del t)) (κ.del t) v (p.frz t o) := by
  have hG : Goes w κ w (κ.del t) (fun i => i = t) := Goes.del t
  have map_get : ∀ (ps : List PV) (i : Nat) (p : PV), (ps.map (PV.frz t o))[i]? = some p → ∃ q, ps[i]? = some q ∧ p = q.frz t o := by
    intro ps i p h
    rw [List.getElem?_map] at h
    cases hq : ps[i]? with
    | none => simp [hq] at h
    | some q => simp [hq] at h; exact ⟨q, rfl, h.symm⟩
  induction h with
  | junk v => simp only [PV.frz]; exact .junk v
  | closed h => exact .closed (frz_closed (h.mono hG.agree))
  | ref t' off b h =>
    simp only [PV.frz]; split
    · exact .junk _
    · rename_i hh; exact .ref t' off b (hG.tags _ _ h hh)
  | eptr t' n i off b h =>
    simp only [PV.frz]; split
    · exact .junk _
    · rename_i hh; exact .eptr t' n i off b (hG.tags _ _ h hh)
  | sl sh t' n b cap h hs hl hm' =>
    simp only [PV.frz]; split
    · rename_i hh; subst hh
      unfold frzSl
      split
      · rename_i sh' xs
        split
        · rename_i hc
          obtain ⟨rfl, hn⟩ := hc
          obtain ⟨c, hc, hO⟩ := hS.at hm
          rw [h] at hc; cases hc
          cases hO with
          | row _ cur E cap' _ _ hh hcs hm'' hl' hfit hr =>
            have hfit' : ∀ y ∈ xs.take n, fits sh' y := fun y hy => hfit y (List.mem_of_mem_take hy)
            have hfl : PG.flat (xs.take n) = (PG.flat xs).take (n * sh'.size) := flat_take hfit n
            have hfn : (PG.flat (xs.take n)).length = n * sh'.size := by rw [flat_length hfit']; simp [Nat.min_eq_left hn]
            have hcur : n * sh'.size ≤ cur.size := by rw [hcs]; exact Nat.mul_le_mul_right _ (by omega)
            refine .closed (.list _ n cap sh' _ b 0 (fun j => cur.getD j undef) (by simp [Nat.min_eq_left hn]) hl hm' hfit' (fun _ => rfl) (fun j hj => ⟨own_del hS h, ?_⟩) (fun j p hp => ?_))
            · rw [Nat.zero_add, cell?_cells hh]
              rw [hfn] at hj
              simp [show j < cur.size by omega]
            · have hj : j < n * sh'.size := by rw [← hfn]; exact (List.getElem?_eq_some_iff.1 hp).1
              rw [hfl, List.getElem?_take_of_lt hj] at hp
              exact (hr j p _ hp (by simp [show j < cur.size by omega])).mono hG.agree
        · exact .junk _
      · exact .junk _
    · rename_i hh; exact .sl sh t' n b cap (hG.tags _ _ h hh) hs hl hm'
  | slnil sh t' h =>
    simp only [PV.frz]; split
    · rename_i hh; subst hh
      unfold frzSl
      split
      · rename_i sh' xs
        split
        · rename_i hc
          obtain ⟨rfl, hn⟩ := hc
          exact .closed (.list none 0 0 sh' _ 0 0 (fun _ => undef) (by simp) (Nat.le_refl _) (Nat.zero_le _) (by simp) (fun h => by simp at h) (fun j hj => by simp [PG.flat] at hj) (fun j p hp => by simp [PG.flat] at hp))
        · exact .junk _
      · exact .junk _
    · rename_i hh; exact .slnil sh t' (hG.tags _ _ h hh)
  | mref t' b h =>
    simp only [PV.frz]; split
    · rename_i hh; subst hh
      unfold frzM
      split
      · rename_i kd es
        obtain ⟨c, hc, hO⟩ := hS.at hm
        rw [h] at hc; cases hc
        cases hO with
        | mp _ _ _ ents clock hh hs hB hkd hk hv =>
          exact .closed (.cmap b kd es ents clock (own_del hS h) hh hs hB hkd (fun i e q a d => (hk i e q a d).mono hG.agree) (fun i e q a d => (hv i e q a d).mono hG.agree))
      · exact .junk _
    · rename_i hh; exact .mref t' b (hG.tags _ _ h hh)
  | agg vs ps hs hr ih =>
    simp only [PV.frz]
    refine .agg vs _ (by simpa using hs) (fun i v p a b => ?_)
    obtain ⟨q, hq, rfl⟩ := map_get ps i p b
    exact ih i v q a hq
  | tup vs ps hs hr ih =>
    simp only [PV.frz]
    refine .tup vs _ (by simpa using hs) (fun i v p a b => ?_)
    obtain ⟨q, hq, rfl⟩ := map_get ps i p b
    exact ih i v q a hq
  | fn f first caps ps qs h1 h2 h3 h4 ih3 ih4 =>
    simp only [PV.frz]
    refine .fn f first caps _ _ (by simpa using h1) (by simpa using h2) (fun i v p a b => ?_) (fun i v p a b => ?_)
    · obtain ⟨q, hq, rfl⟩ := map_get ps i p b
      exact ih3 i v q a hq
    · obtain ⟨q, hq, rfl⟩ := map_get qs i p b
      exact ih4 i v q a hq
  | cond b h hu ih => simp only [PV.frz]; exact .cond b (fun hb => ih hb) hu

theorem shaped_frz {t : Nat} {o : MObj} {sh : Sh} {x : PV} (h : shaped sh x) : shaped sh (x.frz t o) ∧ (x.frz t o).cells = x.cells.map (PV.frz t o) := by
  cases sh with
  | none =>
    have h0 : x.cells = [x] := by cases x <;> simp_all [shaped, PV.isAgg, PV.cells]
    have h1 : (x.frz t o).isAgg = none := by
      have it : ∀ (b : Prop) [Decidable b] (p q : PV), p.isAgg = none → q.isAgg = none → (if b then p else q).isAgg = none := by
        intro b _ p q hp hq; split <;> assumption
      cases x with
      | agg cs => simp [shaped, PV.isAgg] at h
      | sl => simp only [PV.frz]; exact it _ _ _ (frzSl_agg _ _ _) rfl
      | mref => simp only [PV.frz]; exact it _ _ _ (frzM_agg _) rfl
      | ref => simp only [PV.frz]; exact it _ _ _ rfl rfl
      | eptr => simp only [PV.frz]; exact it _ _ _ rfl rfl
      | _ => simp only [PV.frz]; rfl
    refine ⟨h1, ?_⟩
    rw [h0]
    simp only [List.map_cons, List.map_nil]
    generalize x.frz t o = y at h1 ⊢
    cases y <;> first | rfl | (simp [PV.isAgg] at h1)
  | some m => obtain ⟨cs, rfl, h⟩ := h; exact ⟨⟨cs.map (PV.frz t o), by simp [PV.frz], by simpa using h⟩, by simp [PV.frz, PV.cells]⟩

theorem Sim.frz (hS : Sim w κ μ) {t : Nat} {o : MObj} (hm : μ.get t = some o) : Sim w (κ.del t) ((μ.map (Option.map (MObj.frz t o))).set t none) := by
  have hG : Goes w κ w (κ.del t) (fun i => i = t) := Goes.del t
  have hd : ∀ i c, (κ.del t) i = some c → i ≠ t ∧ κ i = some c := by
    intro i c h
    simp only [Kap.del] at h
    split at h
    · cases h
    · exact ⟨by assumption, h⟩
  refine ⟨fun i j b hi hj => hS.inj i j b (hd i _ hi).2 (hd j _ hj).2, fun i b hi => hS.lt i b (hd i _ hi).2, fun i c hi => ?_, fun i o' hi => ?_, hS.exlt, fun i b hi => hS.exout i b (hd i _ hi).2⟩
  · obtain ⟨hne, hi'⟩ := hd i c hi
    obtain ⟨o', h1, h2⟩ := hS.live i c hi'
    refine ⟨MObj.frz t o o', by rw [List.getElem?_set_ne (Ne.symm hne), List.getElem?_map, h1]; rfl, ?_⟩
    cases h2 with
    | var b arr E sh x h hs hsh hr =>
      obtain ⟨hs1, hs2⟩ := shaped_frz (t := t) (o := o) hsh
      refine .var b arr E sh _ h hs hs1 (fun j p v hp hv => ?_)
      rw [hs2, List.getElem?_map] at hp
      cases hq : x.cells[j]? with
      | none => simp [hq] at hp
      | some q => simp [hq] at hp; subst hp; exact Rep.frz hS hm (hr j q v hq hv)
    | nilrow sh => exact .nilrow sh
    | row b cur E cap sh xs h hs hm hl hfit hr => exact .row b cur E cap sh xs h hs hm hl hfit (fun j p v hp hv => (hr j p v hp hv).mono hG.agree)
    | mp b kd es ents clock h hs hB hkd hk hv => exact .mp b kd es ents clock h hs hB hkd (fun i e q a d => (hk i e q a d).mono hG.agree) (fun i e q a d => (hv i e q a d).mono hG.agree)
    | iter b kd es seen m h hm => exact .iter b kd es seen m h (hm.imp id fun ⟨r, h1, h2⟩ => ⟨r, h1, h2.mono hG.agree⟩)
  · by_cases hit : i = t
    · subst hit
      have hl : i < μ.length := (List.getElem?_eq_some_iff.1 (Mem.get_some hm)).1
      rw [List.getElem?_set_self (by simpa using hl)] at hi
      cases hi
    · rw [List.getElem?_set_ne (Ne.symm hit), List.getElem?_map] at hi
      simp only [Kap.del]; rw [if_neg hit]
      cases hx : μ[i]? with
      | none => simp [hx] at hi
      | some x =>
        cases x with
        | none => simp [hx] at hi
        | some o'' => exact hS.dead i o'' hx

/-- From here on an owned row, or map, is told by value. -/
theorem PW.frz {x : PCode} (t : Nat) (o : MObj) (hm : μ.get t = some o) (hmv : mv t = true) (h : PW P G N mv x (env.map fun x => (x.1, x.2.frz t o)) ((μ.map (Option.map (MObj.frz t o))).set t none) Q) : PW P G N mv x env μ Q := by
  intro ow L code hc hmix C a w κ hC hR
  have hG : Goes w κ w (κ.del t) (fun i => i = t) := Goes.del t
  refine h ow L code hc hmix C a w (κ.del t) hC ⟨hR.size, hR.defers, fun i => ?_, hR.sim.frz hm, globs_goes hR.globs hG, hR.goes.trans (hG.weak fun i hi => by rw [hi, hC]; exact hmv)⟩
  have key : ∀ (env : Env) (v : Value), Rep w (PG.own κ) κ v (env.get i) → Rep w (PG.own (κ.del t)) (κ.del t) v (Env.get (env.map fun x => (x.1, x.2.frz t o)) i) := by
    intro env v
    induction env with
    | nil => intro _; exact .junk v
    | cons y e ih =>
      obtain ⟨j, p⟩ := y
      simp only [Env.get, List.map_cons]
      split
      · exact fun h => Rep.frz hR.sim hm h
      · exact ih
  exact key env _ (hR.regs i)

/-! ### Loops whose rounds make memory that is let go -/
def Kap.trim (κ : Kap) (n : Nat) : Kap := ⟨fun t => if t < n then κ t else none, κ.ex⟩
def trimE (n : Nat) (env : Env) : Env := env.map fun x => (x.1, x.2.kill fun t => decide (n ≤ t))
def trimM (n : Nat) (μ : Mem) : Mem := (μ.take n).map (Option.map (MObj.kill fun t => decide (n ≤ t)))
theorem Goes.trim (n : Nat) : Goes w κ w (κ.trim n) (fun t => n ≤ t) := by
  refine ⟨rfl, rfl, rfl, Nat.le_refl _, rfl, fun _ _ _ => rfl, fun b _ hn ht => ?_, fun _ _ h => h, fun i c hc hi => ?_⟩
  · obtain ⟨i, hi⟩ := ht
    simp only [Kap.trim] at hi
    split at hi
    · exact hn ⟨i, hi⟩
    · cases hi
  · simp only [Kap.trim]; rw [if_pos (by omega)]; exact hc
theorem Sim.trim (hS : Sim w κ μ) (n : Nat) : Sim w (κ.trim n) (trimM n μ) := by
  have hG : Goes w κ w (κ.trim n) (fun t => n ≤ t) := Goes.trim n
  have hd : ∀ i c, (κ.trim n) i = some c → i < n ∧ κ i = some c := by
    intro i c h
    simp only [Kap.trim] at h
    split at h
    · exact ⟨by assumption, h⟩
    · cases h
  refine ⟨fun i j b hi hj => hS.inj i j b (hd i _ hi).2 (hd j _ hj).2, fun i b hi => hS.lt i b (hd i _ hi).2, fun i c hi => ?_, fun i o' hi => ?_, hS.exlt, fun i b hi => hS.exout i b (hd i _ hi).2⟩
  · obtain ⟨hlt, hi'⟩ := hd i c hi
    obtain ⟨o', h1, h2⟩ := hS.live i c hi'
    refine ⟨o'.kill _, ?_, ORep.goes (dead := fun t => decide (n ≤ t)) hG (fun t ht => by simpa using ht) (fun _ _ => rfl) h2⟩
    simp only [trimM, List.getElem?_map, List.getElem?_take_of_lt hlt, h1, Option.map_some]
  · simp only [trimM, List.getElem?_map] at hi
    cases hx : (μ.take n)[i]? with
    | none => simp [hx] at hi
    | some x =>
      have hlt : i < n := by
        have := (List.getElem?_eq_some_iff.1 hx).1
        rw [List.length_take] at this; omega
      rw [List.getElem?_take_of_lt hlt] at hx
      cases x with
      | none => rw [List.getElem?_take_of_lt hlt, hx] at hi; simp at hi
      | some o'' =>
        simp only [Kap.trim]; rw [if_pos hlt]
        exact hS.dead i o'' hx
theorem trimE_get (n : Nat) (env : Env) (i : Nat) : (trimE n env).get i = (env.get i).kill fun t => decide (n ≤ t) := by
  induction env with
  | nil => simp [trimE, Env.get, PV.kill]
  | cons x e ih =>
    obtain ⟨j, p⟩ := x
    simp only [trimE, List.map_cons, Env.get] at ih ⊢
    split
    · rfl
    · exact ih
theorem SR.trim {C : Ctx} {a : Act} (h : SR G N C a w κ env μ) (n : Nat) (hn : ∀ t, n ≤ t → C.mv t = true) : SR G N C a w (κ.trim n) (trimE n env) (trimM n μ) := by
  have hG : Goes w κ w (κ.trim n) (fun t => n ≤ t) := Goes.trim n
  exact ⟨h.size, h.defers, fun i => by rw [trimE_get]; exact Rep.goes hG (fun t ht => by simpa using ht) (h.regs i), h.sim.trim n, globs_goes h.globs hG, h.goes.trans (hG.weak hn)⟩

def loopGQ {σ : Type} (n : Nat) (vars : List Nat) (vals : σ → List PV) (mem : σ → Mem) (Inv : σ → Prop) (meas : σ → Nat) (s : σ) (Q : Post) : Post := fun e env μ =>
  match e with
  | .normal => ∃ s', trimE n (keepE vars env) = vars.zip (vals s') ∧ trimM n μ = mem s' ∧ Inv s' ∧ meas s' < meas s
  | e => Q e env μ
theorem loopGQ_ret {σ : Type} (n : Nat) (vars : List Nat) (vals : σ → List PV) (mem : σ → Mem) (Inv : σ → Prop) (meas : σ → Nat) (s : σ) : loopGQ n vars vals mem Inv meas s Q .ret env μ = Q .ret env μ := rfl
theorem loopGQ_exit {σ : Type} (n : Nat) (vars : List Nat) (vals : σ → List PV) (mem : σ → Mem) (Inv : σ → Prop) (meas : σ → Nat) (s : σ) (id : Nat) : loopGQ n vars vals mem Inv meas s Q (.exit id) env μ = Q (.exit id) env μ := rfl
theorem loopGQ_normal {σ : Type} (n : Nat) (vars : List Nat) (vals : σ → List PV) (mem : σ → Mem) (Inv : σ → Prop) (meas : σ → Nat) (s : σ) :
    loopGQ n vars vals mem Inv meas s Q .normal env μ = ∃ s', trimE n (keepE vars env) = vars.zip (vals s') ∧ trimM n μ = mem s' ∧ Inv s' ∧ meas s' < meas s := rfl
@[congr] theorem loopGQ_congr {σ : Type} {n : Nat} {vars : List Nat} {vals : σ → List PV} {mem : σ → Mem} {Inv : σ → Prop} {meas : σ → Nat} {s : σ} {e e' : Exit} {env env' : Env} {μ μ' : Mem} (hx : e = e') (he : env = env') (hm : μ = μ') :
    loopGQ n vars vals mem Inv meas s Q e env μ = loopGQ n vars vals mem Inv meas s Q e' env' μ' := by rw [hx, he, hm]
@[congr] theorem endP_congr {rs : List RVar} {R : PV → Mem → Prop} {e e' : Exit} {env env' : Env} {μ μ' : Mem} (hx : e = e') (he : env = env') (hm : μ = μ') : endP rs R e env μ = endP rs R e' env' μ' := by rw [hx, he, hm]

/-- A loop: of the memory the first n objects are kept from round to round. -/
theorem PW.loopG {σ : Type} (n : Nat) (hn : ∀ t, n ≤ t → mv t = true) (vars : List Nat) (vals : σ → List PV) (mem : σ → Mem) (Inv : σ → Prop) (meas : σ → Nat) (s0 : σ) {x : PCode} (h0 : keepE vars env = vars.zip (vals s0)) (hm : μ = mem s0) (hI : Inv s0)
    (round : ∀ s, Inv s → PW P G N mv x (vars.zip (vals s)) (mem s) (loopGQ n vars vals mem Inv meas s Q)) : PW P G N mv (.loop x) env μ Q := by
  intro ow L code hc hmix C a w κ hmv hR
  obtain ⟨x0, rfl, hx⟩ := compileC_loop hc
  refine wp_loop_ghost (fun n a w => ∃ s κ, meas s = n ∧ Inv s ∧ SR G N C a w κ (vars.zip (vals s)) (mem s)) (meas s0) ⟨s0, κ, rfl, hI, by rw [← h0, ← hm]; exact hR.weak (keep_get _ _)⟩ ?_
  rintro n' a w ⟨s, κ, rfl, hI, hR⟩
  refine wp_mono (round s hI ow L x0 hx hmix C a w κ hmv hR) ?_
  rintro e a' w' ⟨env', μ', κ', hq, hR'⟩
  cases e with
  | normal =>
    obtain ⟨s', hs1, hs2, hs3, hs4⟩ := hq
    exact ⟨meas s', hs4, s', κ'.trim n, rfl, hs3, by rw [← hs1, ← hs2]; exact (hR'.weak (keep_get vars _)).trim n (by rw [hmv]; exact hn)⟩
  | exit id' => exact ⟨env', μ', κ', hq, hR'⟩
  | goto l => exact ⟨env', μ', κ', hq, hR'⟩
  | ret => exact ⟨env', μ', κ', hq, hR'⟩
  | panic ch => exact ⟨env', μ', κ', hq, hR'⟩
  | outgrown => exact ⟨env', μ', κ', hq, hR'⟩
end

theorem cut_fld (n : Nat) (cs : List PV) (o : Nat) : cut (some n) none (.agg cs) o = cs.getD o .junk := by
  simp [cut, sub, PV.cells, List.getD]
theorem cells_agg (cs : List PV) : (PV.agg cs).cells = cs := rfl
theorem size_none : Sh.size none = 1 := rfl
theorem size_some (n : Nat) : Sh.size (some n) = n := rfl
theorem getC4 (p q r s u : PV) (l : List PV) : (p :: q :: r :: s :: u :: l).getD 4 .junk = u := rfl
theorem getC5 (p q r s u v : PV) (l : List PV) : (p :: q :: r :: s :: u :: v :: l).getD 5 .junk = v := rfl
theorem shne1 (n : Nat) : ((some n : Sh) = none) = False := by simp
theorem shne2 (n : Nat) : ((none : Sh) = some n) = False := by simp
theorem putPart_fld (n o : Nat) (cs : List PV) (p : PV) (h : partSh p none = some [p]) : putPart (some n) none (.agg cs) o p = .agg (setAll cs o [p]) := by
  simp [putPart, h, PV.cells]
theorem partSh_a1 (a : PV) : partSh (.agg [a]) (some 1) = some [a] := rfl
theorem partSh_a2 (a b : PV) : partSh (.agg [a, b]) (some 2) = some [a, b] := rfl
theorem partSh_a3 (a b c : PV) : partSh (.agg [a, b, c]) (some 3) = some [a, b, c] := rfl
theorem partSh_a4 (a b c d : PV) : partSh (.agg [a, b, c, d]) (some 4) = some [a, b, c, d] := rfl
theorem partSh_a5 (a b c d e : PV) : partSh (.agg [a, b, c, d, e]) (some 5) = some [a, b, c, d, e] := rfl
theorem partSh_a6 (a b c d e f : PV) : partSh (.agg [a, b, c, d, e, f]) (some 6) = some [a, b, c, d, e, f] := rfl
theorem partSh_a7 (a b c d e f g : PV) : partSh (.agg [a, b, c, d, e, f, g]) (some 7) = some [a, b, c, d, e, f, g] := rfl
theorem partSh_a8 (a b c d e f g h : PV) : partSh (.agg [a, b, c, d, e, f, g, h]) (some 8) = some [a, b, c, d, e, f, g, h] := rfl
theorem partSh_a9 (a b c d e f g h i : PV) : partSh (.agg [a, b, c, d, e, f, g, h, i]) (some 9) = some [a, b, c, d, e, f, g, h, i] := rfl
theorem orL (p q : Prop) (h : p) : (p ∨ q) = True := by simp [h]
theorem SS2 : type_of% (And.intro (And.intro (And.intro (And.intro (@loopGQ_ret) (And.intro (@loopGQ_exit) (@loopGQ_normal))) (And.intro (@endP_ret) (And.intro (@endP_normal) (cut_fld)))) (And.intro (And.intro (cells_agg) (And.intro (size_none) (size_some))) (And.intro (getC4) (And.intro (getC5) (shne1))))) (And.intro (And.intro (And.intro (shne2) (And.intro (partSh_a1) (partSh_a2))) (And.intro (partSh_a3) (And.intro (partSh_a4) (partSh_a5)))) (And.intro (And.intro (partSh_a6) (And.intro (partSh_a7) (partSh_a8))) (And.intro (partSh_a9) (And.intro (@List.length_nil (Option MObj)) (@List.length_cons (Option MObj))))))) :=
  (And.intro (And.intro (And.intro (And.intro (@loopGQ_ret) (And.intro (@loopGQ_exit) (@loopGQ_normal))) (And.intro (@endP_ret) (And.intro (@endP_normal) (cut_fld)))) (And.intro (And.intro (cells_agg) (And.intro (size_none) (size_some))) (And.intro (getC4) (And.intro (getC5) (shne1))))) (And.intro (And.intro (And.intro (shne2) (And.intro (partSh_a1) (partSh_a2))) (And.intro (partSh_a3) (And.intro (partSh_a4) (partSh_a5)))) (And.intro (And.intro (partSh_a6) (And.intro (partSh_a7) (partSh_a8))) (And.intro (partSh_a9) (And.intro (@List.length_nil (Option MObj)) (@List.length_cons (Option MObj)))))))
end PG
