import Derived.Lib.LaidTab
import Derived.Carry
import Derived.ProofKit
import Derived.Laws.AppendOwn
import Derived.Sort.OwnSorted
import Derived.Test.YtedjaohonijemaaDoorP3
namespace PG
open Go
set_option linter.unusedSimpArgs false
set_option linter.unusedVariables false

section
variable {P : Program} {G : Globs} {N : Nat} {w : World} {κ : Kap} {env : Env} {μ : Mem} {mv : Nat → Bool} {Q : Post}

/-- How a call that owns ends. -/
def endP (rs : List RVar) (R : PV → Mem → Prop) : Post := fun e env μ =>
  match e with
  | .normal | .ret => allOk env μ rs ∧ R (retV (rs.map (RVar.val env μ))) μ
  | _ => False
theorem endP_normal (rs : List RVar) (R : PV → Mem → Prop) : endP rs R .normal env μ = (allOk env μ rs ∧ R (retV (rs.map (RVar.val env μ))) μ) := rfl
theorem endP_ret (rs : List RVar) (R : PV → Mem → Prop) : endP rs R .ret env μ = (allOk env μ rs ∧ R (retV (rs.map (RVar.val env μ))) μ) := rfl

theorem PCalls.of_PW {f : Nat} {fn : Func} {ow L : List Nat} {cf : CF} (hf : P.funcs[f]? = some fn) (hc : compileF P ow L fn = some cf) (hmix : P.follows .mixedOrders = true) {args : List PV} {R : PV → Mem → Prop} (hn : args.length ≤ cf.N)
    (h : PW P G cf.N mv cf.code (argE 0 args) μ (endP cf.rs R)) : PCalls P G f args μ mv R := by
  intro w κ vs hS hG hv
  simp only [compileF, Option.bind_eq_some_iff, Option.map_eq_some_iff] at hc
  obtain ⟨b, hb, c, hcc, rs, hrs, rfl⟩ := hc
  refine calls_of_wp hf hb ?_
  let C : Ctx := ⟨w, κ, mv⟩
  have hR : SR G fn.ntmps C { tmps := vs ++ Array.replicate (fn.ntmps - vs.size) undef, defers := [] } w κ (argE 0 args) μ := by
    refine ⟨by have := hv.1; simp; simp at hn; omega, rfl, fun i => ?_, hS, hG, Goes.refl _ _ _⟩
    rw [argE_get, if_pos (Nat.zero_le _), Nat.sub_zero]
    cases hp : args[i]? with
    | none => exact .junk _
    | some p =>
      have hi : i < args.length := (List.getElem?_eq_some_iff.1 hp).1
      have hiv : i < vs.size := by rw [hv.1]; exact hi
      have hgd : (vs ++ Array.replicate (fn.ntmps - vs.size) undef).getD i undef = vs[i] := by
        rw [Array.getD_eq_getD_getElem?, Array.getElem?_append_left hiv, Array.getElem?_eq_getElem hiv]; rfl
      simp only [Option.getD_some]
      rw [hgd]
      exact hv.2 i _ p (Array.getElem?_eq_getElem hiv) hp
  refine wp_mono (h ow L b hcc hmix C _ w κ rfl hR) ?_
  rintro e a' w' ⟨env', μ', κ', hq, hR'⟩
  have fin : (allOk env' μ' rs ∧ R (retV (rs.map (RVar.val env' μ'))) μ') →
      a'.defers = [] ∧ ∃ v, (results fn a'.tmps).run P w' = .ok v w' ∧ (∃ v' p μ2 κ2, Ending.returned v = .returned v' ∧ R p μ2 ∧ Sim w' κ2 μ2 ∧ Rep w' (own κ2) κ2 v' p ∧ Goes w κ w' κ2 (fun t => mv t = true)) := by
    rintro ⟨h1, h2⟩
    obtain ⟨v, hv', hrun⟩ := results_run hR'.sim hR'.regs hrs h1
    exact ⟨hR'.defers, v, hrun, v, _, μ', κ', rfl, h2, hR'.sim, hv', hR'.goes⟩
  cases e with
  | normal => exact fin hq
  | ret => exact fin hq
  | exit id' => exact hq.elim
  | goto l => exact hq.elim
  | panic ch => exact hq.elim
  | outgrown => exact hq.elim

theorem PCalls.moves {f : Nat} {args : List PV} {mv mv' : Nat → Bool} {R : PV → Mem → Prop} (hm : ∀ t, t < μ.length → mv t = true → mv' t = true) (h : PCalls P G f args μ mv R) : PCalls P G f args μ mv' R := by
  intro w κ vs hS hG hv
  refine (h w κ vs hS hG hv).mono ?_
  rintro e w' ⟨v, p, μ', κ', rfl, hR, hS', hv', hGo⟩
  refine ⟨v, p, μ', κ', rfl, hR, hS', hv', { hGo with tags := fun t c hc hn => hGo.tags t c hc (fun hh => hn (hm t ?_ hh)) }⟩
  obtain ⟨o, h1, -⟩ := hS.live t c hc
  exact (List.getElem?_eq_some_iff.1 h1).1

/-! ### New memory handed over -/
def PV.shift (n : Nat) : PV → PV
  | .sl sh t len => .sl sh (n + t) len
  | .ref t off => .ref (n + t) off
  | .eptr t m i off => .eptr (n + t) m i off
  | .mref t => .mref (n + t)
  | .agg ps => .agg (ps.map (PV.shift n))
  | .tup ps => .tup (ps.map (PV.shift n))
  | .fn f ps qs => .fn f (ps.map (PV.shift n)) (qs.map (PV.shift n))
  | .cond b p => .cond b (PV.shift n p)
  | p => p
def MObj.shift (n : Nat) : MObj → MObj
  | .var sh x => .var sh (x.shift n)
  | .mpo kd es => .mpo kd (es.map fun q => (q.1, q.2.shift n))
  | o => o

/-- A call by value whose result lies in memory of its own: told as if nothing else were there. -/
def FCalls (P : Program) (G : Globs) (f : Nat) (args : List PV) (R : PV → Mem → Prop) : Prop :=
  ∀ (w : World) (ex : Nat → Prop) (vs : Array Value), (∀ b, ex b → b < w.heap.size) → GlobsIn w ex G → RepCs w ex vs args →
    Calls P f vs w fun e w' => ∃ v p ν κ', e = .returned v ∧ R p ν ∧ Sim w' κ' ν ∧ κ'.ex = ex ∧ Rep w' (own κ') κ' v p ∧ RowKit.Below w.heap.size w w' ∧ (∀ t b, κ' t = some (some b) → w.heap.size ≤ b)

theorem FCalls.of_PW {f : Nat} {fn : Func} {ow L : List Nat} {cf : CF} (hf : P.funcs[f]? = some fn) (hc : compileF P ow L fn = some cf) (hmix : P.follows .mixedOrders = true) {args : List PV} {R : PV → Mem → Prop} (hn : args.length ≤ cf.N)
    (h : PW P G cf.N (fun _ => true) cf.code (argE 0 args) [] (endP cf.rs R)) : FCalls P G f args R := by
  intro w ex vs hex hG hv
  have hex' : own ⟨fun _ => none, ex⟩ = ex := by
    funext b
    simp only [own, eq_iff_iff]
    exact ⟨fun h => h.elim id (fun ⟨t, ht⟩ => by simp at ht), .inl⟩
  have hS : Sim w ⟨fun _ => none, ex⟩ [] := ⟨fun t t' b h => by simp at h, fun t b h => by simp at h, fun t c h => by simp at h, fun t o h => by simp at h, hex, fun t b h => by simp at h⟩
  refine ((PCalls.of_PW (mv := fun _ => true) hf hc hmix hn h) w ⟨fun _ => none, ex⟩ vs hS (by rw [hex']; exact hG) ⟨hv.1, fun i v p a b => .closed (by rw [hex']; exact hv.2 i v p a b)⟩).mono ?_
  rintro e w' ⟨v, p, μ', κ', rfl, hR, hS', hv', hGo⟩
  refine ⟨v, p, μ', κ', rfl, hR, hS', hGo.ex, hv', ⟨hGo.os, hGo.tape, hGo.output, hGo.size, fun k hk => hGo.block k hk (fun ⟨t, ht⟩ => by simp at ht)⟩, fun t b ht => ?_⟩
  rcases Nat.lt_or_ge b w.heap.size with hlt | hge
  · exact absurd ⟨t, ht⟩ (hGo.out b hlt (fun ⟨t, ht⟩ => by simp at ht))
  · exact hge

theorem Rep.shift {w' : World} {κ' κ2 : Kap} {n : Nat} (ho : own κ' = own κ2) (ht : ∀ t, κ2 (n + t) = κ' t) {v : Value} {p : PV} (h : Rep w' (own κ') κ' v p) : Rep w' (own κ2) κ2 v (p.shift n) := by
  rw [← ho]
  have map_get : ∀ (ps : List PV) (i : Nat) (p : PV), (ps.map (PV.shift n))[i]? = some p → ∃ q, ps[i]? = some q ∧ p = q.shift n := by
    intro ps i p h
    rw [List.getElem?_map] at h
    cases hq : ps[i]? with
    | none => simp [hq] at h
    | some q => simp [hq] at h; exact ⟨q, rfl, h.symm⟩
  have closedCase : ∀ {v : Value} {p : PV}, RepC w' (own κ') v p → RepC w' (own κ') v (p.shift n) := by
    intro v p h
    induction h with
    | fn f first caps ps qs h1 h2 h3 h4 ih3 ih4 =>
      simp only [PV.shift]
      refine .fn f first caps _ _ (by simpa using h1) (by simpa using h2) (fun i v p a b => ?_) (fun i v p a b => ?_)
      · obtain ⟨q, hq, rfl⟩ := map_get ps i p b
        exact ih3 i v q a hq
      · obtain ⟨q, hq, rfl⟩ := map_get qs i p b
        exact ih4 i v q a hq
    | agg vs ps hs hr ih =>
      simp only [PV.shift]
      refine .agg vs _ (by simpa using hs) (fun i v p a b => ?_)
      obtain ⟨q, hq, rfl⟩ := map_get ps i p b
      exact ih i v q a hq
    | tup vs ps hs hr ih =>
      simp only [PV.shift]
      refine .tup vs _ (by simpa using hs) (fun i v p a b => ?_)
      obtain ⟨q, hq, rfl⟩ := map_get ps i p b
      exact ih i v q a hq
    | int k n => simp only [PV.shift]; exact .int k n
    | bool b => simp only [PV.shift]; exact .bool b
    | str s => simp only [PV.shift]; exact .str s
    | nilFn => simp only [PV.shift]; exact .nilFn
    | nilPtr => simp only [PV.shift]; exact .nilPtr
    | nilSl => simp only [PV.shift]; exact .nilSl
    | nilMap => simp only [PV.shift]; exact .nilMap
    | yl l => simp only [PV.shift]; exact .yl l
    | list a len cap sh xs b off val h1 h2 h3 h4 h5 h6 h7 _ => simp only [PV.shift]; exact RepC.list a len cap sh xs b off val h1 h2 h3 h4 h5 h6 h7
    | full a len sh xs b off val h1 h3 h4 h5 h6 h7 _ => simp only [PV.shift]; exact RepC.full a len sh xs b off val h1 h3 h4 h5 h6 h7
    | cmap r kd es ents clock h1 h2 h3 h4 h4' h5 h6 _ _ => simp only [PV.shift]; exact RepC.cmap r kd es ents clock h1 h2 h3 h4 h4' h5 h6
    | cptr b o off sh x val h1 h2 h3 h4 _ => simp only [PV.shift]; exact RepC.cptr b o off sh x val h1 h2 h3 h4
  induction h with
  | junk v => simp only [PV.shift]; exact .junk v
  | closed h => exact .closed (closedCase h)
  | ref t off b h => simp only [PV.shift]; exact .ref (n + t) off b (by rw [ht]; exact h)
  | eptr t m i off b h => simp only [PV.shift]; exact .eptr (n + t) m i off b (by rw [ht]; exact h)
  | sl sh t len b cap h hs hl hm => simp only [PV.shift]; exact .sl sh (n + t) len b cap (by rw [ht]; exact h) hs hl hm
  | slnil sh t h => simp only [PV.shift]; exact .slnil sh (n + t) (by rw [ht]; exact h)
  | mref t b h => simp only [PV.shift]; exact .mref (n + t) b (by rw [ht]; exact h)
  | agg vs ps hs hr ih =>
    simp only [PV.shift]
    refine .agg vs _ (by simpa using hs) (fun i v p a b => ?_)
    obtain ⟨q, hq, rfl⟩ := map_get ps i p b
    exact ih i v q a hq
  | tup vs ps hs hr ih =>
    simp only [PV.shift]
    refine .tup vs _ (by simpa using hs) (fun i v p a b => ?_)
    obtain ⟨q, hq, rfl⟩ := map_get ps i p b
    exact ih i v q a hq
  | fn f first caps ps qs h1 h2 h3 h4 ih3 ih4 =>
    simp only [PV.shift]
    refine .fn f first caps _ _ (by simpa using h1) (by simpa using h2) (fun i v p a b => ?_) (fun i v p a b => ?_)
    · obtain ⟨q, hq, rfl⟩ := map_get ps i p b
      exact ih3 i v q a hq
    · obtain ⟨q, hq, rfl⟩ := map_get qs i p b
      exact ih4 i v q a hq
  | cond b h hu ih => simp only [PV.shift]; exact .cond b (fun hb => ih hb) hu

theorem shaped_shift {n : Nat} {sh : Sh} {x : PV} (h : shaped sh x) : shaped sh (x.shift n) ∧ (x.shift n).cells = x.cells.map (PV.shift n) := by
  cases sh with
  | none =>
    cases x <;> simp_all [shaped, PV.isAgg, PV.shift, PV.cells]
  | some m => obtain ⟨cs, rfl, h⟩ := h; exact ⟨⟨cs.map (PV.shift n), by simp [PV.shift], by simpa using h⟩, by simp [PV.shift, PV.cells]⟩

theorem FCalls.lift {f : Nat} {args : List PV} {R : PV → Mem → Prop} (h : FCalls P G f args R) (hno : (args.map PV.noOwn).all id = true) :
    PCalls P G f args μ (fun _ => false) fun p μ' => ∃ p0 ν, R p0 ν ∧ p = p0.shift μ.length ∧ μ' = μ ++ ν.map (Option.map (MObj.shift μ.length)) := by
  intro w κ vs hS hG hv
  have hex : ∀ b, own κ b → b < w.heap.size := fun b hb => hb.elim (hS.exlt b) (fun ⟨t, ht⟩ => hS.lt t b ht)
  refine (h w (own κ) vs hex hG ⟨hv.1, fun i v p a b => rep_noOwn (hv.2 i v p a b) (allMap.1 hno p (List.mem_of_getElem? b))⟩).mono ?_
  rintro e w' ⟨v, p0, ν, κ', rfl, hR, hS', hx, hv', hB, hnew⟩
  let κ2 : Kap := ⟨fun t => if t < μ.length then κ t else κ' (t - μ.length), κ.ex⟩
  have t1 : ∀ t, t < μ.length → κ2 t = κ t := fun t ht => by show (if t < μ.length then κ t else _) = _; rw [if_pos ht]
  have t2 : ∀ t, κ2 (μ.length + t) = κ' t := fun t => by show (if μ.length + t < μ.length then _ else κ' (μ.length + t - μ.length)) = _; rw [if_neg (by omega), Nat.add_sub_cancel_left]
  have klt : ∀ t c, κ t = some c → t < μ.length := by
    intro t c hc
    obtain ⟨o, h1, -⟩ := hS.live t c hc
    exact (List.getElem?_eq_some_iff.1 h1).1
  have ho : own κ' = own κ2 := by
    funext b
    apply propext
    constructor
    · rintro (hb | ⟨t, ht⟩)
      · rw [hx] at hb
        rcases hb with hb | ⟨t, ht⟩
        · exact .inl hb
        · exact .inr ⟨t, by rw [t1 t (klt t _ ht)]; exact ht⟩
      · exact .inr ⟨μ.length + t, by rw [t2]; exact ht⟩
    · rintro (hb | ⟨t, ht⟩)
      · exact .inl (by rw [hx]; exact .inl hb)
      · by_cases htl : t < μ.length
        · rw [t1 t htl] at ht; exact .inl (by rw [hx]; exact .inr ⟨t, ht⟩)
        · obtain ⟨d, rfl⟩ : ∃ d, t = μ.length + d := ⟨t - μ.length, by omega⟩
          rw [t2] at ht; exact .inr ⟨d, ht⟩
  have hGo : Goes w κ w' κ2 (fun t => (fun _ => false : Nat → Bool) t = true) := by
    have hb := Goes.below (κ := κ) hB (fun _ => False)
    refine ⟨hB.os, hB.tape, hB.output, hB.size, rfl, fun b hb' _ => hB.block b hb', fun b hb' hnt => ?_, hb.shape, fun t c hc _ => by rw [t1 t (klt t c hc)]; exact hc⟩
    rintro ⟨t, ht⟩
    by_cases htl : t < μ.length
    · rw [t1 t htl] at ht; exact hnt ⟨t, ht⟩
    · obtain ⟨d, rfl⟩ : ∃ d, t = μ.length + d := ⟨t - μ.length, by omega⟩
      rw [t2] at ht
      have := hnew d b ht; omega
  refine ⟨v, p0.shift μ.length, μ ++ ν.map (Option.map (MObj.shift μ.length)), κ2, rfl, ⟨p0, ν, hR, rfl, rfl⟩, ?_, Rep.shift ho t2 hv', hGo⟩
  refine ⟨?_, ?_, ?_, ?_, ?_, ?_⟩
  · intro t t' b ht ht'
    by_cases h1 : t < μ.length <;> by_cases h2 : t' < μ.length
    · rw [t1 t h1] at ht; rw [t1 t' h2] at ht'; exact hS.inj t t' b ht ht'
    · obtain ⟨d, rfl⟩ : ∃ d, t' = μ.length + d := ⟨t' - μ.length, by omega⟩
      rw [t1 t h1] at ht; rw [t2] at ht'
      have := hnew d b ht'; have := hS.lt t b ht; omega
    · obtain ⟨d, rfl⟩ : ∃ d, t = μ.length + d := ⟨t - μ.length, by omega⟩
      rw [t1 t' h2] at ht'; rw [t2] at ht
      have := hnew d b ht; have := hS.lt t' b ht'; omega
    · obtain ⟨d, rfl⟩ : ∃ d, t = μ.length + d := ⟨t - μ.length, by omega⟩
      obtain ⟨d', rfl⟩ : ∃ d, t' = μ.length + d := ⟨t' - μ.length, by omega⟩
      rw [t2] at ht ht'
      rw [hS'.inj d d' b ht ht']
  · intro t b ht
    by_cases h1 : t < μ.length
    · rw [t1 t h1] at ht; exact Nat.lt_of_lt_of_le (hS.lt t b ht) hB.size
    · obtain ⟨d, rfl⟩ : ∃ d, t = μ.length + d := ⟨t - μ.length, by omega⟩
      rw [t2] at ht; exact hS'.lt d b ht
  · intro t c hc
    by_cases h1 : t < μ.length
    · rw [t1 t h1] at hc
      obtain ⟨o, h2, h3⟩ := hS.live t c hc
      refine ⟨o, by rw [List.getElem?_append_left h1]; exact h2, ?_⟩
      have hGs : Goes w κ w' κ2 (fun _ => False) := hGo.weak (fun t h => by cases h)
      exact ORep.still hGs (fun b hb => by subst hb; exact hB.block b (hS.lt t b hc)) h3
    · obtain ⟨d, rfl⟩ : ∃ d, t = μ.length + d := ⟨t - μ.length, by omega⟩
      rw [t2] at hc
      obtain ⟨o, h2, h3⟩ := hS'.live d c hc
      refine ⟨o.shift μ.length, by rw [List.getElem?_append_right (by omega), Nat.add_sub_cancel_left, List.getElem?_map, h2]; rfl, ?_⟩
      cases h3 with
      | var b arr E sh x hh hs hsh hr =>
        obtain ⟨hs1, hs2⟩ := shaped_shift (n := μ.length) hsh
        refine .var b arr E sh _ hh hs hs1 (fun j p v' hp hv => ?_)
        rw [hs2, List.getElem?_map] at hp
        cases hq : x.cells[j]? with
        | none => simp [hq] at hp
        | some q => simp [hq] at hp; subst hp; exact Rep.shift ho t2 (hr j q v' hq hv)
      | nilrow sh => exact .nilrow sh
      | row b cur E cap sh xs hh hs hm hl hfit hr => exact .row b cur E cap sh xs hh hs hm hl hfit (by rw [← ho]; exact hr)
      | mp b kd es ents clock hh hs hB' hkd hk hv => exact .mp b kd es ents clock hh hs hB' hkd (by rw [← ho]; exact hk) (by rw [← ho]; exact hv)
      | mpg b kd es ents clock hh hs hkd hk hv => exact .mpg b kd es ents clock hh hs hkd (by rw [← ho]; exact hk) (by rw [← ho]; exact hv)
      | iter b kd es seen m hh hm => exact .iter b kd es seen m hh (by rw [← ho]; exact hm)
      | mpo b kd es ents clock hh hs hB' hkd hk hv =>
        refine .mpo b kd _ ents clock hh (by simpa using hs) hB' (fun q hq => ?_) (fun i e q a d => ?_) (fun i e q a d => ?_)
        · obtain ⟨q0, h0, rfl⟩ := List.mem_map.1 hq; exact hkd q0 h0
        · obtain ⟨q0, h0, rfl⟩ := vals_get (f := PV.shift μ.length) d; have := hk i e q0 a h0; rwa [← ho]
        · obtain ⟨q0, h0, rfl⟩ := vals_get (f := PV.shift μ.length) d; exact Rep.shift ho t2 (hv i e q0 a h0)
  · intro t o hto
    by_cases h1 : t < μ.length
    · rw [List.getElem?_append_left h1] at hto; rw [t1 t h1]; exact hS.dead t o hto
    · obtain ⟨d, rfl⟩ : ∃ d, t = μ.length + d := ⟨t - μ.length, by omega⟩
      rw [List.getElem?_append_right (by omega), Nat.add_sub_cancel_left, List.getElem?_map] at hto
      rw [t2]
      cases hd : ν[d]? with
      | none => simp [hd] at hto
      | some x =>
        cases x with
        | none => simp [hd] at hto
        | some o' => exact hS'.dead d o' hd
  · intro b hb
    exact Nat.lt_of_lt_of_le (hS.exlt b hb) hB.size
  · intro t b ht
    by_cases h1 : t < μ.length
    · rw [t1 t h1] at ht; exact hS.exout t b ht
    · obtain ⟨d, rfl⟩ : ∃ d, t = μ.length + d := ⟨t - μ.length, by omega⟩
      rw [t2] at ht
      have h3 := hS'.exout d b ht
      rw [hx] at h3
      exact fun h => h3 (.inl h)

/-- The rules of a walk for such calls. -/
theorem goCall_F {d : Option Nat} {rest : List CO} {K : Env → Mem → Prop} {f : Nat} {ps qs as : List PV} {p0 : PV} {ν : Mem} (hE : Ent P f) (hV : FCalls P G f (ps ++ as ++ qs) (fun p ν' => p = p0 ∧ ν' = ν)) (hs : ((ps ++ as ++ qs).map PV.noOwn).all id = true)
    (h : opsW P G false mv rest (putE env d (p0.shift μ.length)) (μ ++ ν.map (Option.map (MObj.shift μ.length))) K) : goCall P G false mv d rest env K μ (.fn f ps qs) as := by
  refine .inr ⟨rfl, hE, .inl ⟨_, hV.lift hs, ?_⟩⟩
  rintro p μ' ⟨p', ν', ⟨rfl, rfl⟩, rfl, rfl⟩
  exact ⟨trivial, h⟩
theorem goCall_P {d : Option Nat} {rest : List CO} {K : Env → Mem → Prop} {f : Nat} {ps qs as : List PV} {R : PV → Mem → Prop} (hE : Ent P f) (hV : PCalls P G f (ps ++ as ++ qs) μ (fun _ => false) R)
    (h : ∀ p μ', R p μ' → opsW P G false mv rest (putE env d p) μ' K) : goCall P G false mv d rest env K μ (.fn f ps qs) as :=
  .inr ⟨rfl, hE, .inl ⟨R, hV, fun p μ' hR => ⟨trivial, h p μ' hR⟩⟩⟩

/-! ### Freezing -/
/-- What was an owned row or map is told by value from here on. -/
def frzSl (sh : Sh) (n : Nat) : MObj → PV
  | .row sh' xs => if sh' = sh ∧ n ≤ xs.length then .list sh (xs.take n) else .junk
  | _ => .junk
def frzM : MObj → PV
  | .mp kd es => .cmap kd es
  | _ => .junk
theorem frzSl_agg (sh : Sh) (n : Nat) (o : MObj) : (frzSl sh n o).isAgg = none := by
  cases o with
  | row sh' xs =>
    unfold frzSl
    by_cases h : sh' = sh ∧ n ≤ xs.length
    · simp only [if_pos h]; rfl
    · simp only [if_neg h]; rfl
  | _ => rfl
theorem frzM_agg (o : MObj) : (frzM o).isAgg = none := by
  cases o <;> simp only [frzM, PV.isAgg]
def PV.frz (t : Nat) (o : MObj) : PV → PV
  | .sl sh t' n => if t' = t then frzSl sh n o else .sl sh t' n
  | .mref t' => if t' = t then frzM o else .mref t'
  | .ref t' off => if t' = t then .junk else .ref t' off
  | .eptr t' m i off => if t' = t then .junk else .eptr t' m i off
  | .agg ps => .agg (ps.map (PV.frz t o))
  | .tup ps => .tup (ps.map (PV.frz t o))
  | .fn f ps qs => .fn f (ps.map (PV.frz t o)) (qs.map (PV.frz t o))
  | .cond b p => .cond b (PV.frz t o p)
  | p => p
def MObj.frz (t : Nat) (o : MObj) : MObj → MObj
  | .var sh x => .var sh (x.frz t o)
  | .mpo kd es => .mpo kd (es.map fun q => (q.1, q.2.frz t o))
  | o' => o'
theorem frz_closed {ex : Nat → Prop} {t : Nat} {o : MObj} {v : Value} {p : PV} (h : RepC w ex v p) : RepC w ex v (p.frz t o) := by
  have map_get : ∀ (ps : List PV) (i : Nat) (p : PV), (ps.map (PV.frz t o))[i]? = some p → ∃ q, ps[i]? = some q ∧ p = q.frz t o := by
    intro ps i p h
    rw [List.getElem?_map] at h
    cases hq : ps[i]? with
    | none => simp [hq] at h
    | some q => simp [hq] at h; exact ⟨q, rfl, h.symm⟩
  induction h with
  | fn f first caps ps qs h1 h2 h3 h4 ih3 ih4 =>
    simp only [PV.frz]
    refine .fn f first caps _ _ (by simpa using h1) (by simpa using h2) (fun i v p a b => ?_) (fun i v p a b => ?_)
    · obtain ⟨q, hq, rfl⟩ := map_get ps i p b
      exact ih3 i v q a hq
    · obtain ⟨q, hq, rfl⟩ := map_get qs i p b
      exact ih4 i v q a hq
  | agg vs ps hs hr ih =>
    simp only [PV.frz]
    refine .agg vs _ (by simpa using hs) (fun i v p a b => ?_)
    obtain ⟨q, hq, rfl⟩ := map_get ps i p b
    exact ih i v q a hq
  | tup vs ps hs hr ih =>
    simp only [PV.frz]
    refine .tup vs _ (by simpa using hs) (fun i v p a b => ?_)
    obtain ⟨q, hq, rfl⟩ := map_get ps i p b
    exact ih i v q a hq
  | int k n => simp only [PV.frz]; exact .int k n
  | bool b => simp only [PV.frz]; exact .bool b
  | str s => simp only [PV.frz]; exact .str s
  | nilFn => simp only [PV.frz]; exact .nilFn
  | nilPtr => simp only [PV.frz]; exact .nilPtr
  | nilSl => simp only [PV.frz]; exact .nilSl
  | nilMap => simp only [PV.frz]; exact .nilMap
  | yl l => simp only [PV.frz]; exact .yl l
  | list a len cap sh xs b off val h1 h2 h3 h4 h5 h6 h7 _ => simp only [PV.frz]; exact RepC.list a len cap sh xs b off val h1 h2 h3 h4 h5 h6 h7
  | full a len sh xs b off val h1 h3 h4 h5 h6 h7 _ => simp only [PV.frz]; exact RepC.full a len sh xs b off val h1 h3 h4 h5 h6 h7
  | cmap r kd es ents clock h1 h2 h3 h4 h4' h5 h6 _ _ => simp only [PV.frz]; exact RepC.cmap r kd es ents clock h1 h2 h3 h4 h4' h5 h6
  | cptr b o off sh x val h1 h2 h3 h4 _ => simp only [PV.frz]; exact RepC.cptr b o off sh x val h1 h2 h3 h4

/-- The tags, but for one. -/
def Kap.del (κ : Kap) (t : Nat) : Kap := ⟨fun i => if i = t then none else κ i, κ.ex⟩
theorem own_del (hS : Sim w κ μ) {t b : Nat} (h : κ t = some (some b)) : ¬ own (κ.del t) b := by
  rintro (h' | ⟨t', ht'⟩)
  · exact hS.exout t b h h'
  · simp only [Kap.del] at ht'
    split at ht'
    · cases ht'
    · rename_i hne; exact hne (hS.inj t' t b ht' h)
theorem Goes.del (t : Nat) : Goes w κ w (κ.del t) (fun i => i = t) := by
  refine ⟨rfl, rfl, rfl, Nat.le_refl _, rfl, fun _ _ _ => rfl, fun b _ hn ht => ?_, fun _ _ h => h, fun i c hc hi => ?_⟩
  · obtain ⟨i, hi⟩ := ht
    simp only [Kap.del] at hi
    split at hi
    · cases hi
    · exact hn ⟨i, hi⟩
  · simp only [Kap.del]; rw [if_neg hi]; exact hc

theorem Rep.frz (hS : Sim w κ μ) {t : Nat} {o : MObj} (hm : μ.get t = some o) {v : Value} {p : PV} (h : Rep w (own κ) κ v p) : Rep w (own (κ.del t)) (κ.del t) v (p.frz t o) := by
  have hG : Goes w κ w (κ.del t) (fun i => i = t) := Goes.del t
  have map_get : ∀ (ps : List PV) (i : Nat) (p : PV), (ps.map (PV.frz t o))[i]? = some p → ∃ q, ps[i]? = some q ∧ p = q.frz t o := by
    intro ps i p h
    rw [List.getElem?_map] at h
    cases hq : ps[i]? with
    | none => simp [hq] at h
    | some q => simp [hq] at h; exact ⟨q, rfl, h.symm⟩
  induction h with
  | junk v => simp only [PV.frz]; exact .junk v
  | closed h => exact .closed (frz_closed (h.mono hG.agree))
  | ref t' off b h =>
    simp only [PV.frz]; split
    · exact .junk _
    · rename_i hh; exact .ref t' off b (hG.tags _ _ h hh)
  | eptr t' n i off b h =>
    simp only [PV.frz]; split
    · exact .junk _
    · rename_i hh; exact .eptr t' n i off b (hG.tags _ _ h hh)
  | sl sh t' n b cap h hs hl hm' =>
    simp only [PV.frz]; split
    · rename_i hh; subst hh
      unfold frzSl
      split
      · rename_i sh' xs
        split
        · rename_i hc
          obtain ⟨rfl, hn⟩ := hc
          obtain ⟨c, hc, hO⟩ := hS.at hm
          rw [h] at hc; cases hc
          cases hO with
          | row _ cur E cap' _ _ hh hcs hm'' hl' hfit hr =>
            have hfit' : ∀ y ∈ xs.take n, fits sh' y := fun y hy => hfit y (List.mem_of_mem_take hy)
            have hfl : PG.flat (xs.take n) = (PG.flat xs).take (n * sh'.size) := flat_take hfit n
            have hfn : (PG.flat (xs.take n)).length = n * sh'.size := by rw [flat_length hfit']; simp [Nat.min_eq_left hn]
            have hcur : n * sh'.size ≤ cur.size := by rw [hcs]; exact Nat.mul_le_mul_right _ (by omega)
            refine .closed (.list _ n cap sh' _ b 0 (fun j => cur.getD j undef) (by simp [Nat.min_eq_left hn]) hl hm' hfit' (fun _ => rfl) (fun j hj => ⟨own_del hS h, ?_⟩) (fun j p hp => ?_))
            · rw [Nat.zero_add, cell?_cells hh]
              rw [hfn] at hj
              simp [show j < cur.size by omega]
            · have hj : j < n * sh'.size := by rw [← hfn]; exact (List.getElem?_eq_some_iff.1 hp).1
              rw [hfl, List.getElem?_take_of_lt hj] at hp
              exact (hr j p _ hp (by simp [show j < cur.size by omega])).mono hG.agree
        · exact .junk _
      · exact .junk _
    · rename_i hh; exact .sl sh t' n b cap (hG.tags _ _ h hh) hs hl hm'
  | slnil sh t' h =>
    simp only [PV.frz]; split
    · rename_i hh; subst hh
      unfold frzSl
      split
      · rename_i sh' xs
        split
        · rename_i hc
          obtain ⟨rfl, hn⟩ := hc
          exact .closed (.list none 0 0 sh' _ 0 0 (fun _ => undef) (by simp) (Nat.le_refl _) (Nat.zero_le _) (by simp) (fun h => by simp at h) (fun j hj => by simp [PG.flat] at hj) (fun j p hp => by simp [PG.flat] at hp))
        · exact .junk _
      · exact .junk _
    · rename_i hh; exact .slnil sh t' (hG.tags _ _ h hh)
  | mref t' b h =>
    simp only [PV.frz]; split
    · rename_i hh; subst hh
      unfold frzM
      split
      · rename_i kd es
        obtain ⟨c, hc, hO⟩ := hS.at hm
        rw [h] at hc; cases hc
        cases hO with
        | mp _ _ _ ents clock hh hs hB hkd hk hv =>
          exact .closed (.cmap b kd es ents clock (own_del hS h) hh hs hB hkd (fun i e q a d => (hk i e q a d).mono hG.agree) (fun i e q a d => (hv i e q a d).mono hG.agree))
      · exact .junk _
    · rename_i hh; exact .mref t' b (hG.tags _ _ h hh)
  | agg vs ps hs hr ih =>
    simp only [PV.frz]
    refine .agg vs _ (by simpa using hs) (fun i v p a b => ?_)
    obtain ⟨q, hq, rfl⟩ := map_get ps i p b
    exact ih i v q a hq
  | tup vs ps hs hr ih =>
    simp only [PV.frz]
    refine .tup vs _ (by simpa using hs) (fun i v p a b => ?_)
    obtain ⟨q, hq, rfl⟩ := map_get ps i p b
    exact ih i v q a hq
  | fn f first caps ps qs h1 h2 h3 h4 ih3 ih4 =>
    simp only [PV.frz]
    refine .fn f first caps _ _ (by simpa using h1) (by simpa using h2) (fun i v p a b => ?_) (fun i v p a b => ?_)
    · obtain ⟨q, hq, rfl⟩ := map_get ps i p b
      exact ih3 i v q a hq
    · obtain ⟨q, hq, rfl⟩ := map_get qs i p b
      exact ih4 i v q a hq
  | cond b h hu ih => simp only [PV.frz]; exact .cond b (fun hb => ih hb) hu

theorem shaped_frz {t : Nat} {o : MObj} {sh : Sh} {x : PV} (h : shaped sh x) : shaped sh (x.frz t o) ∧ (x.frz t o).cells = x.cells.map (PV.frz t o) := by
  cases sh with
  | none =>
    have h0 : x.cells = [x] := by cases x <;> simp_all [shaped, PV.isAgg, PV.cells]
    have h1 : (x.frz t o).isAgg = none := by
      have it : ∀ (b : Prop) [Decidable b] (p q : PV), p.isAgg = none → q.isAgg = none → (if b then p else q).isAgg = none := by
        intro b _ p q hp hq; split <;> assumption
      cases x with
      | agg cs => simp [shaped, PV.isAgg] at h
      | sl => simp only [PV.frz]; exact it _ _ _ (frzSl_agg _ _ _) rfl
      | mref => simp only [PV.frz]; exact it _ _ _ (frzM_agg _) rfl
      | ref => simp only [PV.frz]; exact it _ _ _ rfl rfl
      | eptr => simp only [PV.frz]; exact it _ _ _ rfl rfl
      | _ => simp only [PV.frz]; rfl
    refine ⟨h1, ?_⟩
    rw [h0]
    simp only [List.map_cons, List.map_nil]
    generalize x.frz t o = y at h1 ⊢
    cases y <;> first | rfl | (simp [PV.isAgg] at h1)
  | some m => obtain ⟨cs, rfl, h⟩ := h; exact ⟨⟨cs.map (PV.frz t o), by simp [PV.frz], by simpa using h⟩, by simp [PV.frz, PV.cells]⟩

theorem Sim.frz (hS : Sim w κ μ) {t : Nat} {o : MObj} (hm : μ.get t = some o) : Sim w (κ.del t) ((μ.map (Option.map (MObj.frz t o))).set t none) := by
  have hG : Goes w κ w (κ.del t) (fun i => i = t) := Goes.del t
  have hd : ∀ i c, (κ.del t) i = some c → i ≠ t ∧ κ i = some c := by
    intro i c h
    simp only [Kap.del] at h
    split at h
    · cases h
    · exact ⟨by assumption, h⟩
  refine ⟨fun i j b hi hj => hS.inj i j b (hd i _ hi).2 (hd j _ hj).2, fun i b hi => hS.lt i b (hd i _ hi).2, fun i c hi => ?_, fun i o' hi => ?_, hS.exlt, fun i b hi => hS.exout i b (hd i _ hi).2⟩
  · obtain ⟨hne, hi'⟩ := hd i c hi
    obtain ⟨o', h1, h2⟩ := hS.live i c hi'
    refine ⟨MObj.frz t o o', by rw [List.getElem?_set_ne (Ne.symm hne), List.getElem?_map, h1]; rfl, ?_⟩
    cases h2 with
    | var b arr E sh x h hs hsh hr =>
      obtain ⟨hs1, hs2⟩ := shaped_frz (t := t) (o := o) hsh
      refine .var b arr E sh _ h hs hs1 (fun j p v hp hv => ?_)
      rw [hs2, List.getElem?_map] at hp
      cases hq : x.cells[j]? with
      | none => simp [hq] at hp
      | some q => simp [hq] at hp; subst hp; exact Rep.frz hS hm (hr j q v hq hv)
    | nilrow sh => exact .nilrow sh
    | row b cur E cap sh xs h hs hm hl hfit hr => exact .row b cur E cap sh xs h hs hm hl hfit (fun j p v hp hv => (hr j p v hp hv).mono hG.agree)
    | mp b kd es ents clock h hs hB hkd hk hv => exact .mp b kd es ents clock h hs hB hkd (fun i e q a d => (hk i e q a d).mono hG.agree) (fun i e q a d => (hv i e q a d).mono hG.agree)
    | mpg b kd es ents clock h hs hkd hk hv => exact .mpg b kd es ents clock h hs hkd (fun i e q a d => (hk i e q a d).mono hG.agree) (fun i e q a d => (hv i e q a d).mono hG.agree)
    | iter b kd es seen m h hm => exact .iter b kd es seen m h (hm.imp id fun ⟨r, h1, h2⟩ => ⟨r, h1, h2.mono hG.agree⟩)
    | mpo b kd es ents clock h hs hB hkd hk hv =>
      refine .mpo b kd _ ents clock h (by simpa using hs) hB (fun q hq => ?_) (fun i e q a d => ?_) (fun i e q a d => ?_)
      · obtain ⟨q0, h0, rfl⟩ := List.mem_map.1 hq; exact hkd q0 h0
      · obtain ⟨q0, h0, rfl⟩ := vals_get (f := PV.frz t o) d; exact (hk i e q0 a h0).mono hG.agree
      · obtain ⟨q0, h0, rfl⟩ := vals_get (f := PV.frz t o) d; exact Rep.frz hS hm (hv i e q0 a h0)
  · by_cases hit : i = t
    · subst hit
      have hl : i < μ.length := (List.getElem?_eq_some_iff.1 (Mem.get_some hm)).1
      rw [List.getElem?_set_self (by simpa using hl)] at hi
      cases hi
    · rw [List.getElem?_set_ne (Ne.symm hit), List.getElem?_map] at hi
      simp only [Kap.del]; rw [if_neg hit]
      cases hx : μ[i]? with
      | none => simp [hx] at hi
      | some x =>
        cases x with
        | none => simp [hx] at hi
        | some o'' => exact hS.dead i o'' hx

/-- From here on an owned row, or map, is told by value. -/
theorem PW.frz {x : PCode} (t : Nat) (o : MObj) (hm : μ.get t = some o) (hmv : mv t = true) (h : PW P G N mv x (env.map fun x => (x.1, x.2.frz t o)) ((μ.map (Option.map (MObj.frz t o))).set t none) Q) : PW P G N mv x env μ Q := by
  intro ow L code hc hmix C a w κ hC hR
  have hG : Goes w κ w (κ.del t) (fun i => i = t) := Goes.del t
  refine h ow L code hc hmix C a w (κ.del t) hC ⟨hR.size, hR.defers, fun i => ?_, hR.sim.frz hm, globs_goes hR.globs hG, hR.goes.trans (hG.weak fun i hi => by rw [hi, hC]; exact hmv)⟩
  have key : ∀ (env : Env) (v : Value), Rep w (PG.own κ) κ v (env.get i) → Rep w (PG.own (κ.del t)) (κ.del t) v (Env.get (env.map fun x => (x.1, x.2.frz t o)) i) := by
    intro env v
    induction env with
    | nil => intro _; exact .junk v
    | cons y e ih =>
      obtain ⟨j, p⟩ := y
      simp only [Env.get, List.map_cons]
      split
      · exact fun h => Rep.frz hR.sim hm h
      · exact ih
  exact key env _ (hR.regs i)

/-! ### Loops whose rounds make memory that is let go -/
def Kap.trim (κ : Kap) (n : Nat) : Kap := ⟨fun t => if t < n then κ t else none, κ.ex⟩
def trimE (n : Nat) (env : Env) : Env := env.map fun x => (x.1, x.2.kill fun t => decide (n ≤ t))
def trimM (n : Nat) (μ : Mem) : Mem := (μ.take n).map (Option.map (MObj.kill fun t => decide (n ≤ t)))
theorem Goes.trim (n : Nat) : Goes w κ w (κ.trim n) (fun t => n ≤ t) := by
  refine ⟨rfl, rfl, rfl, Nat.le_refl _, rfl, fun _ _ _ => rfl, fun b _ hn ht => ?_, fun _ _ h => h, fun i c hc hi => ?_⟩
  · obtain ⟨i, hi⟩ := ht
    simp only [Kap.trim] at hi
    split at hi
    · exact hn ⟨i, hi⟩
    · cases hi
  · simp only [Kap.trim]; rw [if_pos (by omega)]; exact hc
theorem Sim.trim (hS : Sim w κ μ) (n : Nat) : Sim w (κ.trim n) (trimM n μ) := by
  have hG : Goes w κ w (κ.trim n) (fun t => n ≤ t) := Goes.trim n
  have hd : ∀ i c, (κ.trim n) i = some c → i < n ∧ κ i = some c := by
    intro i c h
    simp only [Kap.trim] at h
    split at h
    · exact ⟨by assumption, h⟩
    · cases h
  refine ⟨fun i j b hi hj => hS.inj i j b (hd i _ hi).2 (hd j _ hj).2, fun i b hi => hS.lt i b (hd i _ hi).2, fun i c hi => ?_, fun i o' hi => ?_, hS.exlt, fun i b hi => hS.exout i b (hd i _ hi).2⟩
  · obtain ⟨hlt, hi'⟩ := hd i c hi
    obtain ⟨o', h1, h2⟩ := hS.live i c hi'
    refine ⟨o'.kill _, ?_, ORep.goes (dead := fun t => decide (n ≤ t)) hG (fun t ht => by simpa using ht) (fun _ _ => rfl) h2⟩
    simp only [trimM, List.getElem?_map, List.getElem?_take_of_lt hlt, h1, Option.map_some]
  · simp only [trimM, List.getElem?_map] at hi
    cases hx : (μ.take n)[i]? with
    | none => simp [hx] at hi
    | some x =>
      have hlt : i < n := by
        have := (List.getElem?_eq_some_iff.1 hx).1
        rw [List.length_take] at this; omega
      rw [List.getElem?_take_of_lt hlt] at hx
      cases x with
      | none => rw [List.getElem?_take_of_lt hlt, hx] at hi; simp at hi
      | some o'' =>
        simp only [Kap.trim]; rw [if_pos hlt]
        exact hS.dead i o'' hx
theorem trimE_get (n : Nat) (env : Env) (i : Nat) : (trimE n env).get i = (env.get i).kill fun t => decide (n ≤ t) := by
  induction env with
  | nil => simp [trimE, Env.get, PV.kill]
  | cons x e ih =>
    obtain ⟨j, p⟩ := x
    simp only [trimE, List.map_cons, Env.get] at ih ⊢
    split
    · rfl
    · exact ih
theorem SR.trim {C : Ctx} {a : Act} (h : SR G N C a w κ env μ) (n : Nat) (hn : ∀ t, n ≤ t → C.mv t = true) : SR G N C a w (κ.trim n) (trimE n env) (trimM n μ) := by
  have hG : Goes w κ w (κ.trim n) (fun t => n ≤ t) := Goes.trim n
  exact ⟨h.size, h.defers, fun i => by rw [trimE_get]; exact Rep.goes hG (fun t ht => by simpa using ht) (h.regs i), h.sim.trim n, globs_goes h.globs hG, h.goes.trans (hG.weak hn)⟩

def loopGQ {σ : Type} (n : Nat) (vars : List Nat) (vals : σ → List PV) (mem : σ → Mem) (Inv : σ → Prop) (meas : σ → Nat) (s : σ) (Q : Post) : Post := fun e env μ =>
  match e with
  | .normal => ∃ s', trimE n (keepE vars env) = vars.zip (vals s') ∧ trimM n μ = mem s' ∧ Inv s' ∧ meas s' < meas s
  | e => Q e env μ
theorem loopGQ_ret {σ : Type} (n : Nat) (vars : List Nat) (vals : σ → List PV) (mem : σ → Mem) (Inv : σ → Prop) (meas : σ → Nat) (s : σ) : loopGQ n vars vals mem Inv meas s Q .ret env μ = Q .ret env μ := rfl
theorem loopGQ_exit {σ : Type} (n : Nat) (vars : List Nat) (vals : σ → List PV) (mem : σ → Mem) (Inv : σ → Prop) (meas : σ → Nat) (s : σ) (id : Nat) : loopGQ n vars vals mem Inv meas s Q (.exit id) env μ = Q (.exit id) env μ := rfl
theorem loopGQ_normal {σ : Type} (n : Nat) (vars : List Nat) (vals : σ → List PV) (mem : σ → Mem) (Inv : σ → Prop) (meas : σ → Nat) (s : σ) :
    loopGQ n vars vals mem Inv meas s Q .normal env μ = ∃ s', trimE n (keepE vars env) = vars.zip (vals s') ∧ trimM n μ = mem s' ∧ Inv s' ∧ meas s' < meas s := rfl
@[congr] theorem loopGQ_congr {σ : Type} {n : Nat} {vars : List Nat} {vals : σ → List PV} {mem : σ → Mem} {Inv : σ → Prop} {meas : σ → Nat} {s : σ} {e e' : Exit} {env env' : Env} {μ μ' : Mem} (hx : e = e') (he : env = env') (hm : μ = μ') :
    loopGQ n vars vals mem Inv meas s Q e env μ = loopGQ n vars vals mem Inv meas s Q e' env' μ' := by rw [hx, he, hm]
@[congr] theorem endP_congr {rs : List RVar} {R : PV → Mem → Prop} {e e' : Exit} {env env' : Env} {μ μ' : Mem} (hx : e = e') (he : env = env') (hm : μ = μ') : endP rs R e env μ = endP rs R e' env' μ' := by rw [hx, he, hm]

/-- A loop: of the memory the first n objects are kept from round to round. -/
theorem PW.loopG {σ : Type} (n : Nat) (hn : ∀ t, n ≤ t → mv t = true) (vars : List Nat) (vals : σ → List PV) (mem : σ → Mem) (Inv : σ → Prop) (meas : σ → Nat) (s0 : σ) {x : PCode} (h0 : keepE vars env = vars.zip (vals s0)) (hm : μ = mem s0) (hI : Inv s0)
    (round : ∀ s, Inv s → PW P G N mv x (vars.zip (vals s)) (mem s) (loopGQ n vars vals mem Inv meas s Q)) : PW P G N mv (.loop x) env μ Q := by
  intro ow L code hc hmix C a w κ hmv hR
  obtain ⟨x0, rfl, hx⟩ := compileC_loop hc
  refine wp_loop_ghost (fun n a w => ∃ s κ, meas s = n ∧ Inv s ∧ SR G N C a w κ (vars.zip (vals s)) (mem s)) (meas s0) ⟨s0, κ, rfl, hI, by rw [← h0, ← hm]; exact hR.weak (keep_get _ _)⟩ ?_
  rintro n' a w ⟨s, κ, rfl, hI, hR⟩
  refine wp_mono (round s hI ow L x0 hx hmix C a w κ hmv hR) ?_
  rintro e a' w' ⟨env', μ', κ', hq, hR'⟩
  cases e with
  | normal =>
    obtain ⟨s', hs1, hs2, hs3, hs4⟩ := hq
    exact ⟨meas s', hs4, s', κ'.trim n, rfl, hs3, by rw [← hs1, ← hs2]; exact (hR'.weak (keep_get vars _)).trim n (by rw [hmv]; exact hn)⟩
  | exit id' => exact ⟨env', μ', κ', hq, hR'⟩
  | goto l => exact ⟨env', μ', κ', hq, hR'⟩
  | ret => exact ⟨env', μ', κ', hq, hR'⟩
  | panic ch => exact ⟨env', μ', κ', hq, hR'⟩
  | outgrown => exact ⟨env', μ', κ', hq, hR'⟩
end

theorem cut_fld (n : Nat) (cs : List PV) (o : Nat) : cut (some n) none (.agg cs) o = cs.getD o .junk := by
  simp [cut, sub, PV.cells, List.getD]
theorem cells_agg (cs : List PV) : (PV.agg cs).cells = cs := rfl
theorem size_none : Sh.size none = 1 := rfl
theorem size_some (n : Nat) : Sh.size (some n) = n := rfl
theorem getC4 (p q r s u : PV) (l : List PV) : (p :: q :: r :: s :: u :: l).getD 4 .junk = u := rfl
theorem getC5 (p q r s u v : PV) (l : List PV) : (p :: q :: r :: s :: u :: v :: l).getD 5 .junk = v := rfl
theorem shne1 (n : Nat) : ((some n : Sh) = none) = False := by simp
theorem shne2 (n : Nat) : ((none : Sh) = some n) = False := by simp
theorem partSh_a1 (a : PV) : partSh (.agg [a]) (some 1) = some [a] := rfl
theorem partSh_a2 (a b : PV) : partSh (.agg [a, b]) (some 2) = some [a, b] := rfl
theorem partSh_a3 (a b c : PV) : partSh (.agg [a, b, c]) (some 3) = some [a, b, c] := rfl
theorem partSh_a4 (a b c d : PV) : partSh (.agg [a, b, c, d]) (some 4) = some [a, b, c, d] := rfl
theorem partSh_a5 (a b c d e : PV) : partSh (.agg [a, b, c, d, e]) (some 5) = some [a, b, c, d, e] := rfl
theorem partSh_a6 (a b c d e f : PV) : partSh (.agg [a, b, c, d, e, f]) (some 6) = some [a, b, c, d, e, f] := rfl
theorem partSh_a7 (a b c d e f g : PV) : partSh (.agg [a, b, c, d, e, f, g]) (some 7) = some [a, b, c, d, e, f, g] := rfl
theorem partSh_a8 (a b c d e f g h : PV) : partSh (.agg [a, b, c, d, e, f, g, h]) (some 8) = some [a, b, c, d, e, f, g, h] := rfl
theorem partSh_a9 (a b c d e f g h i : PV) : partSh (.agg [a, b, c, d, e, f, g, h, i]) (some 9) = some [a, b, c, d, e, f, g, h, i] := rfl
theorem SS2 : type_of% (And.intro (And.intro (And.intro (And.intro (@loopGQ_ret) (And.intro (@loopGQ_exit) (@loopGQ_normal))) (And.intro (@endP_ret) (And.intro (@endP_normal) (cut_fld)))) (And.intro (And.intro (cells_agg) (And.intro (size_none) (size_some))) (And.intro (getC4) (And.intro (getC5) (shne1))))) (And.intro (And.intro (And.intro (shne2) (And.intro (partSh_a1) (partSh_a2))) (And.intro (partSh_a3) (And.intro (partSh_a4) (partSh_a5)))) (And.intro (And.intro (partSh_a6) (And.intro (partSh_a7) (partSh_a8))) (And.intro (partSh_a9) (And.intro (@List.length_nil (Option MObj)) (@List.length_cons (Option MObj))))))) :=
  (And.intro (And.intro (And.intro (And.intro (@loopGQ_ret) (And.intro (@loopGQ_exit) (@loopGQ_normal))) (And.intro (@endP_ret) (And.intro (@endP_normal) (cut_fld)))) (And.intro (And.intro (cells_agg) (And.intro (size_none) (size_some))) (And.intro (getC4) (And.intro (getC5) (shne1))))) (And.intro (And.intro (And.intro (shne2) (And.intro (partSh_a1) (partSh_a2))) (And.intro (partSh_a3) (And.intro (partSh_a4) (partSh_a5)))) (And.intro (And.intro (partSh_a6) (And.intro (partSh_a7) (partSh_a8))) (And.intro (partSh_a9) (And.intro (@List.length_nil (Option MObj)) (@List.length_cons (Option MObj)))))))
end PG

namespace PG
open Go
set_option linter.unusedSimpArgs false
set_option linter.unusedVariables false
/-- A number or a text, as a row lists it. -/
def datOf : PV → DataW Unit
  | .int k n => .lit (.int k n)
  | .str l => .lit (.string l)
  | _ => .nil
def isNT : PV → Bool
  | .int _ _ | .str _ => true
  | _ => false

theorem tab_cells {enc : TypeId × Value → Unit} {P : Program} {w : World} {base : Nat} {sp : Nat → Bool} {held : Bool} {fuel : Nat} {t e : TypeId} {n : Nat} {cs : List Value} {zs : List PV} {p : List MemPlace}
    (ht : P.underlying t = some (.array n e)) (he : (∃ k, P.underlying e = some (.int k)) ∨ P.underlying e = some .string) (hce : P.cellsOf e = 1) (hct : P.cellsOf t = n) (hz : ∀ z ∈ zs, isNT z = true)
    (h : DataW.trod enc P w base sp held fuel t cs = some (.agg (zs.map datOf), p)) : cs = zs.map PV.toV := by
  cases fuel with
  | zero => simp [DataW.trod] at h
  | succ fuel =>
    simp only [DataW.trod, ht, hce, hct, Nat.mul_one] at h
    split at h
    · rename_i hl
      obtain ⟨xs, hm, hx⟩ := Option.map_eq_some_iff.1 h
      have hxs : xs.map (·.1) = zs.map datOf := by
        have := congrArg Prod.fst hx
        simpa using this
      have hxl : xs.length = n := by simpa using Lib.mapM_length hm
      have hzl : zs.length = n := by
        have := congrArg List.length hxs
        simp at this
        omega
      apply List.ext_getElem?
      intro i
      by_cases hi : i < n
      · obtain ⟨b, hb, hf⟩ := Lib.mapM_at hm i i (by simp [hi])
        have hzi : zs[i]? = some zs[i] := List.getElem?_eq_getElem (by omega)
        have hzm := hz zs[i] (List.getElem_mem _)
        have h2 : (xs.map (·.1))[i]? = some b.1 := by simp [hb]
        rw [hxs, List.getElem?_map, hzi] at h2
        simp only [Option.map_some, Option.some.injEq] at h2
        rw [List.getElem?_map, hzi, Option.map_some]
        rcases he with ⟨k, he⟩ | he
        · obtain ⟨z, hc, hb1, _⟩ := DataW.trod_int he hf
          have h1 : cs[i]? = some (.int k z) := by
            have := congrArg (·[0]?) hc
            simpa [List.getElem?_take, List.getElem?_drop] using this
          rw [hb1] at h2
          cases hzz : zs[i] <;> rw [hzz] at h2 hzm <;> simp [isNT] at hzm <;> simp [datOf] at h2
          obtain ⟨rfl, rfl⟩ := h2
          rw [h1]; rfl
        · obtain ⟨z, hc, hb1, _⟩ := DataW.trod_string he hf
          have h1 : cs[i]? = some (.string z) := by
            have := congrArg (·[0]?) hc
            simpa [List.getElem?_take, List.getElem?_drop] using this
          rw [hb1] at h2
          cases hzz : zs[i] <;> rw [hzz] at h2 hzm <;> simp [isNT] at hzm <;> simp [datOf] at h2
          subst h2
          rw [h1]; rfl
      · rw [List.getElem?_eq_none (by omega), List.getElem?_eq_none (by simp; omega)]
    · cases h

/-- A listed table lies where it is. -/
theorem tab_rep {P : Program} {W : World} {name : String} {zs : List PV} {g : Nat} {t e : TypeId} {n : Nat} {ps : List MemPlace} {rest : List (String × DataW Unit)}
    (hg : P.globalNamed name = some g) (hty : (P.globals[g]?).map (·.type) = some t) (ht : P.underlying t = some (.array n e)) (he : (∃ k, P.underlying e = some (.int k)) ∨ P.underlying e = some .string) (hce : P.cellsOf e = 1) (hct : P.cellsOf t = n)
    (hz : ∀ z ∈ zs, isNT z = true) (hn : zs.length = n) (h : DataW.LaidVars P W ((name, .agg (zs.map datOf)) :: rest) ps) : RepC W (fun _ => False) (.pointer (some ⟨g, 0, none⟩)) (.cptr (some n) (.agg zs) 0) := by
  obtain ⟨g', t', cs, fuel, p, q, hg', ht', hvar, hd, _, _⟩ := h
  obtain rfl := Option.some.inj (hg.symm.trans hg')
  obtain rfl := Option.some.inj (hty.symm.trans ht')
  have hcs := tab_cells ht he hce hct hz hd
  have hat : ∀ z ∈ zs, z.atom = true := fun z h => by
    have := hz z h
    cases z <;> simp_all [isNT, PV.atom]
  refine .cptr g 0 0 (some n) (.agg zs) (fun j => (zs.getD j .junk).toV) ⟨zs, rfl, hn, fun c hc => by have := hz c hc; cases c <;> simp_all [isNT, PV.scalar]⟩ (Nat.zero_le _) (fun j hj => ⟨fun h => h, ?_⟩) (fun j p hp => ?_)
  · have hj' : j < zs.length := hj
    have := World.var?_cell hg hvar j
    rw [Nat.zero_add, this]
    have : cs[j]? = (zs.map PV.toV)[j]? := by rw [← hcs]; simp
    rw [this]; simp [hj']
  · have hp' : zs[j]? = some p := hp
    have : zs.getD j .junk = p := by simp [List.getD, hp']
    rw [this]
    exact PV.toV_rep (hat p (List.mem_of_getElem? hp'))
end PG

namespace PG
open Go
theorem sc_list (sh : Sh) (xs : List PV) : (PV.list sh xs).scalar = true := rfl
theorem sc_nilSl : PV.nilSl.scalar = true := rfl
theorem sc_nilFn : PV.nilFn.scalar = true := rfl
theorem sc_nilPtr : PV.nilPtr.scalar = true := rfl
theorem sc_nilMap : PV.nilMap.scalar = true := rfl
theorem sc_fn (f : Nat) (a b : List PV) : (PV.fn f a b).scalar = true := rfl
theorem sc_sl (sh : Sh) (t n : Nat) : (PV.sl sh t n).scalar = true := rfl
theorem sc_mref (t : Nat) : (PV.mref t).scalar = true := rfl
theorem sc_ref (t o : Nat) : (PV.ref t o).scalar = true := rfl
theorem sc_cmap (kd : KK) (es : List (PV × PV)) : (PV.cmap kd es).scalar = true := rfl
theorem sc_full (sh : Sh) (xs : List PV) : (PV.full sh xs).scalar = true := rfl
theorem part_list (sh : Sh) (xs : List PV) : partOf (.list sh xs) 1 = some [.list sh xs] := rfl
theorem part_nilSl : partOf .nilSl 1 = some [.nilSl] := rfl
theorem part_sl (sh : Sh) (t n : Nat) : partOf (.sl sh t n) 1 = some [.sl sh t n] := rfl
theorem partSh_list (sh : Sh) (xs : List PV) : partSh (.list sh xs) none = some [.list sh xs] := rfl
theorem partSh_nilSl : partSh .nilSl none = some [.nilSl] := rfl
theorem partSh_nilMap : partSh .nilMap none = some [.nilMap] := rfl
theorem partSh_sl (sh : Sh) (t n : Nat) : partSh (.sl sh t n) none = some [.sl sh t n] := rfl
theorem partSh_mref (t : Nat) : partSh (.mref t) none = some [.mref t] := rfl
theorem partSh_fn (f : Nat) (a b : List PV) : partSh (.fn f a b) none = some [.fn f a b] := rfl
theorem partSh_cmap (kd : KK) (es : List (PV × PV)) : partSh (.cmap kd es) none = some [.cmap kd es] := rfl
theorem toB_bool (b : Bool) : (PV.bool b).toB = b := rfl
theorem isB_bool (b : Bool) : (PV.bool b).isB = true := rfl
theorem ite_tt (c : Bool) : (if c = true then true else true) = true := by cases c <;> rfl
theorem SS3 : type_of% (And.intro (And.intro (And.intro (sc_list) (And.intro (sc_nilSl) (And.intro (sc_nilFn) (sc_nilPtr)))) (And.intro (sc_nilMap) (And.intro (sc_fn) (And.intro (sc_sl) (sc_mref))))) (And.intro (And.intro (And.intro (sc_ref) (sc_cmap)) (And.intro (sc_full) (And.intro (part_list) (And.intro part_nilSl part_sl)))) (And.intro (And.intro (partSh_list) (And.intro (partSh_nilSl) partSh_nilMap)) (And.intro (And.intro (And.intro partSh_sl (And.intro toB_bool (And.intro isB_bool ite_tt))) (partSh_mref)) (And.intro (partSh_fn) (partSh_cmap)))))) :=
  (And.intro (And.intro (And.intro (sc_list) (And.intro (sc_nilSl) (And.intro (sc_nilFn) (sc_nilPtr)))) (And.intro (sc_nilMap) (And.intro (sc_fn) (And.intro (sc_sl) (sc_mref))))) (And.intro (And.intro (And.intro (sc_ref) (sc_cmap)) (And.intro (sc_full) (And.intro (part_list) (And.intro part_nilSl part_sl)))) (And.intro (And.intro (partSh_list) (And.intro (partSh_nilSl) partSh_nilMap)) (And.intro (And.intro (And.intro partSh_sl (And.intro toB_bool (And.intro isB_bool ite_tt))) (partSh_mref)) (And.intro (partSh_fn) (partSh_cmap))))))
end PG

namespace PG
open Go
set_option linter.unusedSimpArgs false
set_option linter.unusedVariables false
set_option linter.unusedSectionVars false
section
variable {κ α : Type} [DecidableEq κ]
end
end PG

namespace PG
open Go
set_option linter.unusedSimpArgs false
set_option linter.unusedVariables false
mutual
inductive Sub : PV → PV → Prop
  | refl (p : PV) : Sub p p
  | nil (sh : Sh) : Sub .nilSl (.list sh [])
  | agg {ps qs : List PV} (h : SubL ps qs) : Sub (.agg ps) (.agg qs)
  | list {sh : Sh} {xs ys : List PV} (h : SubL xs ys) : Sub (.list sh xs) (.list sh ys)
inductive SubL : List PV → List PV → Prop
  | nil : SubL [] []
  | cons {p q : PV} {ps qs : List PV} (h : Sub p q) (t : SubL ps qs) : SubL (p :: ps) (q :: qs)
end
theorem SubL.len : ∀ {ps qs : List PV}, SubL ps qs → ps.length = qs.length
  | [], _, h => by cases h; rfl
  | p :: ps, _, h => by cases h with | cons h t => simp [SubL.len t]
theorem SubL.refl : ∀ (ps : List PV), SubL ps ps
  | [] => .nil
  | p :: ps => .cons (.refl p) (SubL.refl ps)
theorem SubL.get : ∀ {ps qs : List PV}, SubL ps qs → ∀ {i : Nat} {q : PV}, qs[i]? = some q → ∃ p, ps[i]? = some p ∧ Sub p q
  | [], _, h, i, q, hq => by cases h; simp at hq
  | p :: ps, _, h, i, q, hq => by
    cases h with
    | cons h t =>
      cases i with
      | zero => simp at hq; subst hq; exact ⟨p, rfl, h⟩
      | succ i => simp at hq; simpa using SubL.get t hq
theorem SubL.app : ∀ {ps qs rs ss : List PV}, SubL ps qs → SubL rs ss → SubL (ps ++ rs) (qs ++ ss)
  | [], _, _, _, h, k => by cases h; exact k
  | p :: ps, _, _, _, h, k => by cases h with | cons h t => exact .cons h (SubL.app t k)
theorem Sub.cells {p q : PV} (h : Sub p q) : SubL p.cells q.cells := by
  cases h with
  | refl => exact .refl _
  | nil sh => exact .cons (.nil sh) .nil
  | agg h => exact h
  | list h => exact .cons (.list h) .nil
theorem SubL.flat : ∀ {xs ys : List PV}, SubL xs ys → SubL (PG.flat xs) (PG.flat ys)
  | [], _, h => by cases h; exact .nil
  | x :: xs, _, h => by
    cases h with
    | cons h t => simp only [PG.flat, List.flatMap_cons]; exact SubL.app h.cells (SubL.flat t)
theorem Sub.scalar {p q : PV} (h : Sub p q) (hp : p.scalar = true) : q.scalar = true := by
  cases h with
  | refl => exact hp
  | nil sh => rfl
  | agg h => exact hp
  | list h => rfl
theorem SubL.scalars : ∀ {ps qs : List PV}, SubL ps qs → (∀ c ∈ ps, c.scalar = true) → ∀ c ∈ qs, c.scalar = true
  | [], _, h, _ => by cases h; simp
  | p :: ps, _, h, hp => by
    cases h with
    | cons h t =>
      intro c hc
      rcases List.mem_cons.1 hc with rfl | hc
      · exact h.scalar (hp p (by simp))
      · exact SubL.scalars t (fun c hc => hp c (by simp [hc])) c hc
theorem Sub.fits {sh : Sh} {p q : PV} (h : Sub p q) (hp : PG.fits sh p) : PG.fits sh q := by
  cases sh with
  | none => exact h.scalar hp
  | some n =>
    obtain ⟨cs, rfl, hl, hs⟩ := hp
    cases h with
    | refl => exact ⟨cs, rfl, hl, hs⟩
    | agg h => exact ⟨_, rfl, by rw [← h.len]; exact hl, h.scalars hs⟩
theorem SubL.fits {sh : Sh} : ∀ {xs ys : List PV}, SubL xs ys → (∀ x ∈ xs, PG.fits sh x) → ∀ y ∈ ys, PG.fits sh y
  | [], _, h, _ => by cases h; simp
  | x :: xs, _, h, hp => by
    cases h with
    | cons h t =>
      intro c hc
      rcases List.mem_cons.1 hc with rfl | hc
      · exact h.fits (hp x (by simp))
      · exact SubL.fits t (fun c hc => hp c (by simp [hc])) c hc
theorem RepC.sub {w : World} {ex : Nat → Prop} {v : Value} {p : PV} (h : RepC w ex v p) : ∀ {q : PV}, Sub p q → RepC w ex v q := by
  induction h with
  | nilSl =>
    intro q hq
    cases hq with
    | refl => exact .nilSl
    | nil sh => exact .list none 0 0 sh [] 0 0 (fun _ => undef) rfl (Nat.le_refl _) (Nat.zero_le _) (by simp) (by simp) (by simp [flat]) (by simp [flat])
  | list a len cap sh xs b off val hlen hcap hmax hfit ha hc hr ih =>
    intro q hq
    cases hq with
    | refl => exact .list a len cap sh xs b off val hlen hcap hmax hfit ha hc hr
    | list hs =>
      have hf := hs.flat
      refine .list a len cap sh _ b off val (by rw [hlen, hs.len]) hcap hmax (hs.fits hfit) (fun hne => ha (fun e => hne ?_)) (fun j hj => hc j (by rw [hf.len]; exact hj)) (fun j p hp => ?_)
      · have := hs.len; rw [e] at this; exact List.eq_nil_of_length_eq_zero (by simpa using this.symm)
      · obtain ⟨p', hp', hs'⟩ := hf.get hp
        exact ih j p' hp' hs'
  | agg vs ps hs hr ih =>
    intro q hq
    cases hq with
    | refl => exact .agg vs ps hs hr
    | agg h =>
      refine .agg vs _ (by rw [hs, h.len]) (fun i v p hv hp => ?_)
      obtain ⟨p', hp', hs'⟩ := h.get hp
      exact ih i v p' hv hp' hs'
  | int k n => intro q hq; cases hq; exact .int k n
  | bool b => intro q hq; cases hq; exact .bool b
  | str s => intro q hq; cases hq; exact .str s
  | fn f first caps ps qs h1 h2 h3 h4 _ _ => intro q hq; cases hq; exact .fn f first caps ps qs h1 h2 h3 h4
  | nilFn => intro q hq; cases hq; exact .nilFn
  | nilPtr => intro q hq; cases hq; exact .nilPtr
  | nilMap => intro q hq; cases hq; exact .nilMap
  | yl l => intro q hq; cases hq; exact .yl l
  | full a len sh xs b off val hlen hmax hfit ha hc hr _ => intro q hq; cases hq; exact .full a len sh xs b off val hlen hmax hfit ha hc hr
  | cmap r kd es ents clock hx h hs hB hkd hk hv _ _ => intro q hq; cases hq; exact .cmap r kd es ents clock hx h hs hB hkd hk hv
  | cptr b o off sh x val hfit hoff hc hr _ => intro q hq; cases hq; exact .cptr b o off sh x val hfit hoff hc hr
  | tup vs ps hs hr _ => intro q hq; cases hq; exact .tup vs ps hs hr
theorem VCalls.sub {P : Program} {G : Globs} {f : Nat} {as bs : List PV} {res : PV} (h : VCalls P G f bs res) (hs : SubL as bs) : VCalls P G f as res := by
  intro w ex vs hex hG hv
  refine h w ex vs hex hG ⟨by rw [hv.1, hs.len], fun i v q hvi hq => ?_⟩
  obtain ⟨p, hp, hs'⟩ := hs.get hq
  exact (hv.2 i v p hvi hp).sub hs'
/-- A result that is told otherwise. -/
theorem VCalls.res {P : Program} {G : Globs} {f : Nat} {as : List PV} {p q : PV} (h : VCalls P G f as p) (hs : Sub p q) : VCalls P G f as q := by
  intro w ex vs hex hG hv
  refine (h w ex vs hex hG hv).mono ?_
  rintro e w' ⟨v, rfl, hB, hr⟩
  exact ⟨v, rfl, hB, hr.sub hs⟩
end PG

namespace PG
open Go
set_option linter.unusedSimpArgs false
theorem mem_get4 (o : Option MObj) (μ : Mem) : Mem.get (o :: μ) 4 = Mem.get μ 3 := by simp [Mem.get]
theorem mem_get5 (o : Option MObj) (μ : Mem) : Mem.get (o :: μ) 5 = Mem.get μ 4 := by simp [Mem.get]
theorem mem_get6 (o : Option MObj) (μ : Mem) : Mem.get (o :: μ) 6 = Mem.get μ 5 := by simp [Mem.get]
theorem mem_get7 (o : Option MObj) (μ : Mem) : Mem.get (o :: μ) 7 = Mem.get μ 6 := by simp [Mem.get]
theorem mem_get8 (o : Option MObj) (μ : Mem) : Mem.get (o :: μ) 8 = Mem.get μ 7 := by simp [Mem.get]
theorem mem_get9 (o : Option MObj) (μ : Mem) : Mem.get (o :: μ) 9 = Mem.get μ 8 := by simp [Mem.get]
theorem mem_get10 (o : Option MObj) (μ : Mem) : Mem.get (o :: μ) 10 = Mem.get μ 9 := by simp [Mem.get]
theorem mem_get11 (o : Option MObj) (μ : Mem) : Mem.get (o :: μ) 11 = Mem.get μ 10 := by simp [Mem.get]
theorem mem_set3 (a b c o x : Option MObj) (μ : List (Option MObj)) : (a :: b :: c :: o :: μ).set 3 x = a :: b :: c :: x :: μ := rfl
theorem mem_set4 (a b c d o x : Option MObj) (μ : List (Option MObj)) : (a :: b :: c :: d :: o :: μ).set 4 x = a :: b :: c :: d :: x :: μ := rfl
theorem mem_set5 (a b c d e o x : Option MObj) (μ : List (Option MObj)) : (a :: b :: c :: d :: e :: o :: μ).set 5 x = a :: b :: c :: d :: e :: x :: μ := rfl
theorem mem_set6 (a b c d e f o x : Option MObj) (μ : List (Option MObj)) : (a :: b :: c :: d :: e :: f :: o :: μ).set 6 x = a :: b :: c :: d :: e :: f :: x :: μ := rfl
theorem mem_set7 (a b c d e f g o x : Option MObj) (μ : List (Option MObj)) : (a :: b :: c :: d :: e :: f :: g :: o :: μ).set 7 x = a :: b :: c :: d :: e :: f :: g :: x :: μ := rfl
theorem mem_set8 (a b c d e f g h o x : Option MObj) (μ : List (Option MObj)) : (a :: b :: c :: d :: e :: f :: g :: h :: o :: μ).set 8 x = a :: b :: c :: d :: e :: f :: g :: h :: x :: μ := rfl
theorem mem_set9 (a b c d e f g h i o x : Option MObj) (μ : List (Option MObj)) : (a :: b :: c :: d :: e :: f :: g :: h :: i :: o :: μ).set 9 x = a :: b :: c :: d :: e :: f :: g :: h :: i :: x :: μ := rfl
theorem mem_set10 (a b c d e f g h i j o x : Option MObj) (μ : List (Option MObj)) : (a :: b :: c :: d :: e :: f :: g :: h :: i :: j :: o :: μ).set 10 x = a :: b :: c :: d :: e :: f :: g :: h :: i :: j :: x :: μ := rfl
theorem mem_set11 (a b c d e f g h i j k o x : Option MObj) (μ : List (Option MObj)) : (a :: b :: c :: d :: e :: f :: g :: h :: i :: j :: k :: o :: μ).set 11 x = a :: b :: c :: d :: e :: f :: g :: h :: i :: j :: k :: x :: μ := rfl
theorem SS4 : type_of% (And.intro (And.intro (And.intro (And.intro (@mem_get4) (@mem_get5)) (And.intro (@mem_get6) (@mem_get7))) (And.intro (And.intro (@mem_get8) (@mem_get9)) (And.intro (@mem_get10) (@mem_get11)))) (And.intro (And.intro (And.intro (@mem_set3) (@mem_set4)) (And.intro (@mem_set5) (@mem_set6))) (And.intro (And.intro (@mem_set7) (@mem_set8)) (And.intro (@mem_set9) (And.intro (@mem_set10) (@mem_set11)))))) :=
  (And.intro (And.intro (And.intro (And.intro (@mem_get4) (@mem_get5)) (And.intro (@mem_get6) (@mem_get7))) (And.intro (And.intro (@mem_get8) (@mem_get9)) (And.intro (@mem_get10) (@mem_get11)))) (And.intro (And.intro (And.intro (@mem_set3) (@mem_set4)) (And.intro (@mem_set5) (@mem_set6))) (And.intro (And.intro (@mem_set7) (@mem_set8)) (And.intro (@mem_set9) (And.intro (@mem_set10) (@mem_set11))))))
end PG

namespace PG
open Go
set_option linter.unusedSimpArgs false
set_option linter.unusedVariables false
variable {P : Program} {n : Nat} {t : TypeId} {ps : List PV}
theorem shC_int {k : IntKind} (hu : P.underlying t = some (.int k)) (h : ShC P (n + 1) t ps) : ∃ m, ps = [.int k m] ∧ k.min ≤ m ∧ m ≤ k.max := by
  unfold ShC at h; rw [hu] at h
  obtain ⟨m, h1, h2⟩ := h
  simp only [Lit.wf, Bool.and_eq_true, decide_eq_true_eq] at h2
  exact ⟨m, h1, h2⟩
theorem shC_slice {e : TypeId} (hu : P.underlying t = some (.slice e)) (h : ShC P (n + 1) t ps) : ∃ sh xs, shOf P e = some sh ∧ ps = [.list sh xs] ∧ xs.length ≤ 9223372036854775807 ∧ ∀ x ∈ xs, fits sh x ∧ ShC P n e x.cells := by
  unfold ShC at h; rw [hu] at h
  exact h
theorem shA_slice {e : TypeId} {p : PV} (hu : P.underlying t = some (.slice e)) (h : ShA P (n + 1) t p) : ∃ sh xs, shOf P e = some sh ∧ p = .list sh xs ∧ xs.length ≤ 9223372036854775807 ∧ ∀ x ∈ xs, fits sh x ∧ ShC P n e x.cells := by
  unfold ShA at h; rw [hu] at h
  obtain ⟨sh, xs, h1, h2, h3⟩ := shC_slice hu h
  cases h2
  exact ⟨sh, xs, h1, rfl, h3⟩
theorem list_of {α : Type} (f : α → PV) (Q : α → Prop) : ∀ {xs : List PV}, (∀ x ∈ xs, ∃ a, x = f a ∧ Q a) → ∃ l : List α, xs = l.map f ∧ ∀ a ∈ l, Q a
  | [], _ => ⟨[], rfl, by simp⟩
  | x :: xs, h => by
    obtain ⟨a, rfl, ha⟩ := h x (by simp)
    obtain ⟨l, rfl, hl⟩ := list_of f Q (xs := xs) (fun y hy => h y (by simp [hy]))
    exact ⟨a :: l, rfl, by simpa using ⟨ha, hl⟩⟩
theorem fits_cells {sh : Sh} {x : PV} (h : fits sh x) : match sh with
    | none => x.cells = [x]
    | some n => ∃ cs, x = .agg cs ∧ x.cells = cs ∧ cs.length = n := by
  cases sh with
  | none =>
    have h' : x.scalar = true := h
    cases x <;> first | rfl | (simp [PV.scalar] at h')
  | some n => obtain ⟨cs, rfl, h, _⟩ := h; exact ⟨cs, rfl, rfl, h⟩
end PG

namespace PG
open Go
set_option linter.unusedSimpArgs false
set_option linter.unusedVariables false
/-- A size that is handed down to parts, and what it gives of lengths. -/
structure SzOk {H : Type} (Q : Nat → Prop) (Sz : DataW H → Prop) : Prop where
  zero : Q 0
  str : ∀ l, Sz (.lit (.string l)) → Q l.length
  slice : ∀ es sp, Sz (.slice es sp) → Q es.length ∧ ∀ e ∈ es, Sz e
  agg : ∀ ps, Sz (.agg ps) → ∀ p ∈ ps, Sz p
section
open Go.RowKit Go.WideShapes Go.ChangeShapes
variable {H : Type} {enc : TypeId × Value → H} {P : Program}
end


section
variable {P : Program} {Q : Nat → Prop} {n : Nat} {t : TypeId} {ps : List PV}
end
end PG

namespace PG
open Go
set_option linter.unusedSimpArgs false
set_option linter.unusedVariables false
section
variable {P : Program} {G : Globs} {N : Nat} {C : Ctx} {a : Act} {w : World} {κ : Kap} {env : Env} {μ : Mem}
def frzE (t : Nat) (o : MObj) (env : Env) : Env := env.map fun x => (x.1, x.2.frz t o)
def frzMem (t : Nat) (o : MObj) (μ : Mem) : Mem := (μ.map (Option.map (MObj.frz t o))).set t none
theorem SR.frz {C : Ctx} {a : Act} (hR : SR G N C a w κ env μ) (t : Nat) (o : MObj) (hm : μ.get t = some o) (hmv : C.mv t = true) : SR G N C a w (κ.del t) (frzE t o env) (frzMem t o μ) := by
  have hG : Goes w κ w (κ.del t) (fun i => i = t) := Goes.del t
  refine ⟨hR.size, hR.defers, fun i => ?_, hR.sim.frz hm, globs_goes hR.globs hG, hR.goes.trans (hG.weak fun i hi => by rw [hi]; exact hmv)⟩
  have key : ∀ (env : Env) (v : Value), Rep w (PG.own κ) κ v (env.get i) → Rep w (PG.own (κ.del t)) (κ.del t) v (Env.get (env.map fun x => (x.1, x.2.frz t o)) i) := by
    intro env v
    induction env with
    | nil => intro _; exact .junk v
    | cons y e ih =>
      obtain ⟨j, p⟩ := y
      simp only [Env.get, List.map_cons]
      split
      · exact fun h => Rep.frz hR.sim hm h
      · exact ih
  exact key env _ (hR.regs i)
variable {mv : Nat → Bool} {Q : Post}
/-- What is known behind a region's first part: an owned row, or map, is told by value from here on. -/
def frzK (mv : Nat → Bool) (t : Nat) (K : Env → Mem → Prop) (env : Env) (μ : Mem) : Prop := ∃ o, μ.get t = some o ∧ mv t = true ∧ K (frzE t o env) (frzMem t o μ)
theorem frzK.mk {t : Nat} {K : Env → Mem → Prop} {o : MObj} (h1 : μ.get t = some o) (h2 : mv t = true) (h3 : K (frzE t o env) (frzMem t o μ)) : frzK mv t K env μ := ⟨o, h1, h2, h3⟩
/-- A drawn region whose orders all end alike: what stands behind it is walked once. -/
def mergeQ (E : Env) (M : Mem) : Post := fun e env μ => e = .normal ∧ env = E ∧ μ = M
theorem mergeQ_mk (E : Env) (M : Mem) : mergeQ E M .normal E M := ⟨rfl, rfl, rfl⟩
theorem mergeQ_elim {E : Env} {M : Mem} {Q : Post} (h : Q .normal E M) : ∀ e env μ, mergeQ E M e env μ → Q e env μ := by
  rintro e env μ ⟨rfl, rfl, rfl⟩; exact h
/-- What stands behind, out of sight. -/
theorem PW.seqK {x y : PCode} (h : ∀ K : Post, K = seqQ P G N mv y Q → PW P G N mv x env μ K) : PW P G N mv (.seq x y) env μ Q := PW.seq (h _ rfl)
theorem seqK_n {y : PCode} {K : Post} (hK : K = seqQ P G N mv y Q) (h : PW P G N mv y env μ Q) : K .normal env μ := by rw [hK]; exact h
theorem seqK_r {y : PCode} {K : Post} (hK : K = seqQ P G N mv y Q) (h : Q .ret env μ) : K .ret env μ := by rw [hK]; exact h
theorem seqK_e {y : PCode} {K : Post} {i : Nat} (hK : K = seqQ P G N mv y Q) (h : Q (.exit i) env μ) : K (.exit i) env μ := by rw [hK]; exact h
theorem PW.seqA {s : Sched} {L : List Nat} {y : PCode} {E : Env} {M : Mem} (h : schedW P G mv s env μ fun env' μ' => mergeQ E M .normal (keepE L env') μ') (h2 : PW P G N mv y E M Q) : PW P G N mv (.seq (.regionA s L) y) env μ Q :=
  PW.seq (PW.mono (Q := mergeQ E M) (PW.regionA h) (mergeQ_elim h2))
end
end PG

namespace PG
open Go
set_option linter.unusedSimpArgs false
set_option linter.unusedVariables false
section
variable {P : Program} {G : Globs} {N : Nat} {w : World} {κ : Kap} {env : Env} {μ : Mem} {mv : Nat → Bool} {Q : Post}
theorem Rep.nilto {ex : Nat → Prop} {v : Value} (sh : Sh) (h : Rep w ex κ v .nilSl) : Rep w ex κ v (.list sh []) := by
  cases h with
  | closed h => exact .closed (h.sub (.nil sh))
/-- Field by field the same, or nil and an empty list. -/
inductive NilL : List PV → List PV → Prop
  | nil : NilL [] []
  | same {p : PV} {ps qs : List PV} (t : NilL ps qs) : NilL (p :: ps) (p :: qs)
  | nilto (sh : Sh) {ps qs : List PV} (t : NilL ps qs) : NilL (.nilSl :: ps) (.list sh [] :: qs)
theorem NilL.len {ps qs : List PV} (h : NilL ps qs) : ps.length = qs.length := by
  induction h with
  | nil => rfl
  | same _ ih => simp [ih]
  | nilto _ _ ih => simp [ih]
theorem NilL.get {ex : Nat → Prop} {ps qs : List PV} (h : NilL ps qs) : ∀ {j : Nat} {q : PV} {v : Value}, qs[j]? = some q → (∀ p, ps[j]? = some p → Rep w ex κ v p) → Rep w ex κ v q := by
  induction h with
  | nil => intro j q v h _; simp at h
  | same _ ih =>
    intro j q v h hp
    cases j with
    | zero => exact hp q h
    | succ j => exact ih (by simpa using h) (fun p h => hp p (by simpa using h))
  | nilto sh _ ih =>
    intro j q v h hp
    cases j with
    | zero => simp at h; subst h; exact (hp .nilSl (by simp)).nilto sh
    | succ j => exact ih (by simpa using h) (fun p h => hp p (by simpa using h))
/-- Nil slices in a variable's fields are empty lists. -/
theorem PW.subM {x : PCode} (t n : Nat) (ps qs : List PV) (hs : NilL ps qs) (hm : μ.get t = some (.var (some n) (.agg ps))) (h : PW P G N mv x env (μ.set t (some (.var (some n) (.agg qs)))) Q) : PW P G N mv x env μ Q := by
  intro ow L code hc hmix C a w κ hmv hR
  have hg := Mem.get_some hm
  have hlt : t < μ.length := (List.getElem?_eq_some_iff.1 hg).1
  refine h ow L code hc hmix C a w κ hmv ⟨hR.size, hR.defers, hR.regs, ⟨hR.sim.inj, hR.sim.lt, fun i c hic => ?_, fun i o hi => ?_, hR.sim.exlt, hR.sim.exout⟩, hR.globs, hR.goes⟩
  · obtain ⟨o, h1, h2⟩ := hR.sim.live i c hic
    by_cases hit : i = t
    · subst hit
      rw [hg] at h1; cases h1
      refine ⟨_, List.getElem?_set_self hlt, ?_⟩
      cases h2 with
      | var b arr E _ _ hh hsz hsh hr =>
        refine .var b arr E (some n) _ hh hsz ?_ (fun j p v hp hv => ?_)
        · obtain ⟨cs, hcs, hl⟩ := hsh; cases hcs; exact ⟨_, rfl, by rw [← hs.len]; exact hl⟩
        · exact hs.get hp (fun p hp => hr j p v hp hv)
    · exact ⟨o, by rw [List.getElem?_set_ne (Ne.symm hit)]; exact h1, h2⟩
  · by_cases hit : i = t
    · subst hit; exact hR.sim.dead i _ hg
    · rw [List.getElem?_set_ne (Ne.symm hit)] at hi; exact hR.sim.dead i o hi
theorem goCallG_skip {q : Bool} {d : Option Nat} {rest : List CO} {K : Env → Mem → Prop} {b want : Bool} {f : PV} {as : List PV} (hb : (b == want) = false) (h : opsW P G q mv rest (putE env d (.cond (b == want) .junk)) μ K) : goCallG P G q mv d rest env K μ b want f as := by
  unfold goCallG
  exact ⟨.junk, fun e => absurd hb (by rw [e]; simp), h⟩
/-- A call met by a contract: its arguments' print to be shown alike. -/
theorem goCall_W {q : Bool} {d : Option Nat} {rest : List CO} {K : Env → Mem → Prop} {f : Nat} {ps qs as as' : List PV} {res : PV} (hE : Ent P f) (hV : VCalls P G f as' res) (ha : (ps ++ as ++ qs).map (PV.view μ) = as') (hs : ((ps ++ as ++ qs).map (PV.seen μ)).all id = true)
    (hf : res.flat = true ∨ q = false ∧ ((ps ++ as ++ qs).map PV.noOwn).all id = true) (h : opsW P G q mv rest (putE env d res) μ K) : goCall P G q mv d rest env K μ (.fn f ps qs) as :=
  goCall_V hE (by rw [ha]; exact hV) hs hf h
def Gd (b want : Bool) (X : Prop) : Prop := b = want → X
theorem gd_i {b want : Bool} {X : Prop} (h : b = want → X) : Gd b want X := h
theorem goCallG_W {q : Bool} {d : Option Nat} {rest : List CO} {K : Env → Mem → Prop} {b want : Bool} {f : Nat} {ps qs as as' : List PV} {res : PV} (hE : Ent P f) (hV : VCalls P G f as' res) (ha : Gd b want ((ps ++ as.map (PV.under true) ++ qs).map (PV.view μ) = as')) (hok : Gd b want (okAll as))
    (hs : Gd b want (((ps ++ as.map (PV.under true) ++ qs).map (PV.seen μ)).all id = true)) (hf : res.flat = true) (h : opsW P G q mv rest (putE env d (.cond (b == want) res)) μ K) : goCallG P G q mv d rest env K μ b want (.fn f ps qs) as :=
  goCallG_V hE hok (fun e => by rw [ha e]; exact hV) hs hf h
end
end PG

namespace PG
open Go
set_option linter.unusedSimpArgs false
set_option linter.unusedVariables false
section
variable {P : Program} {G : Globs}
theorem flat_scal : ∀ {xs : List PV}, (∀ x ∈ xs, x.scalar = true) → flat xs = xs
  | [], _ => rfl
  | x :: xs, h => by
    have h1 := h x (by simp)
    have h2 := flat_scal (xs := xs) fun y hy => h y (by simp [hy])
    have : x.cells = [x] := by cases x <;> simp_all [PV.cells, PV.scalar]
    simp only [flat, List.flatMap_cons, this] at *
    rw [h2]; rfl
/-- A slice of cells, of new memory. -/
theorem FCalls.row {f : Nat} {args : List PV} {xs : List PV} (E : TypeId) (hx : ∀ x ∈ xs, x.scalar = true ∧ x.flat = true)
    (h : ∀ (w : World) (ex : Nat → Prop) (vs : Array Value), (∀ b, ex b → b < w.heap.size) → GlobsIn w ex G → RepCs w ex vs args →
      Calls P f vs w fun e w' => ∃ v vals, e = .returned v ∧ w'.ownsRow w.heap.size E 1 v xs.length vals ∧ (∀ (j : Nat) (p : PV) (u : Value), xs[j]? = some p → vals[j]? = some u → RepC w' ex u p) ∧ RowKit.Below w.heap.size w w') :
    FCalls P G f args (fun p ν => p = .sl none 0 xs.length ∧ ν = [some (.row none xs)]) := by
  intro w ex vs hex hG hr
  refine (h w ex vs hex hG hr).mono ?_
  rintro e w' ⟨v, vals, rfl, ⟨hl, hv⟩, hval, hB⟩
  rcases hv with ⟨rfl, hz⟩ | ⟨g, cap, cur, rfl, hb, hg, h0, h1, h2, h3⟩
  · have hxs : xs = [] := List.eq_nil_of_length_eq_zero hz
    subst hxs
    let κ' : Kap := ⟨fun t => if t = 0 then some none else none, ex⟩
    have kt : ∀ t c, κ' t = some c → t = 0 ∧ c = none := by
      intro t c ht
      by_cases h0 : t = 0
      · subst h0; exact ⟨rfl, by cases ht; rfl⟩
      · exact absurd ht (by show (if t = 0 then some none else none) ≠ some c; rw [if_neg h0]; exact fun h => by cases h)
    refine ⟨_, _, _, κ', rfl, ⟨rfl, rfl⟩, ⟨?_, ?_, ?_, ?_, ?_, ?_⟩, rfl, .slnil none 0 rfl, hB, ?_⟩
    · intro t t' b h1; have := (kt t _ h1).2; cases this
    · intro t b h1; have := (kt t _ h1).2; cases this
    · intro t c h1
      obtain ⟨rfl, rfl⟩ := kt t c h1
      exact ⟨_, rfl, .nilrow none⟩
    · intro t o h1
      cases t with
      | zero => exact fun h => by cases h
      | succ t => simp at h1
    · intro b h1; have := hex b h1; have := hB.size; omega
    · intro t b h1; have := (kt t _ h1).2; cases this
    · intro t b h1; have := (kt t _ h1).2; cases this
  · let κ' : Kap := ⟨fun t => if t = 0 then some (some g) else none, ex⟩
    have kt : ∀ t c, κ' t = some c → t = 0 ∧ c = some g := by
      intro t c ht
      by_cases h0 : t = 0
      · subst h0; exact ⟨rfl, by cases ht; rfl⟩
      · exact absurd ht (by show (if t = 0 then some (some g) else none) ≠ some c; rw [if_neg h0]; exact fun h => by cases h)
    have hgl : g < w'.heap.size := (Array.getElem?_eq_some_iff.1 hg).1
    have hfl : flat xs = xs := flat_scal fun x h => (hx x h).1
    have h2' : cur.size = cap * Sh.size none := by simpa [Sh.size] using h2
    refine ⟨_, _, _, κ', rfl, ⟨rfl, rfl⟩, ⟨?_, ?_, ?_, ?_, ?_, ?_⟩, rfl, .sl none 0 _ g cap rfl ⟨E, ?_⟩ h0 h1, hB, ?_⟩
    · intro t t' b q1 q2; rw [(kt t _ q1).1, (kt t' _ q2).1]
    · intro t b q1; have := (kt t _ q1).2; cases this; exact hgl
    · intro t c q1
      obtain ⟨rfl, rfl⟩ := kt t c q1
      refine ⟨_, rfl, .row g cur E cap none xs hg h2' h1 (by omega) (fun x h => (hx x h).1) (fun j p u hp hu => ?_)⟩
      rw [hfl] at hp
      refine repC_flat (hval j p u hp ?_) (hx p (List.mem_of_getElem? hp)).2
      have hj : j < xs.length := (List.getElem?_eq_some_iff.1 hp).1
      rw [← h3, List.getElem?_take_of_lt (by omega)]
      simpa using hu
    · intro t o q1
      cases t with
      | zero => exact fun h => by cases h
      | succ t => simp at q1
    · intro b q1; have := hex b q1; have := hB.size; omega
    · intro t b q1 q2; have := hex b q2; have := (kt t _ q1).2; cases this; omega
    · unfold World.shape?; rw [hg]; simp [h2']
    · intro t b q1; have := (kt t _ q1).2; cases this; exact hb
/-- .. and told as a value. -/
theorem FCalls.val {f : Nat} {args : List PV} {R : PV → Mem → Prop} {res : PV} (h : FCalls P G f args R) (hR : ∀ p ν, R p ν → p.seen ν = true ∧ p.view ν = res) : VCalls P G f args res := by
  intro w ex vs hex hG hr
  refine (h w ex vs hex hG hr).mono ?_
  rintro e w' ⟨v, p, ν, κ', rfl, hp, hS, hx, hv, hB, -⟩
  obtain ⟨h1, h2⟩ := hR p ν hp
  have := rep_view hS hv h1
  rw [h2, hx] at this
  exact ⟨v, rfl, hB, this⟩
end
end PG

namespace PG
open Go
set_option linter.unusedSimpArgs false
set_option linter.unusedVariables false
section
variable {P : Program} {G : Globs} {N : Nat} {w w' : World} {κ : Kap} {env : Env} {μ : Mem} {mv : Nat → Bool} {Q : Post}

theorem Sim.swap (hS : Sim w κ μ) {t : Nat} {o o' : MObj} (hm : μ.get t = some o) (h : ∀ c, ORep w (own κ) κ c o → ORep w (own κ) κ c o') : Sim w κ (μ.set t (some o')) := by
  have hg := Mem.get_some hm
  have hlt : t < μ.length := (List.getElem?_eq_some_iff.1 hg).1
  refine ⟨hS.inj, hS.lt, fun i c hic => ?_, fun i o'' hi => ?_, hS.exlt, hS.exout⟩
  · obtain ⟨o1, h1, h2⟩ := hS.live i c hic
    by_cases hit : i = t
    · subst hit
      rw [hg] at h1; cases h1
      exact ⟨_, List.getElem?_set_self hlt, h c h2⟩
    · exact ⟨o1, by rw [List.getElem?_set_ne (Ne.symm hit)]; exact h1, h2⟩
  · by_cases hit : i = t
    · subst hit; exact hS.dead i _ hg
    · rw [List.getElem?_set_ne (Ne.symm hit)] at hi; exact hS.dead i o'' hi

/-- The first n objects are kept, no more is said of the others. -/
theorem PW.trim {x : PCode} (n : Nat) (hmv : ∀ t, n ≤ t → mv t = true) (h : PW P G N mv x (trimE n env) (trimM n μ) Q) : PW P G N mv x env μ Q := by
  intro ow L code hc hmix C a w κ hC hR
  exact h ow L code hc hmix C a w _ hC (hR.trim n (by rw [hC]; exact hmv))

/-! ### Rows that the library writes -/
theorem Sim.putRow (hS : Sim w κ μ) {t b : Nat} {o o1 : MObj} (hk : κ t = some (some b)) (hm : μ.get t = some o) (hos : w'.os = w.os) (htp : w'.tape = w.tape) (hou : w'.output = w.output) (hsz : w.heap.size ≤ w'.heap.size)
    (hw : ∀ k, k < w.heap.size → k ≠ b → w'.heap[k]? = w.heap[k]?) (hsh : ∀ s, w.shape? b = some s → w'.shape? b = some s) (ho : Goes w κ w' κ (fun _ => False) → ORep w' (own κ) κ (some b) o1) :
    Sim w' κ (μ.set t (some o1)) ∧ Goes w κ w' κ (fun _ => False) := by
  have hG : Goes w κ w' κ (fun _ => False) := by
    refine ⟨hos, htp, hou, hsz, rfl, fun k hkl hn => hw k hkl (fun e => hn ⟨t, by rw [e]; exact hk⟩), fun _ _ h => h, fun k s hs => ?_, fun _ _ h _ => h⟩
    by_cases e : k = b
    · subst e; exact hsh s hs
    · have hkl : k < w.heap.size := by
        unfold World.shape? at hs
        rcases Nat.lt_or_ge k w.heap.size with h | h
        · exact h
        · simp [Array.getElem?_eq_none h] at hs
      rw [shape?_of_block (hw k hkl e)]; exact hs
  have hg := Mem.get_some hm
  have hlt : t < μ.length := (List.getElem?_eq_some_iff.1 hg).1
  refine ⟨⟨hS.inj, fun i c h => Nat.lt_of_lt_of_le (hS.lt i c h) hsz, fun i c hic => ?_, fun i o'' hi => ?_, fun k h => Nat.lt_of_lt_of_le (hS.exlt k h) hsz, hS.exout⟩, hG⟩
  · obtain ⟨o2, h1, h2⟩ := hS.live i c hic
    by_cases hit : i = t
    · subst hit
      rw [hk] at hic; cases hic
      exact ⟨_, List.getElem?_set_self hlt, ho hG⟩
    · refine ⟨o2, by rw [List.getElem?_set_ne (Ne.symm hit)]; exact h1, ORep.still hG (fun k e => ?_) h2⟩
      subst e
      exact hw k (hS.lt i k hic) (fun e => hit (by subst e; exact hS.inj i t k hic hk))
  · by_cases hit : i = t
    · subst hit; exact hS.dead i _ hg
    · rw [List.getElem?_set_ne (Ne.symm hit)] at hi; exact hS.dead i o'' hi

theorem heap_put {α : Type} [Inhabited α] {enc : α → Value} {w : World} {g n : Nat} {os : Array Obj} {cur : Array Value} {e : TypeId} {fr : Nat × Nat} (d : Array α) (hb : w.heap[g]? = some (.cells cur e fr)) :
    (Sort.grow (Sort.putRow enc (Sort.ahead w n) g 0 d) os).heap[g]? = some (.cells (Sort.putCells enc 0 d cur) e fr) := by
  have hg : g < w.heap.size := (Array.getElem?_eq_some_iff.1 hb).1
  rw [Sort.heap_grow_old _ _ (by simpa using hg)]
  simp [Sort.putRow, Sort.mapBlock, Sort.ahead, Array.getElem?_modify, hb, Sort.onCells]
theorem grown_put {α : Type} [Inhabited α] {enc : α → Value} {w : World} {g n : Nat} {os : Array Obj} (d : Array α) : w.grownBy (Sort.grow (Sort.putRow enc (Sort.ahead w n) g 0 d) os) (some g) := by
  refine ⟨rfl, rfl, rfl, by simp, fun k hk hne => ?_⟩
  rw [Sort.heap_grow_old _ _ (by simpa using hk)]
  have : g ≠ k := fun e => hne (by rw [e])
  simp [Sort.putRow, Sort.mapBlock, Sort.ahead, Array.getElem?_modify, this]

/-- A function of the library that writes a row of the call's own, whole: what it hands back, and what the row then holds. -/
theorem PCalls.row {α : Type} [Inhabited α] {enc : α → Value} {pv : α → PV} (hrep : ∀ w ex a, RepC w ex (enc a) (pv a)) (hfl : ∀ a, (pv a).flat = true ∧ (pv a).scalar = true) {f : Nat} {t : Nat} {d d' : List α} (hl : d'.length = d.length) (hm : μ.get t = some (.row none (d.map pv)))
    {rv : Option Addr → Nat → Value} {rp : PV}
    (h1 : ∀ (blk off cap : Nat) (w : World), Sort.Holds enc w blk off d.toArray → blk < w.heap.size → d.length ≤ cap → Calls P f #[.slice (some ⟨blk, off, none⟩) d.length cap] w fun e w' => e = .returned (rv (some ⟨blk, off, none⟩) cap) ∧ ∃ n os, w' = Sort.grow (Sort.putRow enc (Sort.ahead w n) blk off d'.toArray) os)
    (h0 : d = [] → ∀ (w : World), Calls P f #[.slice none 0 0] w fun e w' => e = .returned (rv none 0) ∧ w' = w)
    (hr : ∀ (w : World) (κ : Kap) (a : Option Addr) (cap : Nat), Rep w (own κ) κ (.slice a d.length cap) (.sl none t d.length) → Rep w (own κ) κ (rv a cap) rp) :
    PCalls P G f [.sl none t d.length] μ (fun _ => false) (fun p μ' => p = rp ∧ μ' = μ.set t (some (.row none (d'.map pv)))) := by
  intro w κ vs hS hG hv
  obtain ⟨hvs, hv⟩ := hv
  obtain ⟨L⟩ := vs
  match L, hvs with
  | [v], _ =>
  have hv0 := hv 0 v _ rfl rfl
  have hv1 := hv0
  obtain ⟨c, hc, hO⟩ := hS.at hm
  obtain ⟨n0, hn0⟩ : ∃ n0, n0 = d.length := ⟨_, rfl⟩
  rw [← hn0] at hv0
  cases hv0 with
  | closed h => cases h
  | sl _ _ _ b cap hb hs hlc hmc =>
    subst hn0
    rw [hb] at hc; cases hc
    cases hO with
    | row _ cur E cap' _ _ hh hcs hm' hl' hfit hrr =>
      have hflat : flat (d.map pv) = d.map pv := flat_scal fun x hx => by obtain ⟨a, -, rfl⟩ := List.mem_map.1 hx; exact (hfl a).2
      have hcur : cur.size = cap' := by rw [hcs]; simp [Sh.size]
      have hld : d.length ≤ cap' := by simpa using hl'
      have hat : ∀ j (hj : j < d.length), cur[j]? = some (enc d[j]) := by
        intro j hj
        have hjc : j < cur.size := by omega
        have := hrr j (pv d[j]) cur[j] (by rw [hflat]; simp [hj]) (by simp [hjc])
        rw [Array.getElem?_eq_getElem hjc]
        congr 1
        exact repC_uniq (hrep w (own κ) d[j]) (hfl _).1 this
      have hH : Sort.Holds enc w b 0 d.toArray := by
        intro j hj
        have hj' : j < d.length := by simpa using hj
        refine ⟨?_, by simp [World.frozen?, hh]⟩
        simp only [World.cell?, hh, Nat.zero_add, Option.isSome_none, Bool.false_eq_true, if_false, hat j hj']
        simp [hj']
      refine (h1 b 0 cap w hH (Array.getElem?_eq_some_iff.1 hh).1 hlc).mono ?_
      rintro e w' ⟨rfl, n, os, rfl⟩
      have hgb := grown_put (enc := enc) (w := w) (g := b) (n := n) (os := os) d'.toArray
      have hhp := heap_put (enc := enc) (n := n) (os := os) d'.toArray hh
      obtain ⟨hS', hG'⟩ := hS.putRow hb hm (o1 := .row none (d'.map pv)) hgb.os hgb.tape hgb.output hgb.size (fun k hk hne => hgb.block k hk (fun e => hne (by cases e; rfl)))
        (fun s hs => by
          unfold World.shape? at hs ⊢
          rw [hhp]; rw [hh] at hs
          simpa [Sort.putCells] using hs)
        (fun hG' => by
          refine .row b _ E cap' none _ hhp (by simpa [Sort.putCells] using hcs) hm' (by simp [hl]; exact hld) (fun x hx => by obtain ⟨a, -, rfl⟩ := List.mem_map.1 hx; exact (hfl a).2) (fun j p u hp hu => ?_)
          rw [flat_scal fun x hx => by obtain ⟨a, -, rfl⟩ := List.mem_map.1 hx; exact (hfl a).2, List.getElem?_map] at hp
          cases hq : d'[j]? with
          | none => rw [hq] at hp; cases hp
          | some a =>
            rw [hq] at hp; simp at hp; subst hp
            have hj : j < d'.length := (List.getElem?_eq_some_iff.1 hq).1
            simp only [Sort.putCells, Array.getElem?_mapIdx] at hu
            rw [Array.getElem?_eq_getElem (by omega)] at hu
            simp only [Option.map_some, Nat.zero_le, Nat.zero_add, List.size_toArray, hj, and_self, if_true, Nat.sub_zero, Option.some.injEq] at hu
            rw [← hu]
            have : d'.toArray[j]! = a := by
              have := (List.getElem?_eq_some_iff.1 hq).2
              simp [hj, this]
            rw [this]
            exact hrep _ _ a)
      exact ⟨_, _, _, κ, rfl, ⟨rfl, rfl⟩, hS', hr _ κ _ cap (hv1.still hG'), hG'.weak fun _ h => h.elim⟩
  | slnil _ _ hb =>
    have hd : d = [] := List.eq_nil_of_length_eq_zero hn0.symm
    subst hd
    have hd' : d' = [] := List.eq_nil_of_length_eq_zero hl
    subst hd'
    refine (h0 rfl w).mono ?_
    rintro e w' ⟨rfl, rfl⟩
    refine ⟨_, _, _, κ, rfl, ⟨rfl, rfl⟩, ?_, hr _ κ none 0 hv1, Goes.refl _ _ _⟩
    exact hS.swap hm fun c h => h
end
end PG

namespace PG
open Go
set_option linter.unusedSimpArgs false
set_option linter.unusedVariables false
section
open Go.RowKit Go.WideShapes Go.ChangeShapes
variable {H : Type} {enc : TypeId × Value → H} {P : Program}
end
end PG

namespace PG
open Go
set_option linter.unusedSimpArgs false
set_option linter.unusedVariables false
section
variable {P : Program} {G : Globs} {N : Nat} {w : World} {κ : Kap} {env : Env} {μ : Mem} {mv : Nat → Bool} {Q : Post} {K : Env → Mem → Prop}
theorem PV.withIntP_mono {c : PV} {f g : Int → Prop} (h : ∀ n, f n → g n) (hc : c.withIntP f) : c.withIntP g := by
  unfold PV.withIntP at hc ⊢
  split <;> simp_all
theorem effW_mono {μ : Mem} {k : EK} {ps : List PV} {K K' : PV → Option Nat → Mem → Prop} (hk : ∀ p d m, K p d m → K' p d m) (h : effW μ k ps K) : effW μ k ps K' := by
  revert h
  unfold effW
  split <;> (try split) <;> (try split) <;> (try split) <;> intro h
  all_goals first
    | exact h.elim
    | (obtain ⟨h1, h2, h3⟩ := h; exact ⟨h1, h2, hk _ _ _ h3⟩)
    | exact hk _ _ _ h
    | exact PV.withIntP_mono (fun n ⟨h1, h2, h3, h4, h5⟩ => ⟨h1, h2, h3, h4, hk _ _ _ h5⟩) h
    | (obtain ⟨h1, h2, h3, h4, h5, h6⟩ := h; exact ⟨h1, h2, h3, h4, h5, hk _ _ _ h6⟩)
    | (obtain ⟨h1, h2, h3, h4⟩ := h; exact ⟨h1, h2, h3, hk _ _ _ h4⟩)
    | (obtain ⟨h1, h2, h3, h4, h5⟩ := h; exact ⟨h1, h2, h3, h4, hk _ _ _ h5⟩)
    | (obtain ⟨h1, h2⟩ := h; exact ⟨h1, hk _ _ _ h2⟩)
    | (obtain ⟨h1, h2⟩ := h; exact ⟨fun i a b => hk _ _ _ (h1 i a b), fun a => hk _ _ _ (h2 a)⟩)
    | skip
/-- What is known, in some other form. -/
def Wk (G : Globs) (N : Nat) (mv : Nat → Bool) (K : Env → Mem → Prop) (env : Env) (μ : Mem) : Prop :=
  ∀ (C : Ctx) (a : Act) (w : World) (κ : Kap), C.mv = mv → SR G N C a w κ env μ → ∃ env' μ' κ', SR G N C a w κ' env' μ' ∧ K env' μ'
theorem Wk.id (h : K env μ) : Wk G N mv K env μ := fun _ _ _ κ _ hR => ⟨env, μ, κ, hR, h⟩
theorem Wk.frz (t : Nat) (o : MObj) (hm : μ.get t = some o) (hmv : mv t = true) (h : Wk G N mv K (frzE t o env) (frzMem t o μ)) : Wk G N mv K env μ := by
  intro C a w κ hC hR
  exact h C a w _ hC (hR.frz t o hm (by rw [hC]; exact hmv))
theorem Wk.trim (n : Nat) (hmv : ∀ t, n ≤ t → mv t = true) (h : Wk G N mv K (trimE n env) (trimM n μ)) : Wk G N mv K env μ := by
  intro C a w κ hC hR
  exact h C a w _ hC (hR.trim n (by rw [hC]; exact hmv))
def CO.plain (c : CO) : Bool := c.wl || (match c.op with
  | .rd .loadC _ => true
  | _ => false)
/-- Operations, ahead of each of which what is known may be put in another form. -/
def opsX (P : Program) (G : Globs) (N : Nat) (mv : Nat → Bool) : List CO → Env → Mem → (Env → Mem → Prop) → Prop
  | [], env, μ, K => K env μ
  | c :: l, env, μ, K => if c.plain = true then stepW P G false mv c env μ (fun e m => opsX P G N mv l e m K) else Wk G N mv (fun e m => stepW P G false mv c e m (fun e m => opsX P G N mv l e m K)) env μ
def schedX (P : Program) (G : Globs) (N : Nat) (mv : Nat → Bool) : Sched → Env → Mem → (Env → Mem → Prop) → Prop
  | .done, env, μ, K => Wk G N mv K env μ
  | .stop, _, _, _ => True
  | .alt l s more, env, μ, K => opsX P G N mv l env μ (fun e m => schedX P G N mv s e m K) ∧ schedX P G N mv more env μ K
theorem stepW_mono {q : Bool} {c : CO} {K K' : Env → Mem → Prop} (hk : ∀ e m, K e m → K' e m) (h : stepW P G q mv c env μ K) : stepW P G q mv c env μ K' := by
  revert h
  unfold stepW
  split
  · split <;> intro h
    · exact ⟨h.1, hk _ _ h.2⟩
    · exact ⟨h.1, effW_mono (fun p d m hh => ⟨hh.1, hk _ _ hh.2⟩) h.2⟩
    · unfold calleeK at h ⊢
      split at h
      · rcases h with ⟨res, h1, h2, h3, h4⟩ | ⟨hq, hE, h⟩
        · exact .inl ⟨res, h1, h2, h3, hk _ _ h4⟩
        · refine .inr ⟨hq, hE, ?_⟩
          rcases h with ⟨R, h1, h2⟩ | ⟨t, R, h1, h2⟩
          · exact .inl ⟨R, h1, fun p m hr => ⟨(h2 p m hr).1, hk _ _ (h2 p m hr).2⟩⟩
          · exact .inr ⟨t, R, h1, fun p m hr => ⟨(h2 p m hr).1, hk _ _ (h2 p m hr).2⟩⟩
      · exact h.elim
  · split
    · unfold stepG
      split <;> intro h
      · exact ⟨h.1, hk _ _ h.2⟩
      · obtain ⟨h1, h2, h3⟩ := h
        exact ⟨h1, fun hb => ⟨(h2 hb).1, effW_mono (fun p d m hh => ⟨hh.1, hk _ _ hh.2⟩) (h2 hb).2⟩, fun hb => hk _ _ (h3 hb)⟩
      · obtain ⟨res, h1, h2⟩ := h
        exact ⟨res, h1, hk _ _ h2⟩
    · exact id
theorem opsX_mono : ∀ {l : List CO} {env : Env} {μ : Mem} {K K' : Env → Mem → Prop}, (∀ e m, K e m → K' e m) → opsX P G N mv l env μ K → opsX P G N mv l env μ K'
  | [], _, _, _, _, hk, h => hk _ _ h
  | c :: l, env, μ, K, K', hk, h => by
    unfold opsX at h ⊢
    split
    · rename_i hp
      rw [if_pos hp] at h
      exact stepW_mono (fun e m hh => opsX_mono hk hh) h
    · rename_i hp
      rw [if_neg hp] at h
      intro C a w κ hC hR
      obtain ⟨env', μ', κ', h1, h2⟩ := h C a w κ hC hR
      exact ⟨env', μ', κ', h1, stepW_mono (fun e m hh => opsX_mono hk hh) h2⟩
theorem opsX_app : ∀ {l l' : List CO} {env : Env} {μ : Mem}, opsX P G N mv l env μ (fun e m => opsX P G N mv l' e m K) → opsX P G N mv (l ++ l') env μ K
  | [], _, _, _, h => h
  | c :: l, l', env, μ, h => by
    rw [List.cons_append]
    unfold opsX at h ⊢
    split
    · rename_i hp
      rw [if_pos hp] at h
      exact stepW_mono (fun e m hh => opsX_app hh) h
    · rename_i hp
      rw [if_neg hp] at h
      intro C a w κ hC hR
      obtain ⟨env', μ', κ', h1, h2⟩ := h C a w κ hC hR
      exact ⟨env', μ', κ', h1, stepW_mono (fun e m hh => opsX_app hh) h2⟩
theorem Wk.bind {K : Env → Mem → Prop} {L : Env → Mem → Prop} (h : Wk G N mv L env μ) (hl : ∀ e m, L e m → Wk G N mv K e m) : Wk G N mv K env μ := by
  intro C a w κ hC hR
  obtain ⟨env', μ', κ', h1, h2⟩ := h C a w κ hC hR
  exact hl _ _ h2 C a w κ' hC h1
/-- The first operation, if it isn't plain, may come behind what is known in another form. -/
theorem opsX_wk {c : CO} {l : List CO} (hp : c.plain = false) (h : Wk G N mv (fun e m => opsX P G N mv (c :: l) e m K) env μ) : opsX P G N mv (c :: l) env μ K := by
  unfold opsX
  rw [if_neg (by rw [hp]; simp)]
  refine h.bind fun e m hh => ?_
  unfold opsX at hh
  rw [if_neg (by rw [hp]; simp)] at hh
  exact hh
/-- The same, told so that no unfolding is tried. -/
structure SX (P : Program) (G : Globs) (N : Nat) (mv : Nat → Bool) (s : Sched) (env : Env) (μ : Mem) (K : Env → Mem → Prop) : Prop where
  go : schedX P G N mv s env μ K
structure OX (P : Program) (G : Globs) (N : Nat) (mv : Nat → Bool) (l : List CO) (s : Sched) (env : Env) (μ : Mem) (K : Env → Mem → Prop) : Prop where
  go : opsX P G N mv l env μ fun e m => schedX P G N mv s e m K
theorem schedW_alt_k {l : List CO} {s more : Sched} (h1 : ∀ K' : Env → Mem → Prop, (K' = fun e m => schedW P G mv s e m K) → opsW P G false mv l env μ K') (h2 : schedW P G mv more env μ K) : schedW P G mv (.alt l s more) env μ K := ⟨h1 _ rfl, h2⟩
theorem schK_n {s : Sched} {K' : Env → Mem → Prop} (hK : K' = fun e m => schedW P G mv s e m K) (h : schedW P G mv s env μ K) : K' env μ := by rw [hK]; exact h
/-- Where a walk is to halt. -/
structure Stop (p : Prop) : Prop where
  go : p
theorem PW.stop {x : PCode} (h : Stop (PW P G N mv x env μ Q)) : PW P G N mv x env μ Q := h.go
end
end PG

namespace PG
open Go
set_option linter.unusedSimpArgs false
set_option linter.unusedVariables false
section
variable {P : Program} {G : Globs} {N : Nat} {w : World} {κ : Kap} {env : Env} {μ : Mem} {mv : Nat → Bool} {Q : Post}
end
end PG

namespace PG
open Go
set_option linter.unusedSimpArgs false
set_option linter.unusedVariables false
def swp (n t i : Nat) : Nat := if i = n then t else if i = t then n else i
theorem swp_swp (n t i : Nat) : swp n t (swp n t i) = i := by
  unfold swp
  by_cases h1 : i = n
  · subst h1
    by_cases h2 : t = i <;> simp [h2]
  · by_cases h2 : i = t
    · subst h2; simp [h1]
    · simp [h1, h2]
theorem swp_other {n t i : Nat} (h1 : i ≠ n) (h2 : i ≠ t) : swp n t i = i := by unfold swp; rw [if_neg h1, if_neg h2]
def PV.ren (g : Nat → Nat) : PV → PV
  | .sl sh t n => .sl sh (g t) n
  | .mref t => .mref (g t)
  | .ref t off => .ref (g t) off
  | .eptr t m i off => .eptr (g t) m i off
  | .agg ps => .agg (ps.map (PV.ren g))
  | .tup ps => .tup (ps.map (PV.ren g))
  | .fn f ps qs => .fn f (ps.map (PV.ren g)) (qs.map (PV.ren g))
  | .cond b p => .cond b (PV.ren g p)
  | p => p
def MObj.ren (g : Nat → Nat) : MObj → MObj
  | .var sh x => .var sh (x.ren g)
  | .mpo kd es => .mpo kd (es.map fun q => (q.1, q.2.ren g))
  | o => o
section
variable {P : Program} {G : Globs} {N : Nat} {C : Ctx} {a : Act} {w : World} {κ κ' : Kap} {env : Env} {μ : Mem} {mv : Nat → Bool} {Q : Post} {K : Env → Mem → Prop} {g : Nat → Nat}
theorem map_getR {f : PV → PV} (ps : List PV) (i : Nat) (p : PV) (h : (ps.map f)[i]? = some p) : ∃ q, ps[i]? = some q ∧ p = f q := by
  rw [List.getElem?_map] at h
  cases hq : ps[i]? with
  | none => simp [hq] at h
  | some q => simp [hq] at h; exact ⟨q, rfl, h.symm⟩
theorem ren_closed {ex : Nat → Prop} {v : Value} {p : PV} (h : RepC w ex v p) : RepC w ex v (p.ren g) := by
  induction h with
  | fn f first caps ps qs h1 h2 h3 h4 ih3 ih4 =>
    simp only [PV.ren]
    refine .fn f first caps _ _ (by simpa using h1) (by simpa using h2) (fun i v p a b => ?_) (fun i v p a b => ?_)
    · obtain ⟨q, hq, rfl⟩ := map_getR ps i p b
      exact ih3 i v q a hq
    · obtain ⟨q, hq, rfl⟩ := map_getR qs i p b
      exact ih4 i v q a hq
  | agg vs ps hs hr ih =>
    simp only [PV.ren]
    refine .agg vs _ (by simpa using hs) (fun i v p a b => ?_)
    obtain ⟨q, hq, rfl⟩ := map_getR ps i p b
    exact ih i v q a hq
  | tup vs ps hs hr ih =>
    simp only [PV.ren]
    refine .tup vs _ (by simpa using hs) (fun i v p a b => ?_)
    obtain ⟨q, hq, rfl⟩ := map_getR ps i p b
    exact ih i v q a hq
  | int k n => simp only [PV.ren]; exact .int k n
  | bool b => simp only [PV.ren]; exact .bool b
  | str s => simp only [PV.ren]; exact .str s
  | nilFn => simp only [PV.ren]; exact .nilFn
  | nilPtr => simp only [PV.ren]; exact .nilPtr
  | nilSl => simp only [PV.ren]; exact .nilSl
  | nilMap => simp only [PV.ren]; exact .nilMap
  | yl l => simp only [PV.ren]; exact .yl l
  | list a len cap sh xs b off val h1 h2 h3 h4 h5 h6 h7 _ => simp only [PV.ren]; exact RepC.list a len cap sh xs b off val h1 h2 h3 h4 h5 h6 h7
  | full a len sh xs b off val h1 h3 h4 h5 h6 h7 _ => simp only [PV.ren]; exact RepC.full a len sh xs b off val h1 h3 h4 h5 h6 h7
  | cmap r kd es ents clock h1 h2 h3 h4 h4' h5 h6 _ _ => simp only [PV.ren]; exact RepC.cmap r kd es ents clock h1 h2 h3 h4 h4' h5 h6
  | cptr b o off sh x val h1 h2 h3 h4 _ => simp only [PV.ren]; exact RepC.cptr b o off sh x val h1 h2 h3 h4
theorem Rep.ren {ex : Nat → Prop} (hk : ∀ t c, κ t = some c → κ' (g t) = some c) {v : Value} {p : PV} (h : Rep w ex κ v p) : Rep w ex κ' v (p.ren g) := by
  induction h with
  | junk v => simp only [PV.ren]; exact .junk v
  | closed h => exact .closed (ren_closed h)
  | ref t off b h => simp only [PV.ren]; exact .ref _ off b (hk _ _ h)
  | eptr t n i off b h => simp only [PV.ren]; exact .eptr _ n i off b (hk _ _ h)
  | sl sh t len b cap h hs hl hm => simp only [PV.ren]; exact .sl sh _ len b cap (hk _ _ h) hs hl hm
  | slnil sh t h => simp only [PV.ren]; exact .slnil sh _ (hk _ _ h)
  | mref t b h => simp only [PV.ren]; exact .mref _ b (hk _ _ h)
  | agg vs ps hs hr ih =>
    simp only [PV.ren]
    refine .agg vs _ (by simpa using hs) (fun i v p a b => ?_)
    obtain ⟨q, hq, rfl⟩ := map_getR ps i p b
    exact ih i v q a hq
  | tup vs ps hs hr ih =>
    simp only [PV.ren]
    refine .tup vs _ (by simpa using hs) (fun i v p a b => ?_)
    obtain ⟨q, hq, rfl⟩ := map_getR ps i p b
    exact ih i v q a hq
  | fn f first caps ps qs h1 h2 h3 h4 ih3 ih4 =>
    simp only [PV.ren]
    refine .fn f first caps _ _ (by simpa using h1) (by simpa using h2) (fun i v p a b => ?_) (fun i v p a b => ?_)
    · obtain ⟨q, hq, rfl⟩ := map_getR ps i p b
      exact ih3 i v q a hq
    · obtain ⟨q, hq, rfl⟩ := map_getR qs i p b
      exact ih4 i v q a hq
  | cond b h hu ih => simp only [PV.ren]; exact .cond b (fun hb => ih hb) hu
theorem ren_cells (x : PV) : (x.ren g).cells = x.cells.map (PV.ren g) := by
  cases x <;> simp [PV.ren, PV.cells]
theorem shaped_ren {sh : Sh} {x : PV} (h : shaped sh x) : shaped sh (x.ren g) := by
  cases sh with
  | none =>
    unfold shaped at h ⊢
    cases x <;> simp_all [PV.ren, PV.isAgg]
  | some n =>
    obtain ⟨cs, rfl, hl⟩ := h
    exact ⟨cs.map (PV.ren g), by simp [PV.ren], by simpa using hl⟩
theorem ORep.ren {ex : Nat → Prop} (hk : ∀ t c, κ t = some c → κ' (g t) = some c) {c : Option Nat} {o : MObj} (h : ORep w ex κ c o) : ORep w ex κ' c (o.ren g) := by
  cases h with
  | var b arr E sh x h hs hsh hr =>
    refine .var b arr E sh _ h hs (shaped_ren hsh) (fun j p v hp hv => ?_)
    rw [ren_cells] at hp
    obtain ⟨q, hq, rfl⟩ := map_getR _ j p hp
    exact (hr j q v hq hv).ren hk
  | nilrow sh => exact .nilrow sh
  | row b cur E cap sh xs h hs hm hl hfit hr => exact .row b cur E cap sh xs h hs hm hl hfit hr
  | mp b kd es ents clock h hs hB hkd h1 hv => exact .mp b kd es ents clock h hs hB hkd h1 hv
  | mpg b kd es ents clock h hs hkd h1 hv => exact .mpg b kd es ents clock h hs hkd h1 hv
  | iter b kd es seen m h hm => exact .iter b kd es seen m h hm
  | mpo b kd es ents clock h hs hB hkd h1 hv =>
    refine .mpo b kd _ ents clock h (by simpa using hs) hB (fun q hq => ?_) (fun i e q a d => ?_) (fun i e q a d => ?_)
    · obtain ⟨q0, h0, rfl⟩ := List.mem_map.1 hq; exact hkd q0 h0
    · obtain ⟨q0, h0, rfl⟩ := vals_get (f := PV.ren g) d; exact h1 i e q0 a h0
    · obtain ⟨q0, h0, rfl⟩ := vals_get (f := PV.ren g) d; exact (hv i e q0 a h0).ren hk
def swE (n t : Nat) (env : Env) : Env := env.map fun x => (x.1, x.2.ren (swp n t))
def swL {α : Type} (n t : Nat) (l : List (Option α)) : List (Option α) := (l.set n (l.getD t none)).set t (l.getD n none)
def swM (n t : Nat) (μ : Mem) : Mem := swL n t (μ.map (Option.map (MObj.ren (swp n t))))
theorem swL_get {α : Type} (l : List (Option α)) {n t : Nat} (hn : n < l.length) (ht : t < l.length) (i : Nat) : (swL n t l)[i]? = l[swp n t i]? := by
  unfold swL swp
  by_cases h2 : i = t
  · subst h2
    rw [List.getElem?_set_self (by simpa using ht)]
    by_cases h1 : i = n
    · subst h1; simp [List.getD, hn]
    · simp [h1, List.getD, hn]
  · rw [List.getElem?_set_ne (Ne.symm h2)]
    by_cases h1 : i = n
    · subst h1
      rw [List.getElem?_set_self hn]
      simp [List.getD, ht]
    · rw [List.getElem?_set_ne (Ne.symm h1)]
      simp [h1, h2]
def Kap.sw (κ : Kap) (n t : Nat) : Kap := ⟨fun i => κ (swp n t i), κ.ex⟩
theorem own_sw (κ : Kap) (n t : Nat) : own (κ.sw n t) = own κ := by
  funext b
  simp only [own, eq_iff_iff]
  constructor
  · rintro (h | ⟨i, hi⟩)
    · exact .inl h
    · exact .inr ⟨swp n t i, hi⟩
  · rintro (h | ⟨i, hi⟩)
    · exact .inl h
    · exact .inr ⟨swp n t i, by simp only [Kap.sw, swp_swp]; exact hi⟩
theorem sw_tags (κ : Kap) (n t : Nat) : ∀ i c, κ i = some c → (κ.sw n t) (swp n t i) = some c := fun i c h => by simp only [Kap.sw, swp_swp]; exact h
theorem Sim.sw (hS : Sim w κ μ) {n t : Nat} (hn : n < μ.length) (ht : t < μ.length) : Sim w (κ.sw n t) (swM n t μ) := by
  have hget : ∀ i, (swM n t μ)[i]? = (μ.map (Option.map (MObj.ren (swp n t))))[swp n t i]? := swL_get _ (by simpa using hn) (by simpa using ht)
  refine ⟨fun i j b hi hj => ?_, fun i b hi => hS.lt _ b hi, fun i c hi => ?_, fun i o hi => ?_, hS.exlt, fun i b hi => hS.exout _ b hi⟩
  · have := hS.inj _ _ b hi hj
    rw [← swp_swp n t i, this, swp_swp]
  · obtain ⟨o, h1, h2⟩ := hS.live _ c hi
    refine ⟨o.ren (swp n t), by rw [hget, List.getElem?_map, h1]; rfl, ?_⟩
    rw [own_sw]
    exact h2.ren (sw_tags κ n t)
  · rw [hget, List.getElem?_map] at hi
    cases hx : μ[swp n t i]? with
    | none => simp [hx] at hi
    | some x =>
      cases x with
      | none => simp [hx] at hi
      | some o' => exact hS.dead _ o' hx
theorem get_swE (n t : Nat) : ∀ (env : Env) (r : Nat), (swE n t env).get r = (env.get r).ren (swp n t)
  | [], _ => by simp [swE, Env.get, PV.ren]
  | (j, p) :: e, r => by
    simp only [swE, List.map_cons, Env.get]
    split
    · rfl
    · exact get_swE n t e r
theorem SR.sw (hR : SR G N C a w κ env μ) (n t : Nat) (hn : n < μ.length) (ht : t < μ.length) (h1 : C.mv n = true) (h2 : C.mv t = true) : SR G N C a w (κ.sw n t) (swE n t env) (swM n t μ) := by
  have hG : Goes w κ w (κ.sw n t) (fun i => i = n ∨ i = t) := by
    have ho := own_sw κ n t
    refine ⟨rfl, rfl, rfl, Nat.le_refl _, rfl, fun _ _ _ => rfl, fun b hb hno => ?_, fun _ _ h => h, fun i c hi hne => ?_⟩
    · rintro ⟨i, hi⟩; exact hno ⟨swp n t i, hi⟩
    · simp only [Kap.sw]
      rw [swp_other (fun e => hne (.inl e)) (fun e => hne (.inr e))]; exact hi
  refine ⟨hR.size, hR.defers, fun i => ?_, hR.sim.sw hn ht, globs_goes hR.globs hG, hR.goes.trans (hG.weak fun i hi => by rcases hi with rfl | rfl <;> assumption)⟩
  rw [get_swE, own_sw]
  exact (hR.regs i).ren (sw_tags κ n t)
theorem Wk.sw (n t : Nat) (hn : n < μ.length) (ht : t < μ.length) (h1 : mv n = true) (h2 : mv t = true) (h : Wk G N mv K (swE n t env) (swM n t μ)) : Wk G N mv K env μ := by
  intro C a w κ hC hR
  exact h C a w _ hC (hR.sw n t hn ht (by rw [hC]; exact h1) (by rw [hC]; exact h2))
end
end PG

namespace PG
open Go
set_option linter.unusedSimpArgs false
set_option linter.unusedVariables false
/-- Orders, by operations' numbers. -/
inductive IS where
  | done
  | stop
  | alt (l : List Nat) (s more : IS)
def IS.toS (ops : List CO) : IS → Sched
  | .done => .done
  | .stop => .stop
  | .alt l s more => .alt (l.map fun i => ops.getD i default) (s.toS ops) (more.toS ops)
def CO.tms (c : CO) : List Nat :=
  (match c.guard with
   | none => []
   | some (r, _) => [r]) ++
  (match c.op with
   | .rd _ xs => xs
   | .eff _ xs => xs
   | .call f xs => f :: xs).filterMap fun x : Opd => match x with
    | Opd.tmp t => some t
    | _ => none
structure Dg where
  ops : List CO
  pl : List (Nat × Nat × Nat)
  B : List Nat
  keys : List (List Nat)
  last : Nat
  allocs : List Nat := []
namespace Dg
def op (T : Dg) (i : Nat) : CO := T.ops.getD i default
/-- A set's class, by the order in which its operations came up. -/
def cls (T : Dg) : List Nat → Nat
  | [] => 0
  | i :: D => ((T.pl.find? fun p => p.1 == i && p.2.1 == T.cls D).map (·.2.2)).getD 9999
def kn (T : Dg) (D : List Nat) : List Nat := T.B ++ D.filterMap fun j => (T.op j).dst
/-- The last operation made memory: what is known may be put in form ahead of the next one. -/
def loose (T : Dg) : List Nat → Bool
  | [] => false
  | i :: _ => T.allocs.contains i
def okI (T : Dg) (D : List Nat) (i : Nat) : Bool :=
  (!T.loose D || !(T.op i).plain) &&
  T.pl.contains (i, T.cls D, T.cls (i :: D)) && (T.op i).tms.all (fun r => (T.kn D).contains r) && (T.kn D).all (fun r => (T.keys.getD (T.cls D) []).contains r)
def chkL (T : Dg) : List Nat → List Nat → Bool
  | _, [] => true
  | D, i :: l => T.okI D i && T.chkL (i :: D) l
def chk (T : Dg) : List Nat → IS → Bool
  | D, .done => (List.range T.ops.length).all (fun i => D.contains i) && T.cls D == T.last
  | _, .stop => true
  | D, .alt l s m => T.chkL D l && T.chk (l.reverse ++ D) s && T.chk D m
end Dg
def Agr (env V : Env) : List Nat → Prop
  | [] => True
  | r :: l => env.get r = V.get r ∧ Agr env V l
theorem Agr.of {env V : Env} : ∀ {l : List Nat}, (∀ r ∈ l, env.get r = V.get r) → Agr env V l
  | [], _ => trivial
  | r :: l, h => ⟨h r (by simp), Agr.of fun x hx => h x (by simp [hx])⟩
theorem Agr.mem {env V : Env} : ∀ {l : List Nat}, Agr env V l → ∀ r ∈ l, env.get r = V.get r
  | x :: l, h, r, hr => by
    rcases List.mem_cons.1 hr with rfl | hr
    · exact h.1
    · exact h.2.mem r hr
section
variable {P : Program} {G : Globs} {N : Nat} {mv : Nat → Bool} {Q : Post} {env : Env} {μ : Mem} {K : Env → Mem → Prop} {σ : Type}
/-- What is known of a class of sets. -/
structure Fam (σ : Type) where
  V : Nat → σ → Env
  M : Nat → σ → Mem
  Gd : Nat → σ → Prop
/-- An operation was done: what is known behind it. -/
structure Upd (T : Dg) (F : Fam σ) (d : Option Nat) (c c' : Nat) (s s' : σ) (env e : Env) : Prop where
  good : F.Gd c' s'
  keep : ∃ τ : PV → PV, (∀ r, d ≠ some r → e.get r = τ (env.get r)) ∧ ∀ r ∈ T.keys.getD c [], d ≠ some r → (F.V c' s').get r = τ ((F.V c s).get r)
  new : ∀ r, d = some r → e.get r = (F.V c' s').get r
def Dg.Aft (T : Dg) (G : Globs) (N : Nat) (mv : Nat → Bool) (F : Fam σ) (i c c' : Nat) (s s' : σ) (env : Env) (e : Env) (m : Mem) : Prop :=
  if T.allocs.contains i = true then Wk G N mv (fun E M' => M' = F.M c' s' ∧ Upd T F (T.op i).dst c c' s s' env E) e m else m = F.M c' s' ∧ Upd T F (T.op i).dst c c' s s' env e
def Dg.Ob (T : Dg) (P : Program) (G : Globs) (N : Nat) (mv : Nat → Bool) (F : Fam σ) (p : Nat × Nat × Nat) : Prop :=
  ∀ s, F.Gd p.2.1 s → ∀ env, Agr env (F.V p.2.1 s) (T.op p.1).tms → ∀ K : Env → Mem → Prop,
    (∀ s' e m, T.Aft G N mv F p.1 p.2.1 p.2.2 s s' env e m → K e m) → opsX P G N mv [T.op p.1] env (F.M p.2.1 s) K
def Dg.Obs (T : Dg) (P : Program) (G : Globs) (N : Nat) (mv : Nat → Bool) (F : Fam σ) : List (Nat × Nat × Nat) → Prop
  | [] => True
  | p :: l => T.Ob P G N mv F p ∧ T.Obs P G N mv F l
theorem Dg.Obs.mem {T : Dg} {F : Fam σ} : ∀ {l : List (Nat × Nat × Nat)}, T.Obs P G N mv F l → ∀ p ∈ l, T.Ob P G N mv F p
  | x :: l, h, p, hp => by
    rcases List.mem_cons.1 hp with rfl | hp
    · exact h.1
    · exact Dg.Obs.mem h.2 p hp
def Dg.Ex (T : Dg) (F : Fam σ) (D : List Nat) (env : Env) (μ : Mem) : Prop :=
  ∃ s, F.Gd (T.cls D) s ∧ μ = F.M (T.cls D) s ∧ ∀ r ∈ T.kn D, env.get r = (F.V (T.cls D) s).get r
def Dg.I (T : Dg) (G : Globs) (N : Nat) (mv : Nat → Bool) (F : Fam σ) (D : List Nat) (env : Env) (μ : Mem) : Prop :=
  if T.loose D = true then Wk G N mv (T.Ex F D) env μ else T.Ex F D env μ
theorem Dg.I.wk {T : Dg} {F : Fam σ} {D : List Nat} (h : T.I G N mv F D env μ) : Wk G N mv (T.Ex F D) env μ := by
  unfold Dg.I at h
  split at h
  · exact h
  · exact Wk.id h
theorem Dg.kn_cons (T : Dg) (i : Nat) (D : List Nat) (r : Nat) : r ∈ T.kn (i :: D) ↔ (T.op i).dst = some r ∨ r ∈ T.kn D := by
  unfold Dg.kn
  rw [List.filterMap_cons]
  cases hd : (T.op i).dst with
  | none => simp
  | some d =>
    simp only [List.mem_append, List.mem_cons, Option.some.injEq]
    constructor
    · rintro (h | h | h)
      · exact .inr (.inl h)
      · exact .inl h.symm
      · exact .inr (.inr h)
    · rintro (h | h | h)
      · exact .inr (.inl h.symm)
      · exact .inl h
      · exact .inr (.inr h)
theorem Wk.mono {K K' : Env → Mem → Prop} (hk : ∀ e m, K e m → K' e m) (h : Wk G N mv K env μ) : Wk G N mv K' env μ := by
  intro C a w κ hC hR
  obtain ⟨e, m, κ', h1, h2⟩ := h C a w κ hC hR
  exact ⟨e, m, κ', h1, hk _ _ h2⟩
theorem Dg.step {T : Dg} {F : Fam σ} (hO : T.Obs P G N mv F T.pl) {D : List Nat} {i : Nat} (hok : T.okI D i = true) (hI : T.I G N mv F D env μ) :
    opsX P G N mv [T.op i] env μ (T.I G N mv F (i :: D)) := by
  unfold Dg.okI at hok
  simp only [Bool.and_eq_true] at hok
  obtain ⟨⟨⟨h0, h1⟩, h2⟩, h3⟩ := hok
  have hO := Dg.Obs.mem hO (i, T.cls D, T.cls (i :: D)) (by simpa using h1)
  have ex : ∀ {env : Env} {μ : Mem}, T.Ex F D env μ → opsX P G N mv [T.op i] env μ (T.I G N mv F (i :: D)) := by
    rintro env μ ⟨s, hg, rfl, hk⟩
    refine hO s hg env (Agr.of fun r hr => hk r ?_) _ ?_
    · have := List.all_eq_true.1 h2 r hr; simpa using this
    · have up : ∀ s' e m, m = F.M (T.cls (i :: D)) s' ∧ Upd T F (T.op i).dst (T.cls D) (T.cls (i :: D)) s s' env e → T.Ex F (i :: D) e m := by
        rintro s' e m ⟨rfl, hg', ⟨τ, t1, t2⟩, hn⟩
        refine ⟨s', hg', rfl, fun r hr => ?_⟩
        by_cases hd : (T.op i).dst = some r
        · exact hn r hd
        · have hr2 : r ∈ T.kn D := ((T.kn_cons i D r).1 hr).resolve_left hd
          rw [t1 r hd, hk r hr2, ← t2 r ?_ hd]
          have := List.all_eq_true.1 h3 r hr2
          simpa using this
      intro s' e m ha
      unfold Dg.Aft at ha
      unfold Dg.I
      have hl : T.loose (i :: D) = T.allocs.contains i := rfl
      rw [hl]
      simp only at ha
      split at ha
      · rename_i hc
        rw [if_pos hc]
        exact Wk.mono (fun E M' h => up s' E M' h) ha
      · rename_i hc
        rw [if_neg hc]
        exact up s' e m ha
  by_cases hl : T.loose D = true
  · have hp : (T.op i).plain = false := by
      rw [hl] at h0
      simpa using h0
    refine opsX_wk hp (Wk.mono (fun e m h => ex h) hI.wk)
  · unfold Dg.I at hI
    rw [if_neg hl] at hI
    exact ex hI
theorem Dg.steps {T : Dg} {F : Fam σ} (hO : T.Obs P G N mv F T.pl) {K : List Nat → Env → Mem → Prop} : ∀ {l D : List Nat} {env : Env} {μ : Mem}, T.chkL D l = true → T.I G N mv F D env μ →
    (∀ env μ, T.I G N mv F (l.reverse ++ D) env μ → K (l.reverse ++ D) env μ) → opsX P G N mv (l.map T.op) env μ (K (l.reverse ++ D))
  | [], D, env, μ, _, hI, hK => hK _ _ hI
  | i :: l, D, env, μ, h, hI, hK => by
    simp only [Dg.chkL, Bool.and_eq_true] at h
    have e : (i :: l).reverse ++ D = l.reverse ++ (i :: D) := by simp
    rw [e] at hK ⊢
    exact opsX_app (l := [T.op i]) (l' := l.map T.op) (opsX_mono (fun env' μ' hI' => Dg.steps hO (K := K) h.2 hI' hK) (Dg.step hO h.1 hI))
theorem Dg.walk {T : Dg} {F : Fam σ} (hO : T.Obs P G N mv F T.pl)
    (hK : ∀ D env μ, (List.range T.ops.length).all (fun i => D.contains i) = true → T.cls D = T.last → T.Ex F D env μ → Wk G N mv K env μ) : ∀ (t : IS) (D : List Nat) (env : Env) (μ : Mem), T.chk D t = true → T.I G N mv F D env μ → schedX P G N mv (t.toS T.ops) env μ K
  | .done, D, env, μ, h, hI => by
    simp only [Dg.chk, Bool.and_eq_true, beq_iff_eq] at h
    exact hI.wk.bind fun e m hx => hK D e m h.1 h.2 hx
  | .stop, _, _, _, _, _ => trivial
  | .alt l s m, D, env, μ, h, hI => by
    simp only [Dg.chk, Bool.and_eq_true] at h
    obtain ⟨⟨h1, h2⟩, h3⟩ := h
    refine ⟨?_, Dg.walk hO hK m D env μ h3 hI⟩
    exact Dg.steps hO (K := fun D' e m' => schedX P G N mv (s.toS T.ops) e m' K) h1 hI (fun e m' hI' => Dg.walk hO hK s _ e m' h2 hI')
end
end PG

namespace PG
open Go
section
variable {P : Program} {G : Globs} {N : Nat} {mv : Nat → Bool} {env : Env} {μ : Mem} {K : Env → Mem → Prop}
end
end PG

namespace PG
open Go
set_option linter.unusedSimpArgs false
set_option linter.unusedVariables false

section
variable {P : Program} {G : Globs} {w : World} {κ : Kap} {μ : Mem}
theorem VCalls.lend {f : Nat} {as : List PV} {res : PV} (n : Nat) (mv : Nat → Bool) (hV : VCalls P G f (as.map (PV.lend n μ)) res) (hs : (as.map (PV.lends n μ)).all id = true) (hf : res.flat = true) :
    PCalls P G f as μ mv (fun p μ' => p = res ∧ μ' = μ) := by
  intro w κ vs hS hG hr
  rw [allMap] at hs
  refine (hV w κ.ex vs hS.exlt (fun g sh x hg => (hG g sh x hg).mono ⟨fun _ _ _ => rfl, fun b _ h h' => h (.inl h')⟩) ⟨by simpa using hr.1, fun i v p a b => ?_⟩).mono ?_
  · obtain ⟨q, hq, rfl⟩ := lend_get b
    exact rep_lend hS n (hr.2 i v q a hq) (hs q (List.mem_of_getElem? hq))
  · rintro e w' ⟨v, rfl, hB, hrc⟩
    exact ⟨v, res, μ, κ, rfl, ⟨rfl, rfl⟩, hS.below hB, .closed (repC_flat hrc hf), Goes.below hB _⟩

theorem goCall_L {mv : Nat → Bool} {env : Env} {d : Option Nat} {rest : List CO} {K : Env → Mem → Prop} {f : Nat} {ps qs as as' : List PV} {res : PV} (n : Nat) (hE : Ent P f) (hV : VCalls P G f as' res)
    (ha : (ps ++ as ++ qs).map (PV.lend n μ) = as') (hs : ((ps ++ as ++ qs).map (PV.lends n μ)).all id = true) (hf : res.flat = true) (h : opsW P G false mv rest (putE env d res) μ K) : goCall P G false mv d rest env K μ (.fn f ps qs) as := by
  subst ha
  exact goCall_P hE (VCalls.lend n _ hV hs hf) (by rintro p μ' ⟨rfl, rfl⟩; exact h)
/-- A call over owned objects that moves one of them. -/
theorem goCall_K {mv : Nat → Bool} {env : Env} {d : Option Nat} {rest : List CO} {K : Env → Mem → Prop} {f : Nat} {ps qs as : List PV} {R : PV → Mem → Prop} (t : Nat) (hE : Ent P f) (hV : PCalls P G f (ps ++ as ++ qs) μ (killTag t) R) (hm : mv t = true)
    (h : ∀ p μ', R p μ' → opsW P G false mv rest (putE (killE env (some t)) d p) μ' K) : goCall P G false mv d rest env K μ (.fn f ps qs) as :=
  .inr ⟨rfl, hE, .inr ⟨t, R, hV, fun p μ' hR => ⟨hm, h p μ' hR⟩⟩⟩
end
end PG

namespace PG
open Go
set_option linter.unusedSimpArgs false
set_option linter.unusedVariables false
section
variable {P : Program} {G : Globs} {N : Nat} {w : World} {κ : Kap} {env : Env} {μ : Mem} {mv : Nat → Bool} {Q : Post}
end
end PG

namespace PG
open Go
section
variable {P : Program} {G : Globs} {N : Nat} {env : Env} {μ : Mem} {mv : Nat → Bool} {Q : Post}
/-- Two objects of the call's own change their tags. -/
theorem PW.sw {x : PCode} (n t : Nat) (hn : n < μ.length) (ht : t < μ.length) (h1 : mv n = true) (h2 : mv t = true) (h : PW P G N mv x (swE n t env) (swM n t μ) Q) : PW P G N mv x env μ Q := by
  intro ow L code hc hmix C a w κ hmv hR
  subst hmv
  exact h ow L code hc hmix C a w _ rfl (hR.sw n t hn ht h1 h2)
end
end PG

namespace PG
open Go
set_option linter.unusedSimpArgs false
set_option maxRecDepth 100000
theorem SS5 : type_of% (And.intro (And.intro (And.intro (And.intro (And.intro (And.intro (And.intro (And.intro (@gArgs.eq_1) (@gArgs.eq_2)) (And.intro (@gOk.eq_1) (@gOk.eq_2))) (And.intro (And.intro (@PV.shift.eq_1) (@PV.shift.eq_2)) (And.intro (@PV.shift.eq_3) (@PV.shift.eq_4)))) (And.intro (And.intro (And.intro (@PV.shift.eq_5) (@PV.shift.eq_6)) (And.intro (@PV.shift.eq_7) (@PV.shift.eq_8))) (And.intro (And.intro (@PV.shift.eq_9) (@MObj.shift.eq_1)) (And.intro (@MObj.shift.eq_2) (@MObj.shift.eq_3))))) (And.intro (And.intro (And.intro (And.intro (@rdV.eq_1) (@rdV.eq_2)) (And.intro (@rdV.eq_3) (@rdV.eq_4))) (And.intro (And.intro (@rdV.eq_5) (@rdV.eq_6)) (And.intro (@rdV.eq_7) (@rdV.eq_8)))) (And.intro (And.intro (And.intro (@rdV.eq_9) (@rdV.eq_10)) (And.intro (@rdV.eq_11) (@rdV.eq_12))) (And.intro (And.intro (@rdV.eq_13) (@rdV.eq_14)) (And.intro (@rdV.eq_15) (@rdV.eq_16)))))) (And.intro (And.intro (And.intro (And.intro (And.intro (@rdV.eq_17) (@rdV.eq_18)) (And.intro (@rdV.eq_19) (@rdV.eq_20))) (And.intro (And.intro (@rdV.eq_21) (@rdV.eq_22)) (And.intro (@rdV.eq_23) (@rdV.eq_24)))) (And.intro (And.intro (And.intro (@rdV.eq_25) (@rdV.eq_26)) (And.intro (@rdV.eq_27) (@rdV.eq_28))) (And.intro (And.intro (@rdV.eq_29) (@rdV.eq_30)) (And.intro (@rdV.eq_31) (@rdV.eq_32))))) (And.intro (And.intro (And.intro (And.intro (@rdV.eq_33) (@rdV.eq_34)) (And.intro (@rdV.eq_35) (@rdV.eq_36))) (And.intro (And.intro (@rdV.eq_37) (@rdV.eq_38)) (And.intro (@rdV.eq_39) (@rdV.eq_40)))) (And.intro (And.intro (And.intro (@rdV.eq_41) (@rdV.eq_42)) (And.intro (@rdV.eq_43) (@rdV.eq_44))) (And.intro (And.intro (@rdV.eq_45) (@rdV.eq_46)) (And.intro (@rdV.eq_47) (@rdV.eq_48))))))) (And.intro (And.intro (And.intro (And.intro (And.intro (And.intro (@rdV.eq_49) (@rdV.eq_50)) (And.intro (@rdD.eq_1) (@rdD.eq_2))) (And.intro (And.intro (@rdD.eq_3) (@rdD.eq_4)) (And.intro (@rdD.eq_5) (@rdD.eq_6)))) (And.intro (And.intro (And.intro (@rdD.eq_7) (@rdD.eq_8)) (And.intro (@rdD.eq_9) (@rdD.eq_10))) (And.intro (And.intro (@rdD.eq_11) (@rdD.eq_12)) (And.intro (@rdD.eq_13) (@rdD.eq_14))))) (And.intro (And.intro (And.intro (And.intro (@rdD.eq_15) (@rdD.eq_16)) (And.intro (@rdD.eq_17) (@rdD.eq_18))) (And.intro (And.intro (@rdD.eq_19) (@rdD.eq_20)) (And.intro (@rdD.eq_21) (@rdD.eq_22)))) (And.intro (And.intro (And.intro (@rdD.eq_23) (@rdD.eq_24)) (And.intro (@rdD.eq_25) (@rdD.eq_26))) (And.intro (And.intro (@rdD.eq_27) (@rdD.eq_28)) (And.intro (@rdD.eq_29) (@rdD.eq_30)))))) (And.intro (And.intro (And.intro (And.intro (And.intro (@rdD.eq_31) (@rdD.eq_32)) (And.intro (@rdD.eq_33) (@rdD.eq_34))) (And.intro (And.intro (@rdD.eq_35) (@rdD.eq_36)) (And.intro (@rdD.eq_37) (@rdD.eq_38)))) (And.intro (And.intro (And.intro (@rdD.eq_39) (@rdD.eq_40)) (And.intro (@rdD.eq_41) (@rdD.eq_42))) (And.intro (And.intro (@rdD.eq_43) (@rdD.eq_44)) (And.intro (@rdD.eq_45) (@rdD.eq_46))))) (And.intro (And.intro (And.intro (And.intro (@rdD.eq_47) (@rdD.eq_48)) (And.intro (@rdD.eq_49) (@rdD.eq_50))) (And.intro (And.intro (@rdD.eq_51) (@rdD.eq_52)) (And.intro (@rdD.eq_53) (@PV.bin.eq_1)))) (And.intro (And.intro (And.intro (@PV.bin.eq_2) (@PV.bin.eq_3)) (And.intro (@PV.bin.eq_4) (@PV.bin.eq_5))) (And.intro (And.intro (@PV.binOk.eq_1) (@PV.binOk.eq_2)) (And.intro (@PV.binOk.eq_3) (@PV.binOk.eq_4)))))))) (And.intro (And.intro (And.intro (And.intro (And.intro (And.intro (And.intro (@PV.binOk.eq_5) (@PV.binOk.eq_6)) (And.intro (@PV.binOk.eq_7) (@PV.binOk.eq_8))) (And.intro (And.intro (@PV.binOk.eq_9) (@PV.binOk.eq_10)) (And.intro (@PV.binOk.eq_11) (@PV.binOk.eq_12)))) (And.intro (And.intro (And.intro (@PV.binOk.eq_13) (@PV.binOk.eq_14)) (And.intro (@binI.eq_1) (@binI.eq_2))) (And.intro (And.intro (@binI.eq_3) (@binI.eq_4)) (And.intro (@binI.eq_5) (@binI.eq_6))))) (And.intro (And.intro (And.intro (And.intro (@binI.eq_7) (@binI.eq_8)) (And.intro (@binI.eq_9) (@binI.eq_10))) (And.intro (And.intro (@binI.eq_11) (@binI.eq_12)) (And.intro (@binI.eq_13) (@binI.eq_14)))) (And.intro (And.intro (And.intro (@binI.eq_15) (@binI.eq_16)) (And.intro (@binS.eq_1) (@binS.eq_2))) (And.intro (And.intro (@binS.eq_3) (@binS.eq_4)) (And.intro (@binS.eq_5) (@binS.eq_6)))))) (And.intro (And.intro (And.intro (And.intro (And.intro (@binS.eq_7) (@binS.eq_8)) (And.intro (@PV.withInt.eq_1) (@PV.withInt.eq_2))) (And.intro (And.intro (@PV.withIntP.eq_1) (@PV.withIntP.eq_2)) (And.intro (@okAll.eq_1) (@okAll.eq_2)))) (And.intro (And.intro (And.intro (@PV.under.eq_1) (@PV.under.eq_2)) (And.intro (@PV.okUnder.eq_1) (@PV.okUnder.eq_2))) (And.intro (And.intro (@deadOk.eq_1) (@deadOk.eq_2)) (And.intro (@allOk.eq_1) (@allOk.eq_2))))) (And.intro (And.intro (And.intro (And.intro (@RVar.val.eq_1) (@RVar.val.eq_2)) (And.intro (@RVar.ok.eq_1) (@RVar.ok.eq_2))) (And.intro (And.intro (@retV.eq_1) (@retV.eq_2)) (And.intro (@PV.seen.eq_1) (@PV.seen.eq_2)))) (And.intro (And.intro (And.intro (@PV.seen.eq_3) (@PV.seen.eq_4)) (And.intro (@PV.seen.eq_5) (@PV.seen.eq_6))) (And.intro (And.intro (@PV.seen.eq_7) (@PV.seen.eq_8)) (And.intro (@PV.seen.eq_9) (@PV.seen.eq_10))))))) (And.intro (And.intro (And.intro (And.intro (And.intro (And.intro (@PV.view.eq_1) (@PV.view.eq_2)) (And.intro (@PV.view.eq_3) (@PV.view.eq_4))) (And.intro (And.intro (@PV.view.eq_5) (@PV.view.eq_6)) (And.intro (@PV.view.eq_7) (@PV.view.eq_8)))) (And.intro (And.intro (And.intro (@PV.view.eq_9) (@PV.flat.eq_1)) (And.intro (@PV.flat.eq_2) (@PV.flat.eq_3))) (And.intro (And.intro (@PV.flat.eq_4) (@PV.flat.eq_5)) (And.intro (@PV.flat.eq_6) (@PV.flat.eq_7))))) (And.intro (And.intro (And.intro (And.intro (@PV.flat.eq_8) (@PV.flat.eq_9)) (And.intro (@PV.flat.eq_10) (@PV.noOwn.eq_1))) (And.intro (And.intro (@PV.noOwn.eq_2) (@PV.noOwn.eq_3)) (And.intro (@PV.noOwn.eq_4) (@PV.noOwn.eq_5)))) (And.intro (And.intro (And.intro (@PV.noOwn.eq_6) (@PV.noOwn.eq_7)) (And.intro (@PV.noOwn.eq_8) (@PV.noOwn.eq_9))) (And.intro (And.intro (@PV.noOwn.eq_10) (@behind.eq_1)) (And.intro (@behind.eq_2) (@behind.eq_3)))))) (And.intro (And.intro (And.intro (And.intro (And.intro (@behind.eq_4) (@PV.kill.eq_1)) (And.intro (@PV.kill.eq_2) (@PV.kill.eq_3))) (And.intro (And.intro (@PV.kill.eq_4) (@PV.kill.eq_5)) (And.intro (@PV.kill.eq_6) (@PV.kill.eq_7)))) (And.intro (And.intro (And.intro (@PV.kill.eq_8) (@PV.kill.eq_9)) (And.intro (@MObj.kill.eq_1) (@MObj.kill.eq_2))) (And.intro (And.intro (@MObj.kill.eq_3) (@killTag.eq_1)) (And.intro (@nilB.eq_1) (@nilB.eq_2))))) (And.intro (And.intro (And.intro (And.intro (@nilB.eq_3) (@nilB.eq_4)) (And.intro (@nilB.eq_5) (@nilB.eq_6))) (And.intro (And.intro (@nilB.eq_7) (@nilB.eq_8)) (And.intro (@nilB.eq_9) (@nilB.eq_10)))) (And.intro (And.intro (And.intro (@nilB.eq_11) (@nilB.eq_12)) (And.intro (@nilB.eq_13) (@scopeQ_normal))) (And.intro (And.intro (@scopeQ_ret) (@scopeQ_exit)) (And.intro (@Bool.not_false) (@Bool.not_true))))))))) :=
  (And.intro (And.intro (And.intro (And.intro (And.intro (And.intro (And.intro (And.intro (@gArgs.eq_1) (@gArgs.eq_2)) (And.intro (@gOk.eq_1) (@gOk.eq_2))) (And.intro (And.intro (@PV.shift.eq_1) (@PV.shift.eq_2)) (And.intro (@PV.shift.eq_3) (@PV.shift.eq_4)))) (And.intro (And.intro (And.intro (@PV.shift.eq_5) (@PV.shift.eq_6)) (And.intro (@PV.shift.eq_7) (@PV.shift.eq_8))) (And.intro (And.intro (@PV.shift.eq_9) (@MObj.shift.eq_1)) (And.intro (@MObj.shift.eq_2) (@MObj.shift.eq_3))))) (And.intro (And.intro (And.intro (And.intro (@rdV.eq_1) (@rdV.eq_2)) (And.intro (@rdV.eq_3) (@rdV.eq_4))) (And.intro (And.intro (@rdV.eq_5) (@rdV.eq_6)) (And.intro (@rdV.eq_7) (@rdV.eq_8)))) (And.intro (And.intro (And.intro (@rdV.eq_9) (@rdV.eq_10)) (And.intro (@rdV.eq_11) (@rdV.eq_12))) (And.intro (And.intro (@rdV.eq_13) (@rdV.eq_14)) (And.intro (@rdV.eq_15) (@rdV.eq_16)))))) (And.intro (And.intro (And.intro (And.intro (And.intro (@rdV.eq_17) (@rdV.eq_18)) (And.intro (@rdV.eq_19) (@rdV.eq_20))) (And.intro (And.intro (@rdV.eq_21) (@rdV.eq_22)) (And.intro (@rdV.eq_23) (@rdV.eq_24)))) (And.intro (And.intro (And.intro (@rdV.eq_25) (@rdV.eq_26)) (And.intro (@rdV.eq_27) (@rdV.eq_28))) (And.intro (And.intro (@rdV.eq_29) (@rdV.eq_30)) (And.intro (@rdV.eq_31) (@rdV.eq_32))))) (And.intro (And.intro (And.intro (And.intro (@rdV.eq_33) (@rdV.eq_34)) (And.intro (@rdV.eq_35) (@rdV.eq_36))) (And.intro (And.intro (@rdV.eq_37) (@rdV.eq_38)) (And.intro (@rdV.eq_39) (@rdV.eq_40)))) (And.intro (And.intro (And.intro (@rdV.eq_41) (@rdV.eq_42)) (And.intro (@rdV.eq_43) (@rdV.eq_44))) (And.intro (And.intro (@rdV.eq_45) (@rdV.eq_46)) (And.intro (@rdV.eq_47) (@rdV.eq_48))))))) (And.intro (And.intro (And.intro (And.intro (And.intro (And.intro (@rdV.eq_49) (@rdV.eq_50)) (And.intro (@rdD.eq_1) (@rdD.eq_2))) (And.intro (And.intro (@rdD.eq_3) (@rdD.eq_4)) (And.intro (@rdD.eq_5) (@rdD.eq_6)))) (And.intro (And.intro (And.intro (@rdD.eq_7) (@rdD.eq_8)) (And.intro (@rdD.eq_9) (@rdD.eq_10))) (And.intro (And.intro (@rdD.eq_11) (@rdD.eq_12)) (And.intro (@rdD.eq_13) (@rdD.eq_14))))) (And.intro (And.intro (And.intro (And.intro (@rdD.eq_15) (@rdD.eq_16)) (And.intro (@rdD.eq_17) (@rdD.eq_18))) (And.intro (And.intro (@rdD.eq_19) (@rdD.eq_20)) (And.intro (@rdD.eq_21) (@rdD.eq_22)))) (And.intro (And.intro (And.intro (@rdD.eq_23) (@rdD.eq_24)) (And.intro (@rdD.eq_25) (@rdD.eq_26))) (And.intro (And.intro (@rdD.eq_27) (@rdD.eq_28)) (And.intro (@rdD.eq_29) (@rdD.eq_30)))))) (And.intro (And.intro (And.intro (And.intro (And.intro (@rdD.eq_31) (@rdD.eq_32)) (And.intro (@rdD.eq_33) (@rdD.eq_34))) (And.intro (And.intro (@rdD.eq_35) (@rdD.eq_36)) (And.intro (@rdD.eq_37) (@rdD.eq_38)))) (And.intro (And.intro (And.intro (@rdD.eq_39) (@rdD.eq_40)) (And.intro (@rdD.eq_41) (@rdD.eq_42))) (And.intro (And.intro (@rdD.eq_43) (@rdD.eq_44)) (And.intro (@rdD.eq_45) (@rdD.eq_46))))) (And.intro (And.intro (And.intro (And.intro (@rdD.eq_47) (@rdD.eq_48)) (And.intro (@rdD.eq_49) (@rdD.eq_50))) (And.intro (And.intro (@rdD.eq_51) (@rdD.eq_52)) (And.intro (@rdD.eq_53) (@PV.bin.eq_1)))) (And.intro (And.intro (And.intro (@PV.bin.eq_2) (@PV.bin.eq_3)) (And.intro (@PV.bin.eq_4) (@PV.bin.eq_5))) (And.intro (And.intro (@PV.binOk.eq_1) (@PV.binOk.eq_2)) (And.intro (@PV.binOk.eq_3) (@PV.binOk.eq_4)))))))) (And.intro (And.intro (And.intro (And.intro (And.intro (And.intro (And.intro (@PV.binOk.eq_5) (@PV.binOk.eq_6)) (And.intro (@PV.binOk.eq_7) (@PV.binOk.eq_8))) (And.intro (And.intro (@PV.binOk.eq_9) (@PV.binOk.eq_10)) (And.intro (@PV.binOk.eq_11) (@PV.binOk.eq_12)))) (And.intro (And.intro (And.intro (@PV.binOk.eq_13) (@PV.binOk.eq_14)) (And.intro (@binI.eq_1) (@binI.eq_2))) (And.intro (And.intro (@binI.eq_3) (@binI.eq_4)) (And.intro (@binI.eq_5) (@binI.eq_6))))) (And.intro (And.intro (And.intro (And.intro (@binI.eq_7) (@binI.eq_8)) (And.intro (@binI.eq_9) (@binI.eq_10))) (And.intro (And.intro (@binI.eq_11) (@binI.eq_12)) (And.intro (@binI.eq_13) (@binI.eq_14)))) (And.intro (And.intro (And.intro (@binI.eq_15) (@binI.eq_16)) (And.intro (@binS.eq_1) (@binS.eq_2))) (And.intro (And.intro (@binS.eq_3) (@binS.eq_4)) (And.intro (@binS.eq_5) (@binS.eq_6)))))) (And.intro (And.intro (And.intro (And.intro (And.intro (@binS.eq_7) (@binS.eq_8)) (And.intro (@PV.withInt.eq_1) (@PV.withInt.eq_2))) (And.intro (And.intro (@PV.withIntP.eq_1) (@PV.withIntP.eq_2)) (And.intro (@okAll.eq_1) (@okAll.eq_2)))) (And.intro (And.intro (And.intro (@PV.under.eq_1) (@PV.under.eq_2)) (And.intro (@PV.okUnder.eq_1) (@PV.okUnder.eq_2))) (And.intro (And.intro (@deadOk.eq_1) (@deadOk.eq_2)) (And.intro (@allOk.eq_1) (@allOk.eq_2))))) (And.intro (And.intro (And.intro (And.intro (@RVar.val.eq_1) (@RVar.val.eq_2)) (And.intro (@RVar.ok.eq_1) (@RVar.ok.eq_2))) (And.intro (And.intro (@retV.eq_1) (@retV.eq_2)) (And.intro (@PV.seen.eq_1) (@PV.seen.eq_2)))) (And.intro (And.intro (And.intro (@PV.seen.eq_3) (@PV.seen.eq_4)) (And.intro (@PV.seen.eq_5) (@PV.seen.eq_6))) (And.intro (And.intro (@PV.seen.eq_7) (@PV.seen.eq_8)) (And.intro (@PV.seen.eq_9) (@PV.seen.eq_10))))))) (And.intro (And.intro (And.intro (And.intro (And.intro (And.intro (@PV.view.eq_1) (@PV.view.eq_2)) (And.intro (@PV.view.eq_3) (@PV.view.eq_4))) (And.intro (And.intro (@PV.view.eq_5) (@PV.view.eq_6)) (And.intro (@PV.view.eq_7) (@PV.view.eq_8)))) (And.intro (And.intro (And.intro (@PV.view.eq_9) (@PV.flat.eq_1)) (And.intro (@PV.flat.eq_2) (@PV.flat.eq_3))) (And.intro (And.intro (@PV.flat.eq_4) (@PV.flat.eq_5)) (And.intro (@PV.flat.eq_6) (@PV.flat.eq_7))))) (And.intro (And.intro (And.intro (And.intro (@PV.flat.eq_8) (@PV.flat.eq_9)) (And.intro (@PV.flat.eq_10) (@PV.noOwn.eq_1))) (And.intro (And.intro (@PV.noOwn.eq_2) (@PV.noOwn.eq_3)) (And.intro (@PV.noOwn.eq_4) (@PV.noOwn.eq_5)))) (And.intro (And.intro (And.intro (@PV.noOwn.eq_6) (@PV.noOwn.eq_7)) (And.intro (@PV.noOwn.eq_8) (@PV.noOwn.eq_9))) (And.intro (And.intro (@PV.noOwn.eq_10) (@behind.eq_1)) (And.intro (@behind.eq_2) (@behind.eq_3)))))) (And.intro (And.intro (And.intro (And.intro (And.intro (@behind.eq_4) (@PV.kill.eq_1)) (And.intro (@PV.kill.eq_2) (@PV.kill.eq_3))) (And.intro (And.intro (@PV.kill.eq_4) (@PV.kill.eq_5)) (And.intro (@PV.kill.eq_6) (@PV.kill.eq_7)))) (And.intro (And.intro (And.intro (@PV.kill.eq_8) (@PV.kill.eq_9)) (And.intro (@MObj.kill.eq_1) (@MObj.kill.eq_2))) (And.intro (And.intro (@MObj.kill.eq_3) (@killTag.eq_1)) (And.intro (@nilB.eq_1) (@nilB.eq_2))))) (And.intro (And.intro (And.intro (And.intro (@nilB.eq_3) (@nilB.eq_4)) (And.intro (@nilB.eq_5) (@nilB.eq_6))) (And.intro (And.intro (@nilB.eq_7) (@nilB.eq_8)) (And.intro (@nilB.eq_9) (@nilB.eq_10)))) (And.intro (And.intro (And.intro (@nilB.eq_11) (@nilB.eq_12)) (And.intro (@nilB.eq_13) (@scopeQ_normal))) (And.intro (And.intro (@scopeQ_ret) (@scopeQ_exit)) (And.intro (@Bool.not_false) (@Bool.not_true)))))))))
theorem RR : type_of% (And.intro (And.intro (And.intro (@toNat_add2) (And.intro (@toNat_add1) (@Int.toNat_natCast))) (And.intro (@Bool.false_and) (And.intro (@Bool.true_and) (@true_implies)))) (And.intro (And.intro (@true_and) (And.intro (@Bool.false_eq_true) (@false_implies))) (And.intro (And.intro (@Bool.not_false) (@Bool.not_true)) (And.intro (@Bool.true_or) (@Bool.false_or))))) :=
  (And.intro (And.intro (And.intro (@toNat_add2) (And.intro (@toNat_add1) (@Int.toNat_natCast))) (And.intro (@Bool.false_and) (And.intro (@Bool.true_and) (@true_implies)))) (And.intro (And.intro (@true_and) (And.intro (@Bool.false_eq_true) (@false_implies))) (And.intro (And.intro (@Bool.not_false) (@Bool.not_true)) (And.intro (@Bool.true_or) (@Bool.false_or)))))
end PG

namespace PG
open Go
set_option linter.unusedSimpArgs false
section
variable {μ : Mem} {J : PV → Option Nat → Mem → Prop}
end
end PG

namespace PG
open Go
set_option linter.unusedSimpArgs false
set_option linter.unusedVariables false
theorem Rep.re {w w' : World} {ex ex' : Nat → Prop} {κ κ' : Kap} {dead : Nat → Bool} (hA : Agree w ex w' ex') (hT : ∀ t c, κ t = some c → dead t ≠ true → κ' t = some c) (hSh : ∀ b s, w.shape? b = some s → w'.shape? b = some s) {v : Value} {p : PV} (h : Rep w ex κ v p) : Rep w' ex' κ' v (p.kill dead) := by
  induction h with
  | junk v => simp only [PV.kill]; exact .junk v
  | closed h => exact .closed (h.mono hA).kill
  | ref t off b h =>
    simp only [PV.kill]; split
    · exact .junk _
    · rename_i hh; exact .ref t off b (hT _ _ h hh)
  | eptr t n i off b h =>
    simp only [PV.kill]; split
    · exact .junk _
    · rename_i hh; exact .eptr t n i off b (hT _ _ h hh)
  | sl sh t len b cap h hs hl hm =>
    simp only [PV.kill]; split
    · exact .junk _
    · rename_i hh; obtain ⟨E, hE⟩ := hs; exact .sl sh t len b cap (hT _ _ h hh) ⟨E, hSh _ _ hE⟩ hl hm
  | slnil sh t h =>
    simp only [PV.kill]; split
    · exact .junk _
    · rename_i hh; exact .slnil sh t (hT _ _ h hh)
  | mref t b h =>
    simp only [PV.kill]; split
    · exact .junk _
    · rename_i hh; exact .mref t b (hT _ _ h hh)
  | agg vs ps hs hr ih =>
    simp only [PV.kill]
    refine .agg vs _ (by simpa using hs) (fun i v p a b => ?_)
    rw [List.getElem?_map] at b
    cases hp : ps[i]? with
    | none => simp [hp] at b
    | some q => simp [hp] at b; subst b; exact ih i v q a hp
  | tup vs ps hs hr ih =>
    simp only [PV.kill]
    refine .tup vs _ (by simpa using hs) (fun i v p a b => ?_)
    rw [List.getElem?_map] at b
    cases hp : ps[i]? with
    | none => simp [hp] at b
    | some q => simp [hp] at b; subst b; exact ih i v q a hp
  | fn f first caps ps qs h1 h2 h3 h4 ih3 ih4 =>
    simp only [PV.kill]
    refine .fn f first caps _ _ (by simpa using h1) (by simpa using h2) (fun i v p a b => ?_) (fun i v p a b => ?_)
    · rw [List.getElem?_map] at b
      cases hp : ps[i]? with
      | none => simp [hp] at b
      | some q => simp [hp] at b; subst b; exact ih3 i v q a hp
    · rw [List.getElem?_map] at b
      cases hp : qs[i]? with
      | none => simp [hp] at b
      | some q => simp [hp] at b; subst b; exact ih4 i v q a hp
  | cond b h hu ih => simp only [PV.kill]; exact .cond b (fun hb => ih hb) hu


theorem Rep.re0 {w w' : World} {ex ex' : Nat → Prop} {κ κ' : Kap} (hA : Agree w ex w' ex') (hT : ∀ t c, κ t = some c → True → κ' t = some c) (hSh : ∀ b s, w.shape? b = some s → w'.shape? b = some s) {v : Value} {p : PV} (h : Rep w ex κ v p) : Rep w' ex' κ' v p := by
  induction h with
  | junk v => exact .junk v
  | closed h => exact .closed (h.mono hA)
  | ref t off b h => exact .ref t off b (hT _ _ h trivial)
  | eptr t n i off b h => exact .eptr t n i off b (hT _ _ h trivial)
  | sl sh t len b cap h hs hl hm => obtain ⟨E, hE⟩ := hs; exact .sl sh t len b cap (hT _ _ h trivial) ⟨E, hSh _ _ hE⟩ hl hm
  | slnil sh t h => exact .slnil sh t (hT _ _ h trivial)
  | mref t b h => exact .mref t b (hT _ _ h trivial)
  | agg vs ps hs hr ih => exact .agg vs _ hs ih
  | tup vs ps hs hr ih => exact .tup vs _ hs ih
  | fn f first caps ps qs h1 h2 h3 h4 ih3 ih4 => exact .fn f first caps _ _ h1 h2 ih3 ih4
  | cond b h hu ih => exact .cond b (fun hb => ih hb) hu


theorem ORep.re {w w' : World} {ex ex' : Nat → Prop} {κ κ' : Kap} {dead : Nat → Bool} {c : Option Nat} {o : MObj} (hA : Agree w ex w' ex') (hT : ∀ t c, κ t = some c → dead t ≠ true → κ' t = some c) (hSh : ∀ b s, w.shape? b = some s → w'.shape? b = some s) (hb : ∀ b, c = some b → w'.heap[b]? = w.heap[b]?) (h : ORep w ex κ c o) : ORep w' ex' κ' c (o.kill dead) := by
  cases h with
  | var b arr E sh x h hs hsh hr =>
    refine .var b arr E sh _ (by rw [hb b rfl]; exact h) hs (shaped_kill hsh) (fun j p v hp hv => ?_)
    rw [cells_kill hsh, List.getElem?_map] at hp
    cases hq : x.cells[j]? with
    | none => simp [hq] at hp
    | some q => simp [hq] at hp; subst hp; exact (hr j q v hq hv).re hA hT hSh
  | nilrow sh => exact .nilrow sh
  | row b cur E cap sh xs h hs hm hl hfit hr => exact .row b cur E cap sh xs (by rw [hb b rfl]; exact h) hs hm hl hfit (fun j p v hp hv => (hr j p v hp hv).mono hA)
  | iter b kd es seen m h hm => exact .iter b kd es seen m (by rw [hb b rfl]; exact h) (hm.imp id fun ⟨r, h1, h2⟩ => ⟨r, h1, h2.mono hA⟩)
  | mp b kd es ents clock h hs hB hkd hk hv => exact .mp b kd es ents clock (by rw [hb b rfl]; exact h) hs hB hkd (fun i e q a d => (hk i e q a d).mono hA) (fun i e q a d => (hv i e q a d).mono hA)
  | mpg b kd es ents clock h hs hkd hk hv => exact .mpg b kd es ents clock (by rw [hb b rfl]; exact h) hs hkd (fun i e q a d => (hk i e q a d).mono hA) (fun i e q a d => (hv i e q a d).mono hA)
  | mpo b kd es ents clock h hs hB hkd hk hv =>
    refine .mpo b kd _ ents clock (by rw [hb b rfl]; exact h) (by simpa using hs) hB (fun q hq => ?_) (fun i e q a d => ?_) (fun i e q a d => ?_)
    · obtain ⟨q0, h0, rfl⟩ := List.mem_map.1 hq; exact hkd q0 h0
    · obtain ⟨q0, h0, rfl⟩ := vals_get (f := PV.kill dead) d; exact (hk i e q0 a h0).mono hA
    · obtain ⟨q0, h0, rfl⟩ := vals_get (f := PV.kill dead) d; exact (hv i e q0 a h0).re hA hT hSh

theorem ORep.re0 {w w' : World} {ex ex' : Nat → Prop} {κ κ' : Kap} {c : Option Nat} {o : MObj} (hA : Agree w ex w' ex') (hT : ∀ t c, κ t = some c → True → κ' t = some c) (hSh : ∀ b s, w.shape? b = some s → w'.shape? b = some s) (hb : ∀ b, c = some b → w'.heap[b]? = w.heap[b]?) (h : ORep w ex κ c o) : ORep w' ex' κ' c o := by
  cases h with
  | var b arr E sh x h hs hsh hr => exact .var b arr E sh x (by rw [hb b rfl]; exact h) hs hsh (fun j p v hp hv => (hr j p v hp hv).re0 hA hT hSh)
  | nilrow sh => exact .nilrow sh
  | row b cur E cap sh xs h hs hm hl hfit hr => exact .row b cur E cap sh xs (by rw [hb b rfl]; exact h) hs hm hl hfit (fun j p v hp hv => (hr j p v hp hv).mono hA)
  | iter b kd es seen m h hm => exact .iter b kd es seen m (by rw [hb b rfl]; exact h) (hm.imp id fun ⟨r, h1, h2⟩ => ⟨r, h1, h2.mono hA⟩)
  | mp b kd es ents clock h hs hB hkd hk hv => exact .mp b kd es ents clock (by rw [hb b rfl]; exact h) hs hB hkd (fun i e q a d => (hk i e q a d).mono hA) (fun i e q a d => (hv i e q a d).mono hA)
  | mpg b kd es ents clock h hs hkd hk hv => exact .mpg b kd es ents clock (by rw [hb b rfl]; exact h) hs hkd (fun i e q a d => (hk i e q a d).mono hA) (fun i e q a d => (hv i e q a d).mono hA)
  | mpo b kd es ents clock h hs hB hkd hk hv => exact .mpo b kd es ents clock (by rw [hb b rfl]; exact h) hs hB hkd (fun i e q a d => (hk i e q a d).mono hA) (fun i e q a d => (hv i e q a d).re0 hA hT hSh)


section
variable {P : Program} {G : Globs}
/-- The head of a memory alone: what stands behind it is no one's. -/
def Kap.head (κ : Kap) (n : Nat) : Kap := ⟨fun t => if t < n then κ t else none, fun b => κ.ex b ∨ ∃ t, n ≤ t ∧ κ t = some (some b)⟩
/-- The head as it is now, and the rest as it was. -/
def Kap.join (κ1 κ : Kap) (n : Nat) : Kap := ⟨fun t => if t < n then κ1 t else κ t, κ.ex⟩
theorem own_head (κ : Kap) (n : Nat) : own (κ.head n) = own κ := by
  funext b
  apply propext
  constructor
  · rintro ((h | ⟨t, -, h⟩) | ⟨t, h⟩)
    · exact .inl h
    · exact .inr ⟨t, h⟩
    · simp only [Kap.head] at h
      split at h
      · exact .inr ⟨t, h⟩
      · cases h
  · rintro (h | ⟨t, h⟩)
    · exact .inl (.inl h)
    · rcases Nat.lt_or_ge t n with k | k
      · exact .inr ⟨t, by simp only [Kap.head, if_pos k]; exact h⟩
      · exact .inl (.inr ⟨t, k, h⟩)
theorem PCalls.frame {f : Nat} {as : List PV} {μ : Mem} {mv : Nat → Bool} {R : PV → Mem → Prop} (h : PCalls P G f as μ mv R) (ν : Mem)
    (hR : ∀ p μ', R p μ' → μ'.length = μ.length) (ha : as.map (PV.kill fun t => decide (μ.length ≤ t)) = as) (hm : μ.map (Option.map (MObj.kill fun t => decide (μ.length ≤ t))) = μ)
    (hν : ν.map (Option.map (MObj.kill mv)) = ν) :
    PCalls P G f as (μ ++ ν) mv (fun p μ' => ∃ μ1, R p μ1 ∧ μ' = μ1 ++ ν) := by
  intro w κ vs hS hG hr
  generalize hn : μ.length = n at hR ha hm
  have hlt : ∀ {t : Nat}, t < n → (μ ++ ν)[t]? = μ[t]? := fun h => List.getElem?_append_left (by omega)
  have hge : ∀ {μ1 : Mem} {t : Nat}, μ1.length = n → n ≤ t → (μ1 ++ ν)[t]? = ν[t - n]? := fun h1 h => by rw [List.getElem?_append_right (by omega), h1]
  have hgem : ∀ {o : MObj} {i : Nat}, ν[i]? = some (some o) → o.kill mv = o := fun {o i} ho => by
    have := congrArg (fun l => l[i]?) hν
    simp only [List.getElem?_map, ho, Option.map_some] at this
    exact Option.some.inj (Option.some.inj this)
  have hltm : ∀ {o : MObj} {i : Nat}, μ[i]? = some (some o) → o.kill (fun t => decide (n ≤ t)) = o := fun {o i} ho => by
    have := congrArg (fun l => l[i]?) hm
    simp only [List.getElem?_map, ho, Option.map_some] at this
    exact Option.some.inj (Option.some.inj this)
  have hA0 : Agree w (own κ) w (own (κ.head n)) := by rw [own_head]; exact Agree.refl _ _
  have hT0 : ∀ t c, κ t = some c → decide (n ≤ t) ≠ true → (κ.head n) t = some c := fun t c hc ht => by
    have : t < n := by simp only [ne_eq, decide_eq_true_eq] at ht; omega
    simp only [Kap.head, if_pos this]; exact hc
  have hH : ∀ {t c}, (κ.head n) t = some c → t < n ∧ κ t = some c := fun {t c} hc => by
    simp only [Kap.head] at hc
    split at hc
    · exact ⟨by assumption, hc⟩
    · cases hc
  have hS1 : Sim w (κ.head n) μ := by
    refine ⟨fun t t' b h1 h2 => hS.inj t t' b (hH h1).2 (hH h2).2, fun t b h1 => hS.lt t b (hH h1).2, fun t c hc => ?_, fun t o ho => ?_, fun b hb => ?_, fun t b hb hx => ?_⟩
    · obtain ⟨o, h1, h2⟩ := hS.live t c (hH hc).2
      rw [hlt (hH hc).1] at h1
      refine ⟨o, h1, ?_⟩
      rw [← hltm h1]
      exact h2.re hA0 hT0 (fun _ _ h => h) (fun _ _ => rfl)
    · have ht : t < n := by rw [← hn]; exact (List.getElem?_eq_some_iff.1 ho).1
      simp only [Kap.head, if_pos ht]
      exact hS.dead t o (by rw [hlt ht]; exact ho)
    · rcases hb with hb | ⟨t, -, hb⟩
      · exact hS.exlt b hb
      · exact hS.lt t b hb
    · rcases hx with hx | ⟨t', ht', hx⟩
      · exact hS.exout t b (hH hb).2 hx
      · have := hS.inj t t' b (hH hb).2 hx; have := (hH hb).1; omega
  have hr1 : Reps w (κ.head n) vs as := by
    refine ⟨hr.1, fun i v p hv hp => ?_⟩
    have hk : p.kill (fun t => decide (n ≤ t)) = p := by
      have := congrArg (fun l => l[i]?) ha
      simp only [List.getElem?_map, hp, Option.map_some] at this
      exact Option.some.inj this
    rw [← hk]
    exact (hr.2 i v p hv hp).re hA0 hT0 (fun _ _ h => h)
  refine (h w (κ.head n) vs hS1 (by rw [own_head]; exact hG) hr1).mono ?_
  rintro e w' ⟨v, p, μ1, κ1, rfl, hRp, hS', hv, hg⟩
  have hl1 := hR p μ1 hRp
  have h1lt : ∀ {t c}, κ1 t = some c → t < n := fun {t c} hc => by
    obtain ⟨o, h1, -⟩ := hS'.live t c hc
    rw [← hl1]; exact (List.getElem?_eq_some_iff.1 h1).1
  have hJ : ∀ {t c}, (κ1.join κ n) t = some c → (t < n ∧ κ1 t = some c) ∨ (n ≤ t ∧ κ t = some c) := fun {t c} hc => by
    simp only [Kap.join] at hc
    split at hc
    · exact .inl ⟨by assumption, hc⟩
    · exact .inr ⟨by omega, hc⟩
  have hJ1 : ∀ {t c}, κ1 t = some c → (κ1.join κ n) t = some c := fun {t c} hc => by simp only [Kap.join, if_pos (h1lt hc)]; exact hc
  have hJ2 : ∀ {t c}, n ≤ t → κ t = some c → (κ1.join κ n) t = some c := fun {t c} ht hc => by simp only [Kap.join, if_neg (by omega : ¬ t < n)]; exact hc
  have hex : κ1.ex = (κ.head n).ex := hg.ex
  have hown : own (κ1.join κ n) = own κ1 := by
    funext b
    apply propext
    constructor
    · rintro (h | ⟨t, h⟩)
      · exact .inl (by rw [hex]; exact .inl h)
      · rcases hJ h with ⟨h1, h2⟩ | ⟨h1, h2⟩
        · exact .inr ⟨t, h2⟩
        · exact .inl (by rw [hex]; exact .inr ⟨t, h1, h2⟩)
    · rintro (h | ⟨t, h⟩)
      · rw [hex] at h
        rcases h with h | ⟨t, h1, h2⟩
        · exact .inl h
        · exact .inr ⟨t, hJ2 h1 h2⟩
      · exact .inr ⟨t, hJ1 h⟩
  have hA1 : Agree w' (own κ1) w' (own (κ1.join κ n)) := by rw [hown]; exact Agree.refl _ _
  have hA2 : Agree w (own κ) w' (own (κ1.join κ n)) := by
    have := hg.agree
    rw [own_head] at this
    rw [hown]; exact this
  have hT2 : ∀ t c, κ t = some c → mv t ≠ true → (κ1.join κ n) t = some c := fun t c hc hm => by
    rcases Nat.lt_or_ge t n with k | k
    · exact hJ1 (hg.tags t c (hT0 t c hc (by simp; omega)) hm)
    · exact hJ2 k hc
  refine ⟨v, p, μ1 ++ ν, κ1.join κ n, rfl, ⟨μ1, hRp, rfl⟩, ⟨fun t t' b h1 h2 => ?_, fun t b h1 => ?_, fun t c hc => ?_, fun t o ho => ?_, fun b hb => ?_, fun t b hb hx => ?_⟩, ?_, ⟨hg.os, hg.tape, hg.output, hg.size, rfl, fun b hb ht => ?_, fun b hb ht hk => ?_, hg.shape, hT2⟩⟩
  · rcases hJ h1 with ⟨a1, a2⟩ | ⟨a1, a2⟩ <;> rcases hJ h2 with ⟨b1, b2⟩ | ⟨b1, b2⟩
    · exact hS'.inj t t' b a2 b2
    · exact absurd (show κ1.ex b by rw [hex]; exact .inr ⟨t', b1, b2⟩) (hS'.exout t b a2)
    · exact absurd (show κ1.ex b by rw [hex]; exact .inr ⟨t, a1, a2⟩) (hS'.exout t' b b2)
    · exact hS.inj t t' b a2 b2
  · rcases hJ h1 with ⟨a1, a2⟩ | ⟨a1, a2⟩
    · exact hS'.lt t b a2
    · exact Nat.lt_of_lt_of_le (hS.lt t b a2) hg.size
  · rcases hJ hc with ⟨a1, a2⟩ | ⟨a1, a2⟩
    · obtain ⟨o, h1, h2⟩ := hS'.live t c a2
      refine ⟨o, by rw [List.getElem?_append_left (by omega)]; exact h1, ?_⟩
      exact h2.re0 hA1 (fun _ _ h _ => hJ1 h) (fun _ _ h => h) (fun _ _ => rfl)
    · obtain ⟨o, h1, h2⟩ := hS.live t c a2
      rw [hge hn a1] at h1
      refine ⟨o, by rw [hge hl1 a1]; exact h1, ?_⟩
      rw [← hgem h1]
      refine h2.re hA2 hT2 hg.shape (fun b hb => ?_)
      subst hb
      refine hg.block b (hS.lt t b a2) ?_
      rintro ⟨t', h'⟩
      have := hS.inj t t' b a2 (hH h').2; have := (hH h').1; omega
  · rcases Nat.lt_or_ge t n with k | k
    · rw [List.getElem?_append_left (by omega)] at ho
      simp only [Kap.join, if_pos k]
      exact hS'.dead t o ho
    · rw [hge hl1 k] at ho
      simp only [Kap.join, if_neg (by omega : ¬ t < n)]
      exact hS.dead t o (by rw [hge hn k]; exact ho)
  · exact Nat.lt_of_lt_of_le (hS.exlt b hb) hg.size
  · rcases hJ hb with ⟨a1, a2⟩ | ⟨a1, a2⟩
    · exact hS'.exout t b a2 (by rw [hex]; exact .inl hx)
    · exact hS.exout t b a2 hx
  · exact hv.re0 hA1 (fun _ _ h _ => hJ1 h) (fun _ _ h => h)
  · refine hg.block b hb ?_
    rintro ⟨t, h⟩
    exact ht ⟨t, (hH h).2⟩
  · obtain ⟨t, hk⟩ := hk
    rcases hJ hk with ⟨a1, a2⟩ | ⟨a1, a2⟩
    · refine hg.out b hb ?_ ⟨t, a2⟩
      rintro ⟨t', h⟩
      exact ht ⟨t', (hH h).2⟩
    · exact ht ⟨t, a2⟩
end
end PG

namespace PG
open Go
set_option linter.unusedSimpArgs false
set_option linter.unusedVariables false
set_option maxRecDepth 100000
theorem SA : type_of% (And.intro SS (And.intro SS2 (And.intro SS3 (And.intro SS4 (And.intro SS5 (And.intro (@Option.map_some.{0, 0}) (And.intro (@eq_self.{1}) (And.intro (@implies_true.{0}) (And.intro (@ne_eq.{1}) (And.intro (@beq_self_eq_true.{0}) (@id_eq.{1}))))))))))) :=
  (And.intro SS (And.intro SS2 (And.intro SS3 (And.intro SS4 (And.intro SS5 (And.intro (@Option.map_some.{0, 0}) (And.intro (@eq_self.{1}) (And.intro (@implies_true.{0}) (And.intro (@ne_eq.{1}) (And.intro (@beq_self_eq_true.{0}) (@id_eq.{1})))))))))))
theorem DD : type_of% (And.intro (@decide_eq_true_eq) (@decide_eq_false_iff_not)) := And.intro (@decide_eq_true_eq) (@decide_eq_false_iff_not)
theorem LL : type_of% (And.intro (@List.length_cons.{0}) (And.intro (@List.length_nil.{0}) (And.intro (@List.length_append.{0}) (And.intro (@List.length_map.{0, 0}) Sh.size.eq_1)))) := And.intro (@List.length_cons.{0}) (And.intro (@List.length_nil.{0}) (And.intro (@List.length_append.{0}) (And.intro (@List.length_map.{0, 0}) Sh.size.eq_1)))
/-! Operations, shortly written -/
def oM (d t : Nat) : CO := ⟨some d, none, .rd .mov [.tmp t]⟩
def oN (d t : Nat) : CO := ⟨some d, none, .rd .nilChk [.tmp t]⟩
def oF (o d t : Nat) : CO := ⟨some d, none, .rd (.fldAddr o) [.tmp t]⟩
def oL (d t : Nat) : CO := ⟨some d, none, .rd (.load none) [.tmp t]⟩
def qM (r : Nat) (b : Bool) (d t : Nat) : CO := ⟨some d, some (r, b), .rd .mov [.tmp t]⟩
def qN (r : Nat) (b : Bool) (d t : Nat) : CO := ⟨some d, some (r, b), .rd .nilChk [.tmp t]⟩
def qF (o r : Nat) (b : Bool) (d t : Nat) : CO := ⟨some d, some (r, b), .rd (.fldAddr o) [.tmp t]⟩
def qL (r : Nat) (b : Bool) (d t : Nat) : CO := ⟨some d, some (r, b), .rd (.load none) [.tmp t]⟩
theorem CC : type_of% (And.intro @oM.eq_1 (And.intro @oN.eq_1 (And.intro @oF.eq_1 (And.intro @oL.eq_1 (And.intro @qM.eq_1 (And.intro @qN.eq_1 (And.intro @qF.eq_1 @qL.eq_1))))))) := And.intro @oM.eq_1 (And.intro @oN.eq_1 (And.intro @oF.eq_1 (And.intro @oL.eq_1 (And.intro @qM.eq_1 (And.intro @qN.eq_1 (And.intro @qF.eq_1 @qL.eq_1))))))
end PG

namespace PG
open Go
set_option linter.unusedSimpArgs false
set_option linter.unusedVariables false
set_option maxRecDepth 100000
/-- A goal of arithmetic: told by its form. -/
structure FormA (p : Prop) : Type where
  it : True
theorem ari {p : Prop} [Inhabited (FormA p)] (h : p) : p := h
instance {a b : Nat} : Inhabited (FormA (a ≤ b)) := ⟨⟨trivial⟩⟩
instance {a b : Nat} : Inhabited (FormA (a < b)) := ⟨⟨trivial⟩⟩
instance {a b : Int} : Inhabited (FormA (a ≤ b)) := ⟨⟨trivial⟩⟩
instance {a b : Int} : Inhabited (FormA (a < b)) := ⟨⟨trivial⟩⟩
instance {a b : Nat} : Inhabited (FormA (a = b)) := ⟨⟨trivial⟩⟩
instance {a b : Int} : Inhabited (FormA (a = b)) := ⟨⟨trivial⟩⟩
instance {a b : Bool} : Inhabited (FormA (a = b)) := ⟨⟨trivial⟩⟩
instance {p q : Prop} : Inhabited (FormA (p ∨ q)) := ⟨⟨trivial⟩⟩
instance {p : Prop} : Inhabited (FormA (¬ p)) := ⟨⟨trivial⟩⟩
/-- A step of the code, by its form. -/
structure FormS (p : Prop) : Type where
  it : True
theorem stp {p q : Prop} [h : CoeFun (FormS p) fun _ => q → p] (x : q) : p := h.coe ⟨trivial⟩ x
/-- A step that is simplified behind it. -/
structure FormQ (p : Prop) : Type where
  it : True
theorem stq {p q : Prop} [h : CoeFun (FormQ p) fun _ => q → p] (x : q) : p := h.coe ⟨trivial⟩ x
section
variable {P : Program} {G : Globs} {N : Nat} {mv : Nat → Bool} {env : Env} {μ : Mem} {Q : Post} {K : Env → Mem → Prop}
instance : CoeFun (FormS (PW P G N mv .skip env μ Q)) fun _ => (Q .normal env μ) → (PW P G N mv .skip env μ Q) := ⟨fun _ => PW.skip⟩
instance : CoeFun (FormS (PW P G N mv .ret env μ Q)) fun _ => (Q .ret env μ) → (PW P G N mv .ret env μ Q) := ⟨fun _ => PW.ret⟩
instance {i : Nat} : CoeFun (FormS (PW P G N mv (.exit i) env μ Q)) fun _ => (Q (.exit i) env μ) → (PW P G N mv (.exit i) env μ Q) := ⟨fun _ => PW.exit⟩
instance {i : Nat} {x : PCode} : CoeFun (FormS (PW P G N mv (.block i x) env μ Q)) fun _ => (PW P G N mv x env μ (blockQ i Q)) → (PW P G N mv (.block i x) env μ Q) := ⟨fun _ => PW.block⟩
instance {x : PCode} : CoeFun (FormS (PW P G N mv (.scope x) env μ Q)) fun _ => (PW P G N mv x env μ (scopeQ Q)) → (PW P G N mv (.scope x) env μ Q) := ⟨fun _ => PW.scope⟩
instance : CoeFun (FormS (PW P G N mv .label env μ Q)) fun _ => (Q .normal env μ) → (PW P G N mv .label env μ Q) := ⟨fun _ => PW.label⟩
instance {s : Sched} {L : List Nat} : CoeFun (FormS (PW P G N mv (.regionA s L) env μ Q)) fun _ => (schedW P G mv s env μ fun env' μ' => Q .normal (keepE L env') μ') → (PW P G N mv (.regionA s L) env μ Q) := ⟨fun _ => PW.regionA⟩
instance {cs : List CO} {L : List Nat} : CoeFun (FormQ (PW P G N mv (.region false cs L) env μ Q)) fun _ => (opsW P G false mv cs env μ fun env' μ' => Q .normal (keepE L env') μ') → (PW P G N mv (.region false cs L) env μ Q) := ⟨fun _ => PW.region⟩
instance {cs : List CO} {L : List Nat} : CoeFun (FormQ (PW P G N mv (.region true cs L) env μ Q)) fun _ => (opsW P G true mv cs env μ fun env' μ' => Q .normal (keepE L env') μ') → (PW P G N mv (.region true cs L) env μ Q) := ⟨fun _ => PW.regionQ⟩
instance : CoeFun (FormQ (schedW P G mv .done env μ K)) fun _ => (K env μ) → (schedW P G mv .done env μ K) := ⟨fun _ => schedW_done_i⟩
instance {a b : List PV} : CoeFun (FormQ (a = b)) fun _ => (a = b) → (a = b) := ⟨fun _ => id⟩
instance {a b : Bool} : CoeFun (FormQ (a = b)) fun _ => (a = b) → (a = b) := ⟨fun _ => id⟩
instance {q : Bool} {cs : List CO} : CoeFun (FormQ (opsW P G q mv cs env μ K)) fun _ => (opsW P G q mv cs env μ K) → (opsW P G q mv cs env μ K) := ⟨fun _ => id⟩
instance {as : List PV} : CoeFun (FormQ (okAll as)) fun _ => (okAll as) → (okAll as) := ⟨fun _ => id⟩
instance {a b : Bool} {p : Prop} : CoeFun (FormQ (a = b ∨ p)) fun _ => (a = b ∨ p) → (a = b ∨ p) := ⟨fun _ => id⟩
end
theorem TT : type_of% (And.intro @trimE.eq_1 (And.intro @trimM.eq_1 (And.intro (@List.take_succ_cons.{0}) (And.intro (@List.take_zero.{0}) (And.intro (@List.take_nil.{0}) (And.intro (@List.map_cons.{0, 0}) (And.intro (@List.map_nil.{0, 0}) (And.intro (@Option.map_some.{0, 0}) (And.intro (@Option.map_none.{0, 0}) (And.intro @decide_true (And.intro @decide_false (And.intro @dec_true (And.intro @dec_false (And.intro @Bool.false_eq_true (And.intro (@if_false.{1}) (And.intro (@if_true.{1}) (And.intro (@List.zip_cons_cons.{0, 0}) (@List.zip_nil_left.{0, 0})))))))))))))))))) :=
  And.intro @trimE.eq_1 (And.intro @trimM.eq_1 (And.intro (@List.take_succ_cons.{0}) (And.intro (@List.take_zero.{0}) (And.intro (@List.take_nil.{0}) (And.intro (@List.map_cons.{0, 0}) (And.intro (@List.map_nil.{0, 0}) (And.intro (@Option.map_some.{0, 0}) (And.intro (@Option.map_none.{0, 0}) (And.intro @decide_true (And.intro @decide_false (And.intro @dec_true (And.intro @dec_false (And.intro @Bool.false_eq_true (And.intro (@if_false.{1}) (And.intro (@if_true.{1}) (And.intro (@List.zip_cons_cons.{0, 0}) (@List.zip_nil_left.{0, 0})))))))))))))))))
end PG

