import Derived.Lib.LaidTab
import Derived.Sort.OwnSorted
import Derived.Test.YthjkmhfiffojeaaGreatDoorP3
namespace PG
open Go
set_option linter.unusedSimpArgs false
set_option linter.unusedVariables false
section
variable {P : Program} {G : jA3} {N : Nat} {w : World} {κ : Kap} {env : Env} {μ : Mem} {mv : Nat -> Bool} {Q : Post}
def endP (rs : List RVar) (R : PV -> Mem -> Prop) : Post := fun e env μ =>
 match e with
 | .normal | .ret => jHM env μ rs ∧ R (jQS (rs.map (RVar.val env μ))) μ
 | _ => False
theorem jL2 (rs : List RVar) (R : PV -> Mem -> Prop) : endP rs R .normal env μ = (jHM env μ rs ∧ R (jQS (rs.map (RVar.val env μ))) μ) := rfl
theorem jW0 (rs : List RVar) (R : PV -> Mem -> Prop) : endP rs R .ret env μ = (jHM env μ rs ∧ R (jQS (rs.map (RVar.val env μ))) μ) := rfl
theorem jA2.jAT {f : Nat} {fn : Func} {ow L : List Nat} {cf : CF} (hf : P.funcs[f]? = some fn) (hc : jAD P ow L fn = some cf) (jD8 : P.follows .mixedOrders = true) {args : List PV} {R : PV -> Mem -> Prop} (hn : args.length <= cf.N)
  (h : PW P G cf.N mv cf.code (jBW 0 args) μ (endP cf.rs R)) : jA2 P G f args μ mv R := by
 intro w κ vs hS hG hv
 simp only [jAD, Option.bind_eq_some_iff, Option.map_eq_some_iff] at hc
 obtain ⟨b, hb, c, hcc, rs, hrs, rfl⟩ := hc
 refine calls_of_wp hf hb ?_
 let C : Ctx := ⟨w, κ, mv⟩
 have hR : SR G fn.ntmps C { tmps := vs ++ Array.replicate (fn.ntmps - vs.size) undef, defers := [] } w κ (jBW 0 args) μ := by
  refine ⟨by have := hv.1; simp; simp at hn; omega, rfl, fun i => ?_, hS, hG, Goes.refl _ _ _⟩
  rw [jPX, if_pos (Nat.zero_le _), Nat.sub_zero]
  cases hp : args[i]? with
  | none => exact .junk _
  | some p =>
   have hi : i < args.length := (List.getElem?_eq_some_iff.1 hp).1
   have hiv : i < vs.size := by rw [hv.1]; exact hi
   have hgd : (vs ++ Array.replicate (fn.ntmps - vs.size) undef).getD i undef = vs[i] := by
    rw [Array.getD_eq_getD_getElem?, Array.getElem?_append_left hiv, Array.getElem?_eq_getElem hiv]; rfl
   simp only [Option.getD_some]
   rw [hgd]
   exact hv.2 i _ p (Array.getElem?_eq_getElem hiv) hp
 refine wp_mono (h ow L b hcc jD8 C _ w κ rfl hR) ?_
 rintro e a' w' ⟨env', μ', κ', hq, hR'⟩
 have fin : (jHM env' μ' rs ∧ R (jQS (rs.map (RVar.val env' μ'))) μ') ->
   a'.defers = [] ∧ ∃ v, (results fn a'.tmps).run P w' = .ok v w' ∧ (∃ v' p μ2 κ2, Ending.returned v = .returned v' ∧ R p μ2 ∧ Sim w' κ2 μ2 ∧ Rep w' (own κ2) κ2 v' p ∧ Goes w κ w' κ2 (fun t => mv t = true)) := by
  rintro ⟨h1, h2⟩
  obtain ⟨v, hv', hrun⟩ := jKX hR'.sim hR'.regs hrs h1
  exact ⟨hR'.defers, v, hrun, v, _, μ', κ', rfl, h2, hR'.sim, hv', hR'.goes⟩
 cases e with
 | normal => exact fin hq
 | ret => exact fin hq
 | exit id' => exact hq.elim
 | goto l => exact hq.elim
 | panic ch => exact hq.elim
 | outgrown => exact hq.elim
theorem jA2.moves {f : Nat} {args : List PV} {mv mv' : Nat -> Bool} {R : PV -> Mem -> Prop} (hm : ∀ t, t < μ.length -> mv t = true -> mv' t = true) (h : jA2 P G f args μ mv R) : jA2 P G f args μ mv' R := by
 intro w κ vs hS hG hv
 refine (h w κ vs hS hG hv).mono ?_
 rintro e w' ⟨v, p, μ', κ', rfl, hR, hS', hv', hGo⟩
 refine ⟨v, p, μ', κ', rfl, hR, hS', hv', { hGo with tags := fun t c hc hn => hGo.tags t c hc (fun hh => hn (hm t ?_ hh)) }⟩
 obtain ⟨o, h1, -⟩ := hS.live t c hc
 exact (List.getElem?_eq_some_iff.1 h1).1
def PV.shift (n : Nat) : PV -> PV
 | .sl sh t len => .sl sh (n + t) len
 | .ref t off => .ref (n + t) off
 | .jDX t m i off => .jDX (n + t) m i off
 | .mref t => .mref (n + t)
 | .agg ps => .agg (ps.map (PV.shift n))
 | .tup ps => .tup (ps.map (PV.shift n))
 | .fn f ps qs => .fn f (ps.map (PV.shift n)) (qs.map (PV.shift n))
 | .cond b p => .cond b (PV.shift n p)
 | p => p
def jAF.shift (n : Nat) : jAF -> jAF
 | .var sh x => .var sh (x.shift n)
 | .mpo kd es => .mpo kd (es.map fun q => (q.1, q.2.shift n))
 | o => o
def jEW (P : Program) (G : jA3) (f : Nat) (args : List PV) (R : PV -> Mem -> Prop) : Prop :=
 ∀ (w : World) (ex : Nat -> Prop) (vs : Array Value), (∀ b, ex b -> b < w.heap.size) -> jDF w ex G -> jUC w ex vs args ->
  Calls P f vs w fun e w' => ∃ v p ν κ', e = .returned v ∧ R p ν ∧ Sim w' κ' ν ∧ κ'.ex = ex ∧ Rep w' (own κ') κ' v p ∧ RowKit.Below w.heap.size w w' ∧ (∀ t b, κ' t = some (some b) -> w.heap.size <= b)
theorem jEW.jAT {f : Nat} {fn : Func} {ow L : List Nat} {cf : CF} (hf : P.funcs[f]? = some fn) (hc : jAD P ow L fn = some cf) (jD8 : P.follows .mixedOrders = true) {args : List PV} {R : PV -> Mem -> Prop} (hn : args.length <= cf.N)
  (h : PW P G cf.N (fun _ => true) cf.code (jBW 0 args) [] (endP cf.rs R)) : jEW P G f args R := by
 intro w ex vs hex hG hv
 have hex' : own ⟨fun _ => none, ex⟩ = ex := by
  funext b
  simp only [own, eq_iff_iff]
  exact ⟨fun h => h.elim id (fun ⟨t, ht⟩ => by simp at ht), .inl⟩
 have hS : Sim w ⟨fun _ => none, ex⟩ [] := ⟨fun t t' b h => by simp at h, fun t b h => by simp at h, fun t c h => by simp at h, fun t o h => by simp at h, hex, fun t b h => by simp at h⟩
 refine ((jA2.jAT (mv := fun _ => true) hf hc jD8 hn h) w ⟨fun _ => none, ex⟩ vs hS (by rw [hex']; exact hG) ⟨hv.1, fun i v p a b => .closed (by rw [hex']; exact hv.2 i v p a b)⟩).mono ?_
 rintro e w' ⟨v, p, μ', κ', rfl, hR, hS', hv', hGo⟩
 refine ⟨v, p, μ', κ', rfl, hR, hS', hGo.ex, hv', ⟨hGo.os, hGo.tape, hGo.output, hGo.size, fun k hk => hGo.block k hk (fun ⟨t, ht⟩ => by simp at ht)⟩, fun t b ht => ?_⟩
 rcases Nat.lt_or_ge b w.heap.size with hlt | hge
 ·exact absurd ⟨t, ht⟩ (hGo.out b hlt (fun ⟨t, ht⟩ => by simp at ht))
 ·exact hge
theorem Rep.shift {w' : World} {κ' κ2 : Kap} {n : Nat} (ho : own κ' = own κ2) (ht : ∀ t, κ2 (n + t) = κ' t) {v : Value} {p : PV} (h : Rep w' (own κ') κ' v p) : Rep w' (own κ2) κ2 v (p.shift n) := by
 rw [<- ho]
 have jA9 : ∀ (ps : List PV) (i : Nat) (p : PV), (ps.map (PV.shift n))[i]? = some p -> ∃ q, ps[i]? = some q ∧ p = q.shift n := by
  intro ps i p h
  rw [List.getElem?_map] at h
  cases hq : ps[i]? with
  | none => simp [hq] at h
  | some q => simp [hq] at h; exact ⟨q, rfl, h.symm⟩
 have jI9 : ∀ {v : Value} {p : PV}, jAW w' (own κ') v p -> jAW w' (own κ') v (p.shift n) := by
  intro v p h
  induction h with
  | fn f first caps ps qs h1 h2 h3 h4 ih3 ih4 =>
   simp only [PV.shift]
   refine .fn f first caps _ _ (by simpa using h1) (by simpa using h2) (fun i v p a b => ?_) (fun i v p a b => ?_)
   ·obtain ⟨q, hq, rfl⟩ := jA9 ps i p b
    exact ih3 i v q a hq
   ·obtain ⟨q, hq, rfl⟩ := jA9 qs i p b
    exact ih4 i v q a hq
  | agg vs ps hs hr ih =>
   simp only [PV.shift]
   refine .agg vs _ (by simpa using hs) (fun i v p a b => ?_)
   obtain ⟨q, hq, rfl⟩ := jA9 ps i p b
   exact ih i v q a hq
  | tup vs ps hs hr ih =>
   simp only [PV.shift]
   refine .tup vs _ (by simpa using hs) (fun i v p a b => ?_)
   obtain ⟨q, hq, rfl⟩ := jA9 ps i p b
   exact ih i v q a hq
  | int k n => simp only [PV.shift]; exact .int k n
  | bool b => simp only [PV.shift]; exact .bool b
  | str s => simp only [PV.shift]; exact .str s
  | nilFn => simp only [PV.shift]; exact .nilFn
  | nilPtr => simp only [PV.shift]; exact .nilPtr
  | jAH => simp only [PV.shift]; exact .jAH
  | jA0 => simp only [PV.shift]; exact .jA0
  | yl l => simp only [PV.shift]; exact .yl l
  | list a len cap sh xs b off val h1 h2 h3 h4 h5 h6 h7 _ => simp only [PV.shift]; exact jAW.list a len cap sh xs b off val h1 h2 h3 h4 h5 h6 h7
  | full a len sh xs b off val h1 h3 h4 h5 h6 h7 _ => simp only [PV.shift]; exact jAW.full a len sh xs b off val h1 h3 h4 h5 h6 h7
  | jC9 r kd es ents clock h1 h2 h3 h4 h4' h5 h6 _ _ => simp only [PV.shift]; exact jAW.jC9 r kd es ents clock h1 h2 h3 h4 h4' h5 h6
  | jC2 b o off sh x val h1 h2 h3 h4 _ => simp only [PV.shift]; exact jAW.jC2 b o off sh x val h1 h2 h3 h4
 induction h with
 | junk v => simp only [PV.shift]; exact .junk v
 | closed h => exact .closed (jI9 h)
 | ref t off b h => simp only [PV.shift]; exact .ref (n + t) off b (by rw [ht]; exact h)
 | jDX t m i off b h => simp only [PV.shift]; exact .jDX (n + t) m i off b (by rw [ht]; exact h)
 | sl sh t len b cap h hs hl hm => simp only [PV.shift]; exact .sl sh (n + t) len b cap (by rw [ht]; exact h) hs hl hm
 | slnil sh t h => simp only [PV.shift]; exact .slnil sh (n + t) (by rw [ht]; exact h)
 | mref t b h => simp only [PV.shift]; exact .mref (n + t) b (by rw [ht]; exact h)
 | agg vs ps hs hr ih =>
  simp only [PV.shift]
  refine .agg vs _ (by simpa using hs) (fun i v p a b => ?_)
  obtain ⟨q, hq, rfl⟩ := jA9 ps i p b
  exact ih i v q a hq
 | tup vs ps hs hr ih =>
  simp only [PV.shift]
  refine .tup vs _ (by simpa using hs) (fun i v p a b => ?_)
  obtain ⟨q, hq, rfl⟩ := jA9 ps i p b
  exact ih i v q a hq
 | fn f first caps ps qs h1 h2 h3 h4 ih3 ih4 =>
  simp only [PV.shift]
  refine .fn f first caps _ _ (by simpa using h1) (by simpa using h2) (fun i v p a b => ?_) (fun i v p a b => ?_)
  ·obtain ⟨q, hq, rfl⟩ := jA9 ps i p b
   exact ih3 i v q a hq
  ·obtain ⟨q, hq, rfl⟩ := jA9 qs i p b
   exact ih4 i v q a hq
 | cond b h hu ih => simp only [PV.shift]; exact .cond b (fun hb => ih hb) hu
theorem jQH {n : Nat} {sh : Sh} {x : PV} (h : shaped sh x) : shaped sh (x.shift n) ∧ (x.shift n).cells = x.cells.map (PV.shift n) := by
 cases sh with
 | none =>
  cases x <;> simp_all [shaped, PV.isAgg, PV.shift, PV.cells]
 | some m => obtain ⟨cs, rfl, h⟩ := h; exact ⟨⟨cs.map (PV.shift n), by simp [PV.shift], by simpa using h⟩, by simp [PV.shift, PV.cells]⟩
theorem jEW.lift {f : Nat} {args : List PV} {R : PV -> Mem -> Prop} (h : jEW P G f args R) (hno : (args.map PV.jA5).all id = true) :
  jA2 P G f args μ (fun _ => false) fun p μ' => ∃ p0 ν, R p0 ν ∧ p = p0.shift μ.length ∧ μ' = μ ++ ν.map (Option.map (jAF.shift μ.length)) := by
 intro w κ vs hS hG hv
 have hex : ∀ b, own κ b -> b < w.heap.size := fun b hb => hb.elim (hS.jN3 b) (fun ⟨t, ht⟩ => hS.lt t b ht)
 refine (h w (own κ) vs hex hG ⟨hv.1, fun i v p a b => jDB (hv.2 i v p a b) (jB3.1 hno p (List.mem_of_getElem? b))⟩).mono ?_
 rintro e w' ⟨v, p0, ν, κ', rfl, hR, hS', hx, hv', hB, hnew⟩
 let κ2 : Kap := ⟨fun t => if t < μ.length then κ t else κ' (t - μ.length), κ.ex⟩
 have t1 : ∀ t, t < μ.length -> κ2 t = κ t := fun t ht => by show (if t < μ.length then κ t else _) = _; rw [if_pos ht]
 have t2 : ∀ t, κ2 (μ.length + t) = κ' t := fun t => by show (if μ.length + t < μ.length then _ else κ' (μ.length + t - μ.length)) = _; rw [if_neg (by omega), Nat.add_sub_cancel_left]
 have klt : ∀ t c, κ t = some c -> t < μ.length := by
  intro t c hc
  obtain ⟨o, h1, -⟩ := hS.live t c hc
  exact (List.getElem?_eq_some_iff.1 h1).1
 have ho : own κ' = own κ2 := by
  funext b
  apply propext
  constructor
  ·rintro (hb | ⟨t, ht⟩)
   ·rw [hx] at hb
    rcases hb with hb | ⟨t, ht⟩
    ·exact .inl hb
    ·exact .inr ⟨t, by rw [t1 t (klt t _ ht)]; exact ht⟩
   ·exact .inr ⟨μ.length + t, by rw [t2]; exact ht⟩
  ·rintro (hb | ⟨t, ht⟩)
   ·exact .inl (by rw [hx]; exact .inl hb)
   ·by_cases htl : t < μ.length
    ·rw [t1 t htl] at ht; exact .inl (by rw [hx]; exact .inr ⟨t, ht⟩)
    ·obtain ⟨d, rfl⟩ : ∃ d, t = μ.length + d := ⟨t - μ.length, by omega⟩
     rw [t2] at ht; exact .inr ⟨d, ht⟩
 have hGo : Goes w κ w' κ2 (fun t => (fun _ => false : Nat -> Bool) t = true) := by
  have hb := Goes.below (κ := κ) hB (fun _ => False)
  refine ⟨hB.os, hB.tape, hB.output, hB.size, rfl, fun b hb' _ => hB.block b hb', fun b hb' hnt => ?_, hb.shape, fun t c hc _ => by rw [t1 t (klt t c hc)]; exact hc⟩
  rintro ⟨t, ht⟩
  by_cases htl : t < μ.length
  ·rw [t1 t htl] at ht; exact hnt ⟨t, ht⟩
  ·obtain ⟨d, rfl⟩ : ∃ d, t = μ.length + d := ⟨t - μ.length, by omega⟩
   rw [t2] at ht
   have := hnew d b ht; omega
 refine ⟨v, p0.shift μ.length, μ ++ ν.map (Option.map (jAF.shift μ.length)), κ2, rfl, ⟨p0, ν, hR, rfl, rfl⟩, ?_, Rep.shift ho t2 hv', hGo⟩
 refine ⟨?_, ?_, ?_, ?_, ?_, ?_⟩
 ·intro t t' b ht ht'
  by_cases h1 : t < μ.length <;> by_cases h2 : t' < μ.length
  ·rw [t1 t h1] at ht; rw [t1 t' h2] at ht'; exact hS.inj t t' b ht ht'
  ·obtain ⟨d, rfl⟩ : ∃ d, t' = μ.length + d := ⟨t' - μ.length, by omega⟩
   rw [t1 t h1] at ht; rw [t2] at ht'
   have := hnew d b ht'; have := hS.lt t b ht; omega
  ·obtain ⟨d, rfl⟩ : ∃ d, t = μ.length + d := ⟨t - μ.length, by omega⟩
   rw [t1 t' h2] at ht'; rw [t2] at ht
   have := hnew d b ht; have := hS.lt t' b ht'; omega
  ·obtain ⟨d, rfl⟩ : ∃ d, t = μ.length + d := ⟨t - μ.length, by omega⟩
   obtain ⟨d', rfl⟩ : ∃ d, t' = μ.length + d := ⟨t' - μ.length, by omega⟩
   rw [t2] at ht ht'
   rw [hS'.inj d d' b ht ht']
 ·intro t b ht
  by_cases h1 : t < μ.length
  ·rw [t1 t h1] at ht; exact Nat.lt_of_lt_of_le (hS.lt t b ht) hB.size
  ·obtain ⟨d, rfl⟩ : ∃ d, t = μ.length + d := ⟨t - μ.length, by omega⟩
   rw [t2] at ht; exact hS'.lt d b ht
 ·intro t c hc
  by_cases h1 : t < μ.length
  ·rw [t1 t h1] at hc
   obtain ⟨o, h2, h3⟩ := hS.live t c hc
   refine ⟨o, by rw [List.getElem?_append_left h1]; exact h2, ?_⟩
   have hGs : Goes w κ w' κ2 (fun _ => False) := hGo.weak (fun t h => by cases h)
   exact jD7.still hGs (fun b hb => by subst hb; exact hB.block b (hS.lt t b hc)) h3
  ·obtain ⟨d, rfl⟩ : ∃ d, t = μ.length + d := ⟨t - μ.length, by omega⟩
   rw [t2] at hc
   obtain ⟨o, h2, h3⟩ := hS'.live d c hc
   refine ⟨o.shift μ.length, by rw [List.getElem?_append_right (by omega), Nat.add_sub_cancel_left, List.getElem?_map, h2]; rfl, ?_⟩
   cases h3 with
   | var b arr E sh x hh hs hsh hr =>
    obtain ⟨hs1, hs2⟩ := jQH (n := μ.length) hsh
    refine .var b arr E sh _ hh hs hs1 (fun j p v' hp hv => ?_)
    rw [hs2, List.getElem?_map] at hp
    cases hq : x.cells[j]? with
    | none => simp [hq] at hp
    | some q => simp [hq] at hp; subst hp; exact Rep.shift ho t2 (hr j q v' hq hv)
   | jCE sh => exact .jCE sh
   | row b cur E cap sh xs hh hs hm hl hfit hr => exact .row b cur E cap sh xs hh hs hm hl hfit (by rw [<- ho]; exact hr)
   | mp b kd es ents clock hh hs hB' hkd hk hv => exact .mp b kd es ents clock hh hs hB' hkd (by rw [<- ho]; exact hk) (by rw [<- ho]; exact hv)
   | mpg b kd es ents clock hh hs hkd hk hv => exact .mpg b kd es ents clock hh hs hkd (by rw [<- ho]; exact hk) (by rw [<- ho]; exact hv)
   | iter b kd es seen m hh hm => exact .iter b kd es seen m hh (by rw [<- ho]; exact hm)
   | mpo b kd es ents clock hh hs hB' hkd hk hv =>
    refine .mpo b kd _ ents clock hh (by simpa using hs) hB' (fun q hq => ?_) (fun i e q a d => ?_) (fun i e q a d => ?_)
    ·obtain ⟨q0, h0, rfl⟩ := List.mem_map.1 hq; exact hkd q0 h0
    ·obtain ⟨q0, h0, rfl⟩ := jDL (f := PV.shift μ.length) d; have := hk i e q0 a h0; rwa [<- ho]
    ·obtain ⟨q0, h0, rfl⟩ := jDL (f := PV.shift μ.length) d; exact Rep.shift ho t2 (hv i e q0 a h0)
 ·intro t o hto
  by_cases h1 : t < μ.length
  ·rw [List.getElem?_append_left h1] at hto; rw [t1 t h1]; exact hS.dead t o hto
  ·obtain ⟨d, rfl⟩ : ∃ d, t = μ.length + d := ⟨t - μ.length, by omega⟩
   rw [List.getElem?_append_right (by omega), Nat.add_sub_cancel_left, List.getElem?_map] at hto
   rw [t2]
   cases hd : ν[d]? with
   | none => simp [hd] at hto
   | some x =>
    cases x with
    | none => simp [hd] at hto
    | some o' => exact hS'.dead d o' hd
 ·intro b hb
  exact Nat.lt_of_lt_of_le (hS.jN3 b hb) hB.size
 ·intro t b ht
  by_cases h1 : t < μ.length
  ·rw [t1 t h1] at ht; exact hS.jEJ t b ht
  ·obtain ⟨d, rfl⟩ : ∃ d, t = μ.length + d := ⟨t - μ.length, by omega⟩
   rw [t2] at ht
   have h3 := hS'.jEJ d b ht
   rw [hx] at h3
   exact fun h => h3 (.inl h)
theorem jWO {d : Option Nat} {rest : List CO} {K : Env -> Mem -> Prop} {f : Nat} {ps qs as : List PV} {p0 : PV} {ν : Mem} (hE : Ent P f) (hV : jEW P G f (ps ++ as ++ qs) (fun p ν' => p = p0 ∧ ν' = ν)) (hs : ((ps ++ as ++ qs).map PV.jA5).all id = true)
  (h : jDG P G false mv rest (jGR env d (p0.shift μ.length)) (μ ++ ν.map (Option.map (jAF.shift μ.length))) K) : jG6 P G false mv d rest env K μ (.fn f ps qs) as := by
 refine .inr ⟨rfl, hE, .inl ⟨_, hV.lift hs, ?_⟩⟩
 rintro p μ' ⟨p', ν', ⟨rfl, rfl⟩, rfl, rfl⟩
 exact ⟨trivial, h⟩
theorem jCS {d : Option Nat} {rest : List CO} {K : Env -> Mem -> Prop} {f : Nat} {ps qs as : List PV} {R : PV -> Mem -> Prop} (hE : Ent P f) (hV : jA2 P G f (ps ++ as ++ qs) μ (fun _ => false) R)
  (h : ∀ p μ', R p μ' -> jDG P G false mv rest (jGR env d p) μ' K) : jG6 P G false mv d rest env K μ (.fn f ps qs) as :=
 .inr ⟨rfl, hE, .inl ⟨R, hV, fun p μ' hR => ⟨trivial, h p μ' hR⟩⟩⟩
def jFC (sh : Sh) (n : Nat) : jAF -> PV
 | .row sh' xs => if sh' = sh ∧ n <= xs.length then .list sh (xs.take n) else .junk
 | _ => .junk
def jPF : jAF -> PV
 | .mp kd es => .jC9 kd es
 | _ => .junk
theorem kCO (sh : Sh) (n : Nat) (o : jAF) : (jFC sh n o).isAgg = none := by
 cases o with
 | row sh' xs =>
  unfold jFC
  by_cases h : sh' = sh ∧ n <= xs.length
  ·simp only [if_pos h]; rfl
  ·simp only [if_neg h]; rfl
 | _ => rfl
theorem kFD (o : jAF) : (jPF o).isAgg = none := by
 cases o <;> simp only [jPF, PV.isAgg]
def PV.frz (t : Nat) (o : jAF) : PV -> PV
 | .sl sh t' n => if t' = t then jFC sh n o else .sl sh t' n
 | .mref t' => if t' = t then jPF o else .mref t'
 | .ref t' off => if t' = t then .junk else .ref t' off
 | .jDX t' m i off => if t' = t then .junk else .jDX t' m i off
 | .agg ps => .agg (ps.map (PV.frz t o))
 | .tup ps => .tup (ps.map (PV.frz t o))
 | .fn f ps qs => .fn f (ps.map (PV.frz t o)) (qs.map (PV.frz t o))
 | .cond b p => .cond b (PV.frz t o p)
 | p => p
def jAF.frz (t : Nat) (o : jAF) : jAF -> jAF
 | .var sh x => .var sh (x.frz t o)
 | .mpo kd es => .mpo kd (es.map fun q => (q.1, q.2.frz t o))
 | o' => o'
theorem jY3 {ex : Nat -> Prop} {t : Nat} {o : jAF} {v : Value} {p : PV} (h : jAW w ex v p) : jAW w ex v (p.frz t o) := by
 have jA9 : ∀ (ps : List PV) (i : Nat) (p : PV), (ps.map (PV.frz t o))[i]? = some p -> ∃ q, ps[i]? = some q ∧ p = q.frz t o := by
  intro ps i p h
  rw [List.getElem?_map] at h
  cases hq : ps[i]? with
  | none => simp [hq] at h
  | some q => simp [hq] at h; exact ⟨q, rfl, h.symm⟩
 induction h with
 | fn f first caps ps qs h1 h2 h3 h4 ih3 ih4 =>
  simp only [PV.frz]
  refine .fn f first caps _ _ (by simpa using h1) (by simpa using h2) (fun i v p a b => ?_) (fun i v p a b => ?_)
  ·obtain ⟨q, hq, rfl⟩ := jA9 ps i p b
   exact ih3 i v q a hq
  ·obtain ⟨q, hq, rfl⟩ := jA9 qs i p b
   exact ih4 i v q a hq
 | agg vs ps hs hr ih =>
  simp only [PV.frz]
  refine .agg vs _ (by simpa using hs) (fun i v p a b => ?_)
  obtain ⟨q, hq, rfl⟩ := jA9 ps i p b
  exact ih i v q a hq
 | tup vs ps hs hr ih =>
  simp only [PV.frz]
  refine .tup vs _ (by simpa using hs) (fun i v p a b => ?_)
  obtain ⟨q, hq, rfl⟩ := jA9 ps i p b
  exact ih i v q a hq
 | int k n => simp only [PV.frz]; exact .int k n
 | bool b => simp only [PV.frz]; exact .bool b
 | str s => simp only [PV.frz]; exact .str s
 | nilFn => simp only [PV.frz]; exact .nilFn
 | nilPtr => simp only [PV.frz]; exact .nilPtr
 | jAH => simp only [PV.frz]; exact .jAH
 | jA0 => simp only [PV.frz]; exact .jA0
 | yl l => simp only [PV.frz]; exact .yl l
 | list a len cap sh xs b off val h1 h2 h3 h4 h5 h6 h7 _ => simp only [PV.frz]; exact jAW.list a len cap sh xs b off val h1 h2 h3 h4 h5 h6 h7
 | full a len sh xs b off val h1 h3 h4 h5 h6 h7 _ => simp only [PV.frz]; exact jAW.full a len sh xs b off val h1 h3 h4 h5 h6 h7
 | jC9 r kd es ents clock h1 h2 h3 h4 h4' h5 h6 _ _ => simp only [PV.frz]; exact jAW.jC9 r kd es ents clock h1 h2 h3 h4 h4' h5 h6
 | jC2 b o off sh x val h1 h2 h3 h4 _ => simp only [PV.frz]; exact jAW.jC2 b o off sh x val h1 h2 h3 h4
def Kap.del (κ : Kap) (t : Nat) : Kap := ⟨fun i => if i = t then none else κ i, κ.ex⟩
theorem jTL (hS : Sim w κ μ) {t b : Nat} (h : κ t = some (some b)) : ¬ own (κ.del t) b := by
 rintro (h' | ⟨t', ht'⟩)
 ·exact hS.jEJ t b h h'
 ·simp only [Kap.del] at ht'
  split at ht'
  ·cases ht'
  ·rename_i hne; exact hne (hS.inj t' t b ht' h)
theorem Goes.del (t : Nat) : Goes w κ w (κ.del t) (fun i => i = t) := by
 refine ⟨rfl, rfl, rfl, Nat.le_refl _, rfl, fun _ _ _ => rfl, fun b _ hn ht => ?_, fun _ _ h => h, fun i c hc hi => ?_⟩
 ·obtain ⟨i, hi⟩ := ht
  simp only [Kap.del] at hi
  split at hi
  ·cases hi
  ·exact hn ⟨i, hi⟩
 ·simp only [Kap.del]; rw [if_neg hi]; exact hc
theorem Rep.frz (hS : Sim w κ μ) {t : Nat} {o : jAF} (hm : μ.get t = some o) {v : Value} {p : PV} (h : Rep w (own κ) κ v p) : Rep w (own (κ.del t)) (κ.del t) v (p.frz t o) := by
 have hG : Goes w κ w (κ.del t) (fun i => i = t) := Goes.del t
 have jA9 : ∀ (ps : List PV) (i : Nat) (p : PV), (ps.map (PV.frz t o))[i]? = some p -> ∃ q, ps[i]? = some q ∧ p = q.frz t o := by
  intro ps i p h
  rw [List.getElem?_map] at h
  cases hq : ps[i]? with
  | none => simp [hq] at h
  | some q => simp [hq] at h; exact ⟨q, rfl, h.symm⟩
 induction h with
 | junk v => simp only [PV.frz]; exact .junk v
 | closed h => exact .closed (jY3 (h.mono hG.agree))
 | ref t' off b h =>
  simp only [PV.frz]; split
  ·exact .junk _
  ·rename_i hh; exact .ref t' off b (hG.tags _ _ h hh)
 | jDX t' n i off b h =>
  simp only [PV.frz]; split
  ·exact .junk _
  ·rename_i hh; exact .jDX t' n i off b (hG.tags _ _ h hh)
 | sl sh t' n b cap h hs hl hm' =>
  simp only [PV.frz]; split
  ·rename_i hh; subst hh
   unfold jFC
   split
   ·rename_i sh' xs
    split
    ·rename_i hc
     obtain ⟨rfl, hn⟩ := hc
     obtain ⟨c, hc, hO⟩ := hS.at hm
     rw [h] at hc; cases hc
     cases hO with
     | row _ cur E cap' _ _ hh hcs kSG hl' hfit hr =>
      have jR7 : ∀ y ∈ xs.take n, fits sh' y := fun y hy => hfit y (List.mem_of_mem_take hy)
      have hfl : PG.flat (xs.take n) = (PG.flat xs).take (n * sh'.size) := jEH hfit n
      have hfn : (PG.flat (xs.take n)).length = n * sh'.size := by rw [flat_length jR7]; simp [Nat.min_eq_left hn]
      have hcur : n * sh'.size <= cur.size := by rw [hcs]; exact Nat.mul_le_mul_right _ (by omega)
      refine .closed (.list _ n cap sh' _ b 0 (fun j => cur.getD j undef) (by simp [Nat.min_eq_left hn]) hl hm' jR7 (fun _ => rfl) (fun j hj => ⟨jTL hS h, ?_⟩) (fun j p hp => ?_))
      ·rw [Nat.zero_add, jB0 hh]
       rw [hfn] at hj
       simp [show j < cur.size by omega]
      ·have hj : j < n * sh'.size := by rw [<- hfn]; exact (List.getElem?_eq_some_iff.1 hp).1
       rw [hfl, List.getElem?_take_of_lt hj] at hp
       exact (hr j p _ hp (by simp [show j < cur.size by omega])).mono hG.agree
    ·exact .junk _
   ·exact .junk _
  ·rename_i hh; exact .sl sh t' n b cap (hG.tags _ _ h hh) hs hl hm'
 | slnil sh t' h =>
  simp only [PV.frz]; split
  ·rename_i hh; subst hh
   unfold jFC
   split
   ·rename_i sh' xs
    split
    ·rename_i hc
     obtain ⟨rfl, hn⟩ := hc
     exact .closed (.list none 0 0 sh' _ 0 0 (fun _ => undef) (by simp) (Nat.le_refl _) (Nat.zero_le _) (by simp) (fun h => by simp at h) (fun j hj => by simp [PG.flat] at hj) (fun j p hp => by simp [PG.flat] at hp))
    ·exact .junk _
   ·exact .junk _
  ·rename_i hh; exact .slnil sh t' (hG.tags _ _ h hh)
 | mref t' b h =>
  simp only [PV.frz]; split
  ·rename_i hh; subst hh
   unfold jPF
   split
   ·rename_i kd es
    obtain ⟨c, hc, hO⟩ := hS.at hm
    rw [h] at hc; cases hc
    cases hO with
    | mp _ _ _ ents clock hh hs hB hkd hk hv =>
     exact .closed (.jC9 b kd es ents clock (jTL hS h) hh hs hB hkd (fun i e q a d => (hk i e q a d).mono hG.agree) (fun i e q a d => (hv i e q a d).mono hG.agree))
   ·exact .junk _
  ·rename_i hh; exact .mref t' b (hG.tags _ _ h hh)
 | agg vs ps hs hr ih =>
  simp only [PV.frz]
  refine .agg vs _ (by simpa using hs) (fun i v p a b => ?_)
  obtain ⟨q, hq, rfl⟩ := jA9 ps i p b
  exact ih i v q a hq
 | tup vs ps hs hr ih =>
  simp only [PV.frz]
  refine .tup vs _ (by simpa using hs) (fun i v p a b => ?_)
  obtain ⟨q, hq, rfl⟩ := jA9 ps i p b
  exact ih i v q a hq
 | fn f first caps ps qs h1 h2 h3 h4 ih3 ih4 =>
  simp only [PV.frz]
  refine .fn f first caps _ _ (by simpa using h1) (by simpa using h2) (fun i v p a b => ?_) (fun i v p a b => ?_)
  ·obtain ⟨q, hq, rfl⟩ := jA9 ps i p b
   exact ih3 i v q a hq
  ·obtain ⟨q, hq, rfl⟩ := jA9 qs i p b
   exact ih4 i v q a hq
 | cond b h hu ih => simp only [PV.frz]; exact .cond b (fun hb => ih hb) hu
theorem jXX {t : Nat} {o : jAF} {sh : Sh} {x : PV} (h : shaped sh x) : shaped sh (x.frz t o) ∧ (x.frz t o).cells = x.cells.map (PV.frz t o) := by
 cases sh with
 | none =>
  have h0 : x.cells = [x] := by cases x <;> simp_all [shaped, PV.isAgg, PV.cells]
  have h1 : (x.frz t o).isAgg = none := by
   have it : ∀ (b : Prop) [Decidable b] (p q : PV), p.isAgg = none -> q.isAgg = none -> (if b then p else q).isAgg = none := by
    intro b _ p q hp hq; split <;> assumption
   cases x with
   | agg cs => simp [shaped, PV.isAgg] at h
   | sl => simp only [PV.frz]; exact it _ _ _ (kCO _ _ _) rfl
   | mref => simp only [PV.frz]; exact it _ _ _ (kFD _) rfl
   | ref => simp only [PV.frz]; exact it _ _ _ rfl rfl
   | jDX => simp only [PV.frz]; exact it _ _ _ rfl rfl
   | _ => simp only [PV.frz]; rfl
  refine ⟨h1, ?_⟩
  rw [h0]
  simp only [List.map_cons, List.map_nil]
  generalize x.frz t o = y at h1 ⊢
  cases y <;> first | rfl | (simp [PV.isAgg] at h1)
 | some m => obtain ⟨cs, rfl, h⟩ := h; exact ⟨⟨cs.map (PV.frz t o), by simp [PV.frz], by simpa using h⟩, by simp [PV.frz, PV.cells]⟩
theorem Sim.frz (hS : Sim w κ μ) {t : Nat} {o : jAF} (hm : μ.get t = some o) : Sim w (κ.del t) ((μ.map (Option.map (jAF.frz t o))).set t none) := by
 have hG : Goes w κ w (κ.del t) (fun i => i = t) := Goes.del t
 have hd : ∀ i c, (κ.del t) i = some c -> i ≠ t ∧ κ i = some c := by
  intro i c h
  simp only [Kap.del] at h
  split at h
  ·cases h
  ·exact ⟨by assumption, h⟩
 refine ⟨fun i j b hi hj => hS.inj i j b (hd i _ hi).2 (hd j _ hj).2, fun i b hi => hS.lt i b (hd i _ hi).2, fun i c hi => ?_, fun i o' hi => ?_, hS.jN3, fun i b hi => hS.jEJ i b (hd i _ hi).2⟩
 ·obtain ⟨hne, hi'⟩ := hd i c hi
  obtain ⟨o', h1, h2⟩ := hS.live i c hi'
  refine ⟨jAF.frz t o o', by rw [List.getElem?_set_ne (Ne.symm hne), List.getElem?_map, h1]; rfl, ?_⟩
  cases h2 with
  | var b arr E sh x h hs hsh hr =>
   obtain ⟨hs1, hs2⟩ := jXX (t := t) (o := o) hsh
   refine .var b arr E sh _ h hs hs1 (fun j p v hp hv => ?_)
   rw [hs2, List.getElem?_map] at hp
   cases hq : x.cells[j]? with
   | none => simp [hq] at hp
   | some q => simp [hq] at hp; subst hp; exact Rep.frz hS hm (hr j q v hq hv)
  | jCE sh => exact .jCE sh
  | row b cur E cap sh xs h hs hm hl hfit hr => exact .row b cur E cap sh xs h hs hm hl hfit (fun j p v hp hv => (hr j p v hp hv).mono hG.agree)
  | mp b kd es ents clock h hs hB hkd hk hv => exact .mp b kd es ents clock h hs hB hkd (fun i e q a d => (hk i e q a d).mono hG.agree) (fun i e q a d => (hv i e q a d).mono hG.agree)
  | mpg b kd es ents clock h hs hkd hk hv => exact .mpg b kd es ents clock h hs hkd (fun i e q a d => (hk i e q a d).mono hG.agree) (fun i e q a d => (hv i e q a d).mono hG.agree)
  | iter b kd es seen m h hm => exact .iter b kd es seen m h (hm.imp id fun ⟨r, h1, h2⟩ => ⟨r, h1, h2.mono hG.agree⟩)
  | mpo b kd es ents clock h hs hB hkd hk hv =>
   refine .mpo b kd _ ents clock h (by simpa using hs) hB (fun q hq => ?_) (fun i e q a d => ?_) (fun i e q a d => ?_)
   ·obtain ⟨q0, h0, rfl⟩ := List.mem_map.1 hq; exact hkd q0 h0
   ·obtain ⟨q0, h0, rfl⟩ := jDL (f := PV.frz t o) d; exact (hk i e q0 a h0).mono hG.agree
   ·obtain ⟨q0, h0, rfl⟩ := jDL (f := PV.frz t o) d; exact Rep.frz hS hm (hv i e q0 a h0)
 ·by_cases hit : i = t
  ·subst hit
   have hl : i < μ.length := (List.getElem?_eq_some_iff.1 (Mem.get_some hm)).1
   rw [List.getElem?_set_self (by simpa using hl)] at hi
   cases hi
  ·rw [List.getElem?_set_ne (Ne.symm hit), List.getElem?_map] at hi
   simp only [Kap.del]; rw [if_neg hit]
   cases hx : μ[i]? with
   | none => simp [hx] at hi
   | some x =>
    cases x with
    | none => simp [hx] at hi
    | some o'' => exact hS.dead i o'' hx
theorem PW.frz {x : jB1} (t : Nat) (o : jAF) (hm : μ.get t = some o) (hmv : mv t = true) (h : PW P G N mv x (env.map fun x => (x.1, x.2.frz t o)) ((μ.map (Option.map (jAF.frz t o))).set t none) Q) : PW P G N mv x env μ Q := by
 intro ow L code hc jD8 C a w κ hC hR
 have hG : Goes w κ w (κ.del t) (fun i => i = t) := Goes.del t
 refine h ow L code hc jD8 C a w (κ.del t) hC ⟨hR.size, hR.defers, fun i => ?_, hR.sim.frz hm, jBV hR.globs hG, hR.goes.trans (hG.weak fun i hi => by rw [hi, hC]; exact hmv)⟩
 have key : ∀ (env : Env) (v : Value), Rep w (PG.own κ) κ v (env.get i) -> Rep w (PG.own (κ.del t)) (κ.del t) v (Env.get (env.map fun x => (x.1, x.2.frz t o)) i) := by
  intro env v
  induction env with
  | nil => intro _; exact .junk v
  | cons y e ih =>
   obtain ⟨j, p⟩ := y
   simp only [Env.get, List.map_cons]
   split
   ·exact fun h => Rep.frz hR.sim hm h
   ·exact ih
 exact key env _ (hR.regs i)
def Kap.trim (κ : Kap) (n : Nat) : Kap := ⟨fun t => if t < n then κ t else none, κ.ex⟩
def jBE (n : Nat) (env : Env) : Env := env.map fun x => (x.1, x.2.kill fun t => decide (n <= t))
def jAZ (n : Nat) (μ : Mem) : Mem := (μ.take n).map (Option.map (jAF.kill fun t => decide (n <= t)))
theorem Goes.trim (n : Nat) : Goes w κ w (κ.trim n) (fun t => n <= t) := by
 refine ⟨rfl, rfl, rfl, Nat.le_refl _, rfl, fun _ _ _ => rfl, fun b _ hn ht => ?_, fun _ _ h => h, fun i c hc hi => ?_⟩
 ·obtain ⟨i, hi⟩ := ht
  simp only [Kap.trim] at hi
  split at hi
  ·exact hn ⟨i, hi⟩
  ·cases hi
 ·simp only [Kap.trim]; rw [if_pos (by omega)]; exact hc
theorem Sim.trim (hS : Sim w κ μ) (n : Nat) : Sim w (κ.trim n) (jAZ n μ) := by
 have hG : Goes w κ w (κ.trim n) (fun t => n <= t) := Goes.trim n
 have hd : ∀ i c, (κ.trim n) i = some c -> i < n ∧ κ i = some c := by
  intro i c h
  simp only [Kap.trim] at h
  split at h
  ·exact ⟨by assumption, h⟩
  ·cases h
 refine ⟨fun i j b hi hj => hS.inj i j b (hd i _ hi).2 (hd j _ hj).2, fun i b hi => hS.lt i b (hd i _ hi).2, fun i c hi => ?_, fun i o' hi => ?_, hS.jN3, fun i b hi => hS.jEJ i b (hd i _ hi).2⟩
 ·obtain ⟨hlt, hi'⟩ := hd i c hi
  obtain ⟨o', h1, h2⟩ := hS.live i c hi'
  refine ⟨o'.kill _, ?_, jD7.goes (dead := fun t => decide (n <= t)) hG (fun t ht => by simpa using ht) (fun _ _ => rfl) h2⟩
  simp only [jAZ, List.getElem?_map, List.getElem?_take_of_lt hlt, h1, Option.map_some]
 ·simp only [jAZ, List.getElem?_map] at hi
  cases hx : (μ.take n)[i]? with
  | none => simp [hx] at hi
  | some x =>
   have hlt : i < n := by
    have := (List.getElem?_eq_some_iff.1 hx).1
    rw [List.length_take] at this; omega
   rw [List.getElem?_take_of_lt hlt] at hx
   cases x with
   | none => rw [List.getElem?_take_of_lt hlt, hx] at hi; simp at hi
   | some o'' =>
    simp only [Kap.trim]; rw [if_pos hlt]
    exact hS.dead i o'' hx
theorem jZP (n : Nat) (env : Env) (i : Nat) : (jBE n env).get i = (env.get i).kill fun t => decide (n <= t) := by
 induction env with
 | nil => simp [jBE, Env.get, PV.kill]
 | cons x e ih =>
  obtain ⟨j, p⟩ := x
  simp only [jBE, List.map_cons, Env.get] at ih ⊢
  split
  ·rfl
  ·exact ih
theorem SR.trim {C : Ctx} {a : Act} (h : SR G N C a w κ env μ) (n : Nat) (hn : ∀ t, n <= t -> C.mv t = true) : SR G N C a w (κ.trim n) (jBE n env) (jAZ n μ) := by
 have hG : Goes w κ w (κ.trim n) (fun t => n <= t) := Goes.trim n
 exact ⟨h.size, h.defers, fun i => by rw [jZP]; exact Rep.goes hG (fun t ht => by simpa using ht) (h.regs i), h.sim.trim n, jBV h.globs hG, h.goes.trans (hG.weak hn)⟩
def jNQ {σ : Type} (n : Nat) (vars : List Nat) (vals : σ -> List PV) (mem : σ -> Mem) (Inv : σ -> Prop) (meas : σ -> Nat) (s : σ) (Q : Post) : Post := fun e env μ =>
 match e with
 | .normal => ∃ s', jBE n (jE9 vars env) = vars.zip (vals s') ∧ jAZ n μ = mem s' ∧ Inv s' ∧ meas s' < meas s
 | e => Q e env μ
theorem jNP {σ : Type} (n : Nat) (vars : List Nat) (vals : σ -> List PV) (mem : σ -> Mem) (Inv : σ -> Prop) (meas : σ -> Nat) (s : σ) : jNQ n vars vals mem Inv meas s Q .ret env μ = Q .ret env μ := rfl
theorem jLF {σ : Type} (n : Nat) (vars : List Nat) (vals : σ -> List PV) (mem : σ -> Mem) (Inv : σ -> Prop) (meas : σ -> Nat) (s : σ) (id : Nat) : jNQ n vars vals mem Inv meas s Q (.exit id) env μ = Q (.exit id) env μ := rfl
theorem jH8 {σ : Type} (n : Nat) (vars : List Nat) (vals : σ -> List PV) (mem : σ -> Mem) (Inv : σ -> Prop) (meas : σ -> Nat) (s : σ) :
  jNQ n vars vals mem Inv meas s Q .normal env μ = ∃ s', jBE n (jE9 vars env) = vars.zip (vals s') ∧ jAZ n μ = mem s' ∧ Inv s' ∧ meas s' < meas s := rfl
@[congr] theorem kG6 {σ : Type} {n : Nat} {vars : List Nat} {vals : σ -> List PV} {mem : σ -> Mem} {Inv : σ -> Prop} {meas : σ -> Nat} {s : σ} {e e' : Exit} {env env' : Env} {μ μ' : Mem} (hx : e = e') (he : env = env') (hm : μ = μ') :
  jNQ n vars vals mem Inv meas s Q e env μ = jNQ n vars vals mem Inv meas s Q e' env' μ' := by rw [hx, he, hm]
@[congr] theorem kKJ {rs : List RVar} {R : PV -> Mem -> Prop} {e e' : Exit} {env env' : Env} {μ μ' : Mem} (hx : e = e') (he : env = env') (hm : μ = μ') : endP rs R e env μ = endP rs R e' env' μ' := by rw [hx, he, hm]
theorem PW.jDV {σ : Type} (n : Nat) (hn : ∀ t, n <= t -> mv t = true) (vars : List Nat) (vals : σ -> List PV) (mem : σ -> Mem) (Inv : σ -> Prop) (meas : σ -> Nat) (s0 : σ) {x : jB1} (h0 : jE9 vars env = vars.zip (vals s0)) (hm : μ = mem s0) (hI : Inv s0)
  (round : ∀ s, Inv s -> PW P G N mv x (vars.zip (vals s)) (mem s) (jNQ n vars vals mem Inv meas s Q)) : PW P G N mv (.loop x) env μ Q := by
 intro ow L code hc jD8 C a w κ hmv hR
 obtain ⟨x0, rfl, hx⟩ := jII hc
 refine wp_loop_ghost (fun n a w => ∃ s κ, meas s = n ∧ Inv s ∧ SR G N C a w κ (vars.zip (vals s)) (mem s)) (meas s0) ⟨s0, κ, rfl, hI, by rw [<- h0, <- hm]; exact hR.weak (jD4 _ _)⟩ ?_
 rintro n' a w ⟨s, κ, rfl, hI, hR⟩
 refine wp_mono (round s hI ow L x0 hx jD8 C a w κ hmv hR) ?_
 rintro e a' w' ⟨env', μ', κ', hq, hR'⟩
 cases e with
 | normal =>
  obtain ⟨s', hs1, hs2, hs3, hs4⟩ := hq
  exact ⟨meas s', hs4, s', κ'.trim n, rfl, hs3, by rw [<- hs1, <- hs2]; exact (hR'.weak (jD4 vars _)).trim n (by rw [hmv]; exact hn)⟩
 | exit id' => exact ⟨env', μ', κ', hq, hR'⟩
 | goto l => exact ⟨env', μ', κ', hq, hR'⟩
 | ret => exact ⟨env', μ', κ', hq, hR'⟩
 | panic ch => exact ⟨env', μ', κ', hq, hR'⟩
 | outgrown => exact ⟨env', μ', κ', hq, hR'⟩
end
theorem kDK (n : Nat) (cs : List PV) (o : Nat) : cut (some n) none (.agg cs) o = cs.getD o .junk := by
 simp [cut, sub, PV.cells, List.getD]
theorem jSZ (cs : List PV) : (PV.agg cs).cells = cs := rfl
theorem jQG : Sh.size none = 1 := rfl
theorem jQF (n : Nat) : Sh.size (some n) = n := rfl
theorem kLY (p q r s u : PV) (l : List PV) : (p :: q :: r :: s :: u :: l).getD 4 .junk = u := rfl
theorem kLX (p q r s u v : PV) (l : List PV) : (p :: q :: r :: s :: u :: v :: l).getD 5 .junk = v := rfl
theorem kLB (n : Nat) : ((some n : Sh) = none) = False := by simp
theorem kLA (n : Nat) : ((none : Sh) = some n) = False := by simp
theorem jRB (a : PV) : jBK (.agg [a]) (some 1) = some [a] := rfl
theorem jRA (a b : PV) : jBK (.agg [a, b]) (some 2) = some [a, b] := rfl
theorem jQ9 (a b c : PV) : jBK (.agg [a, b, c]) (some 3) = some [a, b, c] := rfl
theorem jQ8 (a b c d : PV) : jBK (.agg [a, b, c, d]) (some 4) = some [a, b, c, d] := rfl
theorem jQ7 (a b c d e : PV) : jBK (.agg [a, b, c, d, e]) (some 5) = some [a, b, c, d, e] := rfl
theorem jQ6 (a b c d e f : PV) : jBK (.agg [a, b, c, d, e, f]) (some 6) = some [a, b, c, d, e, f] := rfl
theorem jQ5 (a b c d e f g : PV) : jBK (.agg [a, b, c, d, e, f, g]) (some 7) = some [a, b, c, d, e, f, g] := rfl
theorem jQ4 (a b c d e f g h : PV) : jBK (.agg [a, b, c, d, e, f, g, h]) (some 8) = some [a, b, c, d, e, f, g, h] := rfl
theorem jQ3 (a b c d e f g h i : PV) : jBK (.agg [a, b, c, d, e, f, g, h, i]) (some 9) = some [a, b, c, d, e, f, g, h, i] := rfl
theorem SS2 : type_of% (And.intro (And.intro (And.intro (And.intro (@jNP) (And.intro (@jLF) (@jH8))) (And.intro (@jW0) (And.intro (@jL2) (kDK)))) (And.intro (And.intro (jSZ) (And.intro (jQG) (jQF))) (And.intro (kLY) (And.intro (kLX) (kLB))))) (And.intro (And.intro (And.intro (kLA) (And.intro (jRB) (jRA))) (And.intro (jQ9) (And.intro (jQ8) (jQ7)))) (And.intro (And.intro (jQ6) (And.intro (jQ5) (jQ4))) (And.intro (jQ3) (And.intro (@List.length_nil (Option jAF)) (@List.length_cons (Option jAF))))))) :=
 (And.intro (And.intro (And.intro (And.intro (@jNP) (And.intro (@jLF) (@jH8))) (And.intro (@jW0) (And.intro (@jL2) (kDK)))) (And.intro (And.intro (jSZ) (And.intro (jQG) (jQF))) (And.intro (kLY) (And.intro (kLX) (kLB))))) (And.intro (And.intro (And.intro (kLA) (And.intro (jRB) (jRA))) (And.intro (jQ9) (And.intro (jQ8) (jQ7)))) (And.intro (And.intro (jQ6) (And.intro (jQ5) (jQ4))) (And.intro (jQ3) (And.intro (@List.length_nil (Option jAF)) (@List.length_cons (Option jAF)))))))
def jT7 : PV -> DataW Unit
 | .int k n => .lit (.int k n)
 | .str l => .lit (.string l)
 | _ => .nil
def kKI : PV -> Bool
 | .int _ _ | .str _ => true
 | _ => false
theorem jZX {enc : TypeId × Value -> Unit} {P : Program} {w : World} {base : Nat} {sp : Nat -> Bool} {held : Bool} {fuel : Nat} {t e : TypeId} {n : Nat} {cs : List Value} {zs : List PV} {p : List MemPlace}
  (ht : P.underlying t = some (.array n e)) (he : (∃ k, P.underlying e = some (.int k)) ∨ P.underlying e = some .string) (hce : P.cellsOf e = 1) (hct : P.cellsOf t = n) (hz : ∀ z ∈ zs, kKI z = true)
  (h : DataW.trod enc P w base sp held fuel t cs = some (.agg (zs.map jT7), p)) : cs = zs.map PV.toV := by
 cases fuel with
 | zero => simp [DataW.trod] at h
 | succ fuel =>
  simp only [DataW.trod, ht, hce, hct, Nat.mul_one] at h
  split at h
  ·rename_i hl
   obtain ⟨xs, hm, hx⟩ := Option.map_eq_some_iff.1 h
   have hxs : xs.map (·.1) = zs.map jT7 := by
    have := congrArg Prod.fst hx
    simpa using this
   have hxl : xs.length = n := by simpa using Lib.mapM_length hm
   have hzl : zs.length = n := by
    have := congrArg List.length hxs
    simp at this
    omega
   apply List.ext_getElem?
   intro i
   by_cases hi : i < n
   ·obtain ⟨b, hb, hf⟩ := Lib.mapM_at hm i i (by simp [hi])
    have hzi : zs[i]? = some zs[i] := List.getElem?_eq_getElem (by omega)
    have hzm := hz zs[i] (List.getElem_mem _)
    have h2 : (xs.map (·.1))[i]? = some b.1 := by simp [hb]
    rw [hxs, List.getElem?_map, hzi] at h2
    simp only [Option.map_some, Option.some.injEq] at h2
    rw [List.getElem?_map, hzi, Option.map_some]
    rcases he with ⟨k, he⟩ | he
    ·obtain ⟨z, hc, hb1, _⟩ := DataW.trod_int he hf
     have h1 : cs[i]? = some (.int k z) := by
      have := congrArg (·[0]?) hc
      simpa [List.getElem?_take, List.getElem?_drop] using this
     rw [hb1] at h2
     cases hzz : zs[i] <;> rw [hzz] at h2 hzm <;> simp [kKI] at hzm <;> simp [jT7] at h2
     obtain ⟨rfl, rfl⟩ := h2
     rw [h1]; rfl
    ·obtain ⟨z, hc, hb1, _⟩ := DataW.trod_string he hf
     have h1 : cs[i]? = some (.string z) := by
      have := congrArg (·[0]?) hc
      simpa [List.getElem?_take, List.getElem?_drop] using this
     rw [hb1] at h2
     cases hzz : zs[i] <;> rw [hzz] at h2 hzm <;> simp [kKI] at hzm <;> simp [jT7] at h2
     subst h2
     rw [h1]; rfl
   ·rw [List.getElem?_eq_none (by omega), List.getElem?_eq_none (by simp; omega)]
  ·cases h
theorem jZU {P : Program} {W : World} {name : String} {zs : List PV} {g : Nat} {t e : TypeId} {n : Nat} {ps : List MemPlace} {rest : List (String × DataW Unit)}
  (hg : P.globalNamed name = some g) (hty : (P.globals[g]?).map (·.type) = some t) (ht : P.underlying t = some (.array n e)) (he : (∃ k, P.underlying e = some (.int k)) ∨ P.underlying e = some .string) (hce : P.cellsOf e = 1) (hct : P.cellsOf t = n)
  (hz : ∀ z ∈ zs, kKI z = true) (hn : zs.length = n) (h : DataW.LaidVars P W ((name, .agg (zs.map jT7)) :: rest) ps) : jAW W (fun _ => False) (.pointer (some ⟨g, 0, none⟩)) (.jC2 (some n) (.agg zs) 0) := by
 obtain ⟨g', t', cs, fuel, p, q, hg', ht', hvar, hd, _, _⟩ := h
 obtain rfl := Option.some.inj (hg.symm.trans hg')
 obtain rfl := Option.some.inj (hty.symm.trans ht')
 have hcs := jZX ht he hce hct hz hd
 have hat : ∀ z ∈ zs, z.atom = true := fun z h => by
  have := hz z h
  cases z <;> simp_all [kKI, PV.atom]
 refine .jC2 g 0 0 (some n) (.agg zs) (fun j => (zs.getD j .junk).toV) ⟨zs, rfl, hn, fun c hc => by have := hz c hc; cases c <;> simp_all [kKI, PV.scalar]⟩ (Nat.zero_le _) (fun j hj => ⟨fun h => h, ?_⟩) (fun j p hp => ?_)
 ·have hj' : j < zs.length := hj
  have := World.var?_cell hg hvar j
  rw [Nat.zero_add, this]
  have : cs[j]? = (zs.map PV.toV)[j]? := by rw [<- hcs]; simp
  rw [this]; simp [hj']
 ·have hp' : zs[j]? = some p := hp
  have : zs.getD j .junk = p := by simp [List.getD, hp']
  rw [this]
  exact PV.jTD (hat p (List.mem_of_getElem? hp'))
theorem kAV (sh : Sh) (xs : List PV) : (PV.list sh xs).scalar = true := rfl
theorem jUX : PV.jAH.scalar = true := rfl
theorem jUY : PV.nilFn.scalar = true := rfl
theorem jQM : PV.nilPtr.scalar = true := rfl
theorem jQN : PV.jA0.scalar = true := rfl
theorem kLD (f : Nat) (a b : List PV) : (PV.fn f a b).scalar = true := rfl
theorem kLC (sh : Sh) (t n : Nat) : (PV.sl sh t n).scalar = true := rfl
theorem kAU (t : Nat) : (PV.mref t).scalar = true := rfl
theorem kGR (t o : Nat) : (PV.ref t o).scalar = true := rfl
theorem kAX (kd : KK) (es : List (PV × PV)) : (PV.jC9 kd es).scalar = true := rfl
theorem kAW (sh : Sh) (xs : List PV) : (PV.full sh xs).scalar = true := rfl
theorem jQZ (sh : Sh) (xs : List PV) : partOf (.list sh xs) 1 = some [.list sh xs] := rfl
theorem jNF : partOf .jAH 1 = some [.jAH] := rfl
theorem kBH (sh : Sh) (t n : Nat) : partOf (.sl sh t n) 1 = some [.sl sh t n] := rfl
theorem jK3 (sh : Sh) (xs : List PV) : jBK (.list sh xs) none = some [.list sh xs] := rfl
theorem jJJ : jBK .jAH none = some [.jAH] := rfl
theorem jHZ : jBK .jA0 none = some [.jA0] := rfl
theorem jQ1 (sh : Sh) (t n : Nat) : jBK (.sl sh t n) none = some [.sl sh t n] := rfl
theorem jK2 (t : Nat) : jBK (.mref t) none = some [.mref t] := rfl
theorem jQ2 (f : Nat) (a b : List PV) : jBK (.fn f a b) none = some [.fn f a b] := rfl
theorem jK4 (kd : KK) (es : List (PV × PV)) : jBK (.jC9 kd es) none = some [.jC9 kd es] := rfl
theorem jUP (b : Bool) : (PV.bool b).toB = b := rfl
theorem jWN (b : Bool) : (PV.bool b).isB = true := rfl
theorem kG7 (c : Bool) : (if c = true then true else true) = true := by cases c <;> rfl
theorem SS3 : type_of% (And.intro (And.intro (And.intro (kAV) (And.intro (jUX) (And.intro (jUY) (jQM)))) (And.intro (jQN) (And.intro (kLD) (And.intro (kLC) (kAU))))) (And.intro (And.intro (And.intro (kGR) (kAX)) (And.intro (kAW) (And.intro (jQZ) (And.intro jNF kBH)))) (And.intro (And.intro (jK3) (And.intro (jJJ) jHZ)) (And.intro (And.intro (And.intro jQ1 (And.intro jUP (And.intro jWN kG7))) (jK2)) (And.intro (jQ2) (jK4)))))) :=
 (And.intro (And.intro (And.intro (kAV) (And.intro (jUX) (And.intro (jUY) (jQM)))) (And.intro (jQN) (And.intro (kLD) (And.intro (kLC) (kAU))))) (And.intro (And.intro (And.intro (kGR) (kAX)) (And.intro (kAW) (And.intro (jQZ) (And.intro jNF kBH)))) (And.intro (And.intro (jK3) (And.intro (jJJ) jHZ)) (And.intro (And.intro (And.intro jQ1 (And.intro jUP (And.intro jWN kG7))) (jK2)) (And.intro (jQ2) (jK4))))))
set_option linter.unusedSectionVars false
section
variable {κ α : Type} [DecidableEq κ]
def jIN : List (κ × α) -> κ -> α -> List (κ × α)
 | [], k, v => [(k, v)]
 | q :: es, k, v => if q.1 = k then (k, v) :: es else q :: jIN es k v
def jCA : List (κ × α) -> κ -> Option α
 | [], _ => none
 | q :: es, k => if q.1 = k then some q.2 else jCA es k
theorem jDT (es : List (κ × α)) (k : κ) (v : α) (s : κ) : jCA (jIN es k v) s = if s = k then some v else jCA es s := by
 induction es with
 | nil => simp only [jIN, jCA]; by_cases h : k = s <;> simp [h, eq_comm]
 | cons q es ih =>
  simp only [jIN]
  by_cases h : q.1 = k
  ·simp only [h, if_true, jCA]
   by_cases h2 : k = s
   ·subst h2; simp
   ·have : ¬ s = k := fun e => h2 e.symm
    simp [h2, this]
  ·simp only [h, if_false, jCA, ih]
   by_cases h2 : q.1 = s
   ·subst h2; simp [h]
   ·simp [h2]
theorem kDU (es : List (κ × α)) (k : κ) (v : α) : (jIN es k v).map (·.1) = if k ∈ es.map (·.1) then es.map (·.1) else es.map (·.1) ++ [k] := by
 induction es with
 | nil => simp [jIN]
 | cons q es ih =>
  simp only [jIN]
  by_cases h : q.1 = k
  ·simp [h]
  ·have h' : ¬ k = q.1 := fun e => h e.symm
   simp only [h, if_false, List.map_cons, ih, List.mem_cons, h', false_or]
   split <;> simp
theorem jJC {es : List (κ × α)} (h : (es.map (·.1)).Nodup) (k : κ) (v : α) : ((jIN es k v).map (·.1)).Nodup := by
 rw [kDU]
 split
 ·exact h
 ·rename_i hk
  rw [List.nodup_append]
  refine ⟨h, by simp, fun a ha b hb => ?_⟩
  simp at hb; subst hb
  intro e; subst e; exact hk ha
theorem jKE {es : List (κ × α)} (h : (es.map (·.1)).Nodup) : ∀ {k : κ} {v : α}, (k, v) ∈ es -> jCA es k = some v := by
 induction es with
 | nil => intro k v hm; cases hm
 | cons q es ih =>
  intro k v hm
  simp only [List.map_cons, List.nodup_cons] at h
  simp only [jCA]
  rcases List.mem_cons.1 hm with e | hm
  ·subst e; simp
  ·by_cases hq : q.1 = k
   ·exfalso; apply h.1; rw [hq]; exact List.mem_map.2 ⟨_, hm, rfl⟩
   ·rw [if_neg hq]; exact ih h.2 hm
theorem jHF {es : List (κ × α)} {k : κ} {v : α} (h : jCA es k = some v) : (k, v) ∈ es := by
 induction es with
 | nil => cases h
 | cons q es ih =>
  simp only [jCA] at h
  split at h
  ·rename_i e; cases h; rw [<- e]; exact List.mem_cons_self
  ·exact List.mem_cons_of_mem _ (ih h)
def jS6 (kp : κ -> PV) (vp : α -> PV) (es : List (κ × α)) : List (PV × PV) := es.map fun q => (kp q.1, vp q.2)
theorem jC3 (kp : κ -> PV) (vp : α -> PV) (es : List (κ × α)) : (jS6 kp vp es).length = es.length := by simp [jS6]
theorem kBT {kp : κ -> PV} {vp : α -> PV} (hk : ∀ a b, jPC (kp a) (kp b) = decide (a = b)) (es : List (κ × α)) (k : κ) (v : α) : jF7 (jS6 kp vp es) (kp k) (vp v) = jS6 kp vp (jIN es k v) := by
 induction es with
 | nil => rfl
 | cons q es ih =>
  simp only [jS6, List.map_cons, jF7, jIN, hk] at *
  by_cases h : q.1 = k
  ·simp [h]
  ·simp [h, ih]
theorem jYK {kp : κ -> PV} {vp : α -> PV} (hk : ∀ a b, jPC (kp a) (kp b) = decide (a = b)) (es : List (κ × α)) (k : κ) : (jI2 (jS6 kp vp es) (kp k)).map (·.2) = (jCA es k).map vp := by
 induction es with
 | nil => rfl
 | cons q es ih =>
  simp only [jS6, List.map_cons, jI2, jCA, hk] at *
  by_cases h : q.1 = k
  ·simp [h]
  ·simp only [h, decide_false, Bool.false_eq_true, if_false, Option.map_map, <- ih]
   rfl
theorem kBV {kp : κ -> PV} {vp : α -> PV} (hk : ∀ a b, jPC (kp a) (kp b) = decide (a = b)) (es : List (κ × α)) (k : κ) : jFK (jS6 kp vp es) (kp k) = (jCA es k).map vp := jYK hk es k
theorem jT5 (kp : κ -> PV) (vp : α -> PV) (es : List (κ × α)) {i : Nat} (h : i < es.length) : ∃ k v, es[i]? = some (k, v) ∧ (k, v) ∈ es ∧ enK (jS6 kp vp es) i = kp k ∧ enV (jS6 kp vp es) i = vp v := by
 refine ⟨es[i].1, es[i].2, List.getElem?_eq_getElem h, List.getElem_mem h, ?_, ?_⟩
 ·simp [enK, jS6, List.getD, h]
 ·simp [enV, jS6, List.getD, h]
end
theorem jR3 (a b : List UInt8) : jPC (.str a) (.str b) = decide (a = b) := rfl
abbrev jB4 {α : Type} (vp : α -> PV) (es : List (List UInt8 × α)) : List (PV × PV) := jS6 PV.str vp es
theorem jD2 {α : Type} (vp : α -> PV) (es : List (List UInt8 × α)) (k : List UInt8) (v : α) : jF7 (jB4 vp es) (.str k) (vp v) = jB4 vp (jIN es k v) := kBT jR3 es k v
theorem jCR {α : Type} (vp : α -> PV) (es : List (List UInt8 × α)) (k : List UInt8) : jFK (jB4 vp es) (.str k) = (jCA es k).map vp := kBV jR3 es k
theorem getD_map {α : Type} (vp : α -> PV) (o : Option α) (d : α) : (o.map vp).getD (vp d) = vp (o.getD d) := by cases o <;> rfl
theorem isSome_map {α : Type} (vp : α -> PV) (o : Option α) : (o.map vp).isSome = o.isSome := by cases o <;> rfl
def jYT (n : Nat) (seen : List Nat) : Nat := ((List.range n).filter fun i => !seen.contains i).length
theorem jJ5 {n i : Nat} {seen : List Nat} (h : i < n) (hs : i ∉ seen) : jYT n (seen ++ [i]) < jYT n seen := by
 unfold jYT
 have e : ((List.range n).filter fun j => !(seen ++ [i]).contains j) = (((List.range n).filter fun j => !seen.contains j).filter fun j => !decide (j = i)) := by
  rw [List.filter_filter]
  congr 1
  funext j
  simp only [List.contains_eq_mem, List.mem_append, List.mem_singleton]
  by_cases h1 : j ∈ seen <;> by_cases h2 : j = i <;> simp [h1, h2]
 rw [e]
 have hm : i ∈ (List.range n).filter fun j => !seen.contains j := by simp [h, hs]
 exact List.length_filter_lt_length_iff_exists.2 ⟨i, hm, by simp⟩
mutual
inductive Sub : PV -> PV -> Prop
 | refl (p : PV) : Sub p p
 | nil (sh : Sh) : Sub .jAH (.list sh [])
 | agg {ps qs : List PV} (h : jF1 ps qs) : Sub (.agg ps) (.agg qs)
 | list {sh : Sh} {xs ys : List PV} (h : jF1 xs ys) : Sub (.list sh xs) (.list sh ys)
inductive jF1 : List PV -> List PV -> Prop
 | nil : jF1 [] []
 | cons {p q : PV} {ps qs : List PV} (h : Sub p q) (t : jF1 ps qs) : jF1 (p :: ps) (q :: qs)
end
theorem jF1.len : ∀ {ps qs : List PV}, jF1 ps qs -> ps.length = qs.length
 | [], _, h => by cases h; rfl
 | p :: ps, _, h => by cases h with | cons h t => simp [jF1.len t]
theorem jF1.refl : ∀ (ps : List PV), jF1 ps ps
 | [] => .nil
 | p :: ps => .cons (.refl p) (jF1.refl ps)
theorem jF1.get : ∀ {ps qs : List PV}, jF1 ps qs -> ∀ {i : Nat} {q : PV}, qs[i]? = some q -> ∃ p, ps[i]? = some p ∧ Sub p q
 | [], _, h, i, q, hq => by cases h; simp at hq
 | p :: ps, _, h, i, q, hq => by
  cases h with
  | cons h t =>
   cases i with
   | zero => simp at hq; subst hq; exact ⟨p, rfl, h⟩
   | succ i => simp at hq; simpa using jF1.get t hq
theorem jF1.app : ∀ {ps qs rs ss : List PV}, jF1 ps qs -> jF1 rs ss -> jF1 (ps ++ rs) (qs ++ ss)
 | [], _, _, _, h, k => by cases h; exact k
 | p :: ps, _, _, _, h, k => by cases h with | cons h t => exact .cons h (jF1.app t k)
theorem Sub.cells {p q : PV} (h : Sub p q) : jF1 p.cells q.cells := by
 cases h with
 | refl => exact .refl _
 | nil sh => exact .cons (.nil sh) .nil
 | agg h => exact h
 | list h => exact .cons (.list h) .nil
theorem jF1.flat : ∀ {xs ys : List PV}, jF1 xs ys -> jF1 (PG.flat xs) (PG.flat ys)
 | [], _, h => by cases h; exact .nil
 | x :: xs, _, h => by
  cases h with
  | cons h t => simp only [PG.flat, List.flatMap_cons]; exact jF1.app h.cells (jF1.flat t)
theorem Sub.scalar {p q : PV} (h : Sub p q) (hp : p.scalar = true) : q.scalar = true := by
 cases h with
 | refl => exact hp
 | nil sh => rfl
 | agg h => exact hp
 | list h => rfl
theorem jF1.scalars : ∀ {ps qs : List PV}, jF1 ps qs -> (∀ c ∈ ps, c.scalar = true) -> ∀ c ∈ qs, c.scalar = true
 | [], _, h, _ => by cases h; simp
 | p :: ps, _, h, hp => by
  cases h with
  | cons h t =>
   intro c hc
   rcases List.mem_cons.1 hc with rfl | hc
   ·exact h.scalar (hp p (by simp))
   ·exact jF1.scalars t (fun c hc => hp c (by simp [hc])) c hc
theorem Sub.fits {sh : Sh} {p q : PV} (h : Sub p q) (hp : PG.fits sh p) : PG.fits sh q := by
 cases sh with
 | none => exact h.scalar hp
 | some n =>
  obtain ⟨cs, rfl, hl, hs⟩ := hp
  cases h with
  | refl => exact ⟨cs, rfl, hl, hs⟩
  | agg h => exact ⟨_, rfl, by rw [<- h.len]; exact hl, h.scalars hs⟩
theorem jF1.fits {sh : Sh} : ∀ {xs ys : List PV}, jF1 xs ys -> (∀ x ∈ xs, PG.fits sh x) -> ∀ y ∈ ys, PG.fits sh y
 | [], _, h, _ => by cases h; simp
 | x :: xs, _, h, hp => by
  cases h with
  | cons h t =>
   intro c hc
   rcases List.mem_cons.1 hc with rfl | hc
   ·exact h.fits (hp x (by simp))
   ·exact jF1.fits t (fun c hc => hp c (by simp [hc])) c hc
theorem jAW.sub {w : World} {ex : Nat -> Prop} {v : Value} {p : PV} (h : jAW w ex v p) : ∀ {q : PV}, Sub p q -> jAW w ex v q := by
 induction h with
 | jAH =>
  intro q hq
  cases hq with
  | refl => exact .jAH
  | nil sh => exact .list none 0 0 sh [] 0 0 (fun _ => undef) rfl (Nat.le_refl _) (Nat.zero_le _) (by simp) (by simp) (by simp [flat]) (by simp [flat])
 | list a len cap sh xs b off val hlen hcap hmax hfit ha hc hr ih =>
  intro q hq
  cases hq with
  | refl => exact .list a len cap sh xs b off val hlen hcap hmax hfit ha hc hr
  | list hs =>
   have hf := hs.flat
   refine .list a len cap sh _ b off val (by rw [hlen, hs.len]) hcap hmax (hs.fits hfit) (fun hne => ha (fun e => hne ?_)) (fun j hj => hc j (by rw [hf.len]; exact hj)) (fun j p hp => ?_)
   ·have := hs.len; rw [e] at this; exact List.eq_nil_of_length_eq_zero (by simpa using this.symm)
   ·obtain ⟨p', hp', hs'⟩ := hf.get hp
    exact ih j p' hp' hs'
 | agg vs ps hs hr ih =>
  intro q hq
  cases hq with
  | refl => exact .agg vs ps hs hr
  | agg h =>
   refine .agg vs _ (by rw [hs, h.len]) (fun i v p hv hp => ?_)
   obtain ⟨p', hp', hs'⟩ := h.get hp
   exact ih i v p' hv hp' hs'
 | int k n => intro q hq; cases hq; exact .int k n
 | bool b => intro q hq; cases hq; exact .bool b
 | str s => intro q hq; cases hq; exact .str s
 | fn f first caps ps qs h1 h2 h3 h4 _ _ => intro q hq; cases hq; exact .fn f first caps ps qs h1 h2 h3 h4
 | nilFn => intro q hq; cases hq; exact .nilFn
 | nilPtr => intro q hq; cases hq; exact .nilPtr
 | jA0 => intro q hq; cases hq; exact .jA0
 | yl l => intro q hq; cases hq; exact .yl l
 | full a len sh xs b off val hlen hmax hfit ha hc hr _ => intro q hq; cases hq; exact .full a len sh xs b off val hlen hmax hfit ha hc hr
 | jC9 r kd es ents clock hx h hs hB hkd hk hv _ _ => intro q hq; cases hq; exact .jC9 r kd es ents clock hx h hs hB hkd hk hv
 | jC2 b o off sh x val hfit hoff hc hr _ => intro q hq; cases hq; exact .jC2 b o off sh x val hfit hoff hc hr
 | tup vs ps hs hr _ => intro q hq; cases hq; exact .tup vs ps hs hr
theorem jAB.sub {P : Program} {G : jA3} {f : Nat} {as bs : List PV} {res : PV} (h : jAB P G f bs res) (hs : jF1 as bs) : jAB P G f as res := by
 intro w ex vs hex hG hv
 refine h w ex vs hex hG ⟨by rw [hv.1, hs.len], fun i v q hvi hq => ?_⟩
 obtain ⟨p, hp, hs'⟩ := hs.get hq
 exact (hv.2 i v p hvi hp).sub hs'
theorem jAB.res {P : Program} {G : jA3} {f : Nat} {as : List PV} {p q : PV} (h : jAB P G f as p) (hs : Sub p q) : jAB P G f as q := by
 intro w ex vs hex hG hv
 refine (h w ex vs hex hG hv).mono ?_
 rintro e w' ⟨v, rfl, hB, hr⟩
 exact ⟨v, rfl, hB, hr.sub hs⟩
theorem jV8 (o : Option jAF) (μ : Mem) : Mem.get (o :: μ) 4 = Mem.get μ 3 := by simp [Mem.get]
theorem jV7 (o : Option jAF) (μ : Mem) : Mem.get (o :: μ) 5 = Mem.get μ 4 := by simp [Mem.get]
theorem jV6 (o : Option jAF) (μ : Mem) : Mem.get (o :: μ) 6 = Mem.get μ 5 := by simp [Mem.get]
theorem jV5 (o : Option jAF) (μ : Mem) : Mem.get (o :: μ) 7 = Mem.get μ 6 := by simp [Mem.get]
theorem jV4 (o : Option jAF) (μ : Mem) : Mem.get (o :: μ) 8 = Mem.get μ 7 := by simp [Mem.get]
theorem jV3 (o : Option jAF) (μ : Mem) : Mem.get (o :: μ) 9 = Mem.get μ 8 := by simp [Mem.get]
theorem jRU (o : Option jAF) (μ : Mem) : Mem.get (o :: μ) 10 = Mem.get μ 9 := by simp [Mem.get]
theorem jRT (o : Option jAF) (μ : Mem) : Mem.get (o :: μ) 11 = Mem.get μ 10 := by simp [Mem.get]
theorem jVZ (a b c o x : Option jAF) (μ : List (Option jAF)) : (a :: b :: c :: o :: μ).set 3 x = a :: b :: c :: x :: μ := rfl
theorem jVY (a b c d o x : Option jAF) (μ : List (Option jAF)) : (a :: b :: c :: d :: o :: μ).set 4 x = a :: b :: c :: d :: x :: μ := rfl
theorem jVX (a b c d e o x : Option jAF) (μ : List (Option jAF)) : (a :: b :: c :: d :: e :: o :: μ).set 5 x = a :: b :: c :: d :: e :: x :: μ := rfl
theorem jVW (a b c d e f o x : Option jAF) (μ : List (Option jAF)) : (a :: b :: c :: d :: e :: f :: o :: μ).set 6 x = a :: b :: c :: d :: e :: f :: x :: μ := rfl
theorem jVV (a b c d e f g o x : Option jAF) (μ : List (Option jAF)) : (a :: b :: c :: d :: e :: f :: g :: o :: μ).set 7 x = a :: b :: c :: d :: e :: f :: g :: x :: μ := rfl
theorem jVU (a b c d e f g h o x : Option jAF) (μ : List (Option jAF)) : (a :: b :: c :: d :: e :: f :: g :: h :: o :: μ).set 8 x = a :: b :: c :: d :: e :: f :: g :: h :: x :: μ := rfl
theorem jVT (a b c d e f g h i o x : Option jAF) (μ : List (Option jAF)) : (a :: b :: c :: d :: e :: f :: g :: h :: i :: o :: μ).set 9 x = a :: b :: c :: d :: e :: f :: g :: h :: i :: x :: μ := rfl
theorem jRS (a b c d e f g h i j o x : Option jAF) (μ : List (Option jAF)) : (a :: b :: c :: d :: e :: f :: g :: h :: i :: j :: o :: μ).set 10 x = a :: b :: c :: d :: e :: f :: g :: h :: i :: j :: x :: μ := rfl
theorem jRR (a b c d e f g h i j k o x : Option jAF) (μ : List (Option jAF)) : (a :: b :: c :: d :: e :: f :: g :: h :: i :: j :: k :: o :: μ).set 11 x = a :: b :: c :: d :: e :: f :: g :: h :: i :: j :: k :: x :: μ := rfl
theorem SS4 : type_of% (And.intro (And.intro (And.intro (And.intro (@jV8) (@jV7)) (And.intro (@jV6) (@jV5))) (And.intro (And.intro (@jV4) (@jV3)) (And.intro (@jRU) (@jRT)))) (And.intro (And.intro (And.intro (@jVZ) (@jVY)) (And.intro (@jVX) (@jVW))) (And.intro (And.intro (@jVV) (@jVU)) (And.intro (@jVT) (And.intro (@jRS) (@jRR)))))) :=
 (And.intro (And.intro (And.intro (And.intro (@jV8) (@jV7)) (And.intro (@jV6) (@jV5))) (And.intro (And.intro (@jV4) (@jV3)) (And.intro (@jRU) (@jRT)))) (And.intro (And.intro (And.intro (@jVZ) (@jVY)) (And.intro (@jVX) (@jVW))) (And.intro (And.intro (@jVV) (@jVU)) (And.intro (@jVT) (And.intro (@jRS) (@jRR))))))
section
variable {P : Program} {n : Nat} {t : TypeId} {ps : List PV}
theorem jHB {k : IntKind} (hu : P.underlying t = some (.int k)) (h : ShC P (n + 1) t ps) : ∃ m, ps = [.int k m] ∧ k.min <= m ∧ m <= k.max := by
 unfold ShC at h; rw [hu] at h
 obtain ⟨m, h1, h2⟩ := h
 simp only [Lit.wf, Bool.and_eq_true, decide_eq_true_eq] at h2
 exact ⟨m, h1, h2⟩
theorem kAG {e : TypeId} (hu : P.underlying t = some (.slice e)) (h : ShC P (n + 1) t ps) : ∃ sh xs, jEZ P e = some sh ∧ ps = [.list sh xs] ∧ xs.length <= 9223372036854775807 ∧ ∀ x ∈ xs, fits sh x ∧ ShC P n e x.cells := by
 unfold ShC at h; rw [hu] at h
 exact h
theorem jXY {fs : Array Field} (hu : P.underlying t = some (.struct fs)) (h : ShC P (n + 1) t ps) : ps.length = P.cellsOf t ∧ ∀ f ∈ fs.toList, ShC P n f.type ((ps.drop f.offset).take (P.cellsOf f.type)) := by
 unfold ShC at h; rw [hu] at h
 exact h
theorem jQI {e : TypeId} {p : PV} (hu : P.underlying t = some (.slice e)) (h : ShA P (n + 1) t p) : ∃ sh xs, jEZ P e = some sh ∧ p = .list sh xs ∧ xs.length <= 9223372036854775807 ∧ ∀ x ∈ xs, fits sh x ∧ ShC P n e x.cells := by
 unfold ShA at h; rw [hu] at h
 obtain ⟨sh, xs, h1, h2, h3⟩ := kAG hu h
 cases h2
 exact ⟨sh, xs, h1, rfl, h3⟩
theorem jTY {α : Type} (f : α -> PV) (Q : α -> Prop) : ∀ {xs : List PV}, (∀ x ∈ xs, ∃ a, x = f a ∧ Q a) -> ∃ l : List α, xs = l.map f ∧ ∀ a ∈ l, Q a
 | [], _ => ⟨[], rfl, by simp⟩
 | x :: xs, h => by
  obtain ⟨a, rfl, ha⟩ := h x (by simp)
  obtain ⟨l, rfl, hl⟩ := jTY f Q (xs := xs) (fun y hy => h y (by simp [hy]))
  exact ⟨a :: l, rfl, by simpa using ⟨ha, hl⟩⟩
theorem jN0 {sh : Sh} {x : PV} (h : fits sh x) : match sh with
  | none => x.cells = [x]
  | some n => ∃ cs, x = .agg cs ∧ x.cells = cs ∧ cs.length = n := by
 cases sh with
 | none =>
  have h' : x.scalar = true := h
  cases x <;> first | rfl | (simp [PV.scalar] at h')
 | some n => obtain ⟨cs, rfl, h, _⟩ := h; exact ⟨cs, rfl, rfl, h⟩
end
structure kSL {H : Type} (Q : Nat -> Prop) (Sz : DataW H -> Prop) : Prop where
 zero : Q 0
 str : ∀ l, Sz (.lit (.string l)) -> Q l.length
 slice : ∀ es sp, Sz (.slice es sp) -> Q es.length ∧ ∀ e ∈ es, Sz e
 agg : ∀ ps, Sz (.agg ps) -> ∀ p ∈ ps, Sz p
section
open Go.RowKit Go.WideShapes Go.ChangeShapes
variable {H : Type} {enc : TypeId × Value -> H} {P : Program}
end
section
variable {P : Program} {Q : Nat -> Prop} {n : Nat} {t : TypeId} {ps : List PV}
end
section
variable {P : Program} {G : jA3} {N : Nat} {C : Ctx} {a : Act} {w : World} {κ : Kap} {env : Env} {μ : Mem}
theorem jK7 {ow : List Nat} {ops : Array Oper} {Q : Exit -> Act -> World -> Prop} {l2 : List Oper} : ∀ {l : List Oper} {cs : List CO} {a : Act} {w : World} {κ : Kap} {env : Env} {μ : Mem} {K : Env -> Mem -> Prop}, l.mapM (jBF P N ow ops) = some cs ->
  jDG P G false C.mv cs env μ K -> SR G N C a w κ env μ -> (∀ env' μ' a' w' κ', K env' μ' -> SR G N C a' w' κ' env' μ' -> wpList P ops Q l2 a' w') -> wpList P ops Q (l ++ l2) a w
 | [], cs, a, w, κ, env, μ, K, hm, h, hR, hK => by
  simp at hm; subst hm
  exact hK _ _ _ _ _ h hR
 | o :: l, cs, a, w, κ, env, μ, K, hm, h, hR, hK => by
  simp only [List.mapM_cons, Option.bind_eq_bind, Option.bind_eq_some_iff] at hm
  obtain ⟨c, hc, cs', hcs, hm⟩ := hm
  simp at hm; subst hm
  obtain ⟨hdst, hd, hg, hop⟩ := jDD hc
  have next : ∀ {env' : Env} {μ' : Mem} {a' : Act} {w' : World} {κ' : Kap}, jDG P G false C.mv cs' env' μ' K -> SR G N C a' w' κ' env' μ' -> wpList P ops Q (l ++ l2) a' w' := fun h' hR' => jK7 hcs h' hR' hK
  obtain ⟨cd, cg, cop⟩ := c
  simp only at hdst hg hop
  subst hdst
  simp only [jDG, stepW] at h
  cases cg with
  | none =>
   have hw := jCB (a := a) hg
   simp only at h
   cases cop with
   | rd k args =>
    simp only at h
    obtain ⟨h1, h2⟩ := h
    obtain ⟨ys, hcr, hys⟩ := jCO hop
    obtain ⟨v, hv, hrun⟩ := jGQ hR.sim hcr (jBN hR.regs hR.globs hys) h1
    refine jCM hw (.inl (hrun w (Same.refl w))) (next (κ' := κ) h2 ?_)
    exact hR.put (dead := none) hd hR.sim (Goes.refl _ _ _) trivial hv
   | eff k args =>
    simp only [true_and] at h
    obtain ⟨ys, hce, hys⟩ := jES hop
    obtain ⟨v, p, dead, μ', w', κ', hrun, ⟨hdk, hK'⟩, hS', hG', hv⟩ := jIE hR.sim hce (jBN hR.regs hR.globs hys) h
    exact jCM hw hrun (next hK' (hR.put hd hS' hG' hdk hv))
   | call f args =>
    simp only at h
    obtain ⟨cl, f0, ho, hf0, hf, hys⟩ := jCV hop
    have hfr := jDS hR.regs hR.globs hf
    have hkn := jBN hR.regs hR.globs hys
    unfold jMC at h
    split at h
    ·rename_i g first caps hfe
     rw [hfe] at hfr
     rcases h with ⟨res, hres, -, -, hK'⟩ | ⟨-, hent, h⟩
     ·obtain ⟨vs, hvs, hrun⟩ := jEV ho hf0 hfr hkn hres.1
      refine jCN hw (hrun w) ((jDK hR.sim hR.globs hres hvs).mono ?_)
      rintro e w' ⟨v, rfl, hB, hr⟩
      exact ⟨v, rfl, next hK' (hR.put (dead := none) hd (hR.sim.below hB) (Goes.below hB _) trivial (.closed (hr.mono ⟨fun _ _ _ => rfl, fun _ _ h => h⟩)))⟩
     ·obtain ⟨vs, hvs, hrun⟩ := jEV ho hf0 hfr hkn hent
      rcases h with ⟨R, hp, hRK⟩ | ⟨t, R, hp, hRK⟩
      ·refine jCN hw (hrun w) ((hp w κ vs hR.sim hR.globs hvs).mono ?_)
       rintro e w' ⟨v, p, μ', κ', rfl, hRp, hS', hv, hG'⟩
       exact ⟨v, rfl, next (hRK p μ' hRp).2 (hR.put (dead := none) hd hS' (hG'.weak fun t ht => by cases ht) trivial hv)⟩
      ·refine jCN hw (hrun w) ((hp w κ vs hR.sim hR.globs hvs).mono ?_)
       rintro e w' ⟨v, p, μ', κ', rfl, hRp, hS', hv, hG'⟩
       exact ⟨v, rfl, next (hRK p μ' hRp).2 (hR.put (dead := some t) hd hS' (hG'.weak fun i hi => by simp [jAR] at hi; rw [hi]) (hRK p μ' hRp).1 hv)⟩
    ·exact h.elim
  | some gw =>
   obtain ⟨r, want⟩ := gw
   simp only at h
   split at h
   ·rename_i b hb
    have hw := jD5 hg (hR.regs r) hb
    unfold stepG at h
    cases cop with
    | rd k args =>
     simp only at h
     obtain ⟨h1, h2⟩ := h
     obtain ⟨ys, hcr, hys⟩ := jCO hop
     by_cases hbw : b = want
     ·obtain ⟨h3, h4⟩ := h1 hbw
      obtain ⟨v, hv, hrun⟩ := jGQ hR.sim hcr (jPB (jBN hR.regs hR.globs hys) h3) h4
      refine jCM (by rw [hw, hbw]; simp) (.inl (hrun w (Same.refl w))) (next (κ' := κ) h2 ?_)
      exact hR.put (dead := none) hd hR.sim (Goes.refl _ _ _) trivial (.cond _ (fun _ => hv) (fun hh => by rw [hbw] at hh; simp at hh))
     ·refine jIT (by rw [hw]; simpa using hbw) (next (κ' := κ) h2 ?_)
      exact hR.put (dead := none) hd hR.sim (Goes.refl _ _ _) trivial (.cond _ (fun hh => absurd (by simpa using hh) hbw) (fun _ => rfl))
    | eff k args =>
     simp only [true_and] at h
     obtain ⟨h1, h2⟩ := h
     obtain ⟨ys, hce, hys⟩ := jES hop
     by_cases hbw : b = want
     ·obtain ⟨h3, h4⟩ := h1 hbw
      obtain ⟨v, p, dead, μ', w', κ', hrun, ⟨hdk, hK'⟩, hS', hG', hv⟩ := jIE hR.sim hce (jDI (jBN hR.regs hR.globs hys) h3) h4
      exact jCM (by rw [hw, hbw]; simp) hrun (next hK' (hR.put hd hS' hG' hdk hv))
     ·refine jIT (by rw [hw]; simpa using hbw) (next (κ' := κ) (h2 hbw) ?_)
      exact hR.put (dead := none) hd hR.sim (Goes.refl _ _ _) trivial (.junk _)
    | call f args =>
     simp only at h
     obtain ⟨res, h1, h2⟩ := h
     obtain ⟨cl, f0, ho, hf0, hf, hys⟩ := jCV hop
     by_cases hbw : b = want
     ·obtain ⟨h3, h4, h5, -⟩ := h1 hbw
      have hfr := jED (jDS hR.regs hR.globs hf) h3 rfl
      have hkn := jDI (jBN hR.regs hR.globs hys) h4
      unfold jMB at h5
      split at h5
      ·rename_i g first caps hfe
       rw [hfe] at hfr
       obtain ⟨vs, hvs, hrun⟩ := jEV ho hf0 hfr hkn h5.1
       refine jCN (by rw [hw, hbw]; simp) (hrun w) ((jDK hR.sim hR.globs h5 hvs).mono ?_)
       rintro e w' ⟨v, rfl, hB, hr⟩
       exact ⟨v, rfl, next h2 (hR.put (dead := none) hd (hR.sim.below hB) (Goes.below hB _) trivial (.cond _ (fun _ => .closed hr) (fun hh => by rw [hbw] at hh; simp at hh)))⟩
      ·exact h5.elim
     ·refine jIT (by rw [hw]; simpa using hbw) (next (κ' := κ) h2 ?_)
      exact hR.put (dead := none) hd hR.sim (Goes.refl _ _ _) trivial (.cond _ (fun hh => absurd (by simpa using hh) hbw) (fun _ => rfl))
   ·exact h.elim
theorem jWD {α β : Type} (f : α -> Option β) : ∀ (l : List α) (cs : List β) (n : Nat), l.mapM f = some cs -> (l.take n).mapM f = some (cs.take n) ∧ (l.drop n).mapM f = some (cs.drop n)
 | [], cs, n, h => by simp at h; subst h; simp
 | x :: l, cs, 0, h => ⟨by simp, by simpa using h⟩
 | x :: l, cs, n + 1, h => by
  simp only [List.mapM_cons, Option.bind_eq_bind, Option.bind_eq_some_iff] at h
  obtain ⟨c, hc, cs', hcs, h⟩ := h
  simp at h; subst h
  obtain ⟨h1, h2⟩ := jWD f l cs' n hcs
  refine ⟨?_, h2⟩
  simp only [List.take_succ_cons, List.mapM_cons, Option.bind_eq_bind, Option.bind_eq_some_iff]
  exact ⟨c, hc, _, h1, rfl⟩
def kHH (t : Nat) (o : jAF) (env : Env) : Env := env.map fun x => (x.1, x.2.frz t o)
def jJP (t : Nat) (o : jAF) (μ : Mem) : Mem := (μ.map (Option.map (jAF.frz t o))).set t none
theorem SR.frz {C : Ctx} {a : Act} (hR : SR G N C a w κ env μ) (t : Nat) (o : jAF) (hm : μ.get t = some o) (hmv : C.mv t = true) : SR G N C a w (κ.del t) (kHH t o env) (jJP t o μ) := by
 have hG : Goes w κ w (κ.del t) (fun i => i = t) := Goes.del t
 refine ⟨hR.size, hR.defers, fun i => ?_, hR.sim.frz hm, jBV hR.globs hG, hR.goes.trans (hG.weak fun i hi => by rw [hi]; exact hmv)⟩
 have key : ∀ (env : Env) (v : Value), Rep w (PG.own κ) κ v (env.get i) -> Rep w (PG.own (κ.del t)) (κ.del t) v (Env.get (env.map fun x => (x.1, x.2.frz t o)) i) := by
  intro env v
  induction env with
  | nil => intro _; exact .junk v
  | cons y e ih =>
   obtain ⟨j, p⟩ := y
   simp only [Env.get, List.map_cons]
   split
   ·exact fun h => Rep.frz hR.sim hm h
   ·exact ih
 exact key env _ (hR.regs i)
variable {mv : Nat -> Bool} {Q : Post}
def kMV (mv : Nat -> Bool) (t : Nat) (K : Env -> Mem -> Prop) (env : Env) (μ : Mem) : Prop := ∃ o, μ.get t = some o ∧ mv t = true ∧ K (kHH t o env) (jJP t o μ)
theorem kMV.mk {t : Nat} {K : Env -> Mem -> Prop} {o : jAF} (h1 : μ.get t = some o) (h2 : mv t = true) (h3 : K (kHH t o env) (jJP t o μ)) : kMV mv t K env μ := ⟨o, h1, h2, h3⟩
theorem PW.regionF (n t : Nat) {cs : List CO} {L : List Nat} (h : jDG P G false mv (cs.take n) env μ (kMV mv t fun env' μ' => jDG P G false mv (cs.drop n) env' μ' fun env' μ' => Q .normal (jE9 L env') μ')) : PW P G N mv (.region false cs L) env μ Q := by
 intro ow L' code hc _ C a w κ hmv hR
 obtain ⟨id, ops, rfl, hm, rfl, -⟩ := jEL hc
 subst hmv
 obtain ⟨h1, h2⟩ := jWD _ _ _ n hm
 refine wp_region_list ?_
 rw [<- List.take_append_drop n ops.toList]
 refine jK7 h1 h hR fun env' μ' a' w' κ' hK hR' => ?_
 obtain ⟨o, hg, hmt, hK⟩ := hK
 exact jGS h2 hK (hR'.frz t o hg hmt) fun env' μ' a' w' κ' hK hR' => ⟨_, _, _, hK, hR'.weak (jD4 _ _)⟩
def jVS (E : Env) (M : Mem) : Post := fun e env μ => e = .normal ∧ env = E ∧ μ = M
theorem jBH (E : Env) (M : Mem) : jVS E M .normal E M := ⟨rfl, rfl, rfl⟩
theorem jTS {E : Env} {M : Mem} {Q : Post} (h : Q .normal E M) : ∀ e env μ, jVS E M e env μ -> Q e env μ := by
 rintro e env μ ⟨rfl, rfl, rfl⟩; exact h
theorem PW.jP0 {s : jFW} {L : List Nat} {y : jB1} {E : Env} {M : Mem} (h : jCD P G mv s env μ fun env' μ' => jVS E M .normal (jE9 L env') μ') (h2 : PW P G N mv y E M Q) : PW P G N mv (.seq (.jB6 s L) y) env μ Q :=
 PW.seq (PW.mono (Q := jVS E M) (PW.jB6 h) (jTS h2))
end
section
variable {P : Program} {G : jA3} {N : Nat} {w : World} {κ : Kap} {env : Env} {μ : Mem} {mv : Nat -> Bool} {Q : Post}
theorem Rep.jMN {ex : Nat -> Prop} {v : Value} (sh : Sh) (h : Rep w ex κ v .jAH) : Rep w ex κ v (.list sh []) := by
 cases h with
 | closed h => exact .closed (h.sub (.nil sh))
theorem PW.kKU {x : jB1} (sh : Sh) (i : Nat) (hi : env.get i = .jAH) (h : PW P G N mv x ((i, .list sh []) :: env) μ Q) : PW P G N mv x env μ Q := by
 intro ow L code hc jD8 C a w κ hmv hR
 refine h ow L code hc jD8 C a w κ hmv ⟨hR.size, hR.defers, fun j => ?_, hR.sim, hR.globs, hR.goes⟩
 simp only [Env.get]
 split
 ·rename_i hij
  subst hij
  have := hR.regs i
  rw [hi] at this
  exact this.jMN sh
 ·exact hR.regs j
inductive kD3 : List PV -> List PV -> Prop
 | nil : kD3 [] []
 | same {p : PV} {ps qs : List PV} (t : kD3 ps qs) : kD3 (p :: ps) (p :: qs)
 | jMN (sh : Sh) {ps qs : List PV} (t : kD3 ps qs) : kD3 (.jAH :: ps) (.list sh [] :: qs)
theorem kD3.len {ps qs : List PV} (h : kD3 ps qs) : ps.length = qs.length := by
 induction h with
 | nil => rfl
 | same _ ih => simp [ih]
 | jMN _ _ ih => simp [ih]
theorem kD3.get {ex : Nat -> Prop} {ps qs : List PV} (h : kD3 ps qs) : ∀ {j : Nat} {q : PV} {v : Value}, qs[j]? = some q -> (∀ p, ps[j]? = some p -> Rep w ex κ v p) -> Rep w ex κ v q := by
 induction h with
 | nil => intro j q v h _; simp at h
 | same _ ih =>
  intro j q v h hp
  cases j with
  | zero => exact hp q h
  | succ j => exact ih (by simpa using h) (fun p h => hp p (by simpa using h))
 | jMN sh _ ih =>
  intro j q v h hp
  cases j with
  | zero => simp at h; subst h; exact (hp .jAH (by simp)).jMN sh
  | succ j => exact ih (by simpa using h) (fun p h => hp p (by simpa using h))
theorem PW.kKT {x : jB1} (t n : Nat) (ps qs : List PV) (hs : kD3 ps qs) (hm : μ.get t = some (.var (some n) (.agg ps))) (h : PW P G N mv x env (μ.set t (some (.var (some n) (.agg qs)))) Q) : PW P G N mv x env μ Q := by
 intro ow L code hc jD8 C a w κ hmv hR
 have hg := Mem.get_some hm
 have hlt : t < μ.length := (List.getElem?_eq_some_iff.1 hg).1
 refine h ow L code hc jD8 C a w κ hmv ⟨hR.size, hR.defers, hR.regs, ⟨hR.sim.inj, hR.sim.lt, fun i c hic => ?_, fun i o hi => ?_, hR.sim.jN3, hR.sim.jEJ⟩, hR.globs, hR.goes⟩
 ·obtain ⟨o, h1, h2⟩ := hR.sim.live i c hic
  by_cases hit : i = t
  ·subst hit
   rw [hg] at h1; cases h1
   refine ⟨_, List.getElem?_set_self hlt, ?_⟩
   cases h2 with
   | var b arr E _ _ hh hsz hsh hr =>
    refine .var b arr E (some n) _ hh hsz ?_ (fun j p v hp hv => ?_)
    ·obtain ⟨cs, hcs, hl⟩ := hsh; cases hcs; exact ⟨_, rfl, by rw [<- hs.len]; exact hl⟩
    ·exact hs.get hp (fun p hp => hr j p v hp hv)
  ·exact ⟨o, by rw [List.getElem?_set_ne (Ne.symm hit)]; exact h1, h2⟩
 ·by_cases hit : i = t
  ·subst hit; exact hR.sim.dead i _ hg
  ·rw [List.getElem?_set_ne (Ne.symm hit)] at hi; exact hR.sim.dead i o hi
theorem jCL {q : Bool} {d : Option Nat} {rest : List CO} {K : Env -> Mem -> Prop} {b want : Bool} {f : PV} {as : List PV} (hb : (b == want) = false) (h : jDG P G q mv rest (jGR env d (.cond (b == want) .junk)) μ K) : jEG P G q mv d rest env K μ b want f as := by
 unfold jEG
 exact ⟨.junk, fun e => absurd hb (by rw [e]; simp), h⟩
theorem jAA {q : Bool} {d : Option Nat} {rest : List CO} {K : Env -> Mem -> Prop} {f : Nat} {ps qs as as' : List PV} {res : PV} (hE : Ent P f) (hV : jAB P G f as' res) (ha : (ps ++ as ++ qs).map (PV.view μ) = as') (hs : ((ps ++ as ++ qs).map (PV.seen μ)).all id = true)
  (hf : res.flat = true ∨ q = false ∧ ((ps ++ as ++ qs).map PV.jA5).all id = true) (h : jDG P G q mv rest (jGR env d res) μ K) : jG6 P G q mv d rest env K μ (.fn f ps qs) as :=
 jAO hE (by rw [ha]; exact hV) hs hf h
def Gd (b want : Bool) (X : Prop) : Prop := b = want -> X
theorem jAG {b want : Bool} {X : Prop} (h : b = want -> X) : Gd b want X := h
theorem jAY {q : Bool} {d : Option Nat} {rest : List CO} {K : Env -> Mem -> Prop} {b want : Bool} {f : Nat} {ps qs as as' : List PV} {res : PV} (hE : Ent P f) (hV : jAB P G f as' res) (ha : Gd b want ((ps ++ as.map (PV.under true) ++ qs).map (PV.view μ) = as')) (hok : Gd b want (jCQ as))
  (hs : Gd b want (((ps ++ as.map (PV.under true) ++ qs).map (PV.seen μ)).all id = true)) (hf : res.flat = true) (h : jDG P G q mv rest (jGR env d (.cond (b == want) res)) μ K) : jEG P G q mv d rest env K μ b want (.fn f ps qs) as :=
 jDQ hE hok (fun e => by rw [ha e]; exact hV) hs hf h
end
section
variable {P : Program} {G : jA3}
theorem jGB : ∀ {xs : List PV}, (∀ x ∈ xs, x.scalar = true) -> flat xs = xs
 | [], _ => rfl
 | x :: xs, h => by
  have h1 := h x (by simp)
  have h2 := jGB (xs := xs) fun y hy => h y (by simp [hy])
  have : x.cells = [x] := by cases x <;> simp_all [PV.cells, PV.scalar]
  simp only [flat, List.flatMap_cons, this] at *
  rw [h2]; rfl
theorem jEW.row {f : Nat} {args : List PV} {xs : List PV} (E : TypeId) (hx : ∀ x ∈ xs, x.scalar = true ∧ x.flat = true)
  (h : ∀ (w : World) (ex : Nat -> Prop) (vs : Array Value), (∀ b, ex b -> b < w.heap.size) -> jDF w ex G -> jUC w ex vs args ->
   Calls P f vs w fun e w' => ∃ v vals, e = .returned v ∧ w'.ownsRow w.heap.size E 1 v xs.length vals ∧ (∀ (j : Nat) (p : PV) (u : Value), xs[j]? = some p -> vals[j]? = some u -> jAW w' ex u p) ∧ RowKit.Below w.heap.size w w') :
  jEW P G f args (fun p ν => p = .sl none 0 xs.length ∧ ν = [some (.row none xs)]) := by
 intro w ex vs hex hG hr
 refine (h w ex vs hex hG hr).mono ?_
 rintro e w' ⟨v, vals, rfl, ⟨hl, hv⟩, hval, hB⟩
 rcases hv with ⟨rfl, hz⟩ | ⟨g, cap, cur, rfl, hb, hg, h0, h1, h2, h3⟩
 ·have hxs : xs = [] := List.eq_nil_of_length_eq_zero hz
  subst hxs
  let κ' : Kap := ⟨fun t => if t = 0 then some none else none, ex⟩
  have kt : ∀ t c, κ' t = some c -> t = 0 ∧ c = none := by
   intro t c ht
   by_cases h0 : t = 0
   ·subst h0; exact ⟨rfl, by cases ht; rfl⟩
   ·exact absurd ht (by show (if t = 0 then some none else none) ≠ some c; rw [if_neg h0]; exact fun h => by cases h)
  refine ⟨_, _, _, κ', rfl, ⟨rfl, rfl⟩, ⟨?_, ?_, ?_, ?_, ?_, ?_⟩, rfl, .slnil none 0 rfl, hB, ?_⟩
  ·intro t t' b h1; have := (kt t _ h1).2; cases this
  ·intro t b h1; have := (kt t _ h1).2; cases this
  ·intro t c h1
   obtain ⟨rfl, rfl⟩ := kt t c h1
   exact ⟨_, rfl, .jCE none⟩
  ·intro t o h1
   cases t with
   | zero => exact fun h => by cases h
   | succ t => simp at h1
  ·intro b h1; have := hex b h1; have := hB.size; omega
  ·intro t b h1; have := (kt t _ h1).2; cases this
  ·intro t b h1; have := (kt t _ h1).2; cases this
 ·let κ' : Kap := ⟨fun t => if t = 0 then some (some g) else none, ex⟩
  have kt : ∀ t c, κ' t = some c -> t = 0 ∧ c = some g := by
   intro t c ht
   by_cases h0 : t = 0
   ·subst h0; exact ⟨rfl, by cases ht; rfl⟩
   ·exact absurd ht (by show (if t = 0 then some (some g) else none) ≠ some c; rw [if_neg h0]; exact fun h => by cases h)
  have hgl : g < w'.heap.size := (Array.getElem?_eq_some_iff.1 hg).1
  have hfl : flat xs = xs := jGB fun x h => (hx x h).1
  have h2' : cur.size = cap * Sh.size none := by simpa [Sh.size] using h2
  refine ⟨_, _, _, κ', rfl, ⟨rfl, rfl⟩, ⟨?_, ?_, ?_, ?_, ?_, ?_⟩, rfl, .sl none 0 _ g cap rfl ⟨E, ?_⟩ h0 h1, hB, ?_⟩
  ·intro t t' b q1 q2; rw [(kt t _ q1).1, (kt t' _ q2).1]
  ·intro t b q1; have := (kt t _ q1).2; cases this; exact hgl
  ·intro t c q1
   obtain ⟨rfl, rfl⟩ := kt t c q1
   refine ⟨_, rfl, .row g cur E cap none xs hg h2' h1 (by omega) (fun x h => (hx x h).1) (fun j p u hp hu => ?_)⟩
   rw [hfl] at hp
   refine jHW (hval j p u hp ?_) (hx p (List.mem_of_getElem? hp)).2
   have hj : j < xs.length := (List.getElem?_eq_some_iff.1 hp).1
   rw [<- h3, List.getElem?_take_of_lt (by omega)]
   simpa using hu
  ·intro t o q1
   cases t with
   | zero => exact fun h => by cases h
   | succ t => simp at q1
  ·intro b q1; have := hex b q1; have := hB.size; omega
  ·intro t b q1 q2; have := hex b q2; have := (kt t _ q1).2; cases this; omega
  ·unfold World.shape?; rw [hg]; simp [h2']
  ·intro t b q1; have := (kt t _ q1).2; cases this; exact hb
theorem kCJ {q : Bool} {mv : Nat -> Bool} {env : Env} {μ : Mem} {d : Option Nat} {rest : List CO} {K : Env -> Mem -> Prop} {as : List PV} {b want : Bool} {f : Nat} {ps qs : List PV} {res : PV} (hE : Ent P f) (hok : b = want -> jCQ as) (hV : b = want -> jAB P G f ((ps ++ as.map (PV.under true) ++ qs).map (PV.view μ)) res)
  (hs : b = want -> ((ps ++ as.map (PV.under true) ++ qs).map (PV.seen μ)).all id = true) (hn : b = want -> ((ps ++ as.map (PV.under true) ++ qs).map PV.jA5).all id = true) (hq : q = false)
  (h : jDG P G q mv rest (jGR env d (.cond (b == want) res)) μ K) : jEG P G q mv d rest env K μ b want (.fn f ps qs) as :=
 ⟨res, fun hb => ⟨trivial, hok hb, ⟨hE, 0, hV hb, hs hb, .inr ⟨rfl, hn hb⟩⟩, fun e => by rw [hq] at e; cases e⟩, h⟩
end
section
variable {P : Program} {G : jA3} {N : Nat} {w w' : World} {κ : Kap} {env : Env} {μ : Mem} {mv : Nat -> Bool} {Q : Post}
theorem Sim.swap (hS : Sim w κ μ) {t : Nat} {o o' : jAF} (hm : μ.get t = some o) (h : ∀ c, jD7 w (own κ) κ c o -> jD7 w (own κ) κ c o') : Sim w κ (μ.set t (some o')) := by
 have hg := Mem.get_some hm
 have hlt : t < μ.length := (List.getElem?_eq_some_iff.1 hg).1
 refine ⟨hS.inj, hS.lt, fun i c hic => ?_, fun i o'' hi => ?_, hS.jN3, hS.jEJ⟩
 ·obtain ⟨o1, h1, h2⟩ := hS.live i c hic
  by_cases hit : i = t
  ·subst hit
   rw [hg] at h1; cases h1
   exact ⟨_, List.getElem?_set_self hlt, h c h2⟩
  ·exact ⟨o1, by rw [List.getElem?_set_ne (Ne.symm hit)]; exact h1, h2⟩
 ·by_cases hit : i = t
  ·subst hit; exact hS.dead i _ hg
  ·rw [List.getElem?_set_ne (Ne.symm hit)] at hi; exact hS.dead i o'' hi
theorem PW.trim {x : jB1} (n : Nat) (hmv : ∀ t, n <= t -> mv t = true) (h : PW P G N mv x (jBE n env) (jAZ n μ) Q) : PW P G N mv x env μ Q := by
 intro ow L code hc jD8 C a w κ hC hR
 exact h ow L code hc jD8 C a w _ hC (hR.trim n (by rw [hC]; exact hmv))
theorem Sim.putRow (hS : Sim w κ μ) {t b : Nat} {o o1 : jAF} (hk : κ t = some (some b)) (hm : μ.get t = some o) (hos : w'.os = w.os) (htp : w'.tape = w.tape) (hou : w'.output = w.output) (hsz : w.heap.size <= w'.heap.size)
  (hw : ∀ k, k < w.heap.size -> k ≠ b -> w'.heap[k]? = w.heap[k]?) (hsh : ∀ s, w.shape? b = some s -> w'.shape? b = some s) (ho : Goes w κ w' κ (fun _ => False) -> jD7 w' (own κ) κ (some b) o1) :
  Sim w' κ (μ.set t (some o1)) ∧ Goes w κ w' κ (fun _ => False) := by
 have hG : Goes w κ w' κ (fun _ => False) := by
  refine ⟨hos, htp, hou, hsz, rfl, fun k hkl hn => hw k hkl (fun e => hn ⟨t, by rw [e]; exact hk⟩), fun _ _ h => h, fun k s hs => ?_, fun _ _ h _ => h⟩
  by_cases e : k = b
  ·subst e; exact hsh s hs
  ·have hkl : k < w.heap.size := by
    unfold World.shape? at hs
    rcases Nat.lt_or_ge k w.heap.size with h | h
    ·exact h
    ·simp [Array.getElem?_eq_none h] at hs
   rw [jB5 (hw k hkl e)]; exact hs
 have hg := Mem.get_some hm
 have hlt : t < μ.length := (List.getElem?_eq_some_iff.1 hg).1
 refine ⟨⟨hS.inj, fun i c h => Nat.lt_of_lt_of_le (hS.lt i c h) hsz, fun i c hic => ?_, fun i o'' hi => ?_, fun k h => Nat.lt_of_lt_of_le (hS.jN3 k h) hsz, hS.jEJ⟩, hG⟩
 ·obtain ⟨o2, h1, h2⟩ := hS.live i c hic
  by_cases hit : i = t
  ·subst hit
   rw [hk] at hic; cases hic
   exact ⟨_, List.getElem?_set_self hlt, ho hG⟩
  ·refine ⟨o2, by rw [List.getElem?_set_ne (Ne.symm hit)]; exact h1, jD7.still hG (fun k e => ?_) h2⟩
   subst e
   exact hw k (hS.lt i k hic) (fun e => hit (by subst e; exact hS.inj i t k hic hk))
 ·by_cases hit : i = t
  ·subst hit; exact hS.dead i _ hg
  ·rw [List.getElem?_set_ne (Ne.symm hit)] at hi; exact hS.dead i o'' hi
theorem heap_put {α : Type} [Inhabited α] {enc : α -> Value} {w : World} {g n : Nat} {os : Array Obj} {cur : Array Value} {e : TypeId} {fr : Nat × Nat} (d : Array α) (hb : w.heap[g]? = some (.cells cur e fr)) :
  (Sort.grow (Sort.putRow enc (Sort.ahead w n) g 0 d) os).heap[g]? = some (.cells (Sort.putCells enc 0 d cur) e fr) := by
 have hg : g < w.heap.size := (Array.getElem?_eq_some_iff.1 hb).1
 rw [Sort.heap_grow_old _ _ (by simpa using hg)]
 simp [Sort.putRow, Sort.mapBlock, Sort.ahead, Array.getElem?_modify, hb, Sort.onCells]
theorem kCI {α : Type} [Inhabited α] {enc : α -> Value} {w : World} {g n : Nat} {os : Array Obj} (d : Array α) : w.grownBy (Sort.grow (Sort.putRow enc (Sort.ahead w n) g 0 d) os) (some g) := by
 refine ⟨rfl, rfl, rfl, by simp, fun k hk hne => ?_⟩
 rw [Sort.heap_grow_old _ _ (by simpa using hk)]
 have : g ≠ k := fun e => hne (by rw [e])
 simp [Sort.putRow, Sort.mapBlock, Sort.ahead, Array.getElem?_modify, this]
theorem jA2.row {α : Type} [Inhabited α] {enc : α -> Value} {pv : α -> PV} (hrep : ∀ w ex a, jAW w ex (enc a) (pv a)) (hfl : ∀ a, (pv a).flat = true ∧ (pv a).scalar = true) {f : Nat} {t : Nat} {d d' : List α} (hl : d'.length = d.length) (hm : μ.get t = some (.row none (d.map pv)))
  {rv : Option Addr -> Nat -> Value} {rp : PV}
  (h1 : ∀ (blk off cap : Nat) (w : World), Sort.Holds enc w blk off d.toArray -> blk < w.heap.size -> d.length <= cap -> Calls P f #[.slice (some ⟨blk, off, none⟩) d.length cap] w fun e w' => e = .returned (rv (some ⟨blk, off, none⟩) cap) ∧ ∃ n os, w' = Sort.grow (Sort.putRow enc (Sort.ahead w n) blk off d'.toArray) os)
  (h0 : d = [] -> ∀ (w : World), Calls P f #[.slice none 0 0] w fun e w' => e = .returned (rv none 0) ∧ w' = w)
  (hr : ∀ (w : World) (κ : Kap) (a : Option Addr) (cap : Nat), Rep w (own κ) κ (.slice a d.length cap) (.sl none t d.length) -> Rep w (own κ) κ (rv a cap) rp) :
  jA2 P G f [.sl none t d.length] μ (fun _ => false) (fun p μ' => p = rp ∧ μ' = μ.set t (some (.row none (d'.map pv)))) := by
 intro w κ vs hS hG hv
 obtain ⟨hvs, hv⟩ := hv
 obtain ⟨L⟩ := vs
 match L, hvs with
 | [v], _ =>
 have hv0 := hv 0 v _ rfl rfl
 have hv1 := hv0
 obtain ⟨c, hc, hO⟩ := hS.at hm
 obtain ⟨n0, hn0⟩ : ∃ n0, n0 = d.length := ⟨_, rfl⟩
 rw [<- hn0] at hv0
 cases hv0 with
 | closed h => cases h
 | sl _ _ _ b cap hb hs hlc hmc =>
  subst hn0
  rw [hb] at hc; cases hc
  cases hO with
  | row _ cur E cap' _ _ hh hcs hm' hl' hfit hrr =>
   have kOO : flat (d.map pv) = d.map pv := jGB fun x hx => by obtain ⟨a, -, rfl⟩ := List.mem_map.1 hx; exact (hfl a).2
   have hcur : cur.size = cap' := by rw [hcs]; simp [Sh.size]
   have hld : d.length <= cap' := by simpa using hl'
   have hat : ∀ j (hj : j < d.length), cur[j]? = some (enc d[j]) := by
    intro j hj
    have hjc : j < cur.size := by omega
    have := hrr j (pv d[j]) cur[j] (by rw [kOO]; simp [hj]) (by simp [hjc])
    rw [Array.getElem?_eq_getElem hjc]
    congr 1
    exact jQU (hrep w (own κ) d[j]) (hfl _).1 this
   have hH : Sort.Holds enc w b 0 d.toArray := by
    intro j hj
    have hj' : j < d.length := by simpa using hj
    refine ⟨?_, by simp [World.frozen?, hh]⟩
    simp only [World.cell?, hh, Nat.zero_add, Option.isSome_none, Bool.false_eq_true, if_false, hat j hj']
    simp [hj']
   refine (h1 b 0 cap w hH (Array.getElem?_eq_some_iff.1 hh).1 hlc).mono ?_
   rintro e w' ⟨rfl, n, os, rfl⟩
   have hgb := kCI (enc := enc) (w := w) (g := b) (n := n) (os := os) d'.toArray
   have hhp := heap_put (enc := enc) (n := n) (os := os) d'.toArray hh
   obtain ⟨hS', hG'⟩ := hS.putRow hb hm (o1 := .row none (d'.map pv)) hgb.os hgb.tape hgb.output hgb.size (fun k hk hne => hgb.block k hk (fun e => hne (by cases e; rfl)))
    (fun s hs => by
     unfold World.shape? at hs ⊢
     rw [hhp]; rw [hh] at hs
     simpa [Sort.putCells] using hs)
    (fun hG' => by
     refine .row b _ E cap' none _ hhp (by simpa [Sort.putCells] using hcs) hm' (by simp [hl]; exact hld) (fun x hx => by obtain ⟨a, -, rfl⟩ := List.mem_map.1 hx; exact (hfl a).2) (fun j p u hp hu => ?_)
     rw [jGB fun x hx => by obtain ⟨a, -, rfl⟩ := List.mem_map.1 hx; exact (hfl a).2, List.getElem?_map] at hp
     cases hq : d'[j]? with
     | none => rw [hq] at hp; cases hp
     | some a =>
      rw [hq] at hp; simp at hp; subst hp
      have hj : j < d'.length := (List.getElem?_eq_some_iff.1 hq).1
      simp only [Sort.putCells, Array.getElem?_mapIdx] at hu
      rw [Array.getElem?_eq_getElem (by omega)] at hu
      simp only [Option.map_some, Nat.zero_le, Nat.zero_add, List.size_toArray, hj, and_self, if_true, Nat.sub_zero, Option.some.injEq] at hu
      rw [<- hu]
      have : d'.toArray[j]! = a := by
       have := (List.getElem?_eq_some_iff.1 hq).2
       simp [hj, this]
      rw [this]
      exact hrep _ _ a)
   exact ⟨_, _, _, κ, rfl, ⟨rfl, rfl⟩, hS', hr _ κ _ cap (hv1.still hG'), hG'.weak fun _ h => h.elim⟩
 | slnil _ _ hb =>
  have hd : d = [] := List.eq_nil_of_length_eq_zero hn0.symm
  subst hd
  have hd' : d' = [] := List.eq_nil_of_length_eq_zero hl
  subst hd'
  refine (h0 rfl w).mono ?_
  rintro e w' ⟨rfl, rfl⟩
  refine ⟨_, _, _, κ, rfl, ⟨rfl, rfl⟩, ?_, hr _ κ none 0 hv1, Goes.refl _ _ _⟩
  exact hS.swap hm fun c h => h
end
section
open Go.RowKit Go.WideShapes Go.ChangeShapes
variable {H : Type} {enc : TypeId × Value -> H} {P : Program}
end
section
variable {P : Program} {G : jA3} {N : Nat} {w : World} {κ : Kap} {env : Env} {μ : Mem} {mv : Nat -> Bool} {Q : Post} {K : Env -> Mem -> Prop}
structure Stop (p : Prop) : Prop where
 go : p
theorem PW.stop {x : jB1} (h : Stop (PW P G N mv x env μ Q)) : PW P G N mv x env μ Q := h.go
end
section
variable {P : Program} {G : jA3} {N : Nat} {w : World} {κ : Kap} {env : Env} {μ : Mem} {mv : Nat -> Bool} {Q : Post}
theorem PW.kQX {x : jB1} (i t : Nat) (sh : Sh) (p : PV) (hi : env.get i = .ref t 0) (hm : μ.get t = some (.var sh p)) (hf : fits sh p) (hno : ∀ c ∈ p.cells, c.jA5 = true) (hmv : mv t = true)
  (h : PW P G N mv x ((i, .jC2 sh p 0) :: kHH t (.var sh p) env) (jJP t (.var sh p) μ) Q) : PW P G N mv x env μ Q := by
 intro ow L code hc jD8 C a w κ hC hR
 have hR' := hR.frz t _ hm (by rw [hC]; exact hmv)
 have hG : Goes w κ w (κ.del t) (fun i => i = t) := Goes.del t
 refine h ow L code hc jD8 C a w _ hC ⟨hR'.size, hR'.defers, fun j => ?_, hR'.sim, hR'.globs, hR'.goes⟩
 simp only [Env.get]
 split
 ·rename_i hij; subst hij
  have hv := hR.regs i
  rw [hi] at hv
  generalize a.tmps.getD i undef = v at hv
  cases hv with
  | closed h => cases h
  | ref _ _ b hb =>
   obtain ⟨c, hc, hO⟩ := hR.sim.at hm
   rw [hb] at hc; cases hc
   cases hO with
   | var _ arr E _ _ hh hs hsh hr =>
    have hl := hf.len
    have := jAW.jC2 (w := w) (ex := PG.own (κ.del t)) b 0 0 sh p (fun j => arr.getD j undef) hf (Nat.zero_le _)
     (fun j hj => ⟨jTL hR.sim hb, by rw [Nat.zero_add, jB0 hh]; simp [show j < arr.size by omega]⟩)
     (fun j q hq => by
      have hj := (List.getElem?_eq_some_iff.1 hq).1
      exact (jDB (hr j q (arr.getD j undef) hq (by simp [show j < arr.size by omega])) (hno q (List.mem_of_getElem? hq))).mono hG.agree)
    exact .closed (by simpa using this)
 ·exact hR'.regs j
end
def swp (n t i : Nat) : Nat := if i = n then t else if i = t then n else i
theorem jOM (n t i : Nat) : swp n t (swp n t i) = i := by
 unfold swp
 by_cases h1 : i = n
 ·subst h1
  by_cases h2 : t = i <;> simp [h2]
 ·by_cases h2 : i = t
  ·subst h2; simp [h1]
  ·simp [h1, h2]
theorem swp_other {n t i : Nat} (h1 : i ≠ n) (h2 : i ≠ t) : swp n t i = i := by unfold swp; rw [if_neg h1, if_neg h2]
def PV.ren (g : Nat -> Nat) : PV -> PV
 | .sl sh t n => .sl sh (g t) n
 | .mref t => .mref (g t)
 | .ref t off => .ref (g t) off
 | .jDX t m i off => .jDX (g t) m i off
 | .agg ps => .agg (ps.map (PV.ren g))
 | .tup ps => .tup (ps.map (PV.ren g))
 | .fn f ps qs => .fn f (ps.map (PV.ren g)) (qs.map (PV.ren g))
 | .cond b p => .cond b (PV.ren g p)
 | p => p
def jAF.ren (g : Nat -> Nat) : jAF -> jAF
 | .var sh x => .var sh (x.ren g)
 | .mpo kd es => .mpo kd (es.map fun q => (q.1, q.2.ren g))
 | o => o
section
variable {P : Program} {G : jA3} {N : Nat} {C : Ctx} {a : Act} {w : World} {κ κ' : Kap} {env : Env} {μ : Mem} {mv : Nat -> Bool} {Q : Post} {K : Env -> Mem -> Prop} {g : Nat -> Nat}
theorem jD3 {f : PV -> PV} (ps : List PV) (i : Nat) (p : PV) (h : (ps.map f)[i]? = some p) : ∃ q, ps[i]? = some q ∧ p = f q := by
 rw [List.getElem?_map] at h
 cases hq : ps[i]? with
 | none => simp [hq] at h
 | some q => simp [hq] at h; exact ⟨q, rfl, h.symm⟩
theorem jX6 {ex : Nat -> Prop} {v : Value} {p : PV} (h : jAW w ex v p) : jAW w ex v (p.ren g) := by
 induction h with
 | fn f first caps ps qs h1 h2 h3 h4 ih3 ih4 =>
  simp only [PV.ren]
  refine .fn f first caps _ _ (by simpa using h1) (by simpa using h2) (fun i v p a b => ?_) (fun i v p a b => ?_)
  ·obtain ⟨q, hq, rfl⟩ := jD3 ps i p b
   exact ih3 i v q a hq
  ·obtain ⟨q, hq, rfl⟩ := jD3 qs i p b
   exact ih4 i v q a hq
 | agg vs ps hs hr ih =>
  simp only [PV.ren]
  refine .agg vs _ (by simpa using hs) (fun i v p a b => ?_)
  obtain ⟨q, hq, rfl⟩ := jD3 ps i p b
  exact ih i v q a hq
 | tup vs ps hs hr ih =>
  simp only [PV.ren]
  refine .tup vs _ (by simpa using hs) (fun i v p a b => ?_)
  obtain ⟨q, hq, rfl⟩ := jD3 ps i p b
  exact ih i v q a hq
 | int k n => simp only [PV.ren]; exact .int k n
 | bool b => simp only [PV.ren]; exact .bool b
 | str s => simp only [PV.ren]; exact .str s
 | nilFn => simp only [PV.ren]; exact .nilFn
 | nilPtr => simp only [PV.ren]; exact .nilPtr
 | jAH => simp only [PV.ren]; exact .jAH
 | jA0 => simp only [PV.ren]; exact .jA0
 | yl l => simp only [PV.ren]; exact .yl l
 | list a len cap sh xs b off val h1 h2 h3 h4 h5 h6 h7 _ => simp only [PV.ren]; exact jAW.list a len cap sh xs b off val h1 h2 h3 h4 h5 h6 h7
 | full a len sh xs b off val h1 h3 h4 h5 h6 h7 _ => simp only [PV.ren]; exact jAW.full a len sh xs b off val h1 h3 h4 h5 h6 h7
 | jC9 r kd es ents clock h1 h2 h3 h4 h4' h5 h6 _ _ => simp only [PV.ren]; exact jAW.jC9 r kd es ents clock h1 h2 h3 h4 h4' h5 h6
 | jC2 b o off sh x val h1 h2 h3 h4 _ => simp only [PV.ren]; exact jAW.jC2 b o off sh x val h1 h2 h3 h4
theorem Rep.ren {ex : Nat -> Prop} (hk : ∀ t c, κ t = some c -> κ' (g t) = some c) {v : Value} {p : PV} (h : Rep w ex κ v p) : Rep w ex κ' v (p.ren g) := by
 induction h with
 | junk v => simp only [PV.ren]; exact .junk v
 | closed h => exact .closed (jX6 h)
 | ref t off b h => simp only [PV.ren]; exact .ref _ off b (hk _ _ h)
 | jDX t n i off b h => simp only [PV.ren]; exact .jDX _ n i off b (hk _ _ h)
 | sl sh t len b cap h hs hl hm => simp only [PV.ren]; exact .sl sh _ len b cap (hk _ _ h) hs hl hm
 | slnil sh t h => simp only [PV.ren]; exact .slnil sh _ (hk _ _ h)
 | mref t b h => simp only [PV.ren]; exact .mref _ b (hk _ _ h)
 | agg vs ps hs hr ih =>
  simp only [PV.ren]
  refine .agg vs _ (by simpa using hs) (fun i v p a b => ?_)
  obtain ⟨q, hq, rfl⟩ := jD3 ps i p b
  exact ih i v q a hq
 | tup vs ps hs hr ih =>
  simp only [PV.ren]
  refine .tup vs _ (by simpa using hs) (fun i v p a b => ?_)
  obtain ⟨q, hq, rfl⟩ := jD3 ps i p b
  exact ih i v q a hq
 | fn f first caps ps qs h1 h2 h3 h4 ih3 ih4 =>
  simp only [PV.ren]
  refine .fn f first caps _ _ (by simpa using h1) (by simpa using h2) (fun i v p a b => ?_) (fun i v p a b => ?_)
  ·obtain ⟨q, hq, rfl⟩ := jD3 ps i p b
   exact ih3 i v q a hq
  ·obtain ⟨q, hq, rfl⟩ := jD3 qs i p b
   exact ih4 i v q a hq
 | cond b h hu ih => simp only [PV.ren]; exact .cond b (fun hb => ih hb) hu
theorem kBE (x : PV) : (x.ren g).cells = x.cells.map (PV.ren g) := by
 cases x <;> simp [PV.ren, PV.cells]
theorem jXW {sh : Sh} {x : PV} (h : shaped sh x) : shaped sh (x.ren g) := by
 cases sh with
 | none =>
  unfold shaped at h ⊢
  cases x <;> simp_all [PV.ren, PV.isAgg]
 | some n =>
  obtain ⟨cs, rfl, hl⟩ := h
  exact ⟨cs.map (PV.ren g), by simp [PV.ren], by simpa using hl⟩
theorem jD7.ren {ex : Nat -> Prop} (hk : ∀ t c, κ t = some c -> κ' (g t) = some c) {c : Option Nat} {o : jAF} (h : jD7 w ex κ c o) : jD7 w ex κ' c (o.ren g) := by
 cases h with
 | var b arr E sh x h hs hsh hr =>
  refine .var b arr E sh _ h hs (jXW hsh) (fun j p v hp hv => ?_)
  rw [kBE] at hp
  obtain ⟨q, hq, rfl⟩ := jD3 _ j p hp
  exact (hr j q v hq hv).ren hk
 | jCE sh => exact .jCE sh
 | row b cur E cap sh xs h hs hm hl hfit hr => exact .row b cur E cap sh xs h hs hm hl hfit hr
 | mp b kd es ents clock h hs hB hkd h1 hv => exact .mp b kd es ents clock h hs hB hkd h1 hv
 | mpg b kd es ents clock h hs hkd h1 hv => exact .mpg b kd es ents clock h hs hkd h1 hv
 | iter b kd es seen m h hm => exact .iter b kd es seen m h hm
 | mpo b kd es ents clock h hs hB hkd h1 hv =>
  refine .mpo b kd _ ents clock h (by simpa using hs) hB (fun q hq => ?_) (fun i e q a d => ?_) (fun i e q a d => ?_)
  ·obtain ⟨q0, h0, rfl⟩ := List.mem_map.1 hq; exact hkd q0 h0
  ·obtain ⟨q0, h0, rfl⟩ := jDL (f := PV.ren g) d; exact h1 i e q0 a h0
  ·obtain ⟨q0, h0, rfl⟩ := jDL (f := PV.ren g) d; exact (hv i e q0 a h0).ren hk
def swE (n t : Nat) (env : Env) : Env := env.map fun x => (x.1, x.2.ren (swp n t))
def swL {α : Type} (n t : Nat) (l : List (Option α)) : List (Option α) := (l.set n (l.getD t none)).set t (l.getD n none)
def swM (n t : Nat) (μ : Mem) : Mem := swL n t (μ.map (Option.map (jAF.ren (swp n t))))
theorem kH0 {α : Type} (l : List (Option α)) {n t : Nat} (hn : n < l.length) (ht : t < l.length) (i : Nat) : (swL n t l)[i]? = l[swp n t i]? := by
 unfold swL swp
 by_cases h2 : i = t
 ·subst h2
  rw [List.getElem?_set_self (by simpa using ht)]
  by_cases h1 : i = n
  ·subst h1; simp [List.getD, hn]
  ·simp [h1, List.getD, hn]
 ·rw [List.getElem?_set_ne (Ne.symm h2)]
  by_cases h1 : i = n
  ·subst h1
   rw [List.getElem?_set_self hn]
   simp [List.getD, ht]
  ·rw [List.getElem?_set_ne (Ne.symm h1)]
   simp [h1, h2]
def Kap.sw (κ : Kap) (n t : Nat) : Kap := ⟨fun i => κ (swp n t i), κ.ex⟩
theorem kBJ (κ : Kap) (n t : Nat) : own (κ.sw n t) = own κ := by
 funext b
 simp only [own, eq_iff_iff]
 constructor
 ·rintro (h | ⟨i, hi⟩)
  ·exact .inl h
  ·exact .inr ⟨swp n t i, hi⟩
 ·rintro (h | ⟨i, hi⟩)
  ·exact .inl h
  ·exact .inr ⟨swp n t i, by simp only [Kap.sw, jOM]; exact hi⟩
theorem jZZ (κ : Kap) (n t : Nat) : ∀ i c, κ i = some c -> (κ.sw n t) (swp n t i) = some c := fun i c h => by simp only [Kap.sw, jOM]; exact h
theorem Sim.sw (hS : Sim w κ μ) {n t : Nat} (hn : n < μ.length) (ht : t < μ.length) : Sim w (κ.sw n t) (swM n t μ) := by
 have hget : ∀ i, (swM n t μ)[i]? = (μ.map (Option.map (jAF.ren (swp n t))))[swp n t i]? := kH0 _ (by simpa using hn) (by simpa using ht)
 refine ⟨fun i j b hi hj => ?_, fun i b hi => hS.lt _ b hi, fun i c hi => ?_, fun i o hi => ?_, hS.jN3, fun i b hi => hS.jEJ _ b hi⟩
 ·have := hS.inj _ _ b hi hj
  rw [<- jOM n t i, this, jOM]
 ·obtain ⟨o, h1, h2⟩ := hS.live _ c hi
  refine ⟨o.ren (swp n t), by rw [hget, List.getElem?_map, h1]; rfl, ?_⟩
  rw [kBJ]
  exact h2.ren (jZZ κ n t)
 ·rw [hget, List.getElem?_map] at hi
  cases hx : μ[swp n t i]? with
  | none => simp [hx] at hi
  | some x =>
   cases x with
   | none => simp [hx] at hi
   | some o' => exact hS.dead _ o' hx
theorem kCL (n t : Nat) : ∀ (env : Env) (r : Nat), (swE n t env).get r = (env.get r).ren (swp n t)
 | [], _ => by simp [swE, Env.get, PV.ren]
 | (j, p) :: e, r => by
  simp only [swE, List.map_cons, Env.get]
  split
  ·rfl
  ·exact kCL n t e r
theorem SR.sw (hR : SR G N C a w κ env μ) (n t : Nat) (hn : n < μ.length) (ht : t < μ.length) (h1 : C.mv n = true) (h2 : C.mv t = true) : SR G N C a w (κ.sw n t) (swE n t env) (swM n t μ) := by
 have hG : Goes w κ w (κ.sw n t) (fun i => i = n ∨ i = t) := by
  have ho := kBJ κ n t
  refine ⟨rfl, rfl, rfl, Nat.le_refl _, rfl, fun _ _ _ => rfl, fun b hb hno => ?_, fun _ _ h => h, fun i c hi hne => ?_⟩
  ·rintro ⟨i, hi⟩; exact hno ⟨swp n t i, hi⟩
  ·simp only [Kap.sw]
   rw [swp_other (fun e => hne (.inl e)) (fun e => hne (.inr e))]; exact hi
 refine ⟨hR.size, hR.defers, fun i => ?_, hR.sim.sw hn ht, jBV hR.globs hG, hR.goes.trans (hG.weak fun i hi => by rcases hi with rfl | rfl <;> assumption)⟩
 rw [kCL, kBJ]
 exact (hR.regs i).ren (jZZ κ n t)
end
section
namespace Dg
end Dg
section
variable {P : Program} {G : jA3} {N : Nat} {mv : Nat -> Bool} {Q : Post} {env : Env} {μ : Mem} {K : Env -> Mem -> Prop} {σ : Type}
end
end
section
variable {P : Program} {G : jA3} {N : Nat} {mv : Nat -> Bool} {env : Env} {μ : Mem} {K : Env -> Mem -> Prop}
end
section
variable {P : Program} {G : jA3} {w : World} {κ : Kap} {μ : Mem}
theorem jAB.lend {f : Nat} {as : List PV} {res : PV} (n : Nat) (mv : Nat -> Bool) (hV : jAB P G f (as.map (PV.lend n μ)) res) (hs : (as.map (PV.jBU n μ)).all id = true) (hf : res.flat = true) :
  jA2 P G f as μ mv (fun p μ' => p = res ∧ μ' = μ) := by
 intro w κ vs hS hG hr
 rw [jB3] at hs
 refine (hV w κ.ex vs hS.jN3 (fun g sh x hg => (hG g sh x hg).mono ⟨fun _ _ _ => rfl, fun b _ h h' => h (.inl h')⟩) ⟨by simpa using hr.1, fun i v p a b => ?_⟩).mono ?_
 ·obtain ⟨q, hq, rfl⟩ := jFQ b
  exact jU8 hS n (hr.2 i v q a hq) (hs q (List.mem_of_getElem? hq))
 ·rintro e w' ⟨v, rfl, hB, hrc⟩
  exact ⟨v, res, μ, κ, rfl, ⟨rfl, rfl⟩, hS.below hB, .closed (jHW hrc hf), Goes.below hB _⟩
theorem jBB {mv : Nat -> Bool} {env : Env} {d : Option Nat} {rest : List CO} {K : Env -> Mem -> Prop} {f : Nat} {ps qs as as' : List PV} {res : PV} (n : Nat) (hE : Ent P f) (hV : jAB P G f as' res)
  (ha : (ps ++ as ++ qs).map (PV.lend n μ) = as') (hs : ((ps ++ as ++ qs).map (PV.jBU n μ)).all id = true) (hf : res.flat = true) (h : jDG P G false mv rest (jGR env d res) μ K) : jG6 P G false mv d rest env K μ (.fn f ps qs) as := by
 subst ha
 exact jCS hE (jAB.lend n _ hV hs hf) (by rintro p μ' ⟨rfl, rfl⟩; exact h)
theorem jAQ {mv : Nat -> Bool} {env : Env} {d : Option Nat} {rest : List CO} {K : Env -> Mem -> Prop} {f : Nat} {ps qs as : List PV} {R : PV -> Mem -> Prop} (t : Nat) (hE : Ent P f) (hV : jA2 P G f (ps ++ as ++ qs) μ (jAR t) R) (hm : mv t = true)
  (h : ∀ p μ', R p μ' -> jDG P G false mv rest (jGR (jI5 env (some t)) d p) μ' K) : jG6 P G false mv d rest env K μ (.fn f ps qs) as :=
 .inr ⟨rfl, hE, .inr ⟨t, R, hV, fun p μ' hR => ⟨hm, h p μ' hR⟩⟩⟩
theorem jR8 {q : Bool} {mv : Nat -> Bool} {env : Env} {d : Option Nat} {rest : List CO} {K : Env -> Mem -> Prop} {b want : Bool} {f : Nat} {ps qs as as' : List PV} {res : PV} (n : Nat) (hE : Ent P f) (hV : jAB P G f as' res) (hok : jCQ as)
  (ha : (ps ++ as.map (PV.under true) ++ qs).map (PV.lend n μ) = as') (hs : ((ps ++ as.map (PV.under true) ++ qs).map (PV.jBU n μ)).all id = true) (hf : res.flat = true)
  (h : jDG P G q mv rest (jGR env d (.cond (b == want) res)) μ K) : jEG P G q mv d rest env K μ b want (.fn f ps qs) as := by
 subst ha
 exact ⟨res, fun hb => ⟨trivial, hok, ⟨hE, n, hV, hs, .inl hf⟩, fun _ => hf⟩, h⟩
end
section
variable {P : Program} {G : jA3} {N : Nat} {w : World} {κ : Kap} {env : Env} {μ : Mem} {mv : Nat -> Bool} {Q : Post}
theorem PW.kQ5 {x : jB1} (t : Nat) (sh : Sh) (hm : μ.get t = some (.var none .jAH)) (h : PW P G N mv x env ((μ ++ [some (jAF.row sh [])]).set t (some (jAF.var none (.sl sh μ.length 0)))) Q) : PW P G N mv x env μ Q := by
 intro ow L code hc jD8 C a w κ hmv hR
 obtain ⟨hG, hS'⟩ := hR.sim.jCE sh
 have hlt : t < μ.length := by
  rcases Nat.lt_or_ge t μ.length with h | h
  ·exact h
  ·simp [Mem.get, List.getElem?_eq_none h] at hm
 have hm' : Mem.get (μ ++ [some (jAF.row sh [])]) t = some (jAF.var none .jAH) := by
  unfold Mem.get at hm ⊢
  rw [List.getElem?_append_left hlt]; exact hm
 have kOS := hS'.swap hm' (o' := jAF.var none (.sl sh μ.length 0)) (fun c hO => by
  cases hO with
  | var b arr E _ _ hb hs hsh hr =>
   refine .var b arr E none _ hb hs rfl (fun j p v hj hv => ?_)
   match j, hj with
   | 0, hj =>
    simp only [PV.cells, List.getElem?_cons_zero, Option.some.injEq] at hj
    subst hj
    have := hr 0 .jAH v rfl hv
    rw [jDC this]
    exact .slnil sh μ.length (by simp))
 exact h ow L code hc jD8 C a w _ hmv ⟨hR.size, hR.defers, fun j => (hR.regs j).still hG, kOS, jBV hR.globs hG, hR.goes.trans (hG.weak fun _ h => h.elim)⟩
end
section
variable {P : Program} {G : jA3} {N : Nat} {env : Env} {μ : Mem} {mv : Nat -> Bool} {Q : Post}
theorem PW.sw {x : jB1} (n t : Nat) (hn : n < μ.length) (ht : t < μ.length) (h1 : mv n = true) (h2 : mv t = true) (h : PW P G N mv x (swE n t env) (swM n t μ) Q) : PW P G N mv x env μ Q := by
 intro ow L code hc jD8 C a w κ hmv hR
 subst hmv
 exact h ow L code hc jD8 C a w _ rfl (hR.sw n t hn ht h1 h2)
end
set_option maxRecDepth 100000
theorem SS5 : type_of% (And.intro (And.intro (And.intro (And.intro (And.intro (And.intro (And.intro (And.intro (@jMP.eq_1) (@jMP.eq_2)) (And.intro (@gOk.eq_1) (@gOk.eq_2))) (And.intro (And.intro (@PV.shift.eq_1) (@PV.shift.eq_2)) (And.intro (@PV.shift.eq_3) (@PV.shift.eq_4)))) (And.intro (And.intro (And.intro (@PV.shift.eq_5) (@PV.shift.eq_6)) (And.intro (@PV.shift.eq_7) (@PV.shift.eq_8))) (And.intro (And.intro (@PV.shift.eq_9) (@jAF.shift.eq_1)) (And.intro (@jAF.shift.eq_2) (@jAF.shift.eq_3))))) (And.intro (And.intro (And.intro (And.intro (@rdV.eq_1) (@rdV.eq_2)) (And.intro (@rdV.eq_3) (@rdV.eq_4))) (And.intro (And.intro (@rdV.eq_5) (@rdV.eq_6)) (And.intro (@rdV.eq_7) (@rdV.eq_8)))) (And.intro (And.intro (And.intro (@rdV.eq_9) (@rdV.eq_10)) (And.intro (@rdV.eq_11) (@rdV.eq_12))) (And.intro (And.intro (@rdV.eq_13) (@rdV.eq_14)) (And.intro (@rdV.eq_15) (@rdV.eq_16)))))) (And.intro (And.intro (And.intro (And.intro (And.intro (@rdV.eq_17) (@rdV.eq_18)) (And.intro (@rdV.eq_19) (@rdV.eq_20))) (And.intro (And.intro (@rdV.eq_21) (@rdV.eq_22)) (And.intro (@rdV.eq_23) (@rdV.eq_24)))) (And.intro (And.intro (And.intro (@rdV.eq_25) (@rdV.eq_26)) (And.intro (@rdV.eq_27) (@rdV.eq_28))) (And.intro (And.intro (@rdV.eq_29) (@rdV.eq_30)) (And.intro (@rdV.eq_31) (@rdV.eq_32))))) (And.intro (And.intro (And.intro (And.intro (@rdV.eq_33) (@rdV.eq_34)) (And.intro (@rdV.eq_35) (@rdV.eq_36))) (And.intro (And.intro (@rdV.eq_37) (@rdV.eq_38)) (And.intro (@rdV.eq_39) (@rdV.eq_40)))) (And.intro (And.intro (And.intro (@rdV.eq_41) (@rdV.eq_42)) (And.intro (@rdV.eq_43) (@rdV.eq_44))) (And.intro (And.intro (@rdV.eq_45) (@rdV.eq_46)) (And.intro (@rdV.eq_47) (@rdV.eq_48))))))) (And.intro (And.intro (And.intro (And.intro (And.intro (And.intro (@rdV.eq_49) (@rdV.eq_50)) (And.intro (@rdD.eq_1) (@rdD.eq_2))) (And.intro (And.intro (@rdD.eq_3) (@rdD.eq_4)) (And.intro (@rdD.eq_5) (@rdD.eq_6)))) (And.intro (And.intro (And.intro (@rdD.eq_7) (@rdD.eq_8)) (And.intro (@rdD.eq_9) (@rdD.eq_10))) (And.intro (And.intro (@rdD.eq_11) (@rdD.eq_12)) (And.intro (@rdD.eq_13) (@rdD.eq_14))))) (And.intro (And.intro (And.intro (And.intro (@rdD.eq_15) (@rdD.eq_16)) (And.intro (@rdD.eq_17) (@rdD.eq_18))) (And.intro (And.intro (@rdD.eq_19) (@rdD.eq_20)) (And.intro (@rdD.eq_21) (@rdD.eq_22)))) (And.intro (And.intro (And.intro (@rdD.eq_23) (@rdD.eq_24)) (And.intro (@rdD.eq_25) (@rdD.eq_26))) (And.intro (And.intro (@rdD.eq_27) (@rdD.eq_28)) (And.intro (@rdD.eq_29) (@rdD.eq_30)))))) (And.intro (And.intro (And.intro (And.intro (And.intro (@rdD.eq_31) (@rdD.eq_32)) (And.intro (@rdD.eq_33) (@rdD.eq_34))) (And.intro (And.intro (@rdD.eq_35) (@rdD.eq_36)) (And.intro (@rdD.eq_37) (@rdD.eq_38)))) (And.intro (And.intro (And.intro (@rdD.eq_39) (@rdD.eq_40)) (And.intro (@rdD.eq_41) (@rdD.eq_42))) (And.intro (And.intro (@rdD.eq_43) (@rdD.eq_44)) (And.intro (@rdD.eq_45) (@rdD.eq_46))))) (And.intro (And.intro (And.intro (And.intro (@rdD.eq_47) (@rdD.eq_48)) (And.intro (@rdD.eq_49) (@rdD.eq_50))) (And.intro (And.intro (@rdD.eq_51) (@rdD.eq_52)) (And.intro (@rdD.eq_53) (@PV.bin.eq_1)))) (And.intro (And.intro (And.intro (@PV.bin.eq_2) (@PV.bin.eq_3)) (And.intro (@PV.bin.eq_4) (@PV.bin.eq_5))) (And.intro (And.intro (@PV.jAI.eq_1) (@PV.jAI.eq_2)) (And.intro (@PV.jAI.eq_3) (@PV.jAI.eq_4)))))))) (And.intro (And.intro (And.intro (And.intro (And.intro (And.intro (And.intro (@PV.jAI.eq_5) (@PV.jAI.eq_6)) (And.intro (@PV.jAI.eq_7) (@PV.jAI.eq_8))) (And.intro (And.intro (@PV.jAI.eq_9) (@PV.jAI.eq_10)) (And.intro (@PV.jAI.eq_11) (@PV.jAI.eq_12)))) (And.intro (And.intro (And.intro (@PV.jAI.eq_13) (@PV.jAI.eq_14)) (And.intro (@jBC.eq_1) (@jBC.eq_2))) (And.intro (And.intro (@jBC.eq_3) (@jBC.eq_4)) (And.intro (@jBC.eq_5) (@jBC.eq_6))))) (And.intro (And.intro (And.intro (And.intro (@jBC.eq_7) (@jBC.eq_8)) (And.intro (@jBC.eq_9) (@jBC.eq_10))) (And.intro (And.intro (@jBC.eq_11) (@jBC.eq_12)) (And.intro (@jBC.eq_13) (@jBC.eq_14)))) (And.intro (And.intro (And.intro (@jBC.eq_15) (@jBC.eq_16)) (And.intro (@jE1.eq_1) (@jE1.eq_2))) (And.intro (And.intro (@jE1.eq_3) (@jE1.eq_4)) (And.intro (@jE1.eq_5) (@jE1.eq_6)))))) (And.intro (And.intro (And.intro (And.intro (And.intro (@jE1.eq_7) (@jE1.eq_8)) (And.intro (@PV.jA7.eq_1) (@PV.jA7.eq_2))) (And.intro (And.intro (@PV.jA4.eq_1) (@PV.jA4.eq_2)) (And.intro (@jCQ.eq_1) (@jCQ.eq_2)))) (And.intro (And.intro (And.intro (@PV.under.eq_1) (@PV.under.eq_2)) (And.intro (@PV.jBM.eq_1) (@PV.jBM.eq_2))) (And.intro (And.intro (@jFH.eq_1) (@jFH.eq_2)) (And.intro (@jHM.eq_1) (@jHM.eq_2))))) (And.intro (And.intro (And.intro (And.intro (@RVar.val.eq_1) (@RVar.val.eq_2)) (And.intro (@RVar.ok.eq_1) (@RVar.ok.eq_2))) (And.intro (And.intro (@jQS.eq_1) (@jQS.eq_2)) (And.intro (@PV.seen.eq_1) (@PV.seen.eq_2)))) (And.intro (And.intro (And.intro (@PV.seen.eq_3) (@PV.seen.eq_4)) (And.intro (@PV.seen.eq_5) (@PV.seen.eq_6))) (And.intro (And.intro (@PV.seen.eq_7) (@PV.seen.eq_8)) (And.intro (@PV.seen.eq_9) (@PV.seen.eq_10))))))) (And.intro (And.intro (And.intro (And.intro (And.intro (And.intro (@PV.view.eq_1) (@PV.view.eq_2)) (And.intro (@PV.view.eq_3) (@PV.view.eq_4))) (And.intro (And.intro (@PV.view.eq_5) (@PV.view.eq_6)) (And.intro (@PV.view.eq_7) (@PV.view.eq_8)))) (And.intro (And.intro (And.intro (@PV.view.eq_9) (@PV.flat.eq_1)) (And.intro (@PV.flat.eq_2) (@PV.flat.eq_3))) (And.intro (And.intro (@PV.flat.eq_4) (@PV.flat.eq_5)) (And.intro (@PV.flat.eq_6) (@PV.flat.eq_7))))) (And.intro (And.intro (And.intro (And.intro (@PV.flat.eq_8) (@PV.flat.eq_9)) (And.intro (@PV.flat.eq_10) (@PV.jA5.eq_1))) (And.intro (And.intro (@PV.jA5.eq_2) (@PV.jA5.eq_3)) (And.intro (@PV.jA5.eq_4) (@PV.jA5.eq_5)))) (And.intro (And.intro (And.intro (@PV.jA5.eq_6) (@PV.jA5.eq_7)) (And.intro (@PV.jA5.eq_8) (@PV.jA5.eq_9))) (And.intro (And.intro (@PV.jA5.eq_10) (@behind.eq_1)) (And.intro (@behind.eq_2) (@behind.eq_3)))))) (And.intro (And.intro (And.intro (And.intro (And.intro (@behind.eq_4) (@PV.kill.eq_1)) (And.intro (@PV.kill.eq_2) (@PV.kill.eq_3))) (And.intro (And.intro (@PV.kill.eq_4) (@PV.kill.eq_5)) (And.intro (@PV.kill.eq_6) (@PV.kill.eq_7)))) (And.intro (And.intro (And.intro (@PV.kill.eq_8) (@PV.kill.eq_9)) (And.intro (@jAF.kill.eq_1) (@jAF.kill.eq_2))) (And.intro (And.intro (@jAF.kill.eq_3) (@jAR.eq_1)) (And.intro (@jHP.eq_1) (@jHP.eq_2))))) (And.intro (And.intro (And.intro (And.intro (@jHP.eq_3) (@jHP.eq_4)) (And.intro (@jHP.eq_5) (@jHP.eq_6))) (And.intro (And.intro (@jHP.eq_7) (@jHP.eq_8)) (And.intro (@jHP.eq_9) (@jHP.eq_10)))) (And.intro (And.intro (And.intro (@jHP.eq_11) (@jHP.eq_12)) (And.intro (@jHP.eq_13) (@jHR))) (And.intro (And.intro (@jM7) (@jKS)) (And.intro (@Bool.not_false) (@Bool.not_true))))))))) :=
 (And.intro (And.intro (And.intro (And.intro (And.intro (And.intro (And.intro (And.intro (@jMP.eq_1) (@jMP.eq_2)) (And.intro (@gOk.eq_1) (@gOk.eq_2))) (And.intro (And.intro (@PV.shift.eq_1) (@PV.shift.eq_2)) (And.intro (@PV.shift.eq_3) (@PV.shift.eq_4)))) (And.intro (And.intro (And.intro (@PV.shift.eq_5) (@PV.shift.eq_6)) (And.intro (@PV.shift.eq_7) (@PV.shift.eq_8))) (And.intro (And.intro (@PV.shift.eq_9) (@jAF.shift.eq_1)) (And.intro (@jAF.shift.eq_2) (@jAF.shift.eq_3))))) (And.intro (And.intro (And.intro (And.intro (@rdV.eq_1) (@rdV.eq_2)) (And.intro (@rdV.eq_3) (@rdV.eq_4))) (And.intro (And.intro (@rdV.eq_5) (@rdV.eq_6)) (And.intro (@rdV.eq_7) (@rdV.eq_8)))) (And.intro (And.intro (And.intro (@rdV.eq_9) (@rdV.eq_10)) (And.intro (@rdV.eq_11) (@rdV.eq_12))) (And.intro (And.intro (@rdV.eq_13) (@rdV.eq_14)) (And.intro (@rdV.eq_15) (@rdV.eq_16)))))) (And.intro (And.intro (And.intro (And.intro (And.intro (@rdV.eq_17) (@rdV.eq_18)) (And.intro (@rdV.eq_19) (@rdV.eq_20))) (And.intro (And.intro (@rdV.eq_21) (@rdV.eq_22)) (And.intro (@rdV.eq_23) (@rdV.eq_24)))) (And.intro (And.intro (And.intro (@rdV.eq_25) (@rdV.eq_26)) (And.intro (@rdV.eq_27) (@rdV.eq_28))) (And.intro (And.intro (@rdV.eq_29) (@rdV.eq_30)) (And.intro (@rdV.eq_31) (@rdV.eq_32))))) (And.intro (And.intro (And.intro (And.intro (@rdV.eq_33) (@rdV.eq_34)) (And.intro (@rdV.eq_35) (@rdV.eq_36))) (And.intro (And.intro (@rdV.eq_37) (@rdV.eq_38)) (And.intro (@rdV.eq_39) (@rdV.eq_40)))) (And.intro (And.intro (And.intro (@rdV.eq_41) (@rdV.eq_42)) (And.intro (@rdV.eq_43) (@rdV.eq_44))) (And.intro (And.intro (@rdV.eq_45) (@rdV.eq_46)) (And.intro (@rdV.eq_47) (@rdV.eq_48))))))) (And.intro (And.intro (And.intro (And.intro (And.intro (And.intro (@rdV.eq_49) (@rdV.eq_50)) (And.intro (@rdD.eq_1) (@rdD.eq_2))) (And.intro (And.intro (@rdD.eq_3) (@rdD.eq_4)) (And.intro (@rdD.eq_5) (@rdD.eq_6)))) (And.intro (And.intro (And.intro (@rdD.eq_7) (@rdD.eq_8)) (And.intro (@rdD.eq_9) (@rdD.eq_10))) (And.intro (And.intro (@rdD.eq_11) (@rdD.eq_12)) (And.intro (@rdD.eq_13) (@rdD.eq_14))))) (And.intro (And.intro (And.intro (And.intro (@rdD.eq_15) (@rdD.eq_16)) (And.intro (@rdD.eq_17) (@rdD.eq_18))) (And.intro (And.intro (@rdD.eq_19) (@rdD.eq_20)) (And.intro (@rdD.eq_21) (@rdD.eq_22)))) (And.intro (And.intro (And.intro (@rdD.eq_23) (@rdD.eq_24)) (And.intro (@rdD.eq_25) (@rdD.eq_26))) (And.intro (And.intro (@rdD.eq_27) (@rdD.eq_28)) (And.intro (@rdD.eq_29) (@rdD.eq_30)))))) (And.intro (And.intro (And.intro (And.intro (And.intro (@rdD.eq_31) (@rdD.eq_32)) (And.intro (@rdD.eq_33) (@rdD.eq_34))) (And.intro (And.intro (@rdD.eq_35) (@rdD.eq_36)) (And.intro (@rdD.eq_37) (@rdD.eq_38)))) (And.intro (And.intro (And.intro (@rdD.eq_39) (@rdD.eq_40)) (And.intro (@rdD.eq_41) (@rdD.eq_42))) (And.intro (And.intro (@rdD.eq_43) (@rdD.eq_44)) (And.intro (@rdD.eq_45) (@rdD.eq_46))))) (And.intro (And.intro (And.intro (And.intro (@rdD.eq_47) (@rdD.eq_48)) (And.intro (@rdD.eq_49) (@rdD.eq_50))) (And.intro (And.intro (@rdD.eq_51) (@rdD.eq_52)) (And.intro (@rdD.eq_53) (@PV.bin.eq_1)))) (And.intro (And.intro (And.intro (@PV.bin.eq_2) (@PV.bin.eq_3)) (And.intro (@PV.bin.eq_4) (@PV.bin.eq_5))) (And.intro (And.intro (@PV.jAI.eq_1) (@PV.jAI.eq_2)) (And.intro (@PV.jAI.eq_3) (@PV.jAI.eq_4)))))))) (And.intro (And.intro (And.intro (And.intro (And.intro (And.intro (And.intro (@PV.jAI.eq_5) (@PV.jAI.eq_6)) (And.intro (@PV.jAI.eq_7) (@PV.jAI.eq_8))) (And.intro (And.intro (@PV.jAI.eq_9) (@PV.jAI.eq_10)) (And.intro (@PV.jAI.eq_11) (@PV.jAI.eq_12)))) (And.intro (And.intro (And.intro (@PV.jAI.eq_13) (@PV.jAI.eq_14)) (And.intro (@jBC.eq_1) (@jBC.eq_2))) (And.intro (And.intro (@jBC.eq_3) (@jBC.eq_4)) (And.intro (@jBC.eq_5) (@jBC.eq_6))))) (And.intro (And.intro (And.intro (And.intro (@jBC.eq_7) (@jBC.eq_8)) (And.intro (@jBC.eq_9) (@jBC.eq_10))) (And.intro (And.intro (@jBC.eq_11) (@jBC.eq_12)) (And.intro (@jBC.eq_13) (@jBC.eq_14)))) (And.intro (And.intro (And.intro (@jBC.eq_15) (@jBC.eq_16)) (And.intro (@jE1.eq_1) (@jE1.eq_2))) (And.intro (And.intro (@jE1.eq_3) (@jE1.eq_4)) (And.intro (@jE1.eq_5) (@jE1.eq_6)))))) (And.intro (And.intro (And.intro (And.intro (And.intro (@jE1.eq_7) (@jE1.eq_8)) (And.intro (@PV.jA7.eq_1) (@PV.jA7.eq_2))) (And.intro (And.intro (@PV.jA4.eq_1) (@PV.jA4.eq_2)) (And.intro (@jCQ.eq_1) (@jCQ.eq_2)))) (And.intro (And.intro (And.intro (@PV.under.eq_1) (@PV.under.eq_2)) (And.intro (@PV.jBM.eq_1) (@PV.jBM.eq_2))) (And.intro (And.intro (@jFH.eq_1) (@jFH.eq_2)) (And.intro (@jHM.eq_1) (@jHM.eq_2))))) (And.intro (And.intro (And.intro (And.intro (@RVar.val.eq_1) (@RVar.val.eq_2)) (And.intro (@RVar.ok.eq_1) (@RVar.ok.eq_2))) (And.intro (And.intro (@jQS.eq_1) (@jQS.eq_2)) (And.intro (@PV.seen.eq_1) (@PV.seen.eq_2)))) (And.intro (And.intro (And.intro (@PV.seen.eq_3) (@PV.seen.eq_4)) (And.intro (@PV.seen.eq_5) (@PV.seen.eq_6))) (And.intro (And.intro (@PV.seen.eq_7) (@PV.seen.eq_8)) (And.intro (@PV.seen.eq_9) (@PV.seen.eq_10))))))) (And.intro (And.intro (And.intro (And.intro (And.intro (And.intro (@PV.view.eq_1) (@PV.view.eq_2)) (And.intro (@PV.view.eq_3) (@PV.view.eq_4))) (And.intro (And.intro (@PV.view.eq_5) (@PV.view.eq_6)) (And.intro (@PV.view.eq_7) (@PV.view.eq_8)))) (And.intro (And.intro (And.intro (@PV.view.eq_9) (@PV.flat.eq_1)) (And.intro (@PV.flat.eq_2) (@PV.flat.eq_3))) (And.intro (And.intro (@PV.flat.eq_4) (@PV.flat.eq_5)) (And.intro (@PV.flat.eq_6) (@PV.flat.eq_7))))) (And.intro (And.intro (And.intro (And.intro (@PV.flat.eq_8) (@PV.flat.eq_9)) (And.intro (@PV.flat.eq_10) (@PV.jA5.eq_1))) (And.intro (And.intro (@PV.jA5.eq_2) (@PV.jA5.eq_3)) (And.intro (@PV.jA5.eq_4) (@PV.jA5.eq_5)))) (And.intro (And.intro (And.intro (@PV.jA5.eq_6) (@PV.jA5.eq_7)) (And.intro (@PV.jA5.eq_8) (@PV.jA5.eq_9))) (And.intro (And.intro (@PV.jA5.eq_10) (@behind.eq_1)) (And.intro (@behind.eq_2) (@behind.eq_3)))))) (And.intro (And.intro (And.intro (And.intro (And.intro (@behind.eq_4) (@PV.kill.eq_1)) (And.intro (@PV.kill.eq_2) (@PV.kill.eq_3))) (And.intro (And.intro (@PV.kill.eq_4) (@PV.kill.eq_5)) (And.intro (@PV.kill.eq_6) (@PV.kill.eq_7)))) (And.intro (And.intro (And.intro (@PV.kill.eq_8) (@PV.kill.eq_9)) (And.intro (@jAF.kill.eq_1) (@jAF.kill.eq_2))) (And.intro (And.intro (@jAF.kill.eq_3) (@jAR.eq_1)) (And.intro (@jHP.eq_1) (@jHP.eq_2))))) (And.intro (And.intro (And.intro (And.intro (@jHP.eq_3) (@jHP.eq_4)) (And.intro (@jHP.eq_5) (@jHP.eq_6))) (And.intro (And.intro (@jHP.eq_7) (@jHP.eq_8)) (And.intro (@jHP.eq_9) (@jHP.eq_10)))) (And.intro (And.intro (And.intro (@jHP.eq_11) (@jHP.eq_12)) (And.intro (@jHP.eq_13) (@jHR))) (And.intro (And.intro (@jM7) (@jKS)) (And.intro (@Bool.not_false) (@Bool.not_true)))))))))
theorem RR : type_of% (And.intro (And.intro (And.intro (@jGJ) (And.intro (@jGK) (@Int.toNat_natCast))) (And.intro (@Bool.false_and) (And.intro (@Bool.true_and) (@true_implies)))) (And.intro (And.intro (@true_and) (And.intro (@Bool.false_eq_true) (@false_implies))) (And.intro (And.intro (@Bool.not_false) (@Bool.not_true)) (And.intro (@Bool.true_or) (@Bool.false_or))))) :=
 (And.intro (And.intro (And.intro (@jGJ) (And.intro (@jGK) (@Int.toNat_natCast))) (And.intro (@Bool.false_and) (And.intro (@Bool.true_and) (@true_implies)))) (And.intro (And.intro (@true_and) (And.intro (@Bool.false_eq_true) (@false_implies))) (And.intro (And.intro (@Bool.not_false) (@Bool.not_true)) (And.intro (@Bool.true_or) (@Bool.false_or)))))
section
variable {μ : Mem} {J : PV -> Option Nat -> Mem -> Prop}
end
theorem Rep.re {w w' : World} {ex ex' : Nat -> Prop} {κ κ' : Kap} {dead : Nat -> Bool} (hA : Agree w ex w' ex') (hT : ∀ t c, κ t = some c -> dead t ≠ true -> κ' t = some c) (hSh : ∀ b s, w.shape? b = some s -> w'.shape? b = some s) {v : Value} {p : PV} (h : Rep w ex κ v p) : Rep w' ex' κ' v (p.kill dead) := by
 induction h with
 | junk v => simp only [PV.kill]; exact .junk v
 | closed h => exact .closed (h.mono hA).kill
 | ref t off b h =>
  simp only [PV.kill]; split
  ·exact .junk _
  ·rename_i hh; exact .ref t off b (hT _ _ h hh)
 | jDX t n i off b h =>
  simp only [PV.kill]; split
  ·exact .junk _
  ·rename_i hh; exact .jDX t n i off b (hT _ _ h hh)
 | sl sh t len b cap h hs hl hm =>
  simp only [PV.kill]; split
  ·exact .junk _
  ·rename_i hh; obtain ⟨E, hE⟩ := hs; exact .sl sh t len b cap (hT _ _ h hh) ⟨E, hSh _ _ hE⟩ hl hm
 | slnil sh t h =>
  simp only [PV.kill]; split
  ·exact .junk _
  ·rename_i hh; exact .slnil sh t (hT _ _ h hh)
 | mref t b h =>
  simp only [PV.kill]; split
  ·exact .junk _
  ·rename_i hh; exact .mref t b (hT _ _ h hh)
 | agg vs ps hs hr ih =>
  simp only [PV.kill]
  refine .agg vs _ (by simpa using hs) (fun i v p a b => ?_)
  rw [List.getElem?_map] at b
  cases hp : ps[i]? with
  | none => simp [hp] at b
  | some q => simp [hp] at b; subst b; exact ih i v q a hp
 | tup vs ps hs hr ih =>
  simp only [PV.kill]
  refine .tup vs _ (by simpa using hs) (fun i v p a b => ?_)
  rw [List.getElem?_map] at b
  cases hp : ps[i]? with
  | none => simp [hp] at b
  | some q => simp [hp] at b; subst b; exact ih i v q a hp
 | fn f first caps ps qs h1 h2 h3 h4 ih3 ih4 =>
  simp only [PV.kill]
  refine .fn f first caps _ _ (by simpa using h1) (by simpa using h2) (fun i v p a b => ?_) (fun i v p a b => ?_)
  ·rw [List.getElem?_map] at b
   cases hp : ps[i]? with
   | none => simp [hp] at b
   | some q => simp [hp] at b; subst b; exact ih3 i v q a hp
  ·rw [List.getElem?_map] at b
   cases hp : qs[i]? with
   | none => simp [hp] at b
   | some q => simp [hp] at b; subst b; exact ih4 i v q a hp
 | cond b h hu ih => simp only [PV.kill]; exact .cond b (fun hb => ih hb) hu
theorem Rep.re0 {w w' : World} {ex ex' : Nat -> Prop} {κ κ' : Kap} (hA : Agree w ex w' ex') (hT : ∀ t c, κ t = some c -> True -> κ' t = some c) (hSh : ∀ b s, w.shape? b = some s -> w'.shape? b = some s) {v : Value} {p : PV} (h : Rep w ex κ v p) : Rep w' ex' κ' v p := by
 induction h with
 | junk v => exact .junk v
 | closed h => exact .closed (h.mono hA)
 | ref t off b h => exact .ref t off b (hT _ _ h trivial)
 | jDX t n i off b h => exact .jDX t n i off b (hT _ _ h trivial)
 | sl sh t len b cap h hs hl hm => obtain ⟨E, hE⟩ := hs; exact .sl sh t len b cap (hT _ _ h trivial) ⟨E, hSh _ _ hE⟩ hl hm
 | slnil sh t h => exact .slnil sh t (hT _ _ h trivial)
 | mref t b h => exact .mref t b (hT _ _ h trivial)
 | agg vs ps hs hr ih => exact .agg vs _ hs ih
 | tup vs ps hs hr ih => exact .tup vs _ hs ih
 | fn f first caps ps qs h1 h2 h3 h4 ih3 ih4 => exact .fn f first caps _ _ h1 h2 ih3 ih4
 | cond b h hu ih => exact .cond b (fun hb => ih hb) hu
theorem jD7.re {w w' : World} {ex ex' : Nat -> Prop} {κ κ' : Kap} {dead : Nat -> Bool} {c : Option Nat} {o : jAF} (hA : Agree w ex w' ex') (hT : ∀ t c, κ t = some c -> dead t ≠ true -> κ' t = some c) (hSh : ∀ b s, w.shape? b = some s -> w'.shape? b = some s) (hb : ∀ b, c = some b -> w'.heap[b]? = w.heap[b]?) (h : jD7 w ex κ c o) : jD7 w' ex' κ' c (o.kill dead) := by
 cases h with
 | var b arr E sh x h hs hsh hr =>
  refine .var b arr E sh _ (by rw [hb b rfl]; exact h) hs (jHA hsh) (fun j p v hp hv => ?_)
  rw [jN8 hsh, List.getElem?_map] at hp
  cases hq : x.cells[j]? with
  | none => simp [hq] at hp
  | some q => simp [hq] at hp; subst hp; exact (hr j q v hq hv).re hA hT hSh
 | jCE sh => exact .jCE sh
 | row b cur E cap sh xs h hs hm hl hfit hr => exact .row b cur E cap sh xs (by rw [hb b rfl]; exact h) hs hm hl hfit (fun j p v hp hv => (hr j p v hp hv).mono hA)
 | iter b kd es seen m h hm => exact .iter b kd es seen m (by rw [hb b rfl]; exact h) (hm.imp id fun ⟨r, h1, h2⟩ => ⟨r, h1, h2.mono hA⟩)
 | mp b kd es ents clock h hs hB hkd hk hv => exact .mp b kd es ents clock (by rw [hb b rfl]; exact h) hs hB hkd (fun i e q a d => (hk i e q a d).mono hA) (fun i e q a d => (hv i e q a d).mono hA)
 | mpg b kd es ents clock h hs hkd hk hv => exact .mpg b kd es ents clock (by rw [hb b rfl]; exact h) hs hkd (fun i e q a d => (hk i e q a d).mono hA) (fun i e q a d => (hv i e q a d).mono hA)
 | mpo b kd es ents clock h hs hB hkd hk hv =>
  refine .mpo b kd _ ents clock (by rw [hb b rfl]; exact h) (by simpa using hs) hB (fun q hq => ?_) (fun i e q a d => ?_) (fun i e q a d => ?_)
  ·obtain ⟨q0, h0, rfl⟩ := List.mem_map.1 hq; exact hkd q0 h0
  ·obtain ⟨q0, h0, rfl⟩ := jDL (f := PV.kill dead) d; exact (hk i e q0 a h0).mono hA
  ·obtain ⟨q0, h0, rfl⟩ := jDL (f := PV.kill dead) d; exact (hv i e q0 a h0).re hA hT hSh
theorem jD7.re0 {w w' : World} {ex ex' : Nat -> Prop} {κ κ' : Kap} {c : Option Nat} {o : jAF} (hA : Agree w ex w' ex') (hT : ∀ t c, κ t = some c -> True -> κ' t = some c) (hSh : ∀ b s, w.shape? b = some s -> w'.shape? b = some s) (hb : ∀ b, c = some b -> w'.heap[b]? = w.heap[b]?) (h : jD7 w ex κ c o) : jD7 w' ex' κ' c o := by
 cases h with
 | var b arr E sh x h hs hsh hr => exact .var b arr E sh x (by rw [hb b rfl]; exact h) hs hsh (fun j p v hp hv => (hr j p v hp hv).re0 hA hT hSh)
 | jCE sh => exact .jCE sh
 | row b cur E cap sh xs h hs hm hl hfit hr => exact .row b cur E cap sh xs (by rw [hb b rfl]; exact h) hs hm hl hfit (fun j p v hp hv => (hr j p v hp hv).mono hA)
 | iter b kd es seen m h hm => exact .iter b kd es seen m (by rw [hb b rfl]; exact h) (hm.imp id fun ⟨r, h1, h2⟩ => ⟨r, h1, h2.mono hA⟩)
 | mp b kd es ents clock h hs hB hkd hk hv => exact .mp b kd es ents clock (by rw [hb b rfl]; exact h) hs hB hkd (fun i e q a d => (hk i e q a d).mono hA) (fun i e q a d => (hv i e q a d).mono hA)
 | mpg b kd es ents clock h hs hkd hk hv => exact .mpg b kd es ents clock (by rw [hb b rfl]; exact h) hs hkd (fun i e q a d => (hk i e q a d).mono hA) (fun i e q a d => (hv i e q a d).mono hA)
 | mpo b kd es ents clock h hs hB hkd hk hv => exact .mpo b kd es ents clock (by rw [hb b rfl]; exact h) hs hB hkd (fun i e q a d => (hk i e q a d).mono hA) (fun i e q a d => (hv i e q a d).re0 hA hT hSh)
section
variable {P : Program} {G : jA3}
def Kap.head (κ : Kap) (n : Nat) : Kap := ⟨fun t => if t < n then κ t else none, fun b => κ.ex b ∨ ∃ t, n <= t ∧ κ t = some (some b)⟩
def Kap.join (κ1 κ : Kap) (n : Nat) : Kap := ⟨fun t => if t < n then κ1 t else κ t, κ.ex⟩
theorem jO4 (κ : Kap) (n : Nat) : own (κ.head n) = own κ := by
 funext b
 apply propext
 constructor
 ·rintro ((h | ⟨t, -, h⟩) | ⟨t, h⟩)
  ·exact .inl h
  ·exact .inr ⟨t, h⟩
  ·simp only [Kap.head] at h
   split at h
   ·exact .inr ⟨t, h⟩
   ·cases h
 ·rintro (h | ⟨t, h⟩)
  ·exact .inl (.inl h)
  ·rcases Nat.lt_or_ge t n with k | k
   ·exact .inr ⟨t, by simp only [Kap.head, if_pos k]; exact h⟩
   ·exact .inl (.inr ⟨t, k, h⟩)
theorem jA2.frame {f : Nat} {as : List PV} {μ : Mem} {mv : Nat -> Bool} {R : PV -> Mem -> Prop} (h : jA2 P G f as μ mv R) (ν : Mem)
  (hR : ∀ p μ', R p μ' -> μ'.length = μ.length) (ha : as.map (PV.kill fun t => decide (μ.length <= t)) = as) (hm : μ.map (Option.map (jAF.kill fun t => decide (μ.length <= t))) = μ)
  (hν : ν.map (Option.map (jAF.kill mv)) = ν) :
  jA2 P G f as (μ ++ ν) mv (fun p μ' => ∃ μ1, R p μ1 ∧ μ' = μ1 ++ ν) := by
 intro w κ vs hS hG hr
 generalize hn : μ.length = n at hR ha hm
 have hlt : ∀ {t : Nat}, t < n -> (μ ++ ν)[t]? = μ[t]? := fun h => List.getElem?_append_left (by omega)
 have hge : ∀ {μ1 : Mem} {t : Nat}, μ1.length = n -> n <= t -> (μ1 ++ ν)[t]? = ν[t - n]? := fun h1 h => by rw [List.getElem?_append_right (by omega), h1]
 have kRS : ∀ {o : jAF} {i : Nat}, ν[i]? = some (some o) -> o.kill mv = o := fun {o i} ho => by
  have := congrArg (fun l => l[i]?) hν
  simp only [List.getElem?_map, ho, Option.map_some] at this
  exact Option.some.inj (Option.some.inj this)
 have kRP : ∀ {o : jAF} {i : Nat}, μ[i]? = some (some o) -> o.kill (fun t => decide (n <= t)) = o := fun {o i} ho => by
  have := congrArg (fun l => l[i]?) hm
  simp only [List.getElem?_map, ho, Option.map_some] at this
  exact Option.some.inj (Option.some.inj this)
 have hA0 : Agree w (own κ) w (own (κ.head n)) := by rw [jO4]; exact Agree.refl _ _
 have hT0 : ∀ t c, κ t = some c -> decide (n <= t) ≠ true -> (κ.head n) t = some c := fun t c hc ht => by
  have : t < n := by simp only [ne_eq, decide_eq_true_eq] at ht; omega
  simp only [Kap.head, if_pos this]; exact hc
 have hH : ∀ {t c}, (κ.head n) t = some c -> t < n ∧ κ t = some c := fun {t c} hc => by
  simp only [Kap.head] at hc
  split at hc
  ·exact ⟨by assumption, hc⟩
  ·cases hc
 have hS1 : Sim w (κ.head n) μ := by
  refine ⟨fun t t' b h1 h2 => hS.inj t t' b (hH h1).2 (hH h2).2, fun t b h1 => hS.lt t b (hH h1).2, fun t c hc => ?_, fun t o ho => ?_, fun b hb => ?_, fun t b hb hx => ?_⟩
  ·obtain ⟨o, h1, h2⟩ := hS.live t c (hH hc).2
   rw [hlt (hH hc).1] at h1
   refine ⟨o, h1, ?_⟩
   rw [<- kRP h1]
   exact h2.re hA0 hT0 (fun _ _ h => h) (fun _ _ => rfl)
  ·have ht : t < n := by rw [<- hn]; exact (List.getElem?_eq_some_iff.1 ho).1
   simp only [Kap.head, if_pos ht]
   exact hS.dead t o (by rw [hlt ht]; exact ho)
  ·rcases hb with hb | ⟨t, -, hb⟩
   ·exact hS.jN3 b hb
   ·exact hS.lt t b hb
  ·rcases hx with hx | ⟨t', ht', hx⟩
   ·exact hS.jEJ t b (hH hb).2 hx
   ·have := hS.inj t t' b (hH hb).2 hx; have := (hH hb).1; omega
 have hr1 : kHP w (κ.head n) vs as := by
  refine ⟨hr.1, fun i v p hv hp => ?_⟩
  have hk : p.kill (fun t => decide (n <= t)) = p := by
   have := congrArg (fun l => l[i]?) ha
   simp only [List.getElem?_map, hp, Option.map_some] at this
   exact Option.some.inj this
  rw [<- hk]
  exact (hr.2 i v p hv hp).re hA0 hT0 (fun _ _ h => h)
 refine (h w (κ.head n) vs hS1 (by rw [jO4]; exact hG) hr1).mono ?_
 rintro e w' ⟨v, p, μ1, κ1, rfl, hRp, hS', hv, hg⟩
 have hl1 := hR p μ1 hRp
 have kRT : ∀ {t c}, κ1 t = some c -> t < n := fun {t c} hc => by
  obtain ⟨o, h1, -⟩ := hS'.live t c hc
  rw [<- hl1]; exact (List.getElem?_eq_some_iff.1 h1).1
 have hJ : ∀ {t c}, (κ1.join κ n) t = some c -> (t < n ∧ κ1 t = some c) ∨ (n <= t ∧ κ t = some c) := fun {t c} hc => by
  simp only [Kap.join] at hc
  split at hc
  ·exact .inl ⟨by assumption, hc⟩
  ·exact .inr ⟨by omega, hc⟩
 have hJ1 : ∀ {t c}, κ1 t = some c -> (κ1.join κ n) t = some c := fun {t c} hc => by simp only [Kap.join, if_pos (kRT hc)]; exact hc
 have hJ2 : ∀ {t c}, n <= t -> κ t = some c -> (κ1.join κ n) t = some c := fun {t c} ht hc => by simp only [Kap.join, if_neg (by omega : ¬ t < n)]; exact hc
 have hex : κ1.ex = (κ.head n).ex := hg.ex
 have hown : own (κ1.join κ n) = own κ1 := by
  funext b
  apply propext
  constructor
  ·rintro (h | ⟨t, h⟩)
   ·exact .inl (by rw [hex]; exact .inl h)
   ·rcases hJ h with ⟨h1, h2⟩ | ⟨h1, h2⟩
    ·exact .inr ⟨t, h2⟩
    ·exact .inl (by rw [hex]; exact .inr ⟨t, h1, h2⟩)
  ·rintro (h | ⟨t, h⟩)
   ·rw [hex] at h
    rcases h with h | ⟨t, h1, h2⟩
    ·exact .inl h
    ·exact .inr ⟨t, hJ2 h1 h2⟩
   ·exact .inr ⟨t, hJ1 h⟩
 have hA1 : Agree w' (own κ1) w' (own (κ1.join κ n)) := by rw [hown]; exact Agree.refl _ _
 have hA2 : Agree w (own κ) w' (own (κ1.join κ n)) := by
  have := hg.agree
  rw [jO4] at this
  rw [hown]; exact this
 have hT2 : ∀ t c, κ t = some c -> mv t ≠ true -> (κ1.join κ n) t = some c := fun t c hc hm => by
  rcases Nat.lt_or_ge t n with k | k
  ·exact hJ1 (hg.tags t c (hT0 t c hc (by simp; omega)) hm)
  ·exact hJ2 k hc
 refine ⟨v, p, μ1 ++ ν, κ1.join κ n, rfl, ⟨μ1, hRp, rfl⟩, ⟨fun t t' b h1 h2 => ?_, fun t b h1 => ?_, fun t c hc => ?_, fun t o ho => ?_, fun b hb => ?_, fun t b hb hx => ?_⟩, ?_, ⟨hg.os, hg.tape, hg.output, hg.size, rfl, fun b hb ht => ?_, fun b hb ht hk => ?_, hg.shape, hT2⟩⟩
 ·rcases hJ h1 with ⟨a1, a2⟩ | ⟨a1, a2⟩ <;> rcases hJ h2 with ⟨b1, b2⟩ | ⟨b1, b2⟩
  ·exact hS'.inj t t' b a2 b2
  ·exact absurd (show κ1.ex b by rw [hex]; exact .inr ⟨t', b1, b2⟩) (hS'.jEJ t b a2)
  ·exact absurd (show κ1.ex b by rw [hex]; exact .inr ⟨t, a1, a2⟩) (hS'.jEJ t' b b2)
  ·exact hS.inj t t' b a2 b2
 ·rcases hJ h1 with ⟨a1, a2⟩ | ⟨a1, a2⟩
  ·exact hS'.lt t b a2
  ·exact Nat.lt_of_lt_of_le (hS.lt t b a2) hg.size
 ·rcases hJ hc with ⟨a1, a2⟩ | ⟨a1, a2⟩
  ·obtain ⟨o, h1, h2⟩ := hS'.live t c a2
   refine ⟨o, by rw [List.getElem?_append_left (by omega)]; exact h1, ?_⟩
   exact h2.re0 hA1 (fun _ _ h _ => hJ1 h) (fun _ _ h => h) (fun _ _ => rfl)
  ·obtain ⟨o, h1, h2⟩ := hS.live t c a2
   rw [hge hn a1] at h1
   refine ⟨o, by rw [hge hl1 a1]; exact h1, ?_⟩
   rw [<- kRS h1]
   refine h2.re hA2 hT2 hg.shape (fun b hb => ?_)
   subst hb
   refine hg.block b (hS.lt t b a2) ?_
   rintro ⟨t', h'⟩
   have := hS.inj t t' b a2 (hH h').2; have := (hH h').1; omega
 ·rcases Nat.lt_or_ge t n with k | k
  ·rw [List.getElem?_append_left (by omega)] at ho
   simp only [Kap.join, if_pos k]
   exact hS'.dead t o ho
  ·rw [hge hl1 k] at ho
   simp only [Kap.join, if_neg (by omega : ¬ t < n)]
   exact hS.dead t o (by rw [hge hn k]; exact ho)
 ·exact Nat.lt_of_lt_of_le (hS.jN3 b hb) hg.size
 ·rcases hJ hb with ⟨a1, a2⟩ | ⟨a1, a2⟩
  ·exact hS'.jEJ t b a2 (by rw [hex]; exact .inl hx)
  ·exact hS.jEJ t b a2 hx
 ·exact hv.re0 hA1 (fun _ _ h _ => hJ1 h) (fun _ _ h => h)
 ·refine hg.block b hb ?_
  rintro ⟨t, h⟩
  exact ht ⟨t, (hH h).2⟩
 ·obtain ⟨t, hk⟩ := hk
  rcases hJ hk with ⟨a1, a2⟩ | ⟨a1, a2⟩
  ·refine hg.out b hb ?_ ⟨t, a2⟩
   rintro ⟨t', h⟩
   exact ht ⟨t', (hH h).2⟩
  ·exact ht ⟨t, a2⟩
end
theorem SA : type_of% (And.intro SS (And.intro SS2 (And.intro SS3 (And.intro SS4 (And.intro SS5 (And.intro (@Option.map_some.{0, 0}) (And.intro (@eq_self.{1}) (And.intro (@implies_true.{0}) (And.intro (@ne_eq.{1}) (And.intro (@beq_self_eq_true.{0}) (@id_eq.{1}))))))))))) :=
 (And.intro SS (And.intro SS2 (And.intro SS3 (And.intro SS4 (And.intro SS5 (And.intro (@Option.map_some.{0, 0}) (And.intro (@eq_self.{1}) (And.intro (@implies_true.{0}) (And.intro (@ne_eq.{1}) (And.intro (@beq_self_eq_true.{0}) (@id_eq.{1})))))))))))
theorem DD : type_of% (And.intro (@decide_eq_true_eq) (@decide_eq_false_iff_not)) := And.intro (@decide_eq_true_eq) (@decide_eq_false_iff_not)
theorem LL : type_of% (And.intro (@List.length_cons.{0}) (And.intro (@List.length_nil.{0}) (And.intro (@List.length_append.{0}) (And.intro (@List.length_map.{0, 0}) Sh.size.eq_1)))) := And.intro (@List.length_cons.{0}) (And.intro (@List.length_nil.{0}) (And.intro (@List.length_append.{0}) (And.intro (@List.length_map.{0, 0}) Sh.size.eq_1)))
def oM (d t : Nat) : CO := ⟨some d, none, .rd .mov [.tmp t]⟩
def oN (d t : Nat) : CO := ⟨some d, none, .rd .jG5 [.tmp t]⟩
def oF (o d t : Nat) : CO := ⟨some d, none, .rd (.jDW o) [.tmp t]⟩
def oL (d t : Nat) : CO := ⟨some d, none, .rd (.load none) [.tmp t]⟩
def qM (r : Nat) (b : Bool) (d t : Nat) : CO := ⟨some d, some (r, b), .rd .mov [.tmp t]⟩
def qN (r : Nat) (b : Bool) (d t : Nat) : CO := ⟨some d, some (r, b), .rd .jG5 [.tmp t]⟩
def qF (o r : Nat) (b : Bool) (d t : Nat) : CO := ⟨some d, some (r, b), .rd (.jDW o) [.tmp t]⟩
def qL (r : Nat) (b : Bool) (d t : Nat) : CO := ⟨some d, some (r, b), .rd (.load none) [.tmp t]⟩
def oR (d : Nat) (k : RK) (l : List Opd) : CO := ⟨some d, none, .rd k l⟩
def oT (d : Nat) (k : RK) (t : Nat) : CO := ⟨some d, none, .rd k [.tmp t]⟩
def oB (d : Nat) (k : RK) (s t : Nat) : CO := ⟨some d, none, .rd k [.tmp s, .tmp t]⟩
def qR (r : Nat) (b : Bool) (d : Nat) (k : RK) (l : List Opd) : CO := ⟨some d, some (r, b), .rd k l⟩
def oC (d f : Nat) (l : List Opd) : CO := ⟨some d, none, .call (.pv (.fn f [] [])) l⟩
def oE (d : Nat) (k : EK) (l : List Opd) : CO := ⟨some d, none, .eff k l⟩
def oS (k : EK) (l : List Opd) : CO := ⟨none, none, .eff k l⟩
theorem CC : type_of% (And.intro @oM.eq_1 (And.intro @oN.eq_1 (And.intro @oF.eq_1 (And.intro @oL.eq_1 (And.intro @qM.eq_1 (And.intro @qN.eq_1 (And.intro @qF.eq_1 (And.intro @qL.eq_1 (And.intro @oR.eq_1 (And.intro @oT.eq_1 (And.intro @oB.eq_1 (And.intro @qR.eq_1 (And.intro @oC.eq_1 (And.intro @oE.eq_1 @oS.eq_1)))))))))))))) := And.intro @oM.eq_1 (And.intro @oN.eq_1 (And.intro @oF.eq_1 (And.intro @oL.eq_1 (And.intro @qM.eq_1 (And.intro @qN.eq_1 (And.intro @qF.eq_1 (And.intro @qL.eq_1 (And.intro @oR.eq_1 (And.intro @oT.eq_1 (And.intro @oB.eq_1 (And.intro @qR.eq_1 (And.intro @oC.eq_1 (And.intro @oE.eq_1 @oS.eq_1)))))))))))))
structure jMX (p : Prop) : Type where
 it : True
theorem ari {p : Prop} [Inhabited (jMX p)] (h : p) : p := h
instance {a b : Nat} : Inhabited (jMX (a <= b)) := ⟨⟨trivial⟩⟩
instance {a b : Nat} : Inhabited (jMX (a < b)) := ⟨⟨trivial⟩⟩
instance {a b : Int} : Inhabited (jMX (a <= b)) := ⟨⟨trivial⟩⟩
instance {a b : Int} : Inhabited (jMX (a < b)) := ⟨⟨trivial⟩⟩
instance {a b : Nat} : Inhabited (jMX (a = b)) := ⟨⟨trivial⟩⟩
instance {a b : Int} : Inhabited (jMX (a = b)) := ⟨⟨trivial⟩⟩
instance {a b : Bool} : Inhabited (jMX (a = b)) := ⟨⟨trivial⟩⟩
instance {p q : Prop} : Inhabited (jMX (p ∨ q)) := ⟨⟨trivial⟩⟩
instance {p : Prop} : Inhabited (jMX (¬ p)) := ⟨⟨trivial⟩⟩
structure jJY (p : Prop) : Type where
 it : True
theorem stp {p q : Prop} [h : CoeFun (jJY p) fun _ => q -> p] (x : q) : p := h.coe ⟨trivial⟩ x
structure jMW (p : Prop) : Type where
 it : True
theorem stq {p q : Prop} [h : CoeFun (jMW p) fun _ => q -> p] (x : q) : p := h.coe ⟨trivial⟩ x
section
variable {P : Program} {G : jA3} {N : Nat} {mv : Nat -> Bool} {env : Env} {μ : Mem} {Q : Post} {K : Env -> Mem -> Prop}
instance : CoeFun (jJY (PW P G N mv .skip env μ Q)) fun _ => (Q .normal env μ) -> (PW P G N mv .skip env μ Q) := ⟨fun _ => PW.skip⟩
instance : CoeFun (jJY (PW P G N mv .ret env μ Q)) fun _ => (Q .ret env μ) -> (PW P G N mv .ret env μ Q) := ⟨fun _ => PW.ret⟩
instance {i : Nat} : CoeFun (jJY (PW P G N mv (.exit i) env μ Q)) fun _ => (Q (.exit i) env μ) -> (PW P G N mv (.exit i) env μ Q) := ⟨fun _ => PW.exit⟩
instance {i : Nat} {x : jB1} : CoeFun (jJY (PW P G N mv (.block i x) env μ Q)) fun _ => (PW P G N mv x env μ (jJT i Q)) -> (PW P G N mv (.block i x) env μ Q) := ⟨fun _ => PW.block⟩
instance {x : jB1} : CoeFun (jJY (PW P G N mv (.scope x) env μ Q)) fun _ => (PW P G N mv x env μ (jQK Q)) -> (PW P G N mv (.scope x) env μ Q) := ⟨fun _ => PW.scope⟩
instance : CoeFun (jJY (PW P G N mv .label env μ Q)) fun _ => (Q .normal env μ) -> (PW P G N mv .label env μ Q) := ⟨fun _ => PW.label⟩
instance {s : jFW} {L : List Nat} : CoeFun (jJY (PW P G N mv (.jB6 s L) env μ Q)) fun _ => (jCD P G mv s env μ fun env' μ' => Q .normal (jE9 L env') μ') -> (PW P G N mv (.jB6 s L) env μ Q) := ⟨fun _ => PW.jB6⟩
instance {cs : List CO} {L : List Nat} : CoeFun (jMW (PW P G N mv (.region false cs L) env μ Q)) fun _ => (jDG P G false mv cs env μ fun env' μ' => Q .normal (jE9 L env') μ') -> (PW P G N mv (.region false cs L) env μ Q) := ⟨fun _ => PW.region⟩
instance {cs : List CO} {L : List Nat} : CoeFun (jMW (PW P G N mv (.region true cs L) env μ Q)) fun _ => (jDG P G true mv cs env μ fun env' μ' => Q .normal (jE9 L env') μ') -> (PW P G N mv (.region true cs L) env μ Q) := ⟨fun _ => PW.kH8⟩
instance : CoeFun (jMW (jCD P G mv .done env μ K)) fun _ => (K env μ) -> (jCD P G mv .done env μ K) := ⟨fun _ => jOP⟩
instance {a b : List PV} : CoeFun (jMW (a = b)) fun _ => (a = b) -> (a = b) := ⟨fun _ => id⟩
instance {a b : Bool} : CoeFun (jMW (a = b)) fun _ => (a = b) -> (a = b) := ⟨fun _ => id⟩
instance {q : Bool} {cs : List CO} : CoeFun (jMW (jDG P G q mv cs env μ K)) fun _ => (jDG P G q mv cs env μ K) -> (jDG P G q mv cs env μ K) := ⟨fun _ => id⟩
instance {as : List PV} : CoeFun (jMW (jCQ as)) fun _ => (jCQ as) -> (jCQ as) := ⟨fun _ => id⟩
instance {a b : Bool} {p : Prop} : CoeFun (jMW (a = b ∨ p)) fun _ => (a = b ∨ p) -> (a = b ∨ p) := ⟨fun _ => id⟩
theorem jFB {d : Option Nat} {rest : List CO} {b want : Bool} {f : Nat} {ps qs as as' : List PV} {res : PV} (hE : Ent P f) (hV : jAB P G f as' res) (ha : Gd b want ((ps ++ as.map (PV.under true) ++ qs).map (PV.view μ) = as')) (hok : Gd b want (jCQ as))
  (hs : Gd b want (((ps ++ as.map (PV.under true) ++ qs).map (PV.seen μ)).all id = true)) (hn : Gd b want (((ps ++ as.map (PV.under true) ++ qs).map PV.jA5).all id = true)) (h : jDG P G false mv rest (jGR env d (.cond (b == want) res)) μ K) : jEG P G false mv d rest env K μ b want (.fn f ps qs) as :=
 kCJ hE hok (fun e => by rw [ha e]; exact hV) hs hn rfl h
end
theorem TT : type_of% (And.intro @jBE.eq_1 (And.intro @jAZ.eq_1 (And.intro (@List.take_succ_cons.{0}) (And.intro (@List.take_zero.{0}) (And.intro (@List.take_nil.{0}) (And.intro (@List.map_cons.{0, 0}) (And.intro (@List.map_nil.{0, 0}) (And.intro (@Option.map_some.{0, 0}) (And.intro (@Option.map_none.{0, 0}) (And.intro @decide_true (And.intro @decide_false (And.intro @jKA (And.intro @jIH (And.intro @Bool.false_eq_true (And.intro (@if_false.{1}) (And.intro (@if_true.{1}) (And.intro (@List.zip_cons_cons.{0, 0}) (@List.zip_nil_left.{0, 0})))))))))))))))))) :=
 And.intro @jBE.eq_1 (And.intro @jAZ.eq_1 (And.intro (@List.take_succ_cons.{0}) (And.intro (@List.take_zero.{0}) (And.intro (@List.take_nil.{0}) (And.intro (@List.map_cons.{0, 0}) (And.intro (@List.map_nil.{0, 0}) (And.intro (@Option.map_some.{0, 0}) (And.intro (@Option.map_none.{0, 0}) (And.intro @decide_true (And.intro @decide_false (And.intro @jKA (And.intro @jIH (And.intro @Bool.false_eq_true (And.intro (@if_false.{1}) (And.intro (@if_true.{1}) (And.intro (@List.zip_cons_cons.{0, 0}) (@List.zip_nil_left.{0, 0})))))))))))))))))
structure KEq {α : Type} (a b : α) : Type where
 eq : a = b
structure kKP {α : Type} (a : α) : Type where
 it : True
theorem clo {p : Prop} [h : Inhabited (PLift p)] : p := h.default.down
section
variable {P : Program} {G : jA3} {N : Nat} {mv : Nat -> Bool} {env : Env} {μ : Mem} {Q : Post} {K : Env -> Mem -> Prop}
theorem sqI {x y : jB1} (h : ∀ K : Post, CoeFun (kKP K) (fun _ => KEq K (kD0 P G N mv y Q)) -> PW P G N mv x env μ K) : PW P G N mv (.seq x y) env μ Q := PW.seq (h _ ⟨fun _ => ⟨rfl⟩⟩)
theorem saI {l : List CO} {s more : jFW} (h1 : ∀ K' : Env -> Mem -> Prop, CoeFun (kKP K') (fun _ => KEq K' (fun e m => jCD P G mv s e m K)) -> jDG P G false mv l env μ K') (h2 : jCD P G mv more env μ K) : jCD P G mv (.alt l s more) env μ K := ⟨h1 _ ⟨fun _ => ⟨rfl⟩⟩, h2⟩
theorem cnd {c : Opd} {x y : jB1} {b : Bool} (hb : jAM G env c = .bool b) (ht : b = true -> PW P G N mv x env μ Q) (hf : b = false -> PW P G N mv y env μ Q) : PW P G N mv (.cond c x y) env μ Q := PW.cond hb ht hf
instance {K : Post} {y : jB1} [h : CoeFun (kKP K) fun _ => KEq K (kD0 P G N mv y Q)] : CoeFun (jJY (K .normal env μ)) fun _ => PW P G N mv y env μ Q -> K .normal env μ := ⟨fun _ x => by rw [(h.coe ⟨trivial⟩).eq]; exact x⟩
instance {K : Post} {y : jB1} [h : CoeFun (kKP K) fun _ => KEq K (kD0 P G N mv y Q)] : CoeFun (jJY (K .ret env μ)) fun _ => Q .ret env μ -> K .ret env μ := ⟨fun _ x => by rw [(h.coe ⟨trivial⟩).eq]; exact x⟩
instance {K : Post} {y : jB1} {i : Nat} [h : CoeFun (kKP K) fun _ => KEq K (kD0 P G N mv y Q)] : CoeFun (jJY (K (.exit i) env μ)) fun _ => Q (.exit i) env μ -> K (.exit i) env μ := ⟨fun _ x => by rw [(h.coe ⟨trivial⟩).eq]; exact x⟩
instance {K' : Env -> Mem -> Prop} {s : jFW} [h : CoeFun (kKP K') fun _ => KEq K' (fun e m => jCD P G mv s e m K)] : CoeFun (jJY (K' env μ)) fun _ => jCD P G mv s env μ K -> K' env μ := ⟨fun _ x => by rw [(h.coe ⟨trivial⟩).eq]; exact x⟩
instance {Q : Post} {e : Exit} : CoeFun (jMW (Q e env μ)) fun _ => Q e env μ -> Q e env μ := ⟨fun _ => id⟩
instance : Inhabited (PLift (jCD P G mv .stop env μ K)) := ⟨⟨trivial⟩⟩
end
instance : Inhabited (PLift True) := ⟨⟨trivial⟩⟩
instance {α : Type} {p : Prop} {a : α} {n : Nat} : Inhabited (PLift (p ∨ a = a ∧ n <= n)) := ⟨⟨Or.inr ⟨rfl, Nat.le_refl _⟩⟩⟩
instance {p : Prop} {s n : Nat} : Inhabited (PLift (p ∨ ((some s : Option Nat).isSome = true ∧ n <= n))) := ⟨⟨Or.inr ⟨rfl, Nat.le_refl _⟩⟩⟩
instance {p : Prop} : Inhabited (PLift (true = false -> p)) := ⟨⟨fun h => Bool.noConfusion h⟩⟩
instance {p : Prop} : Inhabited (PLift (false = true -> p)) := ⟨⟨fun h => Bool.noConfusion h⟩⟩
instance {p : Prop} : Inhabited (PLift (p ∨ True)) := ⟨⟨Or.inr trivial⟩⟩
end PG
