import Derived.Tactics
import Derived.Deep.Quiet
import Derived.Deep.LoopGhost
import Derived.OrdersHeld
import Derived.Scope
import Derived.ProofKit
import Derived.Test.YthjkmhfiffojeaaGreatDoorP2
namespace PG
open Go
set_option linter.unusedSimpArgs false
set_option linter.unusedVariables false
inductive POp where
 | rd (k : RK) (args : List Opd)
 | eff (k : EK) (args : List Opd)
 | call (f : Opd) (args : List Opd)
 deriving Inhabited
structure CO where
 dst : Option Nat
 guard : Option (Nat × Bool)
 op : POp
 deriving Inhabited
def jEU (ops : Array Oper) (o : Oper) : Option (Option (Nat × Bool)) :=
  match o.guard with
  | none => some none
  | some (j, want) => ((ops[j]?).bind (·.dst)).map fun r => some (r, want)
def jET (P : Program) (ow : List Nat) (o : Oper) : Option POp :=
  match jFV P o.op with
  | some (k, xs) => (xs.mapM jBG).map (.rd k)
  | none => match jKB P ow o with
    | some (k, xs) => (xs.mapM jBG).map (.eff k)
    | none => match o.op with
      | .call c => match c.callee with
        | .value f => (jBG f).bind fun f' => (c.args.toList.mapM jBG).map (.call f')
        | _ => none
      | _ => none
def jBF (P : Program) (N : Nat) (ow : List Nat) (ops : Array Oper) (o : Oper) : Option CO :=
  if (o.dst.map fun d => decide (d < N)).getD true = true then
    (jEU ops o).bind fun g => (jET P ow o).map fun op => ⟨o.dst, g, op⟩
  else none
def Ent (P : Program) (f : Nat) : Prop := ∃ fn, P.funcs[f]? = some fn ∧ (fn.name == "runtime.NumGoroutine") = false ∧ fn.body.isNone = false
def jPW (P : Program) (G : jA3) (f : Nat) (as : List PV) (μ : Mem) (res : PV) : Prop :=
  Ent P f ∧ ∃ n, jAB P G f (as.map (PV.lend n μ)) res ∧ (as.map (PV.jBU n μ)).all id = true ∧ (res.flat = true ∨ n = 0 ∧ (as.map PV.jA5).all id = true)
def kPM (P : Program) (G : jA3) (q : Bool) (f : Nat) (as : List PV) (μ : Mem) (K : PV -> Option Nat -> Mem -> Prop) : Prop :=
  (∃ res, jPW P G f as μ res ∧ (q = true -> res.flat = true) ∧ K res none μ) ∨
  (q = false ∧ Ent P f ∧ ((∃ R, jA2 P G f as μ (fun _ => false) R ∧ ∀ p μ', R p μ' -> K p none μ') ∨ (∃ t R, jA2 P G f as μ (jAR t) R ∧ ∀ p μ', R p μ' -> K p (some t) μ')))
def jGR (env : Env) (d : Option Nat) (p : PV) : Env :=
 match d with
 | some d => (d, p) :: env
 | none => env
def jI5 (env : Env) (t : Option Nat) : Env :=
 match t with
 | some t => env.map fun x => (x.1, x.2.kill (jAR t))
 | none => env
def jCQ : List PV -> Prop
 | [] => True
 | p :: ps => p.jBM true ∧ jCQ ps
def jMC (P : Program) (G : jA3) (q : Bool) (f : PV) (args : List PV) (μ : Mem) (K : PV -> Option Nat -> Mem -> Prop) : Prop :=
  match f with
  | .fn f first caps => kPM P G q f (first ++ args ++ caps) μ K
  | _ => False
def jMB (P : Program) (G : jA3) (f : PV) (args : List PV) (μ : Mem) (res : PV) : Prop :=
  match f with
  | .fn f first caps => jPW P G f (first ++ args ++ caps) μ res
  | _ => False
def jFH (mv : Nat -> Bool) : Option Nat -> Prop
 | none => True
 | some t => mv t = true
def jMP : RK -> List PV -> List PV
 | .pick, [c, x, y] => [c.under true, x, y]
 | _, ps => ps.map (PV.under true)
def gOk : RK -> List PV -> Prop
 | .pick, [c, _, _] => c.jBM true
 | _, ps => jCQ ps
def stepG (P : Program) (G : jA3) (q : Bool) (mv : Nat -> Bool) (o : CO) (b want : Bool) (env : Env) (μ : Mem) (K : Env -> Mem -> Prop) : Prop :=
 match o.op with
 | .rd k args => (b = want -> gOk k (args.map (jAM G env)) ∧ rdD μ k (jMP k (args.map (jAM G env)))) ∧ K (jGR env o.dst (.cond (b == want) (rdV μ k (jMP k (args.map (jAM G env)))))) μ
 | .eff k args => q = false ∧ (b = want -> jCQ (args.map (jAM G env)) ∧ jCG μ k ((args.map (jAM G env)).map (PV.under true)) fun p dead μ' => jFH mv dead ∧ K (jGR (jI5 env dead) o.dst p) μ') ∧ (b ≠ want -> K (jGR env o.dst .junk) μ)
 | .call f args => ∃ res, (b = want -> (jAM G env f).jBM true ∧ jCQ (args.map (jAM G env)) ∧ jMB P G ((jAM G env f).under true) ((args.map (jAM G env)).map (PV.under true)) μ res ∧ (q = true -> res.flat = true)) ∧
   K (jGR env o.dst (.cond (b == want) res)) μ
def kL4 (want : Bool) : PV -> Option Bool
 | .bool b => some b
 | .cond false _ => some (!want)
 | .cond true (.bool b) => some b
 | _ => none
def stepW (P : Program) (G : jA3) (q : Bool) (mv : Nat -> Bool) (o : CO) (env : Env) (μ : Mem) (K : Env -> Mem -> Prop) : Prop :=
 match o.guard with
 | none => match o.op with
   | .rd k args => rdD μ k (args.map (jAM G env)) ∧ K (jGR env o.dst (rdV μ k (args.map (jAM G env)))) μ
   | .eff k args => q = false ∧ jCG μ k (args.map (jAM G env)) fun p dead μ' => jFH mv dead ∧ K (jGR (jI5 env dead) o.dst p) μ'
   | .call f args => jMC P G q (jAM G env f) (args.map (jAM G env)) μ fun p dead μ' => jFH mv dead ∧ K (jGR (jI5 env dead) o.dst p) μ'
 | some (r, want) => match kL4 want (env.get r) with
   | some b => stepG P G q mv o b want env μ K
   | none => False
def jDG (P : Program) (G : jA3) (q : Bool) (mv : Nat -> Bool) : List CO -> Env -> Mem -> (Env -> Mem -> Prop) -> Prop
 | [], env, μ, K => K env μ
 | o :: rest, env, μ, K => stepW P G q mv o env μ fun env' μ' => jDG P G q mv rest env' μ' K
structure Ctx where
 w0 : World
 κ0 : Kap
 mv : Nat -> Bool
structure SR (G : jA3) (N : Nat) (C : Ctx) (a : Act) (w : World) (κ : Kap) (env : Env) (μ : Mem) : Prop where
 size : a.tmps.size = N
 defers : a.defers = []
 regs : jZD w (own κ) κ a env
 sim : Sim w κ μ
 globs : jDF w (own κ) G
 goes : Goes C.w0 C.κ0 w κ (fun t => C.mv t = true)
section
variable {P : Program} {G : jA3} {N : Nat} {C : Ctx} {a : Act} {w : World} {κ : Kap} {env : Env} {μ : Mem}
theorem jVB (a : Act) (d : Option Nat) (v : Value) : (a.put d v).tmps.size = a.tmps.size := by cases d <;> simp [Act.put]
theorem put_defers (a : Act) (d : Option Nat) (v : Value) : (a.put d v).defers = a.defers := by cases d <;> rfl
theorem jO1 {ex : Nat -> Prop} (h : jZD w ex κ a env) {v : Value} {p : PV} (hv : Rep w ex κ v p) {d : Option Nat} (hd : ∀ i, d = some i -> i < a.tmps.size) : jZD w ex κ (a.put d v) (jGR env d p) := by
 intro t
 cases d with
 | none => exact h t
 | some d =>
  simp only [Act.put, jGR, Env.get]
  have hd' := hd d rfl
  by_cases e : d = t
  ·subst e
   simp [Array.getD_eq_getD_getElem?, hd', hv]
  ·rw [if_neg e, Array.getD_eq_getD_getElem?, Array.getElem?_setIfInBounds, if_neg e, <- Array.getD_eq_getD_getElem?]
   exact h t
theorem kBF {w' : World} {κ' : Kap} {t : Nat} (h : jZD w (own κ) κ a env) (hG : Goes w κ w' κ' fun i => some t = some i) : jZD w' (own κ') κ' a (jI5 env (some t)) := by
 intro i
 have : ∀ (env : Env) (v : Value), Rep w (own κ) κ v (env.get i) -> Rep w' (own κ') κ' v (Env.get (jI5 env (some t)) i) := by
  intro env v
  induction env with
  | nil => intro _; exact .junk v
  | cons x e ih =>
   obtain ⟨j, p⟩ := x
   simp only [Env.get, jI5, List.map_cons]
   split
   ·intro h; exact h.goes hG (fun k hk => by simp at hk; subst hk; simp [jAR])
   ·exact ih
 exact this env _ (h i)
theorem jIY {w' : World} {κ' : Kap} (h : jZD w (own κ) κ a env) (hG : Goes w κ w' κ' fun _ => False) : jZD w' (own κ') κ' a env := fun i => (h i).still hG
theorem jBV {w' : World} {κ' : Kap} {m : Nat -> Prop} (h : jDF w (own κ) G) (hG : Goes w κ w' κ' m) : jDF w' (own κ') G := fun g sh x hg => (h g sh x hg).mono hG.agree
theorem jBN {ex : List Operand} {xs' : List Opd} (hR : jZD w (own κ) κ a env) (hG : jDF w (own κ) G) (h : ex.mapM jBG = some xs') : Known w κ a.eval ex (xs'.map (jAM G env)) := by
 have hm := jH5 h
 have hl : ex.length = xs'.length := by simpa using congrArg List.length hm
 refine ⟨by simpa using hl, fun i x p hx hp => ?_⟩
 rw [List.getElem?_map] at hp
 cases hq : xs'[i]? with
 | none => simp [hq] at hp
 | some o' =>
  simp [hq] at hp; subst hp
  have h3 : (xs'.map some)[i]? = some (some o') := by simp [hq]
  rw [<- hm, List.getElem?_map, hx] at h3
  simp at h3
  exact jDS hR hG h3
theorem jDI {ρ : Operand -> Value} {ex : List Operand} {ps : List PV} (h : Known w κ ρ ex ps) (hok : jCQ ps) : Known w κ ρ ex (ps.map (PV.under true)) := by
 refine ⟨by simpa using h.1, fun i x p hx hp => ?_⟩
 rw [List.getElem?_map] at hp
 cases hq : ps[i]? with
 | none => simp [hq] at hp
 | some q =>
  simp [hq] at hp; subst hp
  have hqo : q.jBM true := by
   have : ∀ (ps : List PV), jCQ ps -> ∀ q ∈ ps, q.jBM true := by
    intro ps
    induction ps with
    | nil => intro _ q h; cases h
    | cons p ps ih => intro h q hq; rcases List.mem_cons.1 hq with e | e
                      ·rw [e]; exact h.1
                      ·exact ih h.2 q e
   exact this ps hok q (List.mem_of_getElem? hq)
  exact jED (h.2 i x q hx hq) hqo rfl
theorem jJN {ops : Array Oper} {o : Oper} {r : Nat} {want b : Bool} (hg : jEU ops o = some (some (r, want))) (hr : Rep w (own κ) κ (a.tmps.getD r undef) (.bool b)) :
  Region.wanted o (yielded ops a.tmps) = (b == want) := by
 unfold jEU at hg
 split at hg
 ·cases hg
 ·rename_i j want' ho
  simp only [Option.map_eq_some_iff] at hg
  obtain ⟨r', hr', hg⟩ := hg
  simp at hg
  obtain ⟨rfl, rfl⟩ := hg
  have hv := jCC hr
  have hlt : r' < a.tmps.size := by
   rcases Nat.lt_or_ge r' a.tmps.size with h | h
   ·exact h
   ·rw [Array.getD_eq_getD_getElem?, Array.getElem?_eq_none h] at hv; cases hv
  have hget : a.tmps[r']? = some (.bool b) := by
   rw [Array.getElem?_eq_getElem hlt]
   rw [Array.getD_eq_getD_getElem?, Array.getElem?_eq_getElem hlt] at hv
   simpa using hv
  have hy : yielded ops a.tmps j = some b := by
   unfold yielded
   rw [hr']; simp [hget]
  simp only [Region.wanted, ho, hy]
  cases b <;> cases want' <;> rfl
theorem jPB {ρ : Operand -> Value} {ex : List Operand} {ps : List PV} {k : RK} (h : Known w κ ρ ex ps) (hok : gOk k ps) : Known w κ ρ ex (jMP k ps) := by
 unfold gOk at hok
 unfold jMP
 split at hok
 ·rename_i c x y
  refine ⟨h.1, fun i e p he hp => ?_⟩
  match i, hp with
  | 0, hp =>
   simp at hp; subst hp
   exact jED (h.2 0 e c he rfl) hok rfl
  | 1, hp => exact h.2 1 e p he hp
  | 2, hp => exact h.2 2 e p he hp
 ·exact jDI h hok
theorem jOX {ex : Nat -> Prop} {v : Value} {p : PV} (h : Rep w ex κ v (.cond true p)) : Rep w ex κ v p := by
 cases h with
 | closed h => cases h
 | cond _ h _ => exact h rfl
theorem jML {ex : Nat -> Prop} {v : Value} {p : PV} (h : Rep w ex κ v (.cond false p)) : v = undef := by
 cases h with
 | closed h => cases h
 | cond _ _ h => exact h rfl
theorem jD5 {ops : Array Oper} {o : Oper} {r : Nat} {want b : Bool} {p : PV} (hg : jEU ops o = some (some (r, want))) (hr : Rep w (own κ) κ (a.tmps.getD r undef) p) (hb : kL4 want p = some b) :
  Region.wanted o (yielded ops a.tmps) = (b == want) := by
 unfold kL4 at hb
 split at hb
 ·cases hb; exact jJN hg hr
 ·simp only [Option.some.injEq] at hb; subst hb
  have hu : a.tmps.getD r undef = undef := jML hr
  unfold jEU at hg
  split at hg
  ·cases hg
  ·rename_i j want' ho
   simp only [Option.map_eq_some_iff] at hg
   obtain ⟨r', hr', hg⟩ := hg
   simp at hg
   obtain ⟨rfl, rfl⟩ := hg
   have hy : yielded ops a.tmps j = none := by
    unfold yielded
    rw [hr']
    simp only [Option.bind_some]
    rcases Nat.lt_or_ge r' a.tmps.size with h | h
    ·rw [Array.getD_eq_getD_getElem?, Array.getElem?_eq_getElem h] at hu
     simp only [Option.getD_some] at hu
     rw [Array.getElem?_eq_getElem h, hu]; rfl
    ·rw [Array.getElem?_eq_none h]
   simp only [Region.wanted, ho, hy]
   cases want' <;> rfl
 ·simp only [Option.some.injEq] at hb; subst hb
  exact jJN hg (jOX hr)
 ·cases hb
theorem jCB {ops : Array Oper} {o : Oper} (hg : jEU ops o = some none) : Region.wanted o (yielded ops a.tmps) = true := by
 unfold jEU at hg
 split at hg
 ·rename_i ho
  simp [Region.wanted, ho]
 ·simp only [Option.map_eq_some_iff] at hg
  obtain ⟨r', hr', hg⟩ := hg
  simp at hg
theorem SR.put (h : SR G N C a w κ env μ) {w' : World} {κ' : Kap} {μ' : Mem} {v : Value} {p : PV} {dead : Option Nat} {d : Option Nat} (hd : ∀ i, d = some i -> i < N) (hS : Sim w' κ' μ') (hG : Goes w κ w' κ' fun t => dead = some t) (hm : jFH C.mv dead)
  (hv : Rep w' (own κ') κ' v p) : SR G N C (a.put d v) w' κ' (jGR (jI5 env dead) d p) μ' := by
 have hd' : ∀ i, d = some i -> i < a.tmps.size := fun i hi => by rw [h.size]; exact hd i hi
 refine ⟨by rw [jVB]; exact h.size, by rw [put_defers]; exact h.defers, ?_, hS, jBV h.globs hG, ?_⟩
 ·cases dead with
  | none => exact jO1 (jIY h.regs (hG.weak fun t ht => by cases ht)) hv hd'
  | some t => exact jO1 (kBF h.regs hG) hv hd'
 ·have h1 := h.goes
  refine ⟨hG.os.trans h1.os, hG.tape.trans h1.tape, hG.output.trans h1.output, Nat.le_trans h1.size hG.size, hG.ex.trans h1.ex,
   fun b hb ho => (hG.block b (Nat.lt_of_lt_of_le hb h1.size) (h1.out b hb ho)).trans (h1.block b hb ho), fun b hb ho => hG.out b (Nat.lt_of_lt_of_le hb h1.size) (h1.out b hb ho),
   fun b s hs => hG.shape b s (h1.shape b s hs), fun t c hc hn => hG.tags t c (h1.tags t c hc hn) (fun hdd => ?_)⟩
  subst hdd
  exact hn hm
theorem jDD {ow : List Nat} {ops : Array Oper} {o : Oper} {c : CO} (h : jBF P N ow ops o = some c) : c.dst = o.dst ∧ (∀ i, o.dst = some i -> i < N) ∧ jEU ops o = some c.guard ∧ jET P ow o = some c.op := by
 unfold jBF at h
 split at h
 ·rename_i hd
  simp only [Option.bind_eq_some_iff, Option.map_eq_some_iff] at h
  obtain ⟨g, hg, op, hop, rfl⟩ := h
  refine ⟨rfl, fun i hi => ?_, hg, hop⟩
  rw [hi] at hd; simpa using hd
 ·cases h
theorem jCO {ow : List Nat} {o : Oper} {k : RK} {xs : List Opd} (h : jET P ow o = some (.rd k xs)) : ∃ ys, jFV P o.op = some (k, ys) ∧ ys.mapM jBG = some xs := by
 unfold jET at h
 split at h
 ·rename_i k' ys hy
  simp only [Option.map_eq_some_iff] at h
  obtain ⟨zs, hz, h⟩ := h
  cases h; exact ⟨ys, hy, hz⟩
 ·split at h
  ·simp only [Option.map_eq_some_iff] at h
   obtain ⟨zs, hz, h⟩ := h
   cases h
  ·split at h
   ·split at h
    ·simp only [Option.bind_eq_some_iff, Option.map_eq_some_iff] at h
     obtain ⟨f', hf, zs, hz, h⟩ := h
     cases h
    ·cases h
   ·cases h
theorem jES {ow : List Nat} {o : Oper} {k : EK} {xs : List Opd} (h : jET P ow o = some (.eff k xs)) : ∃ ys, jKB P ow o = some (k, ys) ∧ ys.mapM jBG = some xs := by
 unfold jET at h
 split at h
 ·simp only [Option.map_eq_some_iff] at h
  obtain ⟨zs, hz, h⟩ := h
  cases h
 ·split at h
  ·rename_i k' ys hy
   simp only [Option.map_eq_some_iff] at h
   obtain ⟨zs, hz, h⟩ := h
   cases h; exact ⟨ys, hy, hz⟩
  ·split at h
   ·split at h
    ·simp only [Option.bind_eq_some_iff, Option.map_eq_some_iff] at h
     obtain ⟨f', hf, zs, hz, h⟩ := h
     cases h
    ·cases h
   ·cases h
theorem jCV {ow : List Nat} {o : Oper} {f : Opd} {xs : List Opd} (h : jET P ow o = some (.call f xs)) :
  ∃ c f0, o.op = .call c ∧ c.callee = .value f0 ∧ jBG f0 = some f ∧ c.args.toList.mapM jBG = some xs := by
 unfold jET at h
 split at h
 ·simp only [Option.map_eq_some_iff] at h
  obtain ⟨zs, hz, h⟩ := h
  cases h
 ·split at h
  ·simp only [Option.map_eq_some_iff] at h
   obtain ⟨zs, hz, h⟩ := h
   cases h
  ·split at h
   ·rename_i c ho
    split at h
    ·rename_i f0 hf0
     simp only [Option.bind_eq_some_iff, Option.map_eq_some_iff] at h
     obtain ⟨f', hf, zs, hz, h⟩ := h
     cases h; exact ⟨c, f0, ho, hf0, hf, hz⟩
    ·cases h
   ·cases h
theorem kLH {v : Value} {f : Nat} {ps qs : List PV} (h : Rep w (own κ) κ v (.fn f ps qs)) :
  ∃ first caps, v = .func (.func f) first caps ∧ first.size = ps.length ∧ caps.size = qs.length ∧ (∀ (i : Nat) (v : Value) (p : PV), first[i]? = some v -> ps[i]? = some p -> Rep w (own κ) κ v p) ∧
   ∀ (i : Nat) (v : Value) (p : PV), caps[i]? = some v -> qs[i]? = some p -> Rep w (own κ) κ v p := by
 cases h with
 | fn _ first caps _ _ h1 h2 h3 h4 => exact ⟨first, caps, rfl, h1, h2, h3, h4⟩
 | closed h => cases h with | fn _ first caps _ _ h1 h2 h3 h4 => exact ⟨first, caps, rfl, h1, h2, fun i v p a b => .closed (h3 i v p a b), fun i v p a b => .closed (h4 i v p a b)⟩
theorem jKY {vs us : Array Value} {ps qs : List PV} (h1 : kHP w κ vs ps) (h2 : kHP w κ us qs) : kHP w κ (vs ++ us) (ps ++ qs) := by
 refine ⟨by simp [h1.1, h2.1], fun i v p hv hp => ?_⟩
 rcases Nat.lt_or_ge i vs.size with hi | hi
 ·rw [Array.getElem?_append_left hi] at hv
  rw [List.getElem?_append_left (by rw [<- h1.1]; exact hi)] at hp
  exact h1.2 i v p hv hp
 ·rw [Array.getElem?_append_right hi] at hv
  rw [List.getElem?_append_right (by rw [<- h1.1]; exact hi), <- h1.1] at hp
  exact h2.2 _ v p hv hp
theorem jEV {o : Oper} {c : Call} {f0 : Operand} (ho : o.op = .call c) (hf0 : c.callee = .value f0) {f : Nat} {ps qs as : List PV} (hf : Rep w (own κ) κ (a.eval f0) (.fn f ps qs))
  (hk : Known w κ a.eval c.args.toList as) (he : Ent P f) : ∃ vs, kHP w κ vs (ps ++ as ++ qs) ∧ ∀ w', (execOp a.eval o).run P w' = .ok (.enter f vs) w' := by
 obtain ⟨first, caps, hv, h1, h2, h3, h4⟩ := kLH hf
 obtain ⟨fn, hfn, hn1, hn2⟩ := he
 refine ⟨first ++ c.args.map a.eval ++ caps, ?_, fun w' => ?_⟩
 ·refine jKY (jKY ⟨h1, h3⟩ ⟨by simpa using hk.1, fun i v p hv hp => ?_⟩) ⟨h2, h4⟩
  rw [Array.getElem?_map] at hv
  cases hx : c.args[i]? with
  | none => simp [hx] at hv
  | some x => simp [hx] at hv; subst hv; exact hk.2 i x p (by simpa using hx) hp
 ·simp only [execOp, ho, resolve, hf0, hv, Deferred.ofValue, invoke, callFunc, Sem.run_bind, Sem.run_pure, run_program, Result.andThen_ok, hfn, hn1, hn2, Bool.false_eq_true, if_false]
theorem jTA {ex : Nat -> Prop} {v : Value} {p : PV} (h : jAW w ex v p) : p.seen μ = true -> jAW w ex v (p.view μ) := by
 have jA9 : ∀ (ps : List PV) (i : Nat) (p : PV), (ps.map (PV.view μ))[i]? = some p -> ∃ q, ps[i]? = some q ∧ p = q.view μ := by
  intro ps i p h
  rw [List.getElem?_map] at h
  cases hq : ps[i]? with
  | none => simp [hq] at h
  | some q => simp [hq] at h; exact ⟨q, rfl, h.symm⟩
 induction h with
 | fn f first caps ps qs h1 h2 h3 h4 ih3 ih4 =>
  intro hp
  simp only [PV.seen, Bool.and_eq_true, jB3] at hp
  simp only [PV.view]
  refine .fn f first caps _ _ (by simpa using h1) (by simpa using h2) (fun i v p a b => ?_) (fun i v p a b => ?_)
  ·obtain ⟨q, hq, rfl⟩ := jA9 ps i p b
   exact ih3 i v q a hq (hp.1 q (List.mem_of_getElem? hq))
  ·obtain ⟨q, hq, rfl⟩ := jA9 qs i p b
   exact ih4 i v q a hq (hp.2 q (List.mem_of_getElem? hq))
 | agg vs ps hs hr ih =>
  intro hp
  simp only [PV.seen, jB3] at hp
  simp only [PV.view]
  refine .agg vs _ (by simpa using hs) (fun i v p a b => ?_)
  obtain ⟨q, hq, rfl⟩ := jA9 ps i p b
  exact ih i v q a hq (hp q (List.mem_of_getElem? hq))
 | tup vs ps hs hr ih =>
  intro hp
  simp only [PV.seen, jB3] at hp
  simp only [PV.view]
  refine .tup vs _ (by simpa using hs) (fun i v p a b => ?_)
  obtain ⟨q, hq, rfl⟩ := jA9 ps i p b
  exact ih i v q a hq (hp q (List.mem_of_getElem? hq))
 | int k n => intro _; simp only [PV.view]; exact .int k n
 | bool b => intro _; simp only [PV.view]; exact .bool b
 | str s => intro _; simp only [PV.view]; exact .str s
 | nilFn => intro _; simp only [PV.view]; exact .nilFn
 | nilPtr => intro _; simp only [PV.view]; exact .nilPtr
 | jAH => intro _; simp only [PV.view]; exact .jAH
 | jA0 => intro _; simp only [PV.view]; exact .jA0
 | yl l => intro _; simp only [PV.view]; exact .yl l
 | list a len cap sh xs b off val h1 h2 h3 h4 h5 h6 h7 _ => intro _; simp only [PV.view]; exact jAW.list a len cap sh xs b off val h1 h2 h3 h4 h5 h6 h7
 | full a len sh xs b off val h1 h3 h4 h5 h6 h7 _ => intro _; simp only [PV.view]; exact jAW.full a len sh xs b off val h1 h3 h4 h5 h6 h7
 | jC9 r kd es ents clock h1 h2 h3 h4 h4' h5 h6 _ _ => intro _; simp only [PV.view]; exact jAW.jC9 r kd es ents clock h1 h2 h3 h4 h4' h5 h6
 | jC2 b o off sh x val h1 h2 h3 h4 _ => intro _; simp only [PV.view]; exact jAW.jC2 b o off sh x val h1 h2 h3 h4
theorem jDK (hS : Sim w κ μ) (hG : jDF w (own κ) G) {f : Nat} {as : List PV} {res : PV} (h : jPW P G f as μ res) {vs : Array Value} (hv : kHP w κ vs as) :
  Calls P f vs w fun e w' => ∃ v, e = .returned v ∧ RowKit.Below w.heap.size w w' ∧ jAW w' (own κ) v res := by
 obtain ⟨-, n, h2, h3, h4⟩ := h
 rw [jB3] at h3
 have hget : ∀ (i : Nat) (p : PV), (as.map (PV.lend n μ))[i]? = some p -> ∃ q, as[i]? = some q ∧ p = q.lend n μ := fun i p h => jFQ h
 rcases h4 with h4 | ⟨rfl, h4⟩
 ·refine (h2 w κ.ex vs hS.jN3 (fun g sh x hg => (hG g sh x hg).mono ⟨fun _ _ _ => rfl, fun b _ h h' => h (.inl h')⟩) ⟨by simpa using hv.1, fun i v p a b => ?_⟩).mono ?_
  ·obtain ⟨q, hq, rfl⟩ := hget i p b
   exact jU8 hS n (hv.2 i v q a hq) (h3 q (List.mem_of_getElem? hq))
  ·rintro e w' ⟨v, he, hB, hr⟩
   exact ⟨v, he, hB, jHW hr h4⟩
 ·rw [jB3] at h4
  refine (h2 w (own κ) vs (fun b hb => ?_) hG ⟨by simpa using hv.1, fun i v p a b => ?_⟩)
  ·rcases hb with hb | ⟨t, hb⟩
   ·exact hS.jN3 b hb
   ·exact hS.lt t b hb
  ·obtain ⟨q, hq, rfl⟩ := hget i p b
   have hm := List.mem_of_getElem? hq
   exact jTA (jDB (hv.2 i v q a hq) (h4 q hm)) (h3 q hm)
theorem jCM {ops : Array Oper} {Q : Exit -> Act -> World -> Prop} {rest : List Oper} {o : Oper} {v : Value} {w' : World} (hw : Region.wanted o (yielded ops a.tmps) = true)
  (hrun : (execOp a.eval o).run P w = .ok (.value v) w' ∨ ((execOp a.eval o).run P w = .ok .skip w' ∧ v = undef)) (h : wpList P ops Q rest (a.put o.dst v) w') : wpList P ops Q (o :: rest) a w := by
 simp only [wpList, hw, if_true]
 refine .inl ?_
 unfold Oper.wp
 rcases hrun with hrun | ⟨hrun, rfl⟩
 ·rw [hrun]; exact h
 ·rw [hrun]; exact h
theorem jCN {ops : Array Oper} {Q : Exit -> Act -> World -> Prop} {rest : List Oper} {o : Oper} {f : Nat} {vs : Array Value} (hw : Region.wanted o (yielded ops a.tmps) = true)
  (hrun : (execOp a.eval o).run P w = .ok (.enter f vs) w) (h : Calls P f vs w fun e w' => ∃ v, e = .returned v ∧ wpList P ops Q rest (a.put o.dst v) w') : wpList P ops Q (o :: rest) a w := by
 simp only [wpList, hw, if_true]
 refine .inl ?_
 unfold Oper.wp
 rw [hrun]
 exact h.mono fun e w' ⟨v, he, hp⟩ => by subst he; exact hp
theorem jIT {ops : Array Oper} {Q : Exit -> Act -> World -> Prop} {rest : List Oper} {o : Oper} (hw : Region.wanted o (yielded ops a.tmps) = false)
  (h : wpList P ops Q rest (a.put o.dst undef) w) : wpList P ops Q (o :: rest) a w := by
 simp only [wpList, hw, Bool.false_eq_true, if_false]
 exact h
theorem jGS {ow : List Nat} {ops : Array Oper} {Q : Exit -> Act -> World -> Prop} : ∀ {l : List Oper} {cs : List CO} {a : Act} {w : World} {κ : Kap} {env : Env} {μ : Mem} {K : Env -> Mem -> Prop}, l.mapM (jBF P N ow ops) = some cs ->
  jDG P G false C.mv cs env μ K -> SR G N C a w κ env μ -> (∀ env' μ' a' w' κ', K env' μ' -> SR G N C a' w' κ' env' μ' -> Q .normal a' w') -> wpList P ops Q l a w
 | [], cs, a, w, κ, env, μ, K, hm, h, hR, hK => by
  simp at hm; subst hm
  exact hK _ _ _ _ _ h hR
 | o :: l, cs, a, w, κ, env, μ, K, hm, h, hR, hK => by
  simp only [List.mapM_cons, Option.bind_eq_bind, Option.bind_eq_some_iff] at hm
  obtain ⟨c, hc, cs', hcs, hm⟩ := hm
  simp at hm; subst hm
  obtain ⟨hdst, hd, hg, hop⟩ := jDD hc
  have next : ∀ {env' : Env} {μ' : Mem} {a' : Act} {w' : World} {κ' : Kap}, jDG P G false C.mv cs' env' μ' K -> SR G N C a' w' κ' env' μ' -> wpList P ops Q l a' w' := fun h' hR' => jGS hcs h' hR' hK
  obtain ⟨cd, cg, cop⟩ := c
  simp only at hdst hg hop
  subst hdst
  simp only [jDG, stepW] at h
  cases cg with
  | none =>
   have hw := jCB (a := a) hg
   simp only at h
   cases cop with
   | rd k args =>
    simp only at h
    obtain ⟨h1, h2⟩ := h
    obtain ⟨ys, hcr, hys⟩ := jCO hop
    obtain ⟨v, hv, hrun⟩ := jGQ hR.sim hcr (jBN hR.regs hR.globs hys) h1
    refine jCM hw (.inl (hrun w (Same.refl w))) (next (κ' := κ) h2 ?_)
    exact hR.put (dead := none) hd hR.sim (Goes.refl _ _ _) trivial hv
   | eff k args =>
    simp only [true_and] at h
    obtain ⟨ys, hce, hys⟩ := jES hop
    obtain ⟨v, p, dead, μ', w', κ', hrun, ⟨hdk, hK'⟩, hS', hG', hv⟩ := jIE hR.sim hce (jBN hR.regs hR.globs hys) h
    exact jCM hw hrun (next hK' (hR.put hd hS' hG' hdk hv))
   | call f args =>
    simp only at h
    obtain ⟨cl, f0, ho, hf0, hf, hys⟩ := jCV hop
    have hfr := jDS hR.regs hR.globs hf
    have hkn := jBN hR.regs hR.globs hys
    unfold jMC at h
    split at h
    ·rename_i g first caps hfe
     rw [hfe] at hfr
     rcases h with ⟨res, hres, -, -, hK'⟩ | ⟨-, hent, h⟩
     ·obtain ⟨vs, hvs, hrun⟩ := jEV ho hf0 hfr hkn hres.1
      refine jCN hw (hrun w) ((jDK hR.sim hR.globs hres hvs).mono ?_)
      rintro e w' ⟨v, rfl, hB, hr⟩
      exact ⟨v, rfl, next hK' (hR.put (dead := none) hd (hR.sim.below hB) (Goes.below hB _) trivial (.closed (hr.mono ⟨fun _ _ _ => rfl, fun _ _ h => h⟩)))⟩
     ·obtain ⟨vs, hvs, hrun⟩ := jEV ho hf0 hfr hkn hent
      rcases h with ⟨R, hp, hRK⟩ | ⟨t, R, hp, hRK⟩
      ·refine jCN hw (hrun w) ((hp w κ vs hR.sim hR.globs hvs).mono ?_)
       rintro e w' ⟨v, p, μ', κ', rfl, hRp, hS', hv, hG'⟩
       exact ⟨v, rfl, next (hRK p μ' hRp).2 (hR.put (dead := none) hd hS' (hG'.weak fun t ht => by cases ht) trivial hv)⟩
      ·refine jCN hw (hrun w) ((hp w κ vs hR.sim hR.globs hvs).mono ?_)
       rintro e w' ⟨v, p, μ', κ', rfl, hRp, hS', hv, hG'⟩
       exact ⟨v, rfl, next (hRK p μ' hRp).2 (hR.put (dead := some t) hd hS' (hG'.weak fun i hi => by simp [jAR] at hi; rw [hi]) (hRK p μ' hRp).1 hv)⟩
    ·exact h.elim
  | some gw =>
   obtain ⟨r, want⟩ := gw
   simp only at h
   split at h
   ·rename_i b hb
    have hw := jD5 hg (hR.regs r) hb
    unfold stepG at h
    cases cop with
    | rd k args =>
     simp only at h
     obtain ⟨h1, h2⟩ := h
     obtain ⟨ys, hcr, hys⟩ := jCO hop
     by_cases hbw : b = want
     ·obtain ⟨h3, h4⟩ := h1 hbw
      obtain ⟨v, hv, hrun⟩ := jGQ hR.sim hcr (jPB (jBN hR.regs hR.globs hys) h3) h4
      refine jCM (by rw [hw, hbw]; simp) (.inl (hrun w (Same.refl w))) (next (κ' := κ) h2 ?_)
      exact hR.put (dead := none) hd hR.sim (Goes.refl _ _ _) trivial (.cond _ (fun _ => hv) (fun hh => by rw [hbw] at hh; simp at hh))
     ·refine jIT (by rw [hw]; simpa using hbw) (next (κ' := κ) h2 ?_)
      exact hR.put (dead := none) hd hR.sim (Goes.refl _ _ _) trivial (.cond _ (fun hh => absurd (by simpa using hh) hbw) (fun _ => rfl))
    | eff k args =>
     simp only [true_and] at h
     obtain ⟨h1, h2⟩ := h
     obtain ⟨ys, hce, hys⟩ := jES hop
     by_cases hbw : b = want
     ·obtain ⟨h3, h4⟩ := h1 hbw
      obtain ⟨v, p, dead, μ', w', κ', hrun, ⟨hdk, hK'⟩, hS', hG', hv⟩ := jIE hR.sim hce (jDI (jBN hR.regs hR.globs hys) h3) h4
      exact jCM (by rw [hw, hbw]; simp) hrun (next hK' (hR.put hd hS' hG' hdk hv))
     ·refine jIT (by rw [hw]; simpa using hbw) (next (κ' := κ) (h2 hbw) ?_)
      exact hR.put (dead := none) hd hR.sim (Goes.refl _ _ _) trivial (.junk _)
    | call f args =>
     simp only at h
     obtain ⟨res, h1, h2⟩ := h
     obtain ⟨cl, f0, ho, hf0, hf, hys⟩ := jCV hop
     by_cases hbw : b = want
     ·obtain ⟨h3, h4, h5, -⟩ := h1 hbw
      have hfr := jED (jDS hR.regs hR.globs hf) h3 rfl
      have hkn := jDI (jBN hR.regs hR.globs hys) h4
      unfold jMB at h5
      split at h5
      ·rename_i g first caps hfe
       rw [hfe] at hfr
       obtain ⟨vs, hvs, hrun⟩ := jEV ho hf0 hfr hkn h5.1
       refine jCN (by rw [hw, hbw]; simp) (hrun w) ((jDK hR.sim hR.globs h5 hvs).mono ?_)
       rintro e w' ⟨v, rfl, hB, hr⟩
       exact ⟨v, rfl, next h2 (hR.put (dead := none) hd (hR.sim.below hB) (Goes.below hB _) trivial (.cond _ (fun _ => .closed hr) (fun hh => by rw [hbw] at hh; simp at hh)))⟩
      ·exact h5.elim
     ·refine jIT (by rw [hw]; simpa using hbw) (next (κ' := κ) h2 ?_)
      exact hR.put (dead := none) hd hR.sim (Goes.refl _ _ _) trivial (.cond _ (fun hh => absurd (by simpa using hh) hbw) (fun _ => rfl))
   ·exact h.elim
end
section
variable {P : Program} {G : jA3} {N : Nat} {w : World} {κ : Kap} {env : Env} {μ : Mem}
theorem jU9 {o : Oper} {a : Act} {Cl : World -> Prop} {K : Act -> Prop} {v : Value} (hrun : ∀ w', Cl w' -> (execOp a.eval o).run P w' = .ok (.value v) w') (h : K (a.put o.dst v)) : o.quiet P a Cl K :=
 ⟨v, fun w' hw => by unfold Oper.quietAt; rw [hrun w' hw]; exact ⟨rfl, rfl⟩, h⟩
theorem jNC {o : Oper} {a : Act} {Cl : World -> Prop} {K : Act -> Prop} {f : Nat} {vs : Array Value} {v : Value} (hrun : ∀ w', Cl w' -> (execOp a.eval o).run P w' = .ok (.enter f vs) w')
  (hc : ∀ w', Cl w' -> Calls P f vs w' fun e w'' => e = .returned v ∧ Cl w'') (h : K (a.put o.dst v)) : o.quiet P a Cl K :=
 ⟨v, fun w' hw => by unfold Oper.quietAt; rw [hrun w' hw]; exact ⟨rfl, hc w' hw⟩, h⟩
theorem jIJ (hS : Sim w κ μ) (hG : jDF w (own κ) G) {f : Nat} {as : List PV} {res : PV} (h : jPW P G f as μ res) (hfl : res.flat = true) {vs : Array Value} (hv : kHP w κ vs as) :
  ∃ v, Rep w (own κ) κ v res ∧ ∀ w', RowKit.Below w.heap.size w w' -> Calls P f vs w' fun e w'' => e = .returned v ∧ RowKit.Below w.heap.size w w'' := by
 obtain ⟨e0, w0, fr, ⟨v0, -, -, hr0⟩, -⟩ := jDK hS hG h hv []
 refine ⟨v0, .closed (jHW hr0 hfl), fun w' hB => ?_⟩
 have hG' : Goes w κ w' κ (fun _ => False) := Goes.below hB _
 refine (jDK (hS.below hB) (jBV hG hG') h (vs := vs) ⟨hv.1, fun i v p a b => (hv.2 i v p a b).still hG'⟩).mono ?_
 rintro e w'' ⟨v, rfl, hB', hr⟩
 rw [jQU hr0 hfl hr]
 exact ⟨rfl, hB.trans (hB'.mono hB.size)⟩
theorem jNK {ow : List Nat} {ops : Array Oper} {mv : Nat -> Bool} {Q : Act -> Prop} (hS : Sim w κ μ) (hGl : jDF w (own κ) G) : ∀ {l : List Oper} {cs : List CO} {a : Act} {env : Env} {K : Env -> Mem -> Prop}, l.mapM (jBF P N ow ops) = some cs ->
  jDG P G true mv cs env μ K -> a.tmps.size = N -> a.defers = [] -> jZD w (own κ) κ a env -> (∀ env' a', K env' μ -> a'.tmps.size = N -> a'.defers = [] -> jZD w (own κ) κ a' env' -> Q a') ->
  wpQuiet P ops (fun w' => RowKit.Below w.heap.size w w') Q l a
 | [], cs, a, env, K, hm, h, hN, hD, hR, hK => by
  simp at hm; subst hm
  exact hK _ _ h hN hD hR
 | o :: l, cs, a, env, K, hm, h, hN, hD, hR, hK => by
  simp only [List.mapM_cons, Option.bind_eq_bind, Option.bind_eq_some_iff] at hm
  obtain ⟨c, hc, cs', hcs, hm⟩ := hm
  simp at hm; subst hm
  obtain ⟨hdst, hd, hg, hop⟩ := jDD hc
  have next : ∀ {env' : Env} {v : Value} {p : PV}, jDG P G true mv cs' (jGR env o.dst p) μ K -> Rep w (own κ) κ v p -> wpQuiet P ops (fun w' => RowKit.Below w.heap.size w w') Q l (a.put o.dst v) := fun {env'} {v} {p} h' hv =>
   jNK hS hGl hcs h' (by rw [jVB]; exact hN) (by rw [put_defers]; exact hD) (jO1 hR hv (fun i hi => by rw [hN]; exact hd i hi)) hK
  obtain ⟨cd, cg, cop⟩ := c
  simp only at hdst hg hop
  subst hdst
  simp only [jDG, stepW] at h
  simp only [wpQuiet]
  cases cg with
  | none =>
   have hw := jCB (a := a) hg
   rw [if_pos hw]
   simp only at h
   cases cop with
   | rd k args =>
    simp only at h
    obtain ⟨h1, h2⟩ := h
    obtain ⟨ys, hcr, hys⟩ := jCO hop
    obtain ⟨v, hv, hrun⟩ := jGQ hS hcr (jBN hR hGl hys) h1
    exact jU9 (fun w' hB => hrun w' hB.block) (next (env' := env) h2 hv)
   | eff k args => simp at h
   | call f args =>
    simp only at h
    obtain ⟨cl, f0, ho, hf0, hf, hys⟩ := jCV hop
    have hfr := jDS hR hGl hf
    have hkn := jBN hR hGl hys
    unfold jMC at h
    split at h
    ·rename_i g first caps hfe
     rw [hfe] at hfr
     rcases h with ⟨res, hres, hfl, -, hK'⟩ | ⟨hq, -⟩
     ·obtain ⟨vs, hvs, hrun⟩ := jEV ho hf0 hfr hkn hres.1
      obtain ⟨v, hv, hcall⟩ := jIJ hS hGl hres (hfl rfl) hvs
      exact jNC (fun w' _ => hrun w') hcall (next (env' := env) hK' hv)
     ·cases hq
    ·exact h.elim
  | some gw =>
   obtain ⟨r, want⟩ := gw
   simp only at h
   split at h
   ·rename_i b hb
    have hw := jD5 hg (hR r) hb
    unfold stepG at h
    cases cop with
    | rd k args =>
     simp only at h
     obtain ⟨h1, h2⟩ := h
     obtain ⟨ys, hcr, hys⟩ := jCO hop
     by_cases hbw : b = want
     ·obtain ⟨h3, h4⟩ := h1 hbw
      obtain ⟨v, hv, hrun⟩ := jGQ hS hcr (jPB (jBN hR hGl hys) h3) h4
      rw [if_pos (by rw [hw, hbw]; simp)]
      exact jU9 (fun w' hB => hrun w' hB.block) (next (env' := env) h2 (.cond _ (fun _ => hv) (fun hh => by rw [hbw] at hh; simp at hh)))
     ·rw [if_neg (by rw [hw]; simpa using hbw)]
      exact next (env' := env) h2 (.cond _ (fun hh => absurd (by simpa using hh) hbw) (fun _ => rfl))
    | eff k args => simp at h
    | call f args =>
     simp only at h
     obtain ⟨res, h1, h2⟩ := h
     obtain ⟨cl, f0, ho, hf0, hf, hys⟩ := jCV hop
     by_cases hbw : b = want
     ·obtain ⟨h3, h4, h5, h6⟩ := h1 hbw
      have hfr := jED (jDS hR hGl hf) h3 rfl
      have hkn := jDI (jBN hR hGl hys) h4
      unfold jMB at h5
      split at h5
      ·rename_i g first caps hfe
       rw [hfe] at hfr
       obtain ⟨vs, hvs, hrun⟩ := jEV ho hf0 hfr hkn h5.1
       obtain ⟨v, hv, hcall⟩ := jIJ hS hGl h5 (by simpa using h6) hvs
       rw [if_pos (by rw [hw, hbw]; simp)]
       exact jNC (fun w' _ => hrun w') hcall (next (env' := env) h2 (.cond _ (fun _ => hv) (fun hh => by rw [hbw] at hh; simp at hh)))
      ·exact h5.elim
     ·rw [if_neg (by rw [hw]; simpa using hbw)]
      exact next (env' := env) h2 (.cond _ (fun hh => absurd (by simpa using hh) hbw) (fun _ => rfl))
   ·exact h.elim
inductive jFW where
 | done
 | stop
 | alt (l : List CO) (s more : jFW)
 deriving Inhabited
def jCD (P : Program) (G : jA3) (mv : Nat -> Bool) : jFW -> Env -> Mem -> (Env -> Mem -> Prop) -> Prop
 | .done, env, μ, K => K env μ
 | .stop, _, _, _ => True
 | .alt l s more, env, μ, K => jDG P G false mv l env μ (fun e m => jCD P G mv s e m K) ∧ jCD P G mv more env μ K
def CO.wl (c : CO) : Bool :=
 match c.op with
 | .rd k _ => k.wl
 | _ => false
def jYJ (c : CO) (s more : jFW) : jFW :=
 match s with
 | .alt l s' .stop => .alt (c :: l) s' more
 | s => .alt [c] s more
def jFP (ops : Array Oper) (cs : List CO) : Nat -> Array Bool -> Option jFW
 | 0, listed => if Region.ready .any ops listed = [] then some .done else none
 | f + 1, listed =>
  if Region.ready .any ops listed = [] then some .done else
  match (Region.ready .any ops listed).find? (fun i => ((cs[i]?).map CO.wl).getD false && Region.free .any ops listed i) with
  | some i => (cs[i]?).bind fun c => (jFP ops cs f (listed.setIfInBounds i true)).map fun s => jYJ c s .stop
  | none => (Region.ready .any ops listed).foldr (fun i acc => acc.bind fun more => (cs[i]?).bind fun c => (jFP ops cs f (listed.setIfInBounds i true)).map fun s => jYJ c s more) (some .stop)
theorem jF3 {mv : Nat -> Bool} (c : CO) (s more : jFW) (K : Env -> Mem -> Prop) : jCD P G mv (jYJ c s more) env μ K = (stepW P G false mv c env μ (fun e m => jCD P G mv s e m K) ∧ jCD P G mv more env μ K) := by
 unfold jYJ
 split
 ·simp only [jCD, jDG, and_true]
 ·simp only [jCD, jDG]
theorem jXN {o : Oper} {a : Act} {next : Act -> World -> Prop} {Q Q1 : Exit -> Act -> World -> Prop} (hp : ∀ c a w, Q (.panic c) a w = Q1 (.panic c) a w) (hl : LetsOut Q = LetsOut Q1) (r : Result Next) : o.upon P a next Q r = o.upon P a next Q1 r := by
 unfold Oper.upon
 split <;> first | rfl | (rw [hp]; done) | skip
 congr 1
 funext e w''
 cases e <;> first | rfl | exact hp _ _ _ | exact hl
theorem kH2 {ow : List Nat} {ops : Array Oper} {C : Ctx} {i : Nat} {o : Oper} {c : CO} (hi : ops[i]? = some o) (hc : jBF P N ow ops o = some c) {Q : Exit -> Act -> World -> Prop} {KK : Act -> World -> Prop} {a : Act} {K : Env -> Mem -> Prop}
  (h : stepW P G false C.mv c env μ K) (hR : SR G N C a w κ env μ) (hK : ∀ env' μ' a' w' κ', K env' μ' -> SR G N C a' w' κ' env' μ' -> KK a' w') : wpOp P ops Q i KK a w := by
 let Q1 : Exit -> Act -> World -> Prop := fun e a w => match e with
  | .normal => KK a w
  | e => Q e a w
 have := jGS (P := P) (ops := ops) (Q := Q1) (l := [o]) (cs := [c]) (ow := ow) (K := K) (by simp [hc]) (by simpa [jDG] using h) hR hK
 simp only [wpList] at this
 have hl : LetsOut Q1 = LetsOut Q := rfl
 unfold wpOp
 rw [hi]
 simp only
 split
 ·rename_i hw
  rw [if_pos hw] at this
  refine this.imp (fun h => ?_) (fun h => ⟨h.1, h.2⟩)
  unfold Oper.wp at h ⊢
  have e := jXN (P := P) (o := o) (a := a) (next := KK) (Q := Q1) (Q1 := Q) (fun _ _ _ => rfl) hl ((execOp a.eval o).run P w)
  exact e.mp h
 ·rename_i hw
  rw [if_neg hw] at this
  exact this
theorem jKN {ow : List Nat} {ops : Array Oper} {C : Ctx} {o : Oper} {c : CO} (hc : jBF P N ow ops o = some c) (hwl : c.wl = true) {a : Act} {K : Env -> Mem -> Prop}
  (h : stepW P G false C.mv c env μ K) (hR : SR G N C a w κ env μ) : ∃ v env', YieldsIf P ops (fun _ => True) o v a ∧ K env' μ ∧ SR G N C (a.put o.dst v) w κ env' μ := by
 obtain ⟨hdst, hd, hg, hop⟩ := jDD hc
 obtain ⟨cd, cg, cop⟩ := c
 simp only at hdst hg hop
 subst hdst
 cases cop with
 | eff k args => simp [CO.wl] at hwl
 | call f args => simp [CO.wl] at hwl
 | rd k args =>
  simp only [CO.wl] at hwl
  obtain ⟨ys, hcr, hys⟩ := jCO hop
  cases cg with
  | none =>
   have hw := jCB (a := a) hg
   simp only [stepW] at h
   obtain ⟨h1, h2⟩ := h
   obtain ⟨v, hv, hrun⟩ := jQX hR.sim hcr (jBN hR.regs hR.globs hys) h1 hwl
   exact ⟨v, _, .inl ⟨hw, fun w' _ => hrun w' trivial⟩, h2, hR.put (dead := none) hd hR.sim (Goes.refl _ _ _) trivial hv⟩
  | some gw =>
   obtain ⟨r, want⟩ := gw
   simp only [stepW] at h
   split at h
   ·rename_i b hb
    have hw := jD5 hg (hR.regs r) hb
    simp only [stepG] at h
    obtain ⟨h1, h2⟩ := h
    by_cases hbw : b = want
    ·obtain ⟨h3, h4⟩ := h1 hbw
     obtain ⟨v, hv, hrun⟩ := jQX hR.sim hcr (jPB (jBN hR.regs hR.globs hys) h3) h4 hwl
     exact ⟨v, _, .inl ⟨by rw [hw, hbw]; simp, fun w' _ => hrun w' trivial⟩, h2, hR.put (dead := none) hd hR.sim (Goes.refl _ _ _) trivial (.cond _ (fun _ => hv) (fun hh => by rw [hbw] at hh; simp at hh))⟩
    ·exact ⟨undef, _, .inr ⟨by rw [hw]; simpa using hbw, rfl⟩, h2, hR.put (dead := none) hd hR.sim (Goes.refl _ _ _) trivial (.cond _ (fun hh => absurd (by simpa using hh) hbw) (fun _ => rfl))⟩
   ·exact h.elim
theorem mapM_at {ow : List Nat} {ops : Array Oper} {cs : List CO} (hcs : ops.toList.mapM (jBF P N ow ops) = some cs) {i : Nat} {c : CO} (hc : cs[i]? = some c) : ∃ o, ops[i]? = some o ∧ jBF P N ow ops o = some c := by
 have := jH5 hcs
 have h1 : (cs.map some)[i]? = some (some c) := by rw [List.getElem?_map, hc]; rfl
 rw [<- this, List.getElem?_map] at h1
 cases ho : ops.toList[i]? with
 | none => rw [ho] at h1; cases h1
 | some o => rw [ho] at h1; exact ⟨o, by simpa using ho, by simpa using h1⟩
theorem YieldsIf.any {ops : Array Oper} {S : World -> Prop} {o : Oper} {v : Value} {a : Act} (h : YieldsIf P ops (fun _ => True) o v a) : YieldsIf P ops S o v a :=
 h.imp (fun ⟨hw, hv⟩ => ⟨hw, fun w _ => hv w trivial⟩) id
theorem jHD {ow : List Nat} {ops : Array Oper} {cs : List CO} {C : Ctx} (hcs : ops.toList.mapM (jBF P N ow ops) = some cs) (hsel : Region.noSelect ops = true) {Q : Exit -> Act -> World -> Prop} (hQ : ∀ c a w, ¬ Q (.panic c) a w) {K : Env -> Mem -> Prop} {S : World -> Prop} (hS : ∀ a w κ env μ, SR G N C a w κ env μ -> S w)
  (hK : ∀ env' μ' a' w' κ', K env' μ' -> SR G N C a' w' κ' env' μ' -> Q .normal a' w') :
  ∀ (fuel : Nat) (listed : Array Bool) (s : jFW), jFP ops cs fuel listed = some s -> ∀ (a : Act) (w : World) (κ : Kap) (env : Env) (μ : Mem), jCD P G C.mv s env μ K -> SR G N C a w κ env μ -> wpAnyH P .any ops Q S fuel listed a w := by
 intro fuel
 induction fuel with
 | zero =>
  intro listed s hs a w κ env μ h hR
  simp only [jFP] at hs
  split at hs
  ·rename_i hr
   cases hs
   exact wpAnyH_done hr (hK _ _ _ _ _ h hR) 0
  ·cases hs
 | succ f ih =>
  intro listed s hs a w κ env μ h hR
  simp only [jFP] at hs
  split at hs
  ·rename_i hr
   cases hs
   exact wpAnyH_done hr (hK _ _ _ _ _ h hR) _
  ·rename_i hne
   split at hs
   ·rename_i i hf
    simp only [Option.bind_eq_some_iff, Option.map_eq_some_iff] at hs
    obtain ⟨c, hc, s', hs', rfl⟩ := hs
    obtain ⟨o, ho, hco⟩ := mapM_at hcs hc
    have hfi := List.find?_some hf
    rw [hc] at hfi
    simp only [Option.map_some, Option.getD_some, Bool.and_eq_true] at hfi
    rw [jF3] at h
    obtain ⟨v, env', hy, hK', hR'⟩ := jKN hco hfi.1 h.1 hR
    exact wpAnyH_take ho hsel hfi.2 (by simpa using List.mem_of_find?_eq_some hf) (fun c a w hp => absurd hp (hQ c _ _)) (YieldsIf.any hy) (hS _ _ _ _ _ hR) (ih _ _ hs' _ _ _ _ _ hK' hR')
   ·refine wpAnyH_all rfl hne ?_
    have key : ∀ (r : List Nat) (s : jFW), r.foldr (fun i acc => acc.bind fun more => (cs[i]?).bind fun c => (jFP ops cs f (listed.setIfInBounds i true)).map fun s => jYJ c s more) (some .stop) = some s ->
      jCD P G C.mv s env μ K -> ∀ i ∈ r, wpOp P ops Q i (fun a' w' => S w' ∧ wpAnyH P .any ops Q S f (listed.setIfInBounds i true) a' w') a w := by
     intro r
     induction r with
     | nil => intro s _ _ i hi; cases hi
     | cons j r ihr =>
      intro s hs h i hi
      simp only [List.foldr_cons, Option.bind_eq_some_iff, Option.map_eq_some_iff] at hs
      obtain ⟨more, hm, c, hc, s', hs', rfl⟩ := hs
      rw [jF3] at h
      rcases List.mem_cons.1 hi with rfl | hi
      ·obtain ⟨o, ho, hco⟩ := mapM_at hcs hc
       exact kH2 ho hco h.1 hR (fun env' μ' a' w' κ' h1 h2 => ⟨hS _ _ _ _ _ h2, ih _ _ hs' _ _ _ _ _ h1 h2⟩)
      ·exact ihr more hm h.2 i hi
    exact key _ s hs h
def jSS : POp -> Option (List Opd)
 | .rd (.load none) [x] => some [x]
 | _ => none
def isLoad : Op -> Bool
 | .load _ _ => true
 | _ => false
def CO.early (o : Oper) (c : CO) : Bool := c.wl || (c.guard.isNone && isLoad o.op && (jSS c.op).isSome)
def kDF (o : Option Oper) (c : Option CO) : Bool :=
 match o, c with
 | some o, some c => CO.early o c
 | _, _ => false
def CO.toE (c : CO) : CO :=
 match c.guard, jSS c.op with
 | none, some xs => ⟨c.dst, none, .rd .jLH xs⟩
 | _, _ => c
def kM6 (ow : List Nat) : Option CO -> Bool
 | some ⟨some d, _, _⟩ => ow.contains (100000 + d)
 | _ => false
def jJ2 (ow : List Nat) (ops : Array Oper) (cs : List CO) : Nat -> Array Bool -> Option jFW
 | 0, listed => jFP ops cs 0 listed
 | f + 1, listed =>
  match (Region.ready .any ops listed).find? (fun i => kDF ops[i]? cs[i]? && (Region.free .any ops listed i && !kM6 ow cs[i]?)) with
  | some i => (cs[i]?).bind fun c => (jJ2 ow ops cs f (listed.setIfInBounds i true)).map fun s => jYJ c.toE s .stop
  | none => jFP ops cs (f + 1) listed
def Held (w : World) (κ : Kap) (w' : World) : Prop := ∀ b, b < w.heap.size -> ¬ own κ b -> w'.heap[b]? = w.heap[b]?
theorem jYO {o : Oper} {ρ : Operand -> Value} {t : TypeId} {x : Operand} (ho : o.op = .load t x) (ht : jEZ P t = some none) {ps : List PV} (hk : Known w κ ρ [x] ps) (hd : rdD μ .jLH ps) :
  ∃ v, Rep w (own κ) κ v (rdV μ .jLH ps) ∧ ∀ w', Held w κ w' -> (execOp ρ o).run P w' = .ok (.value v) w' := by
 obtain ⟨p, rfl, hp⟩ := known1 hk
 cases p <;> simp only [rdD] at hd
 rename_i sh' y off
 generalize hu : ρ x = u at hp
 cases hp with
 | closed hp =>
 cases hp with
 | jC2 b o' _ _ _ val hfit hoff hc hr =>
  obtain ⟨hsz, hag, -⟩ := jBD ht
  have hlen := jGO (jFU hfit)
  have hin : off < y.cells.length := by
   rcases hd with ⟨rfl, rfl⟩ | h
   ·rw [hlen]; simp [Sh.size]
   ·omega
  refine ⟨val off, ?_, fun w' hw => ?_⟩
  ·simp only [rdV, cut]
   split
   ·rename_i h
    obtain ⟨rfl, rfl⟩ := h
    have hxa : y.cells = [y] := by cases y <;> simp_all [fits, PV.scalar, PV.cells]
    exact .closed (hr 0 y (by rw [hxa]; rfl))
   ·simp only [sub]
    rw [List.getElem?_eq_getElem hin]
    exact .closed (hr off _ (List.getElem?_eq_getElem hin))
  ·obtain ⟨h1, h2⟩ := hc off hin
   have hb := World.block_lt_of_cell? _ _ h2
   have h3 : w'.cell? ⟨b, o' + off, none⟩ = some (val off) := by rw [World.cell?_of_block (hw b hb h1)]; exact h2
   simp [execOp, ho, hu, Instr.loadAt, Instr.sureAddr, loadVar, hag, h3]
theorem jXQ {ow : List Nat} {ops : Array Oper} {C : Ctx} {o : Oper} {c : CO} (hc : jBF P N ow ops o = some c) (kCH : CO.early o c = true) {a : Act} {K : Env -> Mem -> Prop}
  (h : stepW P G false C.mv c.toE env μ K) (hR : SR G N C a w κ env μ) : ∃ v env', YieldsIf P ops (Held w κ) o v a ∧ K env' μ ∧ SR G N C (a.put o.dst v) w κ env' μ := by
 by_cases hwl : c.wl = true
 ·have he : c.toE = c := by
   obtain ⟨cd, cg, cop⟩ := c
   unfold CO.toE
   split
   ·rename_i h1 h2
    simp only at h1 h2
    unfold jSS at h2
    split at h2
    ·simp [CO.wl, RK.wl] at hwl
    ·cases h2
   ·rfl
  rw [he] at h
  obtain ⟨v, env', h1, h2, h3⟩ := jKN hc hwl h hR
  exact ⟨v, env', YieldsIf.any h1, h2, h3⟩
 ·have kIR : (c.guard.isNone = true ∧ isLoad o.op = true) ∧ (jSS c.op).isSome = true := by
   unfold CO.early at kCH
   rw [Bool.or_eq_true] at kCH
   rcases kCH with h1 | h1
   ·exact absurd h1 hwl
   ·rw [Bool.and_eq_true, Bool.and_eq_true] at h1; exact h1
  obtain ⟨⟨hg0, hl⟩, he⟩ := kIR
  obtain ⟨hdst, hd, hg, hop⟩ := jDD hc
  cases c with
  | mk cd cg cop =>
  simp only at hdst hg hop
  subst hdst
  cases cg with
  | some _ => simp at *
  | none =>
  unfold jSS at he
  split at he
  ·rename_i x heq
   simp only at heq
   subst heq
   obtain ⟨ys, hcr, hys⟩ := jCO hop
   cases hoo : o.op with
   | load t x0 =>
    rw [hoo] at hcr
    simp only [jFV, Option.map_eq_some_iff, Prod.mk.injEq, RK.load.injEq] at hcr
    obtain ⟨sh, hsh, rfl, rfl⟩ := hcr
    have hw := jCB (a := a) hg
    have hte : CO.toE ⟨o.dst, none, .rd (.load none) [x]⟩ = ⟨o.dst, none, .rd .jLH [x]⟩ := rfl
    rw [hte] at h
    simp only [stepW] at h
    obtain ⟨h1, h2⟩ := h
    obtain ⟨v, hv, hrun⟩ := jYO hoo hsh (jBN hR.regs hR.globs hys) h1
    exact ⟨v, _, .inl ⟨hw, fun w' hw' => hrun w' hw'⟩, h2, hR.put (dead := none) hd hR.sim (Goes.refl _ _ _) trivial hv⟩
   | _ => rw [hoo] at hl; simp [isLoad] at hl
  ·simp at he
theorem jQL {ow : List Nat} {ops : Array Oper} {cs : List CO} {C : Ctx} (hcs : ops.toList.mapM (jBF P N ow ops) = some cs) (hsel : Region.noSelect ops = true) {Q : Exit -> Act -> World -> Prop} (hQ : ∀ c a w, ¬ Q (.panic c) a w) {K : Env -> Mem -> Prop}
  (hK : ∀ env' μ' a' w' κ', K env' μ' -> SR G N C a' w' κ' env' μ' -> Q .normal a' w') :
  ∀ (fuel : Nat) (listed : Array Bool) (s : jFW), jJ2 ow ops cs fuel listed = some s -> ∀ (a : Act) (env : Env) (μ : Mem), jCD P G C.mv s env μ K -> SR G N C a C.w0 C.κ0 env μ -> wpAnyH P .any ops Q (Held C.w0 C.κ0) fuel listed a C.w0 := by
 have hS : ∀ a w κ env μ, SR G N C a w κ env μ -> Held C.w0 C.κ0 w := fun a w κ env μ h b hb ho => h.goes.block b hb (fun ht => ho (.inr ht))
 intro fuel
 induction fuel with
 | zero =>
  intro listed s hs a env μ h hR
  exact jHD hcs hsel hQ hS hK 0 listed s hs a _ _ _ _ h hR
 | succ f ih =>
  intro listed s hs a env μ h hR
  simp only [jJ2] at hs
  split at hs
  ·rename_i i hf
   simp only [Option.bind_eq_some_iff, Option.map_eq_some_iff] at hs
   obtain ⟨c, hc, s', hs', rfl⟩ := hs
   obtain ⟨o, ho, hco⟩ := mapM_at hcs hc
   have hfi := List.find?_some hf
   rw [hc, ho] at hfi
   rw [Bool.and_eq_true, Bool.and_eq_true] at hfi
   simp only [kDF] at hfi
   rw [jF3] at h
   obtain ⟨v, env', hy, hK', hR'⟩ := jXQ hco hfi.1 h.1 hR
   exact wpAnyH_take ho hsel hfi.2.1 (by simpa using List.mem_of_find?_eq_some hf) (fun c a w hp => absurd hp (hQ c _ _)) hy (hS _ _ _ _ _ hR) (ih _ _ hs' _ _ _ hK' hR')
  ·exact jHD hcs hsel hQ hS hK (f + 1) listed s hs a _ _ _ _ h hR
def mkS (ow : List Nat) (ops : Array Oper) (cs : List CO) : Option jFW :=
 if ow.contains 888888 = true then jJ2 ow ops cs ops.size (Array.replicate ops.size false) else jFP ops cs ops.size (Array.replicate ops.size false)
inductive jB1 where
 | skip
 | region (q : Bool) (ops : List CO) (keep : List Nat)
 | jB6 (s : jFW) (keep : List Nat)
 | seq (a b : jB1)
 | cond (c : Opd) (a b : jB1)
 | block (id : Nat) (b : jB1)
 | loop (b : jB1)
 | exit (id : Nat)
 | ret
 | scope (b : jB1)
 | label
 deriving Inhabited
def CO.still (c : CO) : Bool :=
 match c.op with
 | .eff _ _ => false
 | _ => true
def asA (ow : List Nat) (cs : List CO) : Bool := ow.contains 999999 || ow.any fun x => decide (700000 <= x) && cs.any fun c => c.dst == some (x - 700000)
def jAK (P : Program) (N : Nat) (ow L : List Nat) : Code -> Option jB1
  | .skip => some .skip
  | .region _ ops d => if d = true then (ops.toList.mapM (jBF P N ow ops)).bind fun cs =>
      if cs.all CO.still = true ∧ asA ow cs = false then (if Region.lexB .any ops = true then some (.region true cs L) else none)
      else if Region.noSelect ops = true then (mkS ow ops cs).map fun s => .jB6 s L else none else (ops.toList.mapM (jBF P N ow ops)).map fun cs => .region false cs L
  | .seq a b => (jAK P N ow L a).bind fun a' => (jAK P N ow L b).map fun b' => .seq a' b'
  | .cond c a b => (jBG c).bind fun c' => (jAK P N ow L a).bind fun a' => (jAK P N ow L b).map fun b' => .cond c' a' b'
  | .block id b => (jAK P N ow L b).map fun b' => .block id b'
  | .loop b => (jAK P N ow L b).map fun b' => .loop b'
  | .exit id => some (.exit id)
  | .ret => some .ret
  | .scope b => (jAK P N ow L b).map fun b' => .scope b'
  | .label _ => some .label
  | _ => none
def jE9 (L : List Nat) (env : Env) : Env := L.map fun i => (i, env.get i)
abbrev Post := Exit -> Env -> Mem -> Prop
def PW (P : Program) (G : jA3) (N : Nat) (mv : Nat -> Bool) (c : jB1) (env : Env) (μ : Mem) (Q : Post) : Prop :=
 ∀ ow L code, jAK P N ow L code = some c -> P.follows .mixedOrders = true -> ∀ (C : Ctx) (a : Act) (w : World) (κ : Kap), C.mv = mv -> SR G N C a w κ env μ ->
  code.wp P (fun e a' w' => ∃ env' μ' κ', Q e env' μ' ∧ SR G N C a' w' κ' env' μ') a w
theorem jD4 (L : List Nat) (env : Env) (i : Nat) : (jE9 L env).get i = env.get i ∨ (jE9 L env).get i = .junk := by
 induction L with
 | nil => exact .inr rfl
 | cons j L ih =>
  simp only [jE9, List.map_cons, Env.get]
  split
  ·rename_i h; subst h; exact .inl rfl
  ·exact ih
theorem SR.weak {C : Ctx} {a : Act} {env' : Env} (h : SR G N C a w κ env μ) (he : ∀ i, env'.get i = env.get i ∨ env'.get i = .junk) : SR G N C a w κ env' μ :=
 ⟨h.size, h.defers, fun i => (he i).elim (fun e => by rw [e]; exact h.regs i) (fun e => by rw [e]; exact .junk _), h.sim, h.globs, h.goes⟩
variable {mv : Nat -> Bool} {Q : Post}
theorem jBI {ow L : List Nat} {id : Nat} {ops : Array Oper} {d : Bool} {x : jB1} (h : jAK P N ow L (.region id ops d) = some x) :
  (d = false ∧ ∃ cs, ops.toList.mapM (jBF P N ow ops) = some cs ∧ x = .region false cs L) ∨ (d = true ∧ ∃ cs, ops.toList.mapM (jBF P N ow ops) = some cs ∧ x = .region true cs L ∧ Region.lexB .any ops = true) ∨
   (d = true ∧ ∃ cs s, ops.toList.mapM (jBF P N ow ops) = some cs ∧ mkS ow ops cs = some s ∧ x = .jB6 s L ∧ Region.noSelect ops = true) := by
 simp only [jAK] at h
 split at h
 ·rename_i hd
  simp only [Option.bind_eq_some_iff] at h
  obtain ⟨cs, hcs, h⟩ := h
  split at h
  ·split at h
   ·rename_i hB
    cases h; exact .inr (.inl ⟨hd, cs, hcs, rfl, hB⟩)
   ·cases h
  ·split at h
   ·rename_i hB
    simp only [Option.map_eq_some_iff] at h
    obtain ⟨s, hs, h⟩ := h
    cases h; exact .inr (.inr ⟨hd, cs, s, hcs, hs, rfl, hB⟩)
   ·cases h
 ·rename_i hd
  simp only [Option.map_eq_some_iff] at h
  obtain ⟨cs, hcs, h⟩ := h
  cases h
  exact .inl ⟨by simpa using hd, cs, hcs, rfl⟩
theorem jEL {ow L : List Nat} {code : Code} {q : Bool} {cs : List CO} {L' : List Nat} (h : jAK P N ow L code = some (.region q cs L')) :
  ∃ id ops, code = .region id ops q ∧ ops.toList.mapM (jBF P N ow ops) = some cs ∧ L' = L ∧ (q = true -> Region.lexB .any ops = true) := by
 cases code with
 | region id ops d =>
  rcases jBI h with ⟨rfl, cs', h1, h2⟩ | ⟨rfl, cs', h1, h2, h3⟩ | ⟨rfl, cs', s, h1, h2, h3, h4⟩
  ·cases h2; exact ⟨id, ops, rfl, h1, rfl, fun h => by cases h⟩
  ·cases h2; exact ⟨id, ops, rfl, h1, rfl, fun _ => h3⟩
  ·cases h3
 | _ => simp [jAK, Option.bind_eq_some_iff] at h
theorem jJX {ow L : List Nat} {code : Code} {s : jFW} {L' : List Nat} (h : jAK P N ow L code = some (.jB6 s L')) :
  ∃ id ops cs, code = .region id ops true ∧ ops.toList.mapM (jBF P N ow ops) = some cs ∧ L' = L ∧ mkS ow ops cs = some s ∧ Region.noSelect ops = true := by
 cases code with
 | region id ops d =>
  rcases jBI h with ⟨rfl, cs', h1, h2⟩ | ⟨rfl, cs', h1, h2, h3⟩ | ⟨rfl, cs', s', h1, h2, h3, h4⟩
  ·cases h2
  ·cases h2
  ·cases h3; exact ⟨id, ops, cs', rfl, h1, rfl, h2, h4⟩
 | _ => simp [jAK, Option.bind_eq_some_iff] at h
theorem PW.region {cs : List CO} {L : List Nat} (h : jDG P G false mv cs env μ fun env' μ' => Q .normal (jE9 L env') μ') : PW P G N mv (.region false cs L) env μ Q := by
 intro ow L' code hc _ C a w κ hmv hR
 obtain ⟨id, ops, rfl, hm, rfl, -⟩ := jEL hc
 subst hmv
 refine wp_region_list (jGS hm h hR fun env' μ' a' w' κ' hK hR' => ⟨_, _, _, hK, hR'.weak (jD4 _ _)⟩)
theorem PW.kH8 {cs : List CO} {L : List Nat} (h : jDG P G true mv cs env μ fun env' μ' => Q .normal (jE9 L env') μ') : PW P G N mv (.region true cs L) env μ Q := by
 intro ow L' code hc jD8 C a w κ hmv hR
 obtain ⟨id, ops, rfl, hm, rfl, hB⟩ := jEL hc
 refine wp_region_quiet (C := fun w' => RowKit.Below w.heap.size w w') jD8 (hB rfl) ((RowKit.Below.refl _ _).drew) (jNK hR.sim hR.globs hm h hR.size hR.defers hR.regs fun env' a' hK hN hD hR' w' hB' => ?_)
 have hG : Goes w κ w' κ (fun _ => False) := Goes.below hB' _
 refine ⟨_, _, κ, hK, SR.weak ⟨hN, hD, jIY hR' hG, hR.sim.below hB', jBV hR.globs hG, hR.goes.trans (hG.weak fun _ h => h.elim)⟩ (jD4 _ _)⟩
theorem PW.jB6 {s : jFW} {L : List Nat} (h : jCD P G mv s env μ fun env' μ' => Q .normal (jE9 L env') μ') : PW P G N mv (.jB6 s L) env μ Q := by
 intro ow L' code hc jD8 C a w κ hmv hR
 obtain ⟨id, ops, cs, rfl, hm, rfl, hs, hsel⟩ := jJX hc
 subst hmv
 have hR1 : SR G N C a { w with drawn := w.drawn + 1 } κ env μ := by
  have hG : Goes w κ w.drew κ (fun _ => False) := Goes.drew _ _ _
  exact ⟨hR.size, hR.defers, jIY hR.regs hG, hR.sim.drew, jBV hR.globs hG, hR.goes.trans (hG.weak fun _ h => h.elim)⟩
 have h1 : (Code.region id ops true).wp P (fun e a' w' => e = .normal ∧ ∃ env' μ' κ', Q .normal env' μ' ∧ SR G N C a' w' κ' env' μ') a w := by
  unfold mkS at hs
  split at hs
  ·have hR2 : SR G N ⟨{ w with drawn := w.drawn + 1 }, κ, C.mv⟩ a { w with drawn := w.drawn + 1 } κ env μ := ⟨hR1.size, hR1.defers, hR1.regs, hR1.sim, hR1.globs, Goes.refl _ _ _⟩
   refine wp_region_held (S := Held { w with drawn := w.drawn + 1 } κ) jD8 (jQL (C := ⟨{ w with drawn := w.drawn + 1 }, κ, C.mv⟩) hm hsel (fun c a w hp => by cases hp.1) (fun env' μ' a' w' κ' hK hR' =>
    ⟨rfl, _, _, _, hK, SR.weak ⟨hR'.size, hR'.defers, hR'.regs, hR'.sim, hR'.globs, hR1.goes.trans hR'.goes⟩ (jD4 _ _)⟩) _ _ _ hs _ _ _ h hR2)
  ·refine wp_region_held (S := fun _ => True) jD8 (jHD (S := fun _ => True) hm hsel (fun c a w hp => by cases hp.1) (fun _ _ _ _ _ _ => trivial) (fun env' μ' a' w' κ' hK hR' => ⟨rfl, _, _, _, hK, hR'.weak (jD4 _ _)⟩) _ _ _ hs _ _ _ _ _ h hR1)
 refine wp_mono h1 ?_
 rintro e a' w' ⟨rfl, env', μ', κ', hq, hR'⟩
 exact ⟨env', μ', κ', hq, hR'⟩
def kD0 (P : Program) (G : jA3) (N : Nat) (mv : Nat -> Bool) (b : jB1) (Q : Post) : Post := fun e env μ =>
 match e with
 | .normal => PW P G N mv b env μ Q
 | e => Q e env μ
theorem jSX {ow L : List Nat} {code : Code} {x y : jB1} (h : jAK P N ow L code = some (.seq x y)) : ∃ x0 y0, code = .seq x0 y0 ∧ jAK P N ow L x0 = some x ∧ jAK P N ow L y0 = some y := by
 cases code with
 | seq x0 y0 =>
  simp only [jAK, Option.bind_eq_some_iff, Option.map_eq_some_iff] at h
  obtain ⟨x', hx, y', hy, h⟩ := h
  cases h; exact ⟨x0, y0, rfl, hx, hy⟩
 | region id ops d => rcases jBI h with ⟨_, _, _, h⟩ | ⟨_, _, _, h, _⟩ | ⟨_, _, _, _, _, h, _⟩ <;> cases h
 | _ => simp [jAK, Option.bind_eq_some_iff] at h
theorem jPS {ow L : List Nat} {code : Code} {c : Opd} {x y : jB1} (h : jAK P N ow L code = some (.cond c x y)) :
  ∃ c0 x0 y0, code = .cond c0 x0 y0 ∧ jBG c0 = some c ∧ jAK P N ow L x0 = some x ∧ jAK P N ow L y0 = some y := by
 cases code with
 | cond c0 x0 y0 =>
  simp only [jAK, Option.bind_eq_some_iff, Option.map_eq_some_iff] at h
  obtain ⟨c', hc, x', hx, y', hy, h⟩ := h
  cases h; exact ⟨c0, x0, y0, rfl, hc, hx, hy⟩
 | region id ops d => rcases jBI h with ⟨_, _, _, h⟩ | ⟨_, _, _, h, _⟩ | ⟨_, _, _, _, _, h, _⟩ <;> cases h
 | _ => simp [jAK, Option.bind_eq_some_iff] at h
theorem jMV {ow L : List Nat} {code : Code} {id : Nat} {x : jB1} (h : jAK P N ow L code = some (.block id x)) : ∃ x0, code = .block id x0 ∧ jAK P N ow L x0 = some x := by
 cases code with
 | block id x0 =>
  simp only [jAK, Option.map_eq_some_iff] at h
  obtain ⟨x', hx, h⟩ := h
  cases h; exact ⟨x0, rfl, hx⟩
 | region id ops d => rcases jBI h with ⟨_, _, _, h⟩ | ⟨_, _, _, h, _⟩ | ⟨_, _, _, _, _, h, _⟩ <;> cases h
 | _ => simp [jAK, Option.bind_eq_some_iff] at h
theorem jII {ow L : List Nat} {code : Code} {x : jB1} (h : jAK P N ow L code = some (.loop x)) : ∃ x0, code = .loop x0 ∧ jAK P N ow L x0 = some x := by
 cases code with
 | loop x0 =>
  simp only [jAK, Option.map_eq_some_iff] at h
  obtain ⟨x', hx, h⟩ := h
  cases h; exact ⟨x0, rfl, hx⟩
 | region id ops d => rcases jBI h with ⟨_, _, _, h⟩ | ⟨_, _, _, h, _⟩ | ⟨_, _, _, _, _, h, _⟩ <;> cases h
 | _ => simp [jAK, Option.bind_eq_some_iff] at h
theorem jMT {ow L : List Nat} {code : Code} {x : jB1} (h : jAK P N ow L code = some (.scope x)) : ∃ x0, code = .scope x0 ∧ jAK P N ow L x0 = some x := by
 cases code with
 | scope x0 =>
  simp only [jAK, Option.map_eq_some_iff] at h
  obtain ⟨x', hx, h⟩ := h
  cases h; exact ⟨x0, rfl, hx⟩
 | region id ops d => rcases jBI h with ⟨_, _, _, h⟩ | ⟨_, _, _, h, _⟩ | ⟨_, _, _, _, _, h, _⟩ <;> cases h
 | _ => simp [jAK, Option.bind_eq_some_iff] at h
theorem jMU {ow L : List Nat} {code : Code} (h : jAK P N ow L code = some .label) : ∃ l, code = .label l := by
 cases code with
 | label l => exact ⟨l, rfl⟩
 | region id ops d => rcases jBI h with ⟨_, _, _, h⟩ | ⟨_, _, _, h, _⟩ | ⟨_, _, _, _, _, h, _⟩ <;> cases h
 | _ => simp [jAK, Option.bind_eq_some_iff] at h
theorem jPQ {ow L : List Nat} {code : Code} (h : jAK P N ow L code = some .skip) : code = .skip := by
 cases code with
 | skip => rfl
 | region id ops d => rcases jBI h with ⟨_, _, _, h⟩ | ⟨_, _, _, h, _⟩ | ⟨_, _, _, _, _, h, _⟩ <;> cases h
 | _ => simp [jAK, Option.bind_eq_some_iff] at h
theorem jSY {ow L : List Nat} {code : Code} (h : jAK P N ow L code = some .ret) : code = .ret := by
 cases code with
 | ret => rfl
 | region id ops d => rcases jBI h with ⟨_, _, _, h⟩ | ⟨_, _, _, h, _⟩ | ⟨_, _, _, _, _, h, _⟩ <;> cases h
 | _ => simp [jAK, Option.bind_eq_some_iff] at h
theorem jPR {ow L : List Nat} {code : Code} {id : Nat} (h : jAK P N ow L code = some (.exit id)) : code = .exit id := by
 cases code with
 | exit id => simp [jAK] at h; rw [h]
 | region id ops d => rcases jBI h with ⟨_, _, _, h⟩ | ⟨_, _, _, h, _⟩ | ⟨_, _, _, _, _, h, _⟩ <;> cases h
 | _ => simp [jAK, Option.bind_eq_some_iff] at h
theorem PW.seq {x y : jB1} (h : PW P G N mv x env μ (kD0 P G N mv y Q)) : PW P G N mv (.seq x y) env μ Q := by
 intro ow L code hc jD8 C a w κ hmv hR
 obtain ⟨x0, y0, rfl, hx, hy⟩ := jSX hc
 refine wp_seq (wp_mono (h ow L x0 hx jD8 C a w κ hmv hR) ?_)
 rintro e a' w' ⟨env', μ', κ', hq, hR'⟩
 cases e with
 | normal => exact hq ow L y0 hy jD8 C a' w' κ' hmv hR'
 | exit id => exact ⟨env', μ', κ', hq, hR'⟩
 | goto l => exact ⟨env', μ', κ', hq, hR'⟩
 | ret => exact ⟨env', μ', κ', hq, hR'⟩
 | panic ch => exact ⟨env', μ', κ', hq, hR'⟩
 | outgrown => exact ⟨env', μ', κ', hq, hR'⟩
theorem PW.skip (h : Q .normal env μ) : PW P G N mv .skip env μ Q := by
 intro ow L code hc _ C a w κ _ hR
 obtain rfl := jPQ hc
 exact wp_skip ⟨_, _, _, h, hR⟩
theorem PW.ret (h : Q .ret env μ) : PW P G N mv .ret env μ Q := by
 intro ow L code hc _ C a w κ _ hR
 obtain rfl := jSY hc
 exact wp_ret ⟨_, _, _, h, hR⟩
theorem PW.exit {id : Nat} (h : Q (.exit id) env μ) : PW P G N mv (.exit id) env μ Q := by
 intro ow L code hc _ C a w κ _ hR
 obtain rfl := jPR hc
 exact wp_exit ⟨_, _, _, h, hR⟩
theorem PW.cond {c : Opd} {x y : jB1} {b : Bool} (hb : jAM G env c = .bool b) (ht : b = true -> PW P G N mv x env μ Q) (hf : b = false -> PW P G N mv y env μ Q) : PW P G N mv (.cond c x y) env μ Q := by
 intro ow L code hc jD8 C a w κ hmv hR
 obtain ⟨c0, x0, y0, rfl, hc0, hx, hy⟩ := jPS hc
 have hv := jDS hR.regs hR.globs hc0
 rw [hb] at hv
 exact wp_cond_split (jCC hv) (fun h => ht h ow L x0 hx jD8 C a w κ hmv hR) (fun h => hf h ow L y0 hy jD8 C a w κ hmv hR)
def jJT (id : Nat) (Q : Post) : Post := fun e env μ =>
 match e with
 | .exit id' => if id' = id then Q .normal env μ else Q (.exit id') env μ
 | e => Q e env μ
theorem PW.block {id : Nat} {x : jB1} (h : PW P G N mv x env μ (jJT id Q)) : PW P G N mv (.block id x) env μ Q := by
 intro ow L code hc jD8 C a w κ hmv hR
 obtain ⟨x0, rfl, hx⟩ := jMV hc
 refine wp_block (wp_mono (h ow L x0 hx jD8 C a w κ hmv hR) ?_)
 rintro e a' w' ⟨env', μ', κ', hq, hR'⟩
 cases e with
 | exit id' =>
  simp only [jJT, Exit.inBlock] at hq ⊢
  by_cases hid : id' = id
  ·rw [if_pos hid] at hq ⊢; exact ⟨env', μ', κ', hq, hR'⟩
  ·rw [if_neg hid] at hq ⊢; exact ⟨env', μ', κ', hq, hR'⟩
 | normal => exact ⟨env', μ', κ', hq, hR'⟩
 | goto l => exact ⟨env', μ', κ', hq, hR'⟩
 | ret => exact ⟨env', μ', κ', hq, hR'⟩
 | panic ch => exact ⟨env', μ', κ', hq, hR'⟩
 | outgrown => exact ⟨env', μ', κ', hq, hR'⟩
def jQK (Q : Post) : Post := fun e env μ =>
 match e with
 | .goto _ => False
 | e => Q e env μ
theorem jHR : jQK Q .normal env μ = Q .normal env μ := rfl
theorem jM7 : jQK Q .ret env μ = Q .ret env μ := rfl
theorem jKS (id : Nat) : jQK Q (.exit id) env μ = Q (.exit id) env μ := rfl
theorem PW.scope {x : jB1} (h : PW P G N mv x env μ (jQK Q)) : PW P G N mv (.scope x) env μ Q := by
 intro ow L code hc jD8 C a w κ hmv hR
 obtain ⟨x0, rfl, hx⟩ := jMT hc
 refine wp_scope_straight (wp_mono (h ow L x0 hx jD8 C a w κ hmv hR) ?_)
 rintro e a' w' ⟨env', μ', κ', hq, hR'⟩
 cases e with
 | goto l => exact hq.elim
 | normal => exact ⟨env', μ', κ', hq, hR'⟩
 | exit id => exact ⟨env', μ', κ', hq, hR'⟩
 | ret => exact ⟨env', μ', κ', hq, hR'⟩
 | panic ch => exact ⟨env', μ', κ', hq, hR'⟩
 | outgrown => exact ⟨env', μ', κ', hq, hR'⟩
theorem PW.label (h : Q .normal env μ) : PW P G N mv .label env μ Q := by
 intro ow L code hc _ C a w κ _ hR
 obtain ⟨l, rfl⟩ := jMU hc
 exact wp_label ⟨_, _, _, h, hR⟩
theorem PW.mono {x : jB1} {Q' : Post} (h : PW P G N mv x env μ Q) (hq : ∀ e env μ, Q e env μ -> Q' e env μ) : PW P G N mv x env μ Q' := by
 intro ow L code hc jD8 C a w κ hmv hR
 exact wp_mono (h ow L code hc jD8 C a w κ hmv hR) fun e a' w' ⟨env', μ', κ', hq', hR'⟩ => ⟨env', μ', κ', hq _ _ _ hq', hR'⟩
theorem PW.weak {x : jB1} {env' : Env} (h : PW P G N mv x env' μ Q) (he : ∀ i, env'.get i = env.get i ∨ env'.get i = .junk) : PW P G N mv x env μ Q := by
 intro ow L code hc jD8 C a w κ hmv hR
 exact h ow L code hc jD8 C a w κ hmv (hR.weak he)
def jYL {σ : Type} (vars : List Nat) (vals : σ -> List PV) (mem : σ -> Mem) (Inv : σ -> Prop) (meas : σ -> Nat) (s : σ) (Q : Post) : Post := fun e env μ =>
 match e with
 | .normal => ∃ s', jE9 vars env = vars.zip (vals s') ∧ μ = mem s' ∧ Inv s' ∧ meas s' < meas s
 | e => Q e env μ
theorem PW.loop {σ : Type} (vars : List Nat) (vals : σ -> List PV) (mem : σ -> Mem) (Inv : σ -> Prop) (meas : σ -> Nat) (s0 : σ) {x : jB1} (h0 : jE9 vars env = vars.zip (vals s0)) (hm : μ = mem s0) (hI : Inv s0)
  (round : ∀ s, Inv s -> PW P G N mv x (vars.zip (vals s)) (mem s) (jYL vars vals mem Inv meas s Q)) : PW P G N mv (.loop x) env μ Q := by
 intro ow L code hc jD8 C a w κ hmv hR
 obtain ⟨x0, rfl, hx⟩ := jII hc
 refine wp_loop_ghost (fun n a w => ∃ s κ, meas s = n ∧ Inv s ∧ SR G N C a w κ (vars.zip (vals s)) (mem s)) (meas s0) ⟨s0, κ, rfl, hI, by rw [<- h0, <- hm]; exact hR.weak (jD4 _ _)⟩ ?_
 rintro n a w ⟨s, κ, rfl, hI, hR⟩
 refine wp_mono (round s hI ow L x0 hx jD8 C a w κ hmv hR) ?_
 rintro e a' w' ⟨env', μ', κ', hq, hR'⟩
 cases e with
 | normal =>
  obtain ⟨s', hs1, hs2, hs3, hs4⟩ := hq
  exact ⟨meas s', hs4, s', κ', rfl, hs3, by rw [<- hs1, <- hs2]; exact hR'.weak (jD4 _ _)⟩
 | exit id' => exact ⟨env', μ', κ', hq, hR'⟩
 | goto l => exact ⟨env', μ', κ', hq, hR'⟩
 | ret => exact ⟨env', μ', κ', hq, hR'⟩
 | panic ch => exact ⟨env', μ', κ', hq, hR'⟩
 | outgrown => exact ⟨env', μ', κ', hq, hR'⟩
theorem PW.own {x : jB1} (sh : Sh) (i : Nat) (hi : env.get i = .jAH) (h : PW P G N mv x ((i, .sl sh μ.length 0) :: env) (μ ++ [some (.row sh [])]) Q) : PW P G N mv x env μ Q := by
 intro ow L code hc jD8 C a w κ hmv hR
 obtain ⟨hG, hS'⟩ := hR.sim.jCE sh
 refine h ow L code hc jD8 C a w _ hmv ⟨hR.size, hR.defers, fun j => ?_, hS', jBV hR.globs hG, hR.goes.trans (hG.weak fun _ h => h.elim)⟩
 simp only [Env.get]
 split
 ·rename_i hij
  subst hij
  have := hR.regs i
  rw [hi] at this
  rw [jDC this]
  exact .slnil sh μ.length (by simp)
 ·exact (hR.regs j).still hG
inductive RVar where
 | tmp (t : Nat)
 | cell (t : Nat) (sh : Sh)
 deriving Inhabited
def jGY (P : Program) : ResultVar -> Option RVar
  | .tmp t => some (.tmp t)
  | .cell a t => (jEZ P t).map fun sh => .cell a sh
def RVar.val (env : Env) (μ : Mem) : RVar -> PV
 | .tmp t => env.get t
 | .cell t sh => rdV μ (.load sh) [env.get t]
def RVar.ok (env : Env) (μ : Mem) : RVar -> Prop
 | .tmp _ => True
 | .cell t sh => rdD μ (.load sh) [env.get t]
def jHM (env : Env) (μ : Mem) : List RVar -> Prop
 | [] => True
 | r :: rs => r.ok env μ ∧ jHM env μ rs
def jQS (vs : List PV) : PV :=
 match vs with
 | [v] => v
 | vs => .tup vs
def jU7 (a : Act) : ResultVar -> Sem Value
 | .tmp t => pure (a.tmps.getD t undef)
 | .cell b t => do loadVar t (<- asAddr (a.tmps.getD b undef))
theorem jX5 {r0 : ResultVar} {r : RVar} (hS : Sim w κ μ) {a : Act} (hR : jZD w (own κ) κ a env) (hc : jGY P r0 = some r) (hok : r.ok env μ) :
  ∃ v, Rep w (own κ) κ v (r.val env μ) ∧ (jU7 a r0).run P w = .ok v w := by
 cases r0 with
 | tmp t =>
  simp [jGY] at hc; subst hc
  exact ⟨_, hR t, rfl⟩
 | cell b t =>
  simp only [jGY, Option.map_eq_some_iff] at hc
  obtain ⟨sh, hsh, rfl⟩ := hc
  simp only [RVar.ok, rdD] at hok
  split at hok
  ·rename_i sh' y off hb
   obtain ⟨kRK, b', o', hv, hcl⟩ := jMF hS (hR b) hb
   obtain ⟨v, hrv, hrun⟩ := jWJ (P := P) hsh kRK hcl hok
   refine ⟨v, ?_, ?_⟩
   ·simp only [RVar.val, rdV, hb]; exact hrv
   ·simp [jU7, hv, asAddr, hrun w (Same.refl w)]
  ·exact hok.elim
theorem jKX {fn : Func} {rs : List RVar} (hS : Sim w κ μ) {a : Act} (hR : jZD w (own κ) κ a env) (hc : fn.results.toList.mapM (jGY P) = some rs) (hok : jHM env μ rs) :
  ∃ v, Rep w (own κ) κ v (jQS (rs.map (RVar.val env μ))) ∧ (results fn a.tmps).run P w = .ok v w := by
 have key : ∀ (l : List ResultVar) (rs : List RVar), l.mapM (jGY P) = some rs -> jHM env μ rs ->
   ∃ vs : List Value, vs.length = rs.length ∧ (∀ (i : Nat) (v : Value) (p : PV), vs[i]? = some v -> (rs.map (RVar.val env μ))[i]? = some p -> Rep w (own κ) κ v p) ∧
    (l.mapM (jU7 a)).run P w = .ok vs w := by
  intro l
  induction l with
  | nil => intro rs h _; simp at h; subst h; exact ⟨[], rfl, fun i v p h => by simp at h, rfl⟩
  | cons r0 l ih =>
   intro rs h hok
   simp only [List.mapM_cons, Option.bind_eq_bind, Option.bind_eq_some_iff] at h
   obtain ⟨r, hr, rs', hrs, h⟩ := h
   simp at h; subst h
   obtain ⟨v, hv, hrun⟩ := jX5 hS hR hr hok.1
   obtain ⟨vs, h1, h2, h3⟩ := ih rs' hrs hok.2
   refine ⟨v :: vs, by simp [h1], fun i u p hu hp => ?_, ?_⟩
   ·cases i with
    | zero => simp at hu hp; subst hu; subst hp; exact hv
    | succ i => exact h2 i u p (by simpa using hu) (by simpa using hp)
   ·simp only [List.mapM_cons, Sem.run_bind, hrun, Result.andThen_ok, h3, Sem.run_pure]
 obtain ⟨vs, h1, h2, h3⟩ := key _ _ hc hok
 have hrun : (results fn a.tmps).run P w = .ok (if h : vs.toArray.size = 1 then vs.toArray[0] else .tuple vs.toArray) w := by
  show (do let vs <- fn.results.mapM (jU7 a); pure (if h : vs.size = 1 then vs[0] else .tuple vs) : Sem Value).run P w = _
  rw [Array.mapM_eq_mapM_toList]
  simp only [Sem.run_bind, Sem.run_map, h3, Result.andThen_ok, Sem.run_pure]
 refine ⟨_, ?_, hrun⟩
 clear hc hok h3 hrun key
 match rs, vs, h1, h2 with
 | [r], [v], _, h2 => exact h2 0 v _ rfl rfl
 | [], [], _, _ => exact .tup #[] [] rfl (fun i v p h => by simp at h)
 | r :: r' :: rs, v :: v' :: vs, h1, h2 =>
  rw [dif_neg (by simp)]
  exact .tup _ _ (by simpa using h1) (fun i u p hu hp => h2 i u p (by simpa using hu) hp)
structure CF where
 N : Nat
 code : jB1
 rs : List RVar
 deriving Inhabited
def jAD (P : Program) (ow L : List Nat) (fn : Func) : Option CF :=
  fn.body.bind fun b => (jAK P fn.ntmps ow L b).bind fun c => (fn.results.toList.mapM (jGY P)).map fun rs => ⟨fn.ntmps, c, rs⟩
def jBW (n : Nat) : List PV -> Env
 | [] => []
 | p :: ps => (n, p) :: jBW (n + 1) ps
theorem jPX : ∀ (ps : List PV) (n i : Nat), (jBW n ps).get i = if n <= i then (ps[i - n]?).getD .junk else .junk
 | [], n, i => by simp [jBW, Env.get]
 | p :: ps, n, i => by
  simp only [jBW, Env.get]
  by_cases h : n = i
  ·subst h; simp
  ·rw [if_neg h, jPX ps (n + 1) i]
   by_cases h2 : n <= i
   ·rw [if_pos (by omega), if_pos h2]
    obtain ⟨d, hd⟩ : ∃ d, i - n = d + 1 := ⟨i - n - 1, by omega⟩
    rw [hd, List.getElem?_cons_succ]
    congr 2; omega
   ·rw [if_neg (by omega), if_neg h2]
def kPJ (rs : List RVar) (res : PV) : Post := fun e env μ =>
 match e with
 | .normal | .ret => jHM env μ rs ∧ (jQS (rs.map (RVar.val env μ))).seen μ = true ∧ (jQS (rs.map (RVar.val env μ))).view μ = res
 | _ => False
theorem jAB.jAT {f : Nat} {fn : Func} {ow L : List Nat} {cf : CF} (hf : P.funcs[f]? = some fn) (hc : jAD P ow L fn = some cf) (jD8 : P.follows .mixedOrders = true) {args : List PV} {res : PV} (hn : args.length <= cf.N)
  (h : PW P G cf.N (fun _ => true) cf.code (jBW 0 args) [] (kPJ cf.rs res)) : jAB P G f args res := by
 intro w ex vs hex hG hv
 simp only [jAD, Option.bind_eq_some_iff, Option.map_eq_some_iff] at hc
 obtain ⟨b, hb, c, hcc, rs, hrs, rfl⟩ := hc
 refine calls_of_wp hf hb ?_
 have hex' : own ⟨fun _ => none, ex⟩ = ex := by
  funext b
  simp only [own, eq_iff_iff]
  exact ⟨fun h => h.elim id (fun ⟨t, ht⟩ => by simp at ht), .inl⟩
 let C : Ctx := ⟨w, ⟨fun _ => none, ex⟩, fun _ => true⟩
 have hS : Sim w ⟨fun _ => none, ex⟩ [] := ⟨fun t t' b h => by simp at h, fun t b h => by simp at h, fun t c h => by simp at h, fun t o h => by simp at h, hex, fun t b h => by simp at h⟩
 have hR : SR G fn.ntmps C { tmps := vs ++ Array.replicate (fn.ntmps - vs.size) undef, defers := [] } w ⟨fun _ => none, ex⟩ (jBW 0 args) [] := by
  refine ⟨by have := hv.1; simp; simp at hn; omega, rfl, fun i => ?_, hS, by rw [hex']; exact hG, Goes.refl _ _ _⟩
  rw [jPX, if_pos (Nat.zero_le _), Nat.sub_zero]
  cases hp : args[i]? with
  | none => exact .junk _
  | some p =>
   have hi : i < args.length := (List.getElem?_eq_some_iff.1 hp).1
   have hiv : i < vs.size := by rw [hv.1]; exact hi
   have hgd : (vs ++ Array.replicate (fn.ntmps - vs.size) undef).getD i undef = vs[i] := by
    rw [Array.getD_eq_getD_getElem?, Array.getElem?_append_left hiv, Array.getElem?_eq_getElem hiv]; rfl
   simp only [Option.getD_some]
   rw [hgd, hex']
   exact .closed (hv.2 i _ p (Array.getElem?_eq_getElem hiv) hp)
 refine wp_mono (h ow L b hcc jD8 C _ w _ rfl hR) ?_
 rintro e a' w' ⟨env', μ', κ', hq, hR'⟩
 have fin : (jHM env' μ' rs ∧ (jQS (rs.map (RVar.val env' μ'))).seen μ' = true ∧ (jQS (rs.map (RVar.val env' μ'))).view μ' = res) ->
   a'.defers = [] ∧ ∃ v, (results fn a'.tmps).run P w' = .ok v w' ∧ (∃ v', Ending.returned v = .returned v' ∧ RowKit.Below w.heap.size w w' ∧ jAW w' ex v' res) := by
  rintro ⟨h1, h2, h3⟩
  obtain ⟨v, hv', hrun⟩ := jKX hR'.sim hR'.regs hrs h1
  refine ⟨hR'.defers, v, hrun, v, rfl, ?_, ?_⟩
  ·have hg := hR'.goes
   refine ⟨hg.os, hg.tape, hg.output, hg.size, fun k hk => ?_⟩
   exact hg.block k hk (fun ⟨t, ht⟩ => by simp [C] at ht)
  ·have := jOV hR'.sim hv' h2
   rw [h3, hR'.goes.ex] at this
   exact this
 cases e with
 | normal => exact fin hq
 | ret => exact fin hq
 | exit id' => exact hq.elim
 | goto l => exact hq.elim
 | panic ch => exact hq.elim
 | outgrown => exact hq.elim
end
def jJO (want : Bool) (p : PV) (f : Bool -> Prop) : Prop :=
 match kL4 want p with
 | some b => f b
 | none => False
theorem jLP (want b : Bool) (f : Bool -> Prop) : jJO want (.bool b) f = f b := rfl
theorem jLO (want c b : Bool) (f : Bool -> Prop) : jJO want (.cond c (.bool b)) f = f (if c = true then b else !want) := by cases c <;> rfl
@[congr] theorem kHF {want : Bool} {p p' : PV} {f : Bool -> Prop} (h : p = p') : jJO want p f = jJO want p' f := by rw [h]
section
variable {P : Program} {G : jA3} {q : Bool} {mv : Nat -> Bool} {d : Option Nat} {rest : List CO} {env : Env} {μ : Mem} {K : Env -> Mem -> Prop} {args : List Opd}
@[congr] theorem kKH {l : List CO} {env env' : Env} {μ μ' : Mem} (he : env = env') (hm : μ = μ') : jDG P G q mv l env μ K = jDG P G q mv l env' μ' K := by rw [he, hm]
theorem jVL : jDG P G q mv [] env μ K = K env μ := rfl
theorem kBK {k : RK} : jDG P G q mv (⟨d, none, .rd k args⟩ :: rest) env μ K = (rdD μ k (args.map (jAM G env)) ∧ jDG P G q mv rest (jGR env d (rdV μ k (args.map (jAM G env)))) μ K) := rfl
theorem jVK {k : RK} {r : Nat} {want : Bool} : jDG P G q mv (⟨d, some (r, want), .rd k args⟩ :: rest) env μ K =
  jJO want (env.get r) fun b => (b = want -> gOk k (args.map (jAM G env)) ∧ rdD μ k (jMP k (args.map (jAM G env)))) ∧
   jDG P G q mv rest (jGR env d (.cond (b == want) (rdV μ k (jMP k (args.map (jAM G env)))))) μ K := rfl
def kJ3 (P : Program) (G : jA3) (mv : Nat -> Bool) (d : Option Nat) (rest : List CO) (env : Env) (K : Env -> Mem -> Prop) (μ : Mem) (k : EK) (ps : List PV) : Prop :=
 jCG μ k ps fun p dead μ' => jFH mv dead ∧ jDG P G false mv rest (jGR (jI5 env dead) d p) μ' K
@[congr] theorem kKK {env env' : Env} {μ μ' : Mem} {k k' : EK} {ps ps' : List PV} (he : env = env') (hm : μ = μ') (hk : k = k') (hp : ps = ps') : kJ3 P G mv d rest env K μ k ps = kJ3 P G mv d rest env' K μ' k' ps' := by rw [he, hm, hk, hp]
theorem jVM {k : EK} : jDG P G false mv (⟨d, none, .eff k args⟩ :: rest) env μ K = kJ3 P G mv d rest env K μ k (args.map (jAM G env)) := by
 simp [jDG, stepW, kJ3]
theorem jRE {k : EK} {r : Nat} {want : Bool} : jDG P G false mv (⟨d, some (r, want), .eff k args⟩ :: rest) env μ K =
  jJO want (env.get r) fun b => (b = want -> jCQ (args.map (jAM G env)) ∧ kJ3 P G mv d rest env K μ k ((args.map (jAM G env)).map (PV.under true))) ∧
   (b ≠ want -> jDG P G false mv rest (jGR env d .junk) μ K) := by
 simp only [jDG, stepW, jJO, stepG, kJ3]
 cases kL4 want (env.get r) <;> simp
def jG6 (P : Program) (G : jA3) (q : Bool) (mv : Nat -> Bool) (d : Option Nat) (rest : List CO) (env : Env) (K : Env -> Mem -> Prop) (μ : Mem) (f : PV) (as : List PV) : Prop :=
 jMC P G q f as μ fun p dead μ' => jFH mv dead ∧ jDG P G q mv rest (jGR (jI5 env dead) d p) μ' K
@[congr] theorem kHG {env env' : Env} {μ μ' : Mem} {f f' : PV} {as as' : List PV} (he : env = env') (hm : μ = μ') (hf : f = f') (ha : as = as') : jG6 P G q mv d rest env K μ f as = jG6 P G q mv d rest env' K μ' f' as' := by rw [he, hm, hf, ha]
theorem jRF {f : Opd} : jDG P G q mv (⟨d, none, .call f args⟩ :: rest) env μ K = jG6 P G q mv d rest env K μ (jAM G env f) (args.map (jAM G env)) := rfl
def jEG (P : Program) (G : jA3) (q : Bool) (mv : Nat -> Bool) (d : Option Nat) (rest : List CO) (env : Env) (K : Env -> Mem -> Prop) (μ : Mem) (b want : Bool) (f : PV) (as : List PV) : Prop :=
 ∃ res, (b = want -> f.jBM true ∧ jCQ as ∧ jMB P G (f.under true) (as.map (PV.under true)) μ res ∧ (q = true -> res.flat = true)) ∧ jDG P G q mv rest (jGR env d (.cond (b == want) res)) μ K
@[congr] theorem kFB {env env' : Env} {μ μ' : Mem} {b b' want want' : Bool} {f f' : PV} {as as' : List PV} (he : env = env') (hm : μ = μ') (hb : b = b') (hw : want = want') (hf : f = f') (ha : as = as') :
  jEG P G q mv d rest env K μ b want f as = jEG P G q mv d rest env' K μ' b' want' f' as' := by rw [he, hm, hb, hw, hf, ha]
theorem jNJ {f : Opd} {r : Nat} {want : Bool} : jDG P G q mv (⟨d, some (r, want), .call f args⟩ :: rest) env μ K =
  jJO want (env.get r) fun b => jEG P G q mv d rest env K μ b want (jAM G env f) (args.map (jAM G env)) := rfl
theorem jAO {f : Nat} {ps qs as : List PV} {res : PV} (hE : Ent P f) (hV : jAB P G f ((ps ++ as ++ qs).map (PV.view μ)) res) (hs : ((ps ++ as ++ qs).map (PV.seen μ)).all id = true) (hf : res.flat = true ∨ q = false ∧ ((ps ++ as ++ qs).map PV.jA5).all id = true)
  (h : jDG P G q mv rest (jGR env d res) μ K) : jG6 P G q mv d rest env K μ (.fn f ps qs) as := by
 refine .inl ⟨res, ⟨hE, 0, hV, hs, hf.imp id fun h => ⟨rfl, h.2⟩⟩, fun hq => ?_, trivial, h⟩
 rcases hf with hf | ⟨hf, -⟩
 ·exact hf
 ·rw [hq] at hf; cases hf
theorem jDQ {b want : Bool} {f : Nat} {ps qs as : List PV} {res : PV} (hE : Ent P f) (hok : b = want -> jCQ as) (hV : b = want -> jAB P G f ((ps ++ as.map (PV.under true) ++ qs).map (PV.view μ)) res)
  (hs : b = want -> ((ps ++ as.map (PV.under true) ++ qs).map (PV.seen μ)).all id = true) (hf : res.flat = true)
  (h : jDG P G q mv rest (jGR env d (.cond (b == want) res)) μ K) : jEG P G q mv d rest env K μ b want (.fn f ps qs) as :=
 ⟨res, fun hb => ⟨trivial, hok hb, ⟨hE, 0, hV hb, hs hb, .inl hf⟩, fun _ => hf⟩, h⟩
theorem jY1 {b want c : Bool} {f : Nat} {ps qs as : List PV} {res : PV} (hE : Ent P f) (hc : b = want -> c = true) (hok : b = want -> jCQ as) (hV : b = want -> jAB P G f ((ps ++ as.map (PV.under true) ++ qs).map (PV.view μ)) res)
  (hs : b = want -> ((ps ++ as.map (PV.under true) ++ qs).map (PV.seen μ)).all id = true) (hf : res.flat = true)
  (h : jDG P G q mv rest (jGR env d (.cond (b == want) res)) μ K) : jEG P G q mv d rest env K μ b want (.cond c (.fn f ps qs)) as :=
 ⟨res, fun hb => ⟨fun _ => hc hb, hok hb, ⟨hE, 0, hV hb, hs hb, .inl hf⟩, fun _ => hf⟩, h⟩
theorem jVA (env : Env) (i : Nat) (p : PV) : jGR env (some i) p = (i, p) :: env := rfl
theorem jVC (env : Env) (p : PV) : jGR env none p = env := rfl
theorem jRZ (env : Env) : jI5 env none = env := rfl
theorem jJ7 (j i : Nat) (p : PV) (e : Env) : Env.get ((j, p) :: e) i = if j = i then p else Env.get e i := rfl
theorem get_nil (i : Nat) : Env.get [] i = .junk := rfl
theorem jWV (G : jA3) (env : Env) (t : Nat) : jAM G env (.tmp t) = env.get t := rfl
theorem kC1 (G : jA3) (env : Env) (p : PV) : jAM G env (.pv p) = p := rfl
theorem jWM (env : Env) : jE9 [] env = [] := rfl
theorem jR4 (i : Nat) (L : List Nat) (env : Env) : jE9 (i :: L) env = (i, env.get i) :: jE9 L env := rfl
@[congr] theorem kGP {s : jFW} {env env' : Env} {μ μ' : Mem} (he : env = env') (hm : μ = μ') : jCD P G mv s env μ K = jCD P G mv s env' μ' K := by rw [he, hm]
theorem jOP (h : K env μ) : jCD P G mv .done env μ K := h
variable {N : Nat} {Q : Post} {b : jB1}
theorem jKR : kD0 P G N mv b Q .normal env μ = PW P G N mv b env μ Q := rfl
theorem jUW : kD0 P G N mv b Q .ret env μ = Q .ret env μ := rfl
theorem jQJ (id : Nat) : kD0 P G N mv b Q (.exit id) env μ = Q (.exit id) env μ := rfl
theorem jIL (id : Nat) : jJT id Q .normal env μ = Q .normal env μ := rfl
theorem jN9 (id : Nat) : jJT id Q .ret env μ = Q .ret env μ := rfl
theorem jMD (id id' : Nat) : jJT id Q (.exit id') env μ = if id' = id then Q .normal env μ else Q (.exit id') env μ := rfl
theorem jRV {σ : Type} (vars : List Nat) (vals : σ -> List PV) (mem : σ -> Mem) (Inv : σ -> Prop) (meas : σ -> Nat) (s : σ) : jYL vars vals mem Inv meas s Q .ret env μ = Q .ret env μ := rfl
theorem jNO {σ : Type} (vars : List Nat) (vals : σ -> List PV) (mem : σ -> Mem) (Inv : σ -> Prop) (meas : σ -> Nat) (s : σ) (id : Nat) : jYL vars vals mem Inv meas s Q (.exit id) env μ = Q (.exit id) env μ := rfl
theorem jJL {σ : Type} (vars : List Nat) (vals : σ -> List PV) (mem : σ -> Mem) (Inv : σ -> Prop) (meas : σ -> Nat) (s : σ) :
  jYL vars vals mem Inv meas s Q .normal env μ = ∃ s', jE9 vars env = vars.zip (vals s') ∧ μ = mem s' ∧ Inv s' ∧ meas s' < meas s := rfl
theorem jL1 (rs : List RVar) (res : PV) : kPJ rs res .normal env μ = (jHM env μ rs ∧ (jQS (rs.map (RVar.val env μ))).seen μ = true ∧ (jQS (rs.map (RVar.val env μ))).view μ = res) := rfl
theorem jWZ (rs : List RVar) (res : PV) : kPJ rs res .ret env μ = (jHM env μ rs ∧ (jQS (rs.map (RVar.val env μ))).seen μ = true ∧ (jQS (rs.map (RVar.val env μ))).view μ = res) := rfl
@[congr] theorem kN3 {env env' : Env} {μ μ' : Mem} (he : env = env') (hm : μ = μ') : PW P G N mv b env μ Q = PW P G N mv b env' μ' Q := by rw [he, hm]
@[congr] theorem kKG {e e' : Exit} {env env' : Env} {μ μ' : Mem} (hx : e = e') (he : env = env') (hm : μ = μ') : kD0 P G N mv b Q e env μ = kD0 P G N mv b Q e' env' μ' := by rw [hx, he, hm]
@[congr] theorem kHM {id : Nat} {e e' : Exit} {env env' : Env} {μ μ' : Mem} (hx : e = e') (he : env = env') (hm : μ = μ') : jJT id Q e env μ = jJT id Q e' env' μ' := by rw [hx, he, hm]
@[congr] theorem kIK {σ : Type} {vars : List Nat} {vals : σ -> List PV} {mem : σ -> Mem} {Inv : σ -> Prop} {meas : σ -> Nat} {s : σ} {e e' : Exit} {env env' : Env} {μ μ' : Mem} (hx : e = e') (he : env = env') (hm : μ = μ') :
  jYL vars vals mem Inv meas s Q e env μ = jYL vars vals mem Inv meas s Q e' env' μ' := by rw [hx, he, hm]
theorem jW9 (sh : Sh) (x : PV) : cut sh sh x 0 = x := by simp [cut]
theorem jWC (o : Option jAF) (μ : Mem) : Mem.get (o :: μ) 0 = o := by cases o <;> rfl
theorem jWB (o : Option jAF) (μ : Mem) : Mem.get (o :: μ) 1 = Mem.get μ 0 := by simp [Mem.get]
theorem jWA (o : Option jAF) (μ : Mem) : Mem.get (o :: μ) 2 = Mem.get μ 1 := by simp [Mem.get]
theorem jV9 (o : Option jAF) (μ : Mem) : Mem.get (o :: μ) 3 = Mem.get μ 2 := by simp [Mem.get]
theorem jZO (b : UInt8) : IntKind.u8.wrap ((b.toNat : Int) - 48) = ((b - 48).toNat : Int) := by
 rw [UInt8.toNat_sub]
 have := b.toNat_lt
 simp [IntKind.wrap, IntKind.bits, IntKind.signed]
 omega
theorem kHB (b : UInt8) : IntKind.i64.wrap (b.toNat : Int) = (b.toNat : Int) := by
 have := b.toNat_lt
 simp [IntKind.wrap, IntKind.bits, IntKind.signed]
 omega
theorem jM0 (l : List UInt8) : (u8s l).length = l.length := by simp [u8s]
theorem kEI (l : List UInt8) (i : Nat) (h : i < l.length) : (u8s l).getD i .junk = .int .u8 (l.getD i 0).toNat := by simp [u8s, List.getD, h]
theorem kGK (u : Nat) : Int.tdiv (u : Int) 10 = ((u / 10 : Nat) : Int) := by
 rw [Int.tdiv_eq_ediv_of_nonneg (by omega)]; omega
theorem jXF (x : Bool) : (x = false -> (!x) = true) = True := by cases x <;> simp
theorem kG8 (x y : Bool) : (if x = true then true else y) = (x || y) := by cases x <;> rfl
theorem kCA (x y : Bool) : (if x = true then y else false) = (x && y) := by cases x <;> rfl
theorem kL2 (p : PV) (l : List PV) : (p :: l).getD 0 .junk = p := rfl
theorem kL1 (p q : PV) (l : List PV) : (p :: q :: l).getD 1 .junk = q := rfl
theorem kL0 (p q r : PV) (l : List PV) : (p :: q :: r :: l).getD 2 .junk = r := rfl
theorem kLZ (p q r s : PV) (l : List PV) : (p :: q :: r :: s :: l).getD 3 .junk = s := rfl
theorem jRH : jCQ [] = True := rfl
theorem jNM (p : PV) (ps : List PV) : jCQ (p :: ps) = (p.jBM true ∧ jCQ ps) := rfl
theorem jGJ (a b : Nat) : ((a : Int) + (b : Int)).toNat = a + b := by omega
theorem jGK (a : Nat) : ((a : Int) + 1).toNat = a + 1 := by omega
end
def kID {α : Type} (o : Option α) (f : α -> Prop) : Prop :=
 match o with
 | some a => f a
 | none => False
theorem jRD {α : Type} (a : α) (f : α -> Prop) : kID (some a) f = f a := rfl
def kOB (o : Option jAF) (f : Sh -> List PV -> Prop) : Prop :=
 match o with
 | some (.row sh xs) => f sh xs
 | _ => False
theorem jU4 (sh : Sh) (xs : List PV) (f : Sh -> List PV -> Prop) : kOB (some (.row sh xs)) f = f sh xs := rfl
def kPW (o : Option jAF) (f : Sh -> PV -> Prop) : Prop :=
 match o with
 | some (.var sh x) => f sh x
 | _ => False
theorem jUL (sh : Sh) (x : PV) (f : Sh -> PV -> Prop) : kPW (some (.var sh x)) f = f sh x := rfl
def mpK (o : Option jAF) (f : KK -> List (PV × PV) -> Prop) : Prop :=
 match o with
 | some (.mp kd es) => f kd es
 | _ => False
def kRA (o : Option jAF) (f g : KK -> List (PV × PV) -> Prop) : Prop :=
 match o with
 | some (.mp kd es) => f kd es
 | some (.mpo kd es) => g kd es
 | _ => False
theorem kG2 (kd : KK) (es : List (PV × PV)) (f : KK -> List (PV × PV) -> Prop) : mpK (some (.mp kd es)) f = f kd es := rfl
def kIO (o : Option jAF) (f : KK -> List (PV × PV) -> List Nat -> Prop) : Prop :=
 match o with
 | some (.iter kd es seen) => f kd es seen
 | _ => False
theorem jNW (kd : KK) (es : List (PV × PV)) (seen : List Nat) (f : KK -> List (PV × PV) -> List Nat -> Prop) : kIO (some (.iter kd es seen)) f = f kd es seen := rfl
def kIM (l : List Nat) (f : Nat -> Prop) : Prop :=
 match l.getLast? with
 | some i => f i
 | none => False
theorem jNT (l : List Nat) (i : Nat) (f : Nat -> Prop) : kIM (l ++ [i]) f = f i := by simp [kIM]
section
variable {P : Program} {G : jA3} {mv : Nat -> Bool} {d : Option Nat} {rest : List CO} {env : Env} {μ : Mem} {K : Env -> Mem -> Prop} {J : PV -> Option Nat -> Mem -> Prop}
theorem kDD {k : EK} {ps : List PV} : kJ3 P G mv d rest env K μ k ps = jCG μ k ps fun p dead μ' => jFH mv dead ∧ jDG P G false mv rest (jGR (jI5 env dead) d p) μ' K := rfl
theorem jL9 : jFH mv none = True := rfl
theorem jL8 (t : Nat) : jFH mv (some t) = (mv t = true) := rfl
theorem jRY (t : Nat) : jI5 env (some t) = env.map fun x => (x.1, x.2.kill (jAR t)) := rfl
theorem jW1 (l : List UInt8) : jCG μ .s2b [.str l] J = (l.length <= 9223372036854775807 ∧ J (.list none (u8s l)) none μ) := rfl
theorem jW7 (p : PV) : jCG μ .b2s [p] J = kID (jCY μ none p) fun ys => jIO ys ∧ J (.str (ys.map byteOf)) none μ := by
 simp only [jCG]; cases jCY μ none p <;> rfl
theorem jN6 (sh : Sh) (z : PV) : jCG μ (.alloc sh z) [] J = J (.ref μ.length 0) none (μ ++ [some (.var sh z)]) := rfl
theorem jW6 (sh : Sh) (v : PV) : jCG μ (.box sh) [v] J = ((jBK v sh).isSome = true ∧ J (.ref μ.length 0) none (μ ++ [some (.var sh v)])) := rfl
theorem jSR (sh : Sh) (ps : List PV) : jCG μ (.lit sh false) ps J = (allFit sh ps ∧ (ps.map PV.jA5).all id = true ∧ ps.length * sh.size <= 16777216 ∧ J (.list sh ps) none μ) := rfl
theorem jSQ (sh : Sh) (ps : List PV) : jCG μ (.lit sh true) ps J = (allFit sh ps ∧ (ps.map PV.jA5).all id = true ∧ ps.length * sh.size <= 16777216 ∧ J (.sl sh μ.length ps.length) none (μ ++ [some (.row sh ps)])) := rfl
theorem jSP (sh : Sh) (z : PV) (bytes : Nat) (k k' : IntKind) (l c : Int) : jCG μ (.make sh z bytes) [.int k l, .int k' c] J = (0 <= l ∧ l <= c ∧ (bytes : Int) * c <= 281474976710656 ∧ c <= 9223372036854775807 ∧ J (.sl sh μ.length l.toNat) none (μ ++ [some (.row sh (List.replicate l.toNat z))])) := rfl
theorem jJS (sh : Sh) (bytes : Nat) (b : PV) : jCG μ (.append sh bytes) [.jAH, b] J = kID (jCY μ sh b) fun ys => ys.length <= 9223372036854775807 ∧ ys.length * bytes <= 140737488355328 ∧ J (.sl sh μ.length ys.length) none (μ ++ [some (.row sh ys)]) := by
 simp only [jCG]; cases jCY μ sh b <;> rfl
theorem jL3 (sh sh' : Sh) (bytes t n : Nat) (b : PV) : jCG μ (.append sh bytes) [.sl sh' t n, b] J = kID (jCY μ sh b) fun ys => kOB (μ.get t) fun jS4 xs => sh' = sh ∧ jS4 = sh ∧ n <= xs.length ∧ n + ys.length <= 9223372036854775807 ∧ (n + ys.length) * bytes <= 140737488355328 ∧
      J (.sl sh t (n + ys.length)) (some t) ((μ.kill (jAR t)).set t (some (.row sh (xs.take n ++ ys)))) := by
 simp only [jCG]
 cases jCY μ sh b with
 | none => rfl
 | some ys => rcases μ.get t with _ | (_ | _ | _ | _ | _) <;> rfl
theorem jGC (sh : Sh) (t n i off : Nat) (v : PV) : jCG μ (.store sh) [.jDX t n i off, v] J = kOB (μ.get t) fun sh' xs => kID (jBK v sh) fun cs => (∀ c ∈ cs, c.scalar = true) ∧ v.jA5 = true ∧ n = sh'.size ∧ i < xs.length ∧ ((off = 0 ∧ sh' = sh) ∨ (sh'.isSome = true ∧ off + sh.size <= sh'.size)) ∧
    J .junk none (μ.set t (some (.row sh' (xs.set i (jBZ sh' sh (xs.getD i .junk) off v))))) := by
 simp only [jCG]
 rcases μ.get t with _ | (_ | _ | _ | _) <;> cases jBK v sh <;> rfl
theorem jG8 (sh : Sh) (t off : Nat) (v : PV) : jCG μ (.store sh) [.ref t off, v] J = kPW (μ.get t) fun sh' x => kID (jBK v sh) fun cs => (∀ c ∈ cs, c.scalar = true) ∧ ((off = 0 ∧ sh' = sh) ∨ (sh'.isSome = true ∧ off + sh.size <= sh'.size)) ∧ J .junk none (μ.set t (some (.var sh' (jBZ sh' sh x off v)))) := by
 simp only [jCG]
 rcases μ.get t with _ | (_ | _ | _ | _) <;> cases jBK v sh <;> rfl
theorem jW4 (kd : KK) : jCG μ (.mmk kd) [] J = J (.mref μ.length) none (μ ++ [some (.mp kd [])]) := rfl
theorem jSN (kd : KK) (t : Nat) (k v : PV) : jCG μ (.jP1 kd) [.mref t, k, v] J = kRA (μ.get t) (fun kd' es => kd' = kd ∧ jBT kd k = true ∧ v.jA5 = true ∧ J .junk none (μ.set t (some (.mp kd (jF7 es k v)))))
  (fun kd' es => kd' = kd ∧ jBT kd k = true ∧ J .junk none (μ.set t (some (.mpo kd (jF7 es k v))))) := by
 simp only [jCG]; rcases μ.get t with _ | (_ | _ | _ | _ | _) <;> rfl
theorem jSO (kd : KK) (z : PV) (t : Nat) (k : PV) : jCG μ (.kNK kd z) [.mref t, k] J = mpK (μ.get t) fun kd' es => kd' = kd ∧ jBT kd k = true ∧ J (.tup [(jFK es k).getD z, .int .i64 (midx es k)]) none (μ.set t (some (.mp kd (jF7 es k ((jFK es k).getD z))))) := by
 simp only [jCG]; rcases μ.get t with _ | (_ | _ | _ | _ | _) <;> rfl
theorem jW3 (t : Nat) (k : IntKind) (i : Int) (v : PV) : jCG μ .mst [.mref t, .int k i, v] J = mpK (μ.get t) fun kd es => 0 <= i ∧ i < es.length ∧ v.jA5 = true ∧ J .junk none (μ.set t (some (.mp kd (es.set i.toNat (enK es i.toNat, v))))) := by
 simp only [jCG]; rcases μ.get t with _ | (_ | _ | _ | _ | _) <;> rfl
theorem jJR (kd : KK) : jCG μ (.rng kd) [.jA0] J = J (.ref μ.length 0) none (μ ++ [some (.iter kd [] [])]) := rfl
theorem jIF (kd kd' : KK) (es : List (PV × PV)) : jCG μ (.rng kd) [.jC9 kd' es] J = (kd' = kd ∧ J (.ref μ.length 0) none (μ ++ [some (.iter kd es [])])) := rfl
theorem jW2 (t : Nat) : jCG μ .nxt [.ref t 0] J = kIO (μ.get t) fun kd es seen => (∀ i, i < es.length -> i ∉ seen -> J (.tup [.bool true, enK es i, enV es i]) none (μ.set t (some (.iter kd es (seen ++ [i]))))) ∧ ((∀ i, i < es.length -> i ∈ seen) -> J (.tup [.bool false]) none μ) := by
 simp only [jCG]; rcases μ.get t with _ | (_ | _ | _ | _ | _) <;> rfl
theorem jW5 (t : Nat) : jCG μ .ent [.ref t 0] J = kIO (μ.get t) fun _ es seen => kIM seen fun i => i < es.length ∧ J (.tup [enK es i, enV es i]) none μ := by
 simp only [jCG]
 rcases μ.get t with _ | (_ | _ | _ | ⟨kd, es, seen⟩) <;> try rfl
theorem jIG (sh sh' : Sh) (bytes : Nat) (xs : List PV) (b : PV) : jCG μ (.append sh bytes) [.full sh' xs, b] J = kID (jCY μ sh b) fun ys => sh' = sh ∧ xs.length + ys.length <= 9223372036854775807 ∧ (xs.length + ys.length) * bytes <= 140737488355328 ∧ 0 < ys.length ∧
  J (.sl sh μ.length (xs.length + ys.length)) none (μ ++ [some (.row sh (xs ++ ys))]) := by
 simp only [jCG]
 cases jCY μ sh b with
 | none => rfl
 | some ys => rfl
theorem kB5 (z : PV) (o : Option PV) : jBQ true z o = .tup [o.getD z, .bool o.isSome] := rfl
theorem kB6 (z : PV) (o : Option PV) : jBQ false z o = o.getD z := rfl
theorem jR1 (s : List UInt8) : jBT .str (.str s) = true := rfl
theorem jR2 (k : IntKind) (n : Int) : jBT (.int k) (.int k n) = true := by simp [jBT]
theorem jQD (sh : Sh) (xs : List PV) (a b : Int) : kAA (.list sh xs) a b = .list sh ((xs.take b.toNat).drop a.toNat) := rfl
theorem jZ9 (sh : Sh) (t n : Nat) (a b : Int) : kAA (.sl sh t n) a b = .sl sh t b.toNat := rfl
theorem jUS (a b : Int) : kAA .jAH a b = .jAH := rfl
theorem jQE (sh sh' : Sh) (xs : List PV) (a b : Int) : kGO sh (.list sh' xs) a b = (sh' = sh ∧ 0 <= a ∧ a <= b ∧ b <= xs.length) := rfl
theorem kAB (sh sh' : Sh) (t n : Nat) (a b : Int) : kGO sh (.sl sh' t n) a b = (sh' = sh ∧ a = 0 ∧ 0 <= b ∧ b <= n) := rfl
theorem jUT (sh : Sh) (a b : Int) : kGO sh .jAH a b = (a = 0 ∧ b = 0) := rfl
theorem jRX (sh : Sh) (xs : List PV) : lenV (.list sh xs) = xs.length := rfl
theorem kB8 (sh : Sh) (t n : Nat) : lenV (.sl sh t n) = n := rfl
theorem jWK : lenV .jAH = 0 := rfl
theorem jNX (sh : Sh) (xs : List PV) (a b m : Int) : jT2 (.list sh xs) a b m = if m = b then .full sh ((xs.take b.toNat).drop a.toNat) else .list sh ((xs.take b.toNat).drop a.toNat) := rfl
theorem jSB (a b m : Int) : jT2 .jAH a b m = .jAH := rfl
theorem jNY (sh sh' : Sh) (xs : List PV) (a b m : Int) : jY2 sh (.list sh' xs) a b m = (sh' = sh ∧ 0 <= a ∧ a <= b ∧ b <= m ∧ m <= xs.length) := rfl
theorem jSC (sh : Sh) (a b m : Int) : jY2 sh .jAH a b m = (a = 0 ∧ b = 0 ∧ m = 0) := rfl
theorem kC7 (k k' : IntKind) (a b : Int) (ks : List Nat) (l l' : List PV) : eqK (0 :: ks) (.int k a :: l) (.int k' b :: l') = (k = k' ∧ eqK ks l l') := rfl
theorem jWX (a b : Bool) (ks : List Nat) (l l' : List PV) : eqK (1 :: ks) (.bool a :: l) (.bool b :: l') = eqK ks l l' := rfl
theorem kC5 (a b : List UInt8) (ks : List Nat) (l l' : List PV) : eqK (2 :: ks) (.str a :: l) (.str b :: l') = eqK ks l l' := rfl
theorem kC6 : eqK [] [] [] = True := rfl
theorem kDB (k k' : IntKind) (a b : Int) (l l' : List PV) : eqC (.int k a :: l) (.int k' b :: l') = (decide (a = b) && eqC l l') := rfl
theorem jWY (a b : Bool) (l l' : List PV) : eqC (.bool a :: l) (.bool b :: l') = (decide (a = b) && eqC l l') := rfl
theorem kC9 (a b : List UInt8) (l l' : List PV) : eqC (.str a :: l) (.str b :: l') = (decide (a = b) && eqC l l') := rfl
theorem kDA : eqC [] [] = true := rfl
theorem jKA : decide True = true := rfl
theorem jIH : decide False = false := rfl
theorem jN5 (sh : Sh) (xs : List PV) : jCY μ sh (.list sh xs) = some xs := by simp [jCY]
theorem jSM (sh : Sh) : jCY μ sh .jAH = some [] := rfl
theorem jJH (sh : Sh) (x p : PV) : jBZ sh sh x 0 p = p := by simp [jBZ]
theorem jNI (k : IntKind) (n : Int) : jBK (.int k n) none = some [.int k n] := rfl
theorem jK5 (b : Bool) : jBK (.bool b) none = some [.bool b] := rfl
theorem jNH (s : List UInt8) : jBK (.str s) none = some [.str s] := rfl
theorem jSG (p : PV) : fits none p = (p.scalar = true) := rfl
theorem jWP (n : Nat) (cs : List PV) : fits (some n) (.agg cs) = (cs.length = n ∧ ∀ c ∈ cs, c.scalar = true) := by
 simp [fits]
theorem jOD (sh : Sh) : allFit sh [] = True := rfl
theorem jMG (sh : Sh) (p : PV) (ps : List PV) : allFit sh (p :: ps) = (fits sh p ∧ allFit sh ps) := rfl
theorem jS3 (p : PV) (ps : List PV) : (∀ c ∈ p :: ps, c.scalar = true) = (p.scalar = true ∧ ∀ c ∈ ps, c.scalar = true) := by simp
theorem jXH : (∀ c ∈ ([] : List PV), c.scalar = true) = True := by simp
theorem kGS (k : IntKind) (n : Int) : (PV.int k n).scalar = true := rfl
theorem kAY (b : Bool) : (PV.bool b).scalar = true := rfl
theorem kGQ (s : List UInt8) : (PV.str s).scalar = true := rfl
theorem jJK (dead : Nat -> Bool) : Mem.kill [] dead = [] := rfl
theorem jH4 (o : Option jAF) (μ : Mem) (dead : Nat -> Bool) : Mem.kill (o :: μ) dead = o.map (jAF.kill dead) :: Mem.kill μ dead := rfl
theorem jV2 (o x : Option jAF) (μ : List (Option jAF)) : (o :: μ).set 0 x = x :: μ := rfl
theorem jV1 (o p x : Option jAF) (μ : List (Option jAF)) : (o :: p :: μ).set 1 x = o :: x :: μ := rfl
theorem jV0 (o p q x : Option jAF) (μ : List (Option jAF)) : (o :: p :: q :: μ).set 2 x = o :: p :: x :: μ := rfl
theorem kAQ ( x p : PV) (l : List PV) : jCZ (x :: l) 0 [p] = p :: l := rfl
theorem kAP (a x p : PV) (l : List PV) : jCZ (a :: x :: l) 1 [p] = a :: p :: l := rfl
theorem kAO (a b x p : PV) (l : List PV) : jCZ (a :: b :: x :: l) 2 [p] = a :: b :: p :: l := rfl
theorem kAN (a b c x p : PV) (l : List PV) : jCZ (a :: b :: c :: x :: l) 3 [p] = a :: b :: c :: p :: l := rfl
theorem kAM (a b c d x p : PV) (l : List PV) : jCZ (a :: b :: c :: d :: x :: l) 4 [p] = a :: b :: c :: d :: p :: l := rfl
theorem kAL (a b c d e x p : PV) (l : List PV) : jCZ (a :: b :: c :: d :: e :: x :: l) 5 [p] = a :: b :: c :: d :: e :: p :: l := rfl
theorem kAK (a b c d e f x p : PV) (l : List PV) : jCZ (a :: b :: c :: d :: e :: f :: x :: l) 6 [p] = a :: b :: c :: d :: e :: f :: p :: l := rfl
theorem kAJ (a b c d e f g x p : PV) (l : List PV) : jCZ (a :: b :: c :: d :: e :: f :: g :: x :: l) 7 [p] = a :: b :: c :: d :: e :: f :: g :: p :: l := rfl
theorem kAI (a b c d e f g h x p : PV) (l : List PV) : jCZ (a :: b :: c :: d :: e :: f :: g :: h :: x :: l) 8 [p] = a :: b :: c :: d :: e :: f :: g :: h :: p :: l := rfl
theorem kAH (a b c d e f g h i x p : PV) (l : List PV) : jCZ (a :: b :: c :: d :: e :: f :: g :: h :: i :: x :: l) 9 [p] = a :: b :: c :: d :: e :: f :: g :: h :: i :: p :: l := rfl
theorem jVI (k : IntKind) (n : Int) : partOf (.int k n) 1 = some [.int k n] := rfl
theorem jQ0 (b : Bool) : partOf (.bool b) 1 = some [.bool b] := rfl
theorem jVG (s : List UInt8) : partOf (.str s) 1 = some [.str s] := rfl
theorem jN1 (cs : List PV) (o s : Nat) (ps : List (Nat × Nat)) (p : PV) (qs : List PV) : jHI cs ((o, s) :: ps) (p :: qs) = jHI (jCZ cs o ((partOf p s).getD [])) ps qs := rfl
theorem jSJ (cs : List PV) : jHI cs [] [] = cs := by simp [jHI]
theorem jLS (n o s : Nat) (ps : List (Nat × Nat)) (p : PV) (qs : List PV) : jIC n ((o, s) :: ps) (p :: qs) = ((partOf p s).isSome = true ∧ o + s <= n ∧ jIC n ps qs) := rfl
theorem jN2 (n : Nat) : jIC n [] [] = True := rfl
end
def jHY (P : Program) : Nat -> TypeId -> Bool
 | 0, _ => false
 | n + 1, t =>
  match P.underlying t with
  | some .bool | some (.int _) | some .string => true
  | some (.slice e) => (jEZ P e).isSome && decide (0 < P.cellsOf e) && jHY P n e
  | some (.struct fs) => fs.toList.all fun f => jHY P n f.type
  | _ => false
def ShC (P : Program) : Nat -> TypeId -> List PV -> Prop
 | 0, _, _ => False
 | n + 1, t, ps =>
  match P.underlying t with
  | some .bool => ∃ b, ps = [.bool b]
  | some (.int k) => ∃ m, ps = [.int k m] ∧ (Lit.int k m).wf = true
  | some .string => ∃ l, ps = [.str l] ∧ l.length <= maxLen
  | some (.slice e) => ∃ sh xs, jEZ P e = some sh ∧ ps = [.list sh xs] ∧ xs.length <= maxLen ∧ ∀ x ∈ xs, fits sh x ∧ ShC P n e x.cells
  | some (.struct fs) => ps.length = P.cellsOf t ∧ ∀ f ∈ fs.toList, ShC P n f.type ((ps.drop f.offset).take (P.cellsOf f.type))
  | _ => False
def ShA (P : Program) (n : Nat) (t : TypeId) (p : PV) : Prop :=
 match P.underlying t with
 | some (.struct _) => ∃ ps, p = .agg ps ∧ ShC P n t ps
 | _ => ShC P n t [p]
theorem kQ3 {R : Value -> PV -> Prop} {P : Program} {S : Field -> List PV -> Prop} {cs : List Value} : ∀ (fs : List Field) (o : Nat),
  (∀ (j : Nat) f, fs[j]? = some f -> f.offset = o + ((fs.take j).map fun f => P.cellsOf f.type).sum) -> o + (fs.map fun f => P.cellsOf f.type).sum <= cs.length ->
  (∀ f ∈ fs, ∃ ps : List PV, ps.length = ((cs.drop f.offset).take (P.cellsOf f.type)).length ∧ (∀ (j : Nat) (v : Value) (p : PV), ((cs.drop f.offset).take (P.cellsOf f.type))[j]? = some v -> ps[j]? = some p -> R v p) ∧ S f ps) ->
  ∃ qs : List PV, qs.length = (fs.map fun f => P.cellsOf f.type).sum ∧ (∀ (j : Nat) (v : Value) (p : PV), (cs.drop o)[j]? = some v -> qs[j]? = some p -> R v p) ∧ ∀ f ∈ fs, S f ((qs.drop (f.offset - o)).take (P.cellsOf f.type)) := by
 intro fs
 induction fs with
 | nil => intro o _ _ _; exact ⟨[], rfl, fun j v p _ h => by simp at h, fun f h => by cases h⟩
 | cons f fs ih =>
  intro o ho hl hf
  have hof : f.offset = o := by have := ho 0 f rfl; simpa using this
  obtain ⟨ps, h1, h2, h3⟩ := hf f (by simp)
  simp only [List.map_cons, List.sum_cons] at hl
  have hpl : ps.length = P.cellsOf f.type := by rw [h1, hof]; simp; omega
  obtain ⟨qs, q1, q2, q3⟩ := ih (o + P.cellsOf f.type) (fun j g hj => by have := ho (j + 1) g (by simpa using hj); simp only [List.take_succ_cons, List.map_cons, List.sum_cons] at this; rw [this, Nat.add_assoc]) (by omega) (fun g hg => hf g (by simp [hg]))
  have kRO : ∀ g ∈ fs, o + P.cellsOf f.type <= g.offset := by
   intro g hg
   obtain ⟨j, hj⟩ := List.mem_iff_getElem?.1 hg
   have := ho (j + 1) g (by simpa using hj)
   simp at this; omega
  refine ⟨ps ++ qs, by simp [hpl, q1], fun j v p hv hp => ?_, fun g hg => ?_⟩
  ·rcases Nat.lt_or_ge j ps.length with hj | hj
   ·rw [List.getElem?_append_left hj] at hp
    refine h2 j v p ?_ hp
    rw [hof, List.getElem?_take_of_lt (by omega)]; exact hv
   ·rw [List.getElem?_append_right hj] at hp
    refine q2 (j - ps.length) v p ?_ hp
    rw [List.getElem?_drop] at hv ⊢
    rw [<- hv]; congr 1; omega
  ·rcases List.mem_cons.1 hg with rfl | hg
   ·rw [hof, Nat.sub_self, List.drop_zero, List.take_append_of_le_length (by omega), List.take_of_length_le (by omega)]; exact h3
   ·have h4 := kRO g hg
    have := q3 g hg
    rw [List.drop_append, List.drop_eq_nil_of_le (by omega), List.nil_append, hpl, show g.offset - o - P.cellsOf f.type = g.offset - (o + P.cellsOf f.type) by omega]
    exact this
theorem kAF {P : Program} {t : TypeId} {sh : Sh} (h : jEZ P t = some sh) : sh.size = P.cellsOf t := by
 obtain ⟨-, -, i, h1, h2⟩ := jBD h
 simp [Program.cellsOf, h1, h2]
theorem jLU {Q : Nat -> PV -> Prop} : ∀ n, (∀ i, i < n -> ∃ x, Q i x) -> ∃ xs : List PV, xs.length = n ∧ ∀ (i : Nat) x, xs[i]? = some x -> Q i x
 | 0, _ => ⟨[], rfl, fun i x h => by simp at h⟩
 | n + 1, h => by
  obtain ⟨xs, h1, h2⟩ := jLU n (fun i hi => h i (by omega))
  obtain ⟨x, hx⟩ := h n (by omega)
  refine ⟨xs ++ [x], by simp [h1], fun i y hy => ?_⟩
  rcases Nat.lt_or_ge i xs.length with hi | hi
  ·rw [List.getElem?_append_left hi] at hy; exact h2 i y hy
  ·rw [List.getElem?_append_right hi] at hy
   have : i - xs.length = 0 := by
    have := (List.getElem?_eq_some_iff.1 hy).1
    simp at this; omega
   rw [this] at hy; simp at hy; subst hy
   rw [show i = n by omega]; exact hx
theorem jK0 {H : Type} {enc : TypeId × Value -> H} {P : Program} {W : World} {sp : Nat -> Bool} {hd : Bool} (hl : laidOutB P = true) : ∀ (n : Nat) (t : TypeId) (fuel : Nat) (cs : List Value) (x : DataW H × List MemPlace),
  t < P.types.size -> jHY P n t = true -> DataW.trod enc P W 0 sp hd fuel t cs = some x ->
  ∃ ps : List PV, ps.length = cs.length ∧ (∀ (j : Nat) (v : Value) (p : PV), cs[j]? = some v -> ps[j]? = some p -> jAW W (fun _ => False) v p) ∧ (∀ p ∈ ps, p.scalar = true) ∧ ShC P n t ps
 | 0, _, _, _, _, _, h, _ => by simp [jHY] at h
 | n + 1, t, fuel, cs, x, ht, hp, h => by
  unfold jHY at hp
  split at hp
  ·rename_i hu
   obtain ⟨b, rfl, -⟩ := DataW.trod_bool hu h
   refine ⟨[.bool b], rfl, fun j v p hv hq => ?_, by simp [PV.scalar], by unfold ShC; rw [hu]; exact ⟨b, rfl⟩⟩
   cases j <;> simp at hv hq; subst hv; subst hq; exact .bool b
  ·rename_i k hu
   obtain ⟨m, rfl, -, hw⟩ := DataW.trod_int hu h
   refine ⟨[.int k m], rfl, fun j v p hv hq => ?_, by simp [PV.scalar], by unfold ShC; rw [hu]; exact ⟨m, rfl, hw⟩⟩
   cases j <;> simp at hv hq; subst hv; subst hq; exact .int k m
  ·rename_i hu
   obtain ⟨s, rfl, -, hs⟩ := DataW.trod_string hu h
   refine ⟨[.str s.data.toList], rfl, fun j v p hv hq => ?_, by simp [PV.scalar], by unfold ShC; rw [hu]; exact ⟨_, rfl, by simpa using hs⟩⟩
   cases j <;> simp at hv hq; subst hv; subst hq; exact .str s
  ·rename_i e hu
   simp only [Bool.and_eq_true, decide_eq_true_eq] at hp
   obtain ⟨⟨hsh, hpos⟩, hpe⟩ := hp
   obtain ⟨sh, hsh⟩ := Option.isSome_iff_exists.1 hsh
   have hsz := kAF hsh
   have het : e < P.types.size := kid_slice hl ht hu
   rcases DataW.trod_slice hu h with ⟨rfl, -⟩ | ⟨a, len, cap, elems, rest, m, rfl, rfl, -, hb, hlc, hcm, hel, hr, -⟩
   ·refine ⟨[.list sh []], rfl, fun j v p hv hq => ?_, by simp [PV.scalar], by unfold ShC; rw [hu]; exact ⟨sh, [], hsh, rfl, Nat.zero_le _, by simp⟩⟩
    cases j <;> simp at hv hq; subst hv; subst hq
    exact .list none 0 0 sh [] 0 0 (fun _ => undef) rfl (Nat.le_refl _) (Nat.zero_le _) (by simp) (by simp) (fun j hj => by simp [flat] at hj) (fun j p hp => by simp [flat] at hp)
   ·have key : ∀ i, i < len -> ∃ y : PV, fits sh y ∧ ShC P n e y.cells ∧ ∀ j, j < sh.size -> ∃ v p, W.cell? ((a.add (i * P.cellsOf e)).add j) = some v ∧ y.cells[j]? = some p ∧ jAW W (fun _ => False) v p := by
     intro i hi
     have h1 := hr i hi
     rw [List.getElem?_eq_getElem (by omega : i < elems.length), Option.bind_eq_some_iff] at h1
     obtain ⟨cs', hc1, hc2⟩ := h1
     obtain ⟨-, hcl, hcg⟩ := World.cells?_some hc1
     obtain ⟨ps, p1, p2, p3, p4⟩ := jK0 hl n e m cs' _ het hpe hc2
     have cells : ∀ y : PV, y.cells = ps -> ∀ j, j < sh.size -> ∃ v p, W.cell? ((a.add (i * P.cellsOf e)).add j) = some v ∧ y.cells[j]? = some p ∧ jAW W (fun _ => False) v p := by
      intro y hy j hj
      have hjc : j < cs'.length := by omega
      have hjp : j < ps.length := by omega
      refine ⟨cs'[j], ps[j], ?_, by rw [hy]; simp [hjp], p2 j _ _ (List.getElem?_eq_getElem hjc) (List.getElem?_eq_getElem hjp)⟩
      rw [hcg j (by omega)]; simp [hjc]
     cases hs : sh with
     | some k =>
      refine ⟨.agg ps, ⟨ps, rfl, ?_, p3⟩, p4, ?_⟩
      ·rw [hs] at hsz; simp [Sh.size] at hsz; omega
      ·rw [<- hs]; exact cells _ rfl
     | none =>
      have h1 : ps.length = 1 := by rw [hs] at hsz; simp [Sh.size] at hsz; omega
      obtain ⟨q, rfl⟩ : ∃ q, ps = [q] := by
       match ps, h1 with
       | [q], _ => exact ⟨q, rfl⟩
      have hq := p3 q (by simp)
      have hqc : q.cells = [q] := by cases q <;> simp_all [PV.cells, PV.scalar]
      refine ⟨q, hq, by rw [hqc]; exact p4, ?_⟩
      rw [<- hs]; exact cells _ hqc
    obtain ⟨xs, x1, x2⟩ := jLU len key
    have hfit : ∀ y ∈ xs, fits sh y := fun y hy => by
     obtain ⟨i, hi⟩ := List.mem_iff_getElem?.1 hy
     exact (x2 i y hi).1
    have hfl := flat_length hfit
    have kIQ : 0 < sh.size := by omega
    have hcell : ∀ j, j < (flat xs).length -> ∃ v p, W.cell? ⟨a.block, a.off + j, none⟩ = some v ∧ (flat xs)[j]? = some p ∧ jAW W (fun _ => False) v p := by
     intro j hj
     have hjd : j = (j / sh.size) * sh.size + j % sh.size := by rw [Nat.mul_comm]; exact (Nat.div_add_mod _ _).symm
     have hjm : j % sh.size < sh.size := Nat.mod_lt _ kIQ
     have hji : j / sh.size < xs.length := by rw [Nat.div_lt_iff_lt_mul kIQ]; omega
     obtain ⟨v, p, c1, c2, c3⟩ := (x2 _ _ (List.getElem?_eq_getElem hji)).2.2 _ hjm
     refine ⟨v, p, ?_, ?_, c3⟩
     ·rw [<- c1]
      have kOM : ((a.add (j / sh.size * P.cellsOf e)).add (j % sh.size)).spot = none := by
       unfold World.cell? at c1
       split at c1
       ·split at c1
        ·cases c1
        ·rename_i hns; simpa using hns
       ·cases c1
      have : ((a.add (j / sh.size * P.cellsOf e)).add (j % sh.size)) = ⟨a.block, a.off + j, none⟩ := by
       have e1 : ((a.add (j / sh.size * P.cellsOf e)).add (j % sh.size)).block = a.block := by unfold Addr.add; split <;> split <;> rfl
       have e2 : ((a.add (j / sh.size * P.cellsOf e)).add (j % sh.size)).off = a.off + j := by
        rw [<- hsz]
        have ea : ∀ (b : Addr) (k : Nat), (b.add k).off = b.off + k := by
         intro b k; unfold Addr.add; split
         ·rename_i h0; rw [h0]; rfl
         ·rfl
        rw [ea, ea]; omega
       generalize ((a.add (j / sh.size * P.cellsOf e)).add (j % sh.size)) = z at kOM e1 e2
       obtain ⟨z1, z2, z3⟩ := z
       simp only at kOM e1 e2
       rw [kOM, e1, e2]
      rw [this]
     ·rw [hjd, flat_get hfit _ _ _ (List.getElem?_eq_getElem hji) hjm]; exact c2
    have hch : ∀ j, ∃ v, j < (flat xs).length -> W.cell? ⟨a.block, a.off + j, none⟩ = some v ∧ ∃ p, (flat xs)[j]? = some p ∧ jAW W (fun _ => False) v p := by
     intro j
     by_cases hj : j < (flat xs).length
     ·obtain ⟨v, p, c1, c2, c3⟩ := hcell j hj
      exact ⟨v, fun _ => ⟨c1, p, c2, c3⟩⟩
     ·exact ⟨undef, fun h => absurd h hj⟩
    have ha : xs ≠ [] -> (some a : Option Addr) = some ⟨a.block, a.off, none⟩ := by
     intro hne
     have hl0 : 0 < xs.length := List.length_pos_iff.2 hne
     obtain ⟨v, p, c1, -, -⟩ := (x2 0 _ (List.getElem?_eq_getElem hl0)).2.2 0 kIQ
     simp only [Nat.zero_mul, Addr.add, if_true] at c1
     have hsp : a.spot = none := by
      unfold World.cell? at c1
      split at c1
      ·split at c1
       ·cases c1
       ·rename_i hns; simpa using hns
      ·cases c1
     obtain ⟨a1, a2, a3⟩ := a
     simp only at hsp
     rw [hsp]
    refine ⟨[.list sh xs], rfl, fun j v p hv hq => ?_, by simp [PV.scalar], ?_⟩
    ·cases j <;> simp at hv hq; subst hv; subst hq
     refine .list (some a) len cap sh xs a.block a.off (fun j => (hch j).choose) x1.symm hlc hcm hfit ha (fun j hj => ⟨fun h => h, ((hch j).choose_spec hj).1⟩) (fun j p hp => ?_)
     have hj := (List.getElem?_eq_some_iff.1 hp).1
     obtain ⟨p', c2, c3⟩ := ((hch j).choose_spec hj).2
     rw [hp] at c2; cases c2; exact c3
    ·unfold ShC; rw [hu]
     refine ⟨sh, xs, hsh, rfl, by omega, fun y hy => ?_⟩
     obtain ⟨i, hi⟩ := List.mem_iff_getElem?.1 hy
     exact ⟨(x2 i y hi).1, (x2 i y hi).2.1⟩
  ·rename_i fs hu
   obtain ⟨k1, k2, k3⟩ := kid_struct hl ht hu
   obtain ⟨xs, m, rfl, -, hcl, hxl, hf⟩ := DataW.trod_struct hu h
   simp only [List.all_eq_true] at hp
   have key : ∀ f ∈ fs.toList, ∃ ps : List PV, ps.length = ((cs.drop f.offset).take (P.cellsOf f.type)).length ∧ (∀ (j : Nat) (v : Value) (p : PV), ((cs.drop f.offset).take (P.cellsOf f.type))[j]? = some v -> ps[j]? = some p -> jAW W (fun _ => False) v p ∧ p.scalar = true) ∧ ShC P n f.type ps := by
    intro f hfm
    obtain ⟨i, hi⟩ := List.mem_iff_getElem?.1 hfm
    have h1 := hf i f (by simpa using hi)
    have hsome : ∃ y, xs[i]? = some y := by
     cases hx : xs[i]? with
     | some y => exact ⟨y, rfl⟩
     | none =>
      exfalso
      have hi' := (List.getElem?_eq_some_iff.1 hi).1
      rw [List.getElem?_eq_none_iff] at hx
      simp at hi'; omega
    obtain ⟨y, hy⟩ := hsome
    rw [hy] at h1
    obtain ⟨ps, p1, p2, p3, p4⟩ := jK0 hl n f.type m _ _ (k1 f hfm) (hp f hfm) h1
    exact ⟨ps, p1, fun j v p a b => ⟨p2 j v p a b, p3 p (List.mem_of_getElem? b)⟩, p4⟩
   obtain ⟨qs, q1, q2, q3⟩ := kQ3 (R := fun v p => jAW W (fun _ => False) v p ∧ p.scalar = true) (S := fun f ps => ShC P n f.type ps) fs.toList 0 (fun j f hj => by rw [Nat.zero_add]; exact k3 j f hj) (by rw [<- k2]; omega) key
   have hql : qs.length = cs.length := by rw [q1, <- k2]; omega
   refine ⟨qs, hql, fun j v p a b => (q2 j v p (by simpa using a) b).1, fun p hp' => ?_, by unfold ShC; rw [hu]; exact ⟨by omega, fun f hf => by simpa using q3 f hf⟩⟩
   obtain ⟨i, hi⟩ := List.mem_iff_getElem?.1 hp'
   have hil := (List.getElem?_eq_some_iff.1 hi).1
   exact (q2 i _ p (by simpa using List.getElem?_eq_getElem (by omega : i < cs.length)) hi).2
  ·cases hp
theorem kEU {H : Type} {enc : TypeId × Value -> H} {P : Program} {W : World} {sp : Nat -> Bool} {hd : Bool} {base : Nat} (hl : laidOutB P = true) {n : Nat} {t : TypeId} {v : Value} {d : DataW H} {p : List MemPlace}
  (ht : t < P.types.size) (hp : jHY P n t = true) (hv : Value.okWide P W .any base t v) (h : DataW.Trod enc P W 0 sp hd t v d p) : ∃ q, jAW W (fun _ => False) v q ∧ ShA P n t q := by
 obtain ⟨fuel, h⟩ := h
 obtain ⟨ps, h1, h2, -, h3⟩ := jK0 hl n t fuel _ _ ht hp h
 unfold ShA
 cases n with
 | zero => cases hp
 | succ n =>
 unfold Value.okWide at hv
 unfold jHY at hp
 cases hu : P.underlying t with
 | none => rw [hu] at hp; cases hp
 | some u =>
  rw [hu] at hv hp
  have one : ∀ v : Value, v.cells.toList = [v] -> ps.length = v.cells.toList.length -> (∀ (j : Nat) (x : Value) (p : PV), v.cells.toList[j]? = some x -> ps[j]? = some p -> jAW W (fun _ => False) x p) -> ∃ q, ps = [q] ∧ jAW W (fun _ => False) v q := by
   intro v hc h1 h2
   rw [hc] at h1 h2
   match ps, h1, h2 with
   | [q], _, h2 => exact ⟨q, rfl, h2 0 v q rfl rfl⟩
  have fin : (∃ q, ps = [q] ∧ jAW W (fun _ => False) v q) -> ∃ q, jAW W (fun _ => False) v q ∧ ShC P (n + 1) t [q] := by
   rintro ⟨q, rfl, hq⟩
   exact ⟨q, hq, h3⟩
  cases u with
  | struct fs =>
   obtain ⟨cs, rfl, -, -⟩ := hv
   refine ⟨.agg ps, .agg cs ps ?_ ?_, ps, rfl, h3⟩
   ·simpa [Value.cells] using h1.symm
   ·simpa [Value.cells] using h2
  | _ =>
   simp only at hp
   first
    | (cases hp; done)
    | (refine fin (one v ?_ h1 h2)
       unfold Cell.okWide Cell.ok at hv
       rw [hu] at hv
       cases v <;> first | rfl | (simp at hv; done))
def kN2 (P : Program) (n : Nat) : List TypeId -> List PV -> Prop
 | [], [] => True
 | t :: ts, p :: ps => ShA P n t p ∧ kN2 P n ts ps
 | _, _ => False
theorem jQV {H : Type} {enc : TypeId × Value -> H} {P : Program} {W : World} {sp : Nat -> Bool} {hd : Bool} {base : Nat} (hl : laidOutB P = true) {n : Nat} : ∀ (ts : List TypeId) (vs : List Value) (ds : List (DataW H)) (p : List MemPlace),
  (∀ t ∈ ts, t < P.types.size ∧ jHY P n t = true) -> (∀ (j : Nat) t v, ts[j]? = some t -> vs[j]? = some v -> Value.okWide P W .any base t v) -> DataW.TrodAll enc P W 0 sp hd ts vs ds p ->
  ∃ qs : List PV, qs.length = vs.length ∧ (∀ (i : Nat) (v : Value) (q : PV), vs[i]? = some v -> qs[i]? = some q -> jAW W (fun _ => False) v q) ∧ kN2 P n ts qs
 | [], [], _, _, _, _, _ => ⟨[], rfl, fun i v q h => by simp at h, trivial⟩
 | [], v :: vs, ds, _, _, _, h => by cases ds <;> exact h.elim
 | t :: ts, [], ds, _, _, _, h => by cases ds <;> exact h.elim
 | t :: ts, v :: vs, [], _, _, _, h => h.elim
 | t :: ts, v :: vs, d :: ds, _, ht, hv, ⟨p, q, h1, h2, _⟩ => by
  obtain ⟨a, ha, hs⟩ := kEU hl (ht t (by simp)).1 (ht t (by simp)).2 (hv 0 t v rfl rfl) h1
  obtain ⟨qs, q1, q2, q3⟩ := jQV hl ts vs ds q (fun t h => ht t (by simp [h])) (fun j t v a b => hv (j + 1) t v (by simpa using a) (by simpa using b)) h2
  refine ⟨a :: qs, by simp [q1], fun i v q hv hq => ?_, hs, q3⟩
  cases i with
  | zero => simp at hv hq; subst hv; subst hq; exact ha
  | succ i => exact q2 i v q (by simpa using hv) (by simpa using hq)
theorem jOB {H : Type} {enc : TypeId × Value -> H} {P : Program} {W W' : World} (hl : laidOutB P = true) (hb : RowKit.Below W.heap.size W W') : ∀ (ts : List TypeId) (vs : List Value) (ds : List (DataW H)) (p : List MemPlace) (sp : Nat -> Bool),
  (∀ t ∈ ts, t < P.types.size ∧ P.readableRec t = true) -> DataW.TrodAll enc P W 0 (fun _ => true) true ts vs ds p -> (∀ x ∈ p, x.block < W.heap.size) -> (∀ x ∈ p, sp x.block = true) -> DataW.TrodAll enc P W' 0 sp true ts vs ds p
 | [], [], [], _, _, _, h, _, _ => h
 | [], [], _ :: _, _, _, _, h, _, _ => h.elim
 | [], v :: vs, ds, _, _, _, h, _, _ => by cases ds <;> exact h.elim
 | t :: ts, [], ds, _, _, _, h, _, _ => by cases ds <;> exact h.elim
 | t :: ts, v :: vs, [], _, _, _, h, _, _ => h.elim
 | t :: ts, v :: vs, d :: ds, _, sp, ht, ⟨p, q, h1, h2, e⟩, hlt, hsp => by
  subst e
  exact ⟨p, q, WideElems.Trod_stays hl (ht t (by simp)).2 (ht t (by simp)).1 h1 (fun x hx => hb.same (hlt x (by simp [hx]))) (fun x hx => hsp x (by simp [hx])),
   jOB hl hb ts vs ds q sp (fun t h => ht t (by simp [h])) h2 (fun x hx => hlt x (by simp [hx])) (fun x hx => hsp x (by simp [hx])), rfl⟩
section
open Go.RowKit Go.WideShapes Go.ChangeShapes
variable {H : Type} {enc : TypeId × Value -> H} {P : Program}
theorem jO3 {f : Func} {s : ChangeSpec} {apart fresh handsOn again : Bool} {W W' : World} {args : Array Value} {v : Value} {ds gs : List (DataW H)} {before pa pv : List MemPlace}
  (hW : DataW.Whole enc P f.params.toList s.vars apart W args.toList ds gs before)
  (hres : ∀ (b : Nat) (sp : Nat -> Bool) (hd : Bool), DataW.TrodAll enc P W' b sp hd f.resultTypes.toList (v.resultList f.resultTypes.size) (s.fn H (ds ++ gs)).results [])
  (hargs : ∀ sp : Nat -> Bool, (∀ p ∈ before, sp p.block = true) -> DataW.TrodAll enc P W' 0 sp true f.params.toList args.toList (s.fn H (ds ++ gs)).args pa)
  (hvars : ∀ sp : Nat -> Bool, (∀ p ∈ before, sp p.block = true) -> DataW.TrodVars enc P W' sp s.vars (s.fn H (ds ++ gs)).vars pv)
  (hps : before = pa ++ pv) (hb : Below W.heap.size W W')
  (hok : ∀ (j : Nat) (t : TypeId) (r : Value), f.resultTypes[j]? = some t -> (v.resultList f.resultTypes.size)[j]? = some r -> Value.okWide P W' .any 0 t r) :
  s.post enc P f apart fresh handsOn again W args v W' := by
 have hlt : ∀ p ∈ before, p.block < W.heap.size := fun p hp => hW.lt p hp
 have hold : ∀ p ∈ before, (fun b => decide (b < W.heap.size)) p.block = true := fun p hp => by simpa using hlt p hp
 refine ⟨ds, gs, before, [], pa, pv, hW, hres _ _ _, hargs _ hold, hvars _ hold, World.keptBut_mono (fun p hp => ⟨hp, ?_⟩) (hb.frame (· ∈ before)), fun _ => ?_⟩
 ·rw [hps, List.mem_append] at hp
  exact Or.inr hp
 ·obtain ⟨_, _, _, _, _, hz, hn⟩ := hW
  refine ⟨hok, _, _, ([] ++ pa) ++ pv, ⟨[] ++ pa, pv, trodAll_append (hargs _ (fun _ _ => rfl)) (hres _ _ _), hvars _ (fun _ _ => rfl), rfl, ?_, ?_⟩, ?_⟩
  ·intro b off hp
   have hin : MemPlace.cell b off ∈ before := by rw [hps]; simpa using hp
   rw [hb.frozen (hlt _ hin)]
   exact hz b off hin
  ·intro ha
   have := hn ha
   rw [hps] at this
   simpa using this
  ·intro p hp _
   rw [hps]
   simpa using hp
theorem kEZ {fn : Func} {f : Nat} {s : ChangeSpec} {apart fresh handsOn again : Bool} {G : jA3} {n : Nat} {tb : TypeId} (hl : laidOutB P = true) (hpl : (fn.params.toList.all fun t => decide (t < P.types.size) && jHY P n t && P.readableRec t) = true)
  (hvars : s.vars = []) (hs : ∀ ds : List (DataW H), ds.length = fn.params.toList.length -> s.fn H ds = { results := [.lit (.bool true)], args := ds }) (hres : fn.resultTypes = #[tb]) (htb : P.underlying tb = some .bool)
  {W : World} (hG : jDF W (fun _ => False) G) {base : Nat} {args : Array Value} {ds gs : List (DataW H)} {before : List MemPlace}
  (hV : ∀ ps, kN2 P n fn.params.toList ps -> jAB P G f ps (.bool true))
  (hval : ∀ (j : Nat) t v, fn.params[j]? = some t -> args[j]? = some v -> Value.okWide P W .any base t v)
  (hW : DataW.Whole enc P fn.params.toList s.vars apart W args.toList ds gs before) :
  Calls P f args W fun e W' => ∃ v, e = .returned v ∧ s.post enc P fn apart fresh handsOn again W args v W' := by
 simp only [List.all_eq_true, Bool.and_eq_true, decide_eq_true_eq] at hpl
 have hW0 := hW
 obtain ⟨p, q, hA, hVr, rfl, -, -⟩ := hW
 rw [hvars] at hVr
 obtain ⟨rfl, rfl⟩ := trodVars_none hVr
 obtain ⟨qs, q1, q2, q3⟩ := jQV hl fn.params.toList args.toList ds p (fun t h => ⟨(hpl t h).1.1, (hpl t h).1.2⟩) (fun j t v a b => hval j t v (by simpa using a) (by simpa using b)) hA
 have hlen : ds.length = fn.params.toList.length := by
  have : ∀ (ts : List TypeId) (vs : List Value) (ds : List (DataW H)) (p : List MemPlace), DataW.TrodAll enc P W 0 (fun _ => true) true ts vs ds p -> ds.length = ts.length := by
   intro ts
   induction ts with
   | nil => intro vs ds p h; cases vs <;> cases ds <;> first | rfl | exact h.elim
   | cons t ts ih =>
    intro vs ds p h
    cases vs <;> cases ds <;> first | exact h.elim | (obtain ⟨_, _, _, h2, _⟩ := h; simp [ih _ _ _ h2])
  exact this _ _ _ _ hA
 have hlt : ∀ x ∈ p, x.block < W.heap.size := fun x hx => hW0.lt x (by simpa using hx)
 refine (hV qs q3 W (fun _ => False) args (fun b h => h.elim) hG ⟨by simpa using q1.symm, fun i v p a b => q2 i v p (by simpa using a) b⟩).mono ?_
 rintro e W' ⟨v, rfl, hB, hr⟩
 cases hr with
 | bool b =>
 refine ⟨_, rfl, jO3 (pa := p) (pv := []) hW0 (fun b sp hd => ?_) (fun sp hsp => ?_) (fun sp _ => ?_) rfl hB ?_⟩
 ·rw [List.append_nil, hs ds hlen, hres]
  exact trodAll_mk1 (shut_bool htb _)
 ·rw [List.append_nil, hs ds hlen]
  exact jOB hl hB _ _ _ _ sp (fun t h => ⟨(hpl t h).1.1, (hpl t h).2⟩) hA hlt (fun x hx => hsp x (by simpa using hx))
 ·rw [hvars, List.append_nil, hs ds hlen]; rfl
 ·exact ok_one hres rfl (okWide_bool_mk htb _)
end
theorem SS : type_of% (And.intro (And.intro (And.intro (And.intro (And.intro (And.intro (And.intro (@kBK) (@jVK)) (And.intro (@jVM) (And.intro (@jRE) (@jRF)))) (And.intro (And.intro (@jNJ) (And.intro (@jVL) (@jVA))) (And.intro (@jVC) (And.intro (@jRZ) (@List.map_cons Opd PV))))) (And.intro (And.intro (And.intro (@List.map_cons PV PV) (And.intro (@List.map_cons PV Bool) (@List.map_cons RVar PV))) (And.intro (@List.map_cons (Nat × PV) (Nat × PV)) (And.intro (@List.map_cons (Option jAF) (Option jAF)) (@List.map_nil Opd PV)))) (And.intro (And.intro (@List.map_nil PV PV) (And.intro (@List.map_nil PV Bool) (@List.map_nil RVar PV))) (And.intro (@List.map_nil (Nat × PV) (Nat × PV)) (And.intro (@List.map_nil (Option jAF) (Option jAF)) (@jWV)))))) (And.intro (And.intro (And.intro (And.intro (@kC1) (And.intro (@jJ7) (@get_nil))) (And.intro (@jWM) (And.intro (@jR4) (@jLP)))) (And.intro (And.intro (@true_and) (And.intro (@and_true) (@jKR))) (And.intro (@jUW) (And.intro (@jQJ) (@jIL))))) (And.intro (And.intro (And.intro (@jN9) (And.intro (@jMD) (@jRV))) (And.intro (@jNO) (And.intro (@and_self) (@beq_true)))) (And.intro (And.intro (@not_true_eq_false) (And.intro (@not_false_eq_true) (@jWZ))) (And.intro (@jL1) (And.intro (@beq_false) (@imp_self))))))) (And.intro (And.intro (And.intro (And.intro (And.intro (@true_implies) (@List.all_cons Bool)) (And.intro (@List.all_nil Bool) (And.intro (@Bool.and_self) (@Bool.true_and)))) (And.intro (And.intro (@Bool.and_true) (And.intro (@List.nil_append PV) (@List.nil_append (Option jAF)))) (And.intro (@List.append_nil PV) (And.intro (@List.append_nil (Option jAF)) (@List.cons_append PV))))) (And.intro (And.intro (And.intro (@List.cons_append (Option jAF)) (And.intro (@jGJ) (@jGK))) (And.intro (@Int.toNat_natCast) (And.intro (@jRH) (@jNM)))) (And.intro (And.intro (@jJL) (And.intro (@jW9) (@jWC))) (And.intro (@jWB) (And.intro (@jWA) (@jV9)))))) (And.intro (And.intro (And.intro (And.intro (@jZO) (And.intro (@kHB) (@jM0))) (And.intro (@jXF) (And.intro (@kG8) (@kCA)))) (And.intro (And.intro (@kL2) (And.intro (@kL1) (@kL0))) (And.intro (@kLZ) (And.intro (@kDD) (@jL9))))) (And.intro (And.intro (And.intro (@jL8) (And.intro (@jRY) (@jW1))) (And.intro (@jW7) (And.intro (@jN6) (@jW6)))) (And.intro (And.intro (@jSR) (And.intro (@jSQ) (@jSP))) (And.intro (@jJS) (And.intro (@jL3) (@jGC)))))))) (And.intro (And.intro (And.intro (And.intro (And.intro (And.intro (@jG8) (@jRD)) (And.intro (@jU4) (And.intro (@jUL) (@jN5)))) (And.intro (And.intro (@jSM) (And.intro (@jJH) (@jNI))) (And.intro (@jK5) (And.intro (@jNH) (@jSG))))) (And.intro (And.intro (And.intro (@jWP) (And.intro (@jOD) (@jMG))) (And.intro (@jS3) (And.intro (@jXH) (@kGS)))) (And.intro (And.intro (@kAY) (And.intro (@kGQ) (@jJK))) (And.intro (@jH4) (And.intro (@jV2) (@jV1)))))) (And.intro (And.intro (And.intro (And.intro (@jV0) (And.intro (@Option.map_some jAF jAF) (@kAQ))) (And.intro (@kAP) (And.intro (@kAO) (@kAN)))) (And.intro (And.intro (@kAM) (And.intro (@kAL) (@kAK))) (And.intro (@kAJ) (And.intro (@kAI) (@kAH))))) (And.intro (And.intro (And.intro (@jVI) (And.intro (@jQ0) (@jVG))) (And.intro (@jN1) (And.intro (@jSJ) (@jLS)))) (And.intro (And.intro (@jN2) (And.intro (@Option.getD_some (List PV)) (@Option.isSome_some (List PV)))) (And.intro (@true_or) (And.intro (@or_true) (@Bool.not_false))))))) (And.intro (And.intro (And.intro (And.intro (And.intro (@Bool.not_true) (@Bool.true_or)) (And.intro (@Bool.false_or) (And.intro (@Bool.or_true) (@Bool.or_false)))) (And.intro (And.intro (@false_implies) (And.intro (@Bool.false_eq_true) (@kC7))) (And.intro (@jWX) (And.intro (@kC5) (@kC6))))) (And.intro (And.intro (And.intro (@kDB) (And.intro (@jWY) (@kC9))) (And.intro (@kDA) (And.intro (@jKA) (@jIH)))) (And.intro (And.intro (@jLO) (And.intro (@jW4) (@jSN))) (And.intro (@jSO) (And.intro (@jW3) (@jJR)))))) (And.intro (And.intro (And.intro (And.intro (@jIF) (And.intro (@jW2) (@jW5))) (And.intro (@jIG) (And.intro (@kB5) (@kB6)))) (And.intro (And.intro (@jR1) (And.intro (@jR2) (@jQD))) (And.intro (@jZ9) (And.intro (@jUS) (@jQE))))) (And.intro (And.intro (And.intro (@kAB) (And.intro (@jUT) (@jRX))) (And.intro (@kB8) (And.intro (@jWK) (@jNX)))) (And.intro (And.intro (@jSB) (And.intro (@jNY) (@jSC))) (And.intro (@kG2) (And.intro (@jNW) (@jNT))))))))) :=
 (And.intro (And.intro (And.intro (And.intro (And.intro (And.intro (And.intro (@kBK) (@jVK)) (And.intro (@jVM) (And.intro (@jRE) (@jRF)))) (And.intro (And.intro (@jNJ) (And.intro (@jVL) (@jVA))) (And.intro (@jVC) (And.intro (@jRZ) (@List.map_cons Opd PV))))) (And.intro (And.intro (And.intro (@List.map_cons PV PV) (And.intro (@List.map_cons PV Bool) (@List.map_cons RVar PV))) (And.intro (@List.map_cons (Nat × PV) (Nat × PV)) (And.intro (@List.map_cons (Option jAF) (Option jAF)) (@List.map_nil Opd PV)))) (And.intro (And.intro (@List.map_nil PV PV) (And.intro (@List.map_nil PV Bool) (@List.map_nil RVar PV))) (And.intro (@List.map_nil (Nat × PV) (Nat × PV)) (And.intro (@List.map_nil (Option jAF) (Option jAF)) (@jWV)))))) (And.intro (And.intro (And.intro (And.intro (@kC1) (And.intro (@jJ7) (@get_nil))) (And.intro (@jWM) (And.intro (@jR4) (@jLP)))) (And.intro (And.intro (@true_and) (And.intro (@and_true) (@jKR))) (And.intro (@jUW) (And.intro (@jQJ) (@jIL))))) (And.intro (And.intro (And.intro (@jN9) (And.intro (@jMD) (@jRV))) (And.intro (@jNO) (And.intro (@and_self) (@beq_true)))) (And.intro (And.intro (@not_true_eq_false) (And.intro (@not_false_eq_true) (@jWZ))) (And.intro (@jL1) (And.intro (@beq_false) (@imp_self))))))) (And.intro (And.intro (And.intro (And.intro (And.intro (@true_implies) (@List.all_cons Bool)) (And.intro (@List.all_nil Bool) (And.intro (@Bool.and_self) (@Bool.true_and)))) (And.intro (And.intro (@Bool.and_true) (And.intro (@List.nil_append PV) (@List.nil_append (Option jAF)))) (And.intro (@List.append_nil PV) (And.intro (@List.append_nil (Option jAF)) (@List.cons_append PV))))) (And.intro (And.intro (And.intro (@List.cons_append (Option jAF)) (And.intro (@jGJ) (@jGK))) (And.intro (@Int.toNat_natCast) (And.intro (@jRH) (@jNM)))) (And.intro (And.intro (@jJL) (And.intro (@jW9) (@jWC))) (And.intro (@jWB) (And.intro (@jWA) (@jV9)))))) (And.intro (And.intro (And.intro (And.intro (@jZO) (And.intro (@kHB) (@jM0))) (And.intro (@jXF) (And.intro (@kG8) (@kCA)))) (And.intro (And.intro (@kL2) (And.intro (@kL1) (@kL0))) (And.intro (@kLZ) (And.intro (@kDD) (@jL9))))) (And.intro (And.intro (And.intro (@jL8) (And.intro (@jRY) (@jW1))) (And.intro (@jW7) (And.intro (@jN6) (@jW6)))) (And.intro (And.intro (@jSR) (And.intro (@jSQ) (@jSP))) (And.intro (@jJS) (And.intro (@jL3) (@jGC)))))))) (And.intro (And.intro (And.intro (And.intro (And.intro (And.intro (@jG8) (@jRD)) (And.intro (@jU4) (And.intro (@jUL) (@jN5)))) (And.intro (And.intro (@jSM) (And.intro (@jJH) (@jNI))) (And.intro (@jK5) (And.intro (@jNH) (@jSG))))) (And.intro (And.intro (And.intro (@jWP) (And.intro (@jOD) (@jMG))) (And.intro (@jS3) (And.intro (@jXH) (@kGS)))) (And.intro (And.intro (@kAY) (And.intro (@kGQ) (@jJK))) (And.intro (@jH4) (And.intro (@jV2) (@jV1)))))) (And.intro (And.intro (And.intro (And.intro (@jV0) (And.intro (@Option.map_some jAF jAF) (@kAQ))) (And.intro (@kAP) (And.intro (@kAO) (@kAN)))) (And.intro (And.intro (@kAM) (And.intro (@kAL) (@kAK))) (And.intro (@kAJ) (And.intro (@kAI) (@kAH))))) (And.intro (And.intro (And.intro (@jVI) (And.intro (@jQ0) (@jVG))) (And.intro (@jN1) (And.intro (@jSJ) (@jLS)))) (And.intro (And.intro (@jN2) (And.intro (@Option.getD_some (List PV)) (@Option.isSome_some (List PV)))) (And.intro (@true_or) (And.intro (@or_true) (@Bool.not_false))))))) (And.intro (And.intro (And.intro (And.intro (And.intro (@Bool.not_true) (@Bool.true_or)) (And.intro (@Bool.false_or) (And.intro (@Bool.or_true) (@Bool.or_false)))) (And.intro (And.intro (@false_implies) (And.intro (@Bool.false_eq_true) (@kC7))) (And.intro (@jWX) (And.intro (@kC5) (@kC6))))) (And.intro (And.intro (And.intro (@kDB) (And.intro (@jWY) (@kC9))) (And.intro (@kDA) (And.intro (@jKA) (@jIH)))) (And.intro (And.intro (@jLO) (And.intro (@jW4) (@jSN))) (And.intro (@jSO) (And.intro (@jW3) (@jJR)))))) (And.intro (And.intro (And.intro (And.intro (@jIF) (And.intro (@jW2) (@jW5))) (And.intro (@jIG) (And.intro (@kB5) (@kB6)))) (And.intro (And.intro (@jR1) (And.intro (@jR2) (@jQD))) (And.intro (@jZ9) (And.intro (@jUS) (@jQE))))) (And.intro (And.intro (And.intro (@kAB) (And.intro (@jUT) (@jRX))) (And.intro (@kB8) (And.intro (@jWK) (@jNX)))) (And.intro (And.intro (@jSB) (And.intro (@jNY) (@jSC))) (And.intro (@kG2) (And.intro (@jNW) (@jNT)))))))))
end PG
