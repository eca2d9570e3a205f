import Derived.Tactics
import Derived.Deep.Quiet
import Derived.Deep.LoopGhost
import Derived.OrdersHeld
import Derived.Scope
import Derived.Carry
import Derived.ProofKit
import Derived.Test.YtedjaohonijemaaDoorP2
namespace PG
open Go
set_option linter.unusedSimpArgs false
set_option linter.unusedVariables false

inductive POp where
  | rd (k : RK) (args : List Opd)
  | eff (k : EK) (args : List Opd)
  | call (f : Opd) (args : List Opd)
  deriving Inhabited
structure CO where
  dst : Option Nat
  guard : Option (Nat × Bool)
  op : POp
  deriving Inhabited

def compileG (ops : Array Oper) (o : Oper) : Option (Option (Nat × Bool)) :=
  match o.guard with
  | none => some none
  | some (j, want) => ((ops[j]?).bind (·.dst)).map fun r => some (r, want)

def compileP (P : Program) (ow : List Nat) (o : Oper) : Option POp :=
  match compileR P o.op with
  | some (k, xs) => (xs.mapM compileOpd).map (.rd k)
  | none => match compileE P ow o with
    | some (k, xs) => (xs.mapM compileOpd).map (.eff k)
    | none => match o.op with
      | .call c => match c.callee with
        | .value f => (compileOpd f).bind fun f' => (c.args.toList.mapM compileOpd).map (.call f')
        | _ => none
      | _ => none

def compileOp (P : Program) (N : Nat) (ow : List Nat) (ops : Array Oper) (o : Oper) : Option CO :=
  if (o.dst.map fun d => decide (d < N)).getD true = true then
    (compileG ops o).bind fun g => (compileP P ow o).map fun op => ⟨o.dst, g, op⟩
  else none

/-! ### Calls -/
/-- A function with a text of its own. -/
def Ent (P : Program) (f : Nat) : Prop := ∃ fn, P.funcs[f]? = some fn ∧ (fn.name == "runtime.NumGoroutine") = false ∧ fn.body.isNone = false

def callRes (P : Program) (G : Globs) (f : Nat) (as : List PV) (μ : Mem) (res : PV) : Prop :=
  Ent P f ∧ ∃ n, VCalls P G f (as.map (PV.lend n μ)) res ∧ (as.map (PV.lends n μ)).all id = true ∧ (res.flat = true ∨ n = 0 ∧ (as.map PV.noOwn).all id = true)

def callK (P : Program) (G : Globs) (q : Bool) (f : Nat) (as : List PV) (μ : Mem) (K : PV → Option Nat → Mem → Prop) : Prop :=
  (∃ res, callRes P G f as μ res ∧ (q = true → res.flat = true) ∧ K res none μ) ∨
  (q = false ∧ Ent P f ∧ ((∃ R, PCalls P G f as μ (fun _ => false) R ∧ ∀ p μ', R p μ' → K p none μ') ∨ (∃ t R, PCalls P G f as μ (killTag t) R ∧ ∀ p μ', R p μ' → K p (some t) μ')))

/-! ### Steps -/
def putE (env : Env) (d : Option Nat) (p : PV) : Env :=
  match d with
  | some d => (d, p) :: env
  | none => env
def killE (env : Env) (t : Option Nat) : Env :=
  match t with
  | some t => env.map fun x => (x.1, x.2.kill (killTag t))
  | none => env
def okAll : List PV → Prop
  | [] => True
  | p :: ps => p.okUnder true ∧ okAll ps

def calleeK (P : Program) (G : Globs) (q : Bool) (f : PV) (args : List PV) (μ : Mem) (K : PV → Option Nat → Mem → Prop) : Prop :=
  match f with
  | .fn f first caps => callK P G q f (first ++ args ++ caps) μ K
  | _ => False
def calleeR (P : Program) (G : Globs) (f : PV) (args : List PV) (μ : Mem) (res : PV) : Prop :=
  match f with
  | .fn f first caps => callRes P G f (first ++ args ++ caps) μ res
  | _ => False

def deadOk (mv : Nat → Bool) : Option Nat → Prop
  | none => True
  | some t => mv t = true

/-- What a guarded operation reads: of a choice, the test alone must be there. -/
def gArgs : RK → List PV → List PV
  | .pick, [c, x, y] => [c.under true, x, y]
  | _, ps => ps.map (PV.under true)
def gOk : RK → List PV → Prop
  | .pick, [c, _, _] => c.okUnder true
  | _, ps => okAll ps

def stepG (P : Program) (G : Globs) (q : Bool) (mv : Nat → Bool) (o : CO) (b want : Bool) (env : Env) (μ : Mem) (K : Env → Mem → Prop) : Prop :=
  match o.op with
  | .rd k args => (b = want → gOk k (args.map (evalO G env)) ∧ rdD μ k (gArgs k (args.map (evalO G env)))) ∧ K (putE env o.dst (.cond (b == want) (rdV μ k (gArgs k (args.map (evalO G env)))))) μ
  | .eff k args => q = false ∧ (b = want → okAll (args.map (evalO G env)) ∧ effW μ k ((args.map (evalO G env)).map (PV.under true)) fun p dead μ' => deadOk mv dead ∧ K (putE (killE env dead) o.dst p) μ') ∧ (b ≠ want → K (putE env o.dst .junk) μ)
  | .call f args => ∃ res, (b = want → (evalO G env f).okUnder true ∧ okAll (args.map (evalO G env)) ∧ calleeR P G ((evalO G env f).under true) ((args.map (evalO G env)).map (PV.under true)) μ res ∧ (q = true → res.flat = true)) ∧
      K (putE env o.dst (.cond (b == want) res)) μ

/-- Whether the operation behind a guard is carried out: as if the guard were this. -/
def gEff (want : Bool) : PV → Option Bool
  | .bool b => some b
  | .cond false _ => some (!want)
  | .cond true (.bool b) => some b
  | _ => none

def stepW (P : Program) (G : Globs) (q : Bool) (mv : Nat → Bool) (o : CO) (env : Env) (μ : Mem) (K : Env → Mem → Prop) : Prop :=
  match o.guard with
  | none => match o.op with
    | .rd k args => rdD μ k (args.map (evalO G env)) ∧ K (putE env o.dst (rdV μ k (args.map (evalO G env)))) μ
    | .eff k args => q = false ∧ effW μ k (args.map (evalO G env)) fun p dead μ' => deadOk mv dead ∧ K (putE (killE env dead) o.dst p) μ'
    | .call f args => calleeK P G q (evalO G env f) (args.map (evalO G env)) μ fun p dead μ' => deadOk mv dead ∧ K (putE (killE env dead) o.dst p) μ'
  | some (r, want) => match gEff want (env.get r) with
    | some b => stepG P G q mv o b want env μ K
    | none => False

def opsW (P : Program) (G : Globs) (q : Bool) (mv : Nat → Bool) : List CO → Env → Mem → (Env → Mem → Prop) → Prop
  | [], env, μ, K => K env μ
  | o :: rest, env, μ, K => stepW P G q mv o env μ fun env' μ' => opsW P G q mv rest env' μ' K

/-! ### What holds of a frame and a world -/
structure Ctx where
  w0 : World
  κ0 : Kap
  mv : Nat → Bool

structure SR (G : Globs) (N : Nat) (C : Ctx) (a : Act) (w : World) (κ : Kap) (env : Env) (μ : Mem) : Prop where
  size : a.tmps.size = N
  defers : a.defers = []
  regs : Regs w (own κ) κ a env
  sim : Sim w κ μ
  globs : GlobsIn w (own κ) G
  goes : Goes C.w0 C.κ0 w κ (fun t => C.mv t = true)

section
variable {P : Program} {G : Globs} {N : Nat} {C : Ctx} {a : Act} {w : World} {κ : Kap} {env : Env} {μ : Mem}

theorem put_size (a : Act) (d : Option Nat) (v : Value) : (a.put d v).tmps.size = a.tmps.size := by cases d <;> simp [Act.put]
theorem put_defers (a : Act) (d : Option Nat) (v : Value) : (a.put d v).defers = a.defers := by cases d <;> rfl

theorem regs_put {ex : Nat → Prop} (h : Regs w ex κ a env) {v : Value} {p : PV} (hv : Rep w ex κ v p) {d : Option Nat} (hd : ∀ i, d = some i → i < a.tmps.size) : Regs w ex κ (a.put d v) (putE env d p) := by
  intro t
  cases d with
  | none => exact h t
  | some d =>
    simp only [Act.put, putE, Env.get]
    have hd' := hd d rfl
    by_cases e : d = t
    · subst e
      simp [Array.getD_eq_getD_getElem?, hd', hv]
    · rw [if_neg e, Array.getD_eq_getD_getElem?, Array.getElem?_setIfInBounds, if_neg e, ← Array.getD_eq_getD_getElem?]
      exact h t

theorem regs_kill {w' : World} {κ' : Kap} {t : Nat} (h : Regs w (own κ) κ a env) (hG : Goes w κ w' κ' fun i => some t = some i) : Regs w' (own κ') κ' a (killE env (some t)) := by
  intro i
  have : ∀ (env : Env) (v : Value), Rep w (own κ) κ v (env.get i) → Rep w' (own κ') κ' v (Env.get (killE env (some t)) i) := by
    intro env v
    induction env with
    | nil => intro _; exact .junk v
    | cons x e ih =>
      obtain ⟨j, p⟩ := x
      simp only [Env.get, killE, List.map_cons]
      split
      · intro h; exact h.goes hG (fun k hk => by simp at hk; subst hk; simp [killTag])
      · exact ih
  exact this env _ (h i)

theorem regs_still {w' : World} {κ' : Kap} (h : Regs w (own κ) κ a env) (hG : Goes w κ w' κ' fun _ => False) : Regs w' (own κ') κ' a env := fun i => (h i).still hG

theorem globs_goes {w' : World} {κ' : Kap} {m : Nat → Prop} (h : GlobsIn w (own κ) G) (hG : Goes w κ w' κ' m) : GlobsIn w' (own κ') G := fun g sh x hg => (h g sh x hg).mono hG.agree

theorem known_of {ex : List Operand} {xs' : List Opd} (hR : Regs w (own κ) κ a env) (hG : GlobsIn w (own κ) G) (h : ex.mapM compileOpd = some xs') : Known w κ a.eval ex (xs'.map (evalO G env)) := by
  have hm := mapM_get h
  have hl : ex.length = xs'.length := by simpa using congrArg List.length hm
  refine ⟨by simpa using hl, fun i x p hx hp => ?_⟩
  rw [List.getElem?_map] at hp
  cases hq : xs'[i]? with
  | none => simp [hq] at hp
  | some o' =>
    simp [hq] at hp; subst hp
    have h3 : (xs'.map some)[i]? = some (some o') := by simp [hq]
    rw [← hm, List.getElem?_map, hx] at h3
    simp at h3
    exact evalO_rep hR hG h3

theorem known_under {ρ : Operand → Value} {ex : List Operand} {ps : List PV} (h : Known w κ ρ ex ps) (hok : okAll ps) : Known w κ ρ ex (ps.map (PV.under true)) := by
  refine ⟨by simpa using h.1, fun i x p hx hp => ?_⟩
  rw [List.getElem?_map] at hp
  cases hq : ps[i]? with
  | none => simp [hq] at hp
  | some q =>
    simp [hq] at hp; subst hp
    have hqo : q.okUnder true := by
      have : ∀ (ps : List PV), okAll ps → ∀ q ∈ ps, q.okUnder true := by
        intro ps
        induction ps with
        | nil => intro _ q h; cases h
        | cons p ps ih => intro h q hq; rcases List.mem_cons.1 hq with e | e
                          · rw [e]; exact h.1
                          · exact ih h.2 q e
      exact this ps hok q (List.mem_of_getElem? hq)
    exact rep_under (h.2 i x q hx hq) hqo rfl

theorem guard_wanted {ops : Array Oper} {o : Oper} {r : Nat} {want b : Bool} (hg : compileG ops o = some (some (r, want))) (hr : Rep w (own κ) κ (a.tmps.getD r undef) (.bool b)) :
    Region.wanted o (yielded ops a.tmps) = (b == want) := by
  unfold compileG at hg
  split at hg
  · cases hg
  · rename_i j want' ho
    simp only [Option.map_eq_some_iff] at hg
    obtain ⟨r', hr', hg⟩ := hg
    simp at hg
    obtain ⟨rfl, rfl⟩ := hg
    have hv := repC_bool hr
    have hlt : r' < a.tmps.size := by
      rcases Nat.lt_or_ge r' a.tmps.size with h | h
      · exact h
      · rw [Array.getD_eq_getD_getElem?, Array.getElem?_eq_none h] at hv; cases hv
    have hget : a.tmps[r']? = some (.bool b) := by
      rw [Array.getElem?_eq_getElem hlt]
      rw [Array.getD_eq_getD_getElem?, Array.getElem?_eq_getElem hlt] at hv
      simpa using hv
    have hy : yielded ops a.tmps j = some b := by
      unfold yielded
      rw [hr']; simp [hget]
    simp only [Region.wanted, ho, hy]
    cases b <;> cases want' <;> rfl

theorem known_g {ρ : Operand → Value} {ex : List Operand} {ps : List PV} {k : RK} (h : Known w κ ρ ex ps) (hok : gOk k ps) : Known w κ ρ ex (gArgs k ps) := by
  unfold gOk at hok
  unfold gArgs
  split at hok
  · rename_i c x y
    refine ⟨h.1, fun i e p he hp => ?_⟩
    match i, hp with
    | 0, hp =>
      simp at hp; subst hp
      exact rep_under (h.2 0 e c he rfl) hok rfl
    | 1, hp => exact h.2 1 e p he hp
    | 2, hp => exact h.2 2 e p he hp
  · exact known_under h hok
theorem rep_cond_true {ex : Nat → Prop} {v : Value} {p : PV} (h : Rep w ex κ v (.cond true p)) : Rep w ex κ v p := by
  cases h with
  | closed h => cases h
  | cond _ h _ => exact h rfl
theorem rep_cond_false {ex : Nat → Prop} {v : Value} {p : PV} (h : Rep w ex κ v (.cond false p)) : v = undef := by
  cases h with
  | closed h => cases h
  | cond _ _ h => exact h rfl
theorem guard_wanted' {ops : Array Oper} {o : Oper} {r : Nat} {want b : Bool} {p : PV} (hg : compileG ops o = some (some (r, want))) (hr : Rep w (own κ) κ (a.tmps.getD r undef) p) (hb : gEff want p = some b) :
    Region.wanted o (yielded ops a.tmps) = (b == want) := by
  unfold gEff at hb
  split at hb
  · cases hb; exact guard_wanted hg hr
  · simp only [Option.some.injEq] at hb; subst hb
    have hu : a.tmps.getD r undef = undef := rep_cond_false hr
    unfold compileG at hg
    split at hg
    · cases hg
    · rename_i j want' ho
      simp only [Option.map_eq_some_iff] at hg
      obtain ⟨r', hr', hg⟩ := hg
      simp at hg
      obtain ⟨rfl, rfl⟩ := hg
      have hy : yielded ops a.tmps j = none := by
        unfold yielded
        rw [hr']
        simp only [Option.bind_some]
        rcases Nat.lt_or_ge r' a.tmps.size with h | h
        · rw [Array.getD_eq_getD_getElem?, Array.getElem?_eq_getElem h] at hu
          simp only [Option.getD_some] at hu
          rw [Array.getElem?_eq_getElem h, hu]; rfl
        · rw [Array.getElem?_eq_none h]
      simp only [Region.wanted, ho, hy]
      cases want' <;> rfl
  · simp only [Option.some.injEq] at hb; subst hb
    exact guard_wanted hg (rep_cond_true hr)
  · cases hb

theorem unguarded_wanted {ops : Array Oper} {o : Oper} (hg : compileG ops o = some none) : Region.wanted o (yielded ops a.tmps) = true := by
  unfold compileG at hg
  split at hg
  · rename_i ho
    simp [Region.wanted, ho]
  · simp only [Option.map_eq_some_iff] at hg
    obtain ⟨r', hr', hg⟩ := hg
    simp at hg

theorem SR.put (h : SR G N C a w κ env μ) {w' : World} {κ' : Kap} {μ' : Mem} {v : Value} {p : PV} {dead : Option Nat} {d : Option Nat} (hd : ∀ i, d = some i → i < N) (hS : Sim w' κ' μ') (hG : Goes w κ w' κ' fun t => dead = some t) (hm : deadOk C.mv dead)
    (hv : Rep w' (own κ') κ' v p) : SR G N C (a.put d v) w' κ' (putE (killE env dead) d p) μ' := by
  have hd' : ∀ i, d = some i → i < a.tmps.size := fun i hi => by rw [h.size]; exact hd i hi
  refine ⟨by rw [put_size]; exact h.size, by rw [put_defers]; exact h.defers, ?_, hS, globs_goes h.globs hG, ?_⟩
  · cases dead with
    | none => exact regs_put (regs_still h.regs (hG.weak fun t ht => by cases ht)) hv hd'
    | some t => exact regs_put (regs_kill h.regs hG) hv hd'
  · have h1 := h.goes
    refine ⟨hG.os.trans h1.os, hG.tape.trans h1.tape, hG.output.trans h1.output, Nat.le_trans h1.size hG.size, hG.ex.trans h1.ex,
      fun b hb ho => (hG.block b (Nat.lt_of_lt_of_le hb h1.size) (h1.out b hb ho)).trans (h1.block b hb ho), fun b hb ho => hG.out b (Nat.lt_of_lt_of_le hb h1.size) (h1.out b hb ho),
      fun b s hs => hG.shape b s (h1.shape b s hs), fun t c hc hn => hG.tags t c (h1.tags t c hc hn) (fun hdd => ?_)⟩
    subst hdd
    exact hn hm


theorem compileOp_dst {ow : List Nat} {ops : Array Oper} {o : Oper} {c : CO} (h : compileOp P N ow ops o = some c) : c.dst = o.dst ∧ (∀ i, o.dst = some i → i < N) ∧ compileG ops o = some c.guard ∧ compileP P ow o = some c.op := by
  unfold compileOp at h
  split at h
  · rename_i hd
    simp only [Option.bind_eq_some_iff, Option.map_eq_some_iff] at h
    obtain ⟨g, hg, op, hop, rfl⟩ := h
    refine ⟨rfl, fun i hi => ?_, hg, hop⟩
    rw [hi] at hd; simpa using hd
  · cases h

theorem compileP_rd {ow : List Nat} {o : Oper} {k : RK} {xs : List Opd} (h : compileP P ow o = some (.rd k xs)) : ∃ ys, compileR P o.op = some (k, ys) ∧ ys.mapM compileOpd = some xs := by
  unfold compileP at h
  split at h
  · rename_i k' ys hy
    simp only [Option.map_eq_some_iff] at h
    obtain ⟨zs, hz, h⟩ := h
    cases h; exact ⟨ys, hy, hz⟩
  · split at h
    · simp only [Option.map_eq_some_iff] at h
      obtain ⟨zs, hz, h⟩ := h
      cases h
    · split at h
      · split at h
        · simp only [Option.bind_eq_some_iff, Option.map_eq_some_iff] at h
          obtain ⟨f', hf, zs, hz, h⟩ := h
          cases h
        · cases h
      · cases h

theorem compileP_eff {ow : List Nat} {o : Oper} {k : EK} {xs : List Opd} (h : compileP P ow o = some (.eff k xs)) : ∃ ys, compileE P ow o = some (k, ys) ∧ ys.mapM compileOpd = some xs := by
  unfold compileP at h
  split at h
  · simp only [Option.map_eq_some_iff] at h
    obtain ⟨zs, hz, h⟩ := h
    cases h
  · split at h
    · rename_i k' ys hy
      simp only [Option.map_eq_some_iff] at h
      obtain ⟨zs, hz, h⟩ := h
      cases h; exact ⟨ys, hy, hz⟩
    · split at h
      · split at h
        · simp only [Option.bind_eq_some_iff, Option.map_eq_some_iff] at h
          obtain ⟨f', hf, zs, hz, h⟩ := h
          cases h
        · cases h
      · cases h

theorem compileP_call {ow : List Nat} {o : Oper} {f : Opd} {xs : List Opd} (h : compileP P ow o = some (.call f xs)) :
    ∃ c f0, o.op = .call c ∧ c.callee = .value f0 ∧ compileOpd f0 = some f ∧ c.args.toList.mapM compileOpd = some xs := by
  unfold compileP at h
  split at h
  · simp only [Option.map_eq_some_iff] at h
    obtain ⟨zs, hz, h⟩ := h
    cases h
  · split at h
    · simp only [Option.map_eq_some_iff] at h
      obtain ⟨zs, hz, h⟩ := h
      cases h
    · split at h
      · rename_i c ho
        split at h
        · rename_i f0 hf0
          simp only [Option.bind_eq_some_iff, Option.map_eq_some_iff] at h
          obtain ⟨f', hf, zs, hz, h⟩ := h
          cases h; exact ⟨c, f0, ho, hf0, hf, hz⟩
        · cases h
      · cases h

theorem rep_fn {v : Value} {f : Nat} {ps qs : List PV} (h : Rep w (own κ) κ v (.fn f ps qs)) :
    ∃ first caps, v = .func (.func f) first caps ∧ first.size = ps.length ∧ caps.size = qs.length ∧ (∀ (i : Nat) (v : Value) (p : PV), first[i]? = some v → ps[i]? = some p → Rep w (own κ) κ v p) ∧
      ∀ (i : Nat) (v : Value) (p : PV), caps[i]? = some v → qs[i]? = some p → Rep w (own κ) κ v p := by
  cases h with
  | fn _ first caps _ _ h1 h2 h3 h4 => exact ⟨first, caps, rfl, h1, h2, h3, h4⟩
  | closed h => cases h with | fn _ first caps _ _ h1 h2 h3 h4 => exact ⟨first, caps, rfl, h1, h2, fun i v p a b => .closed (h3 i v p a b), fun i v p a b => .closed (h4 i v p a b)⟩

theorem reps_append {vs us : Array Value} {ps qs : List PV} (h1 : Reps w κ vs ps) (h2 : Reps w κ us qs) : Reps w κ (vs ++ us) (ps ++ qs) := by
  refine ⟨by simp [h1.1, h2.1], fun i v p hv hp => ?_⟩
  rcases Nat.lt_or_ge i vs.size with hi | hi
  · rw [Array.getElem?_append_left hi] at hv
    rw [List.getElem?_append_left (by rw [← h1.1]; exact hi)] at hp
    exact h1.2 i v p hv hp
  · rw [Array.getElem?_append_right hi] at hv
    rw [List.getElem?_append_right (by rw [← h1.1]; exact hi), ← h1.1] at hp
    exact h2.2 _ v p hv hp

/-- The run of a call: the callee is entered. -/
theorem call_run {o : Oper} {c : Call} {f0 : Operand} (ho : o.op = .call c) (hf0 : c.callee = .value f0) {f : Nat} {ps qs as : List PV} (hf : Rep w (own κ) κ (a.eval f0) (.fn f ps qs))
    (hk : Known w κ a.eval c.args.toList as) (he : Ent P f) : ∃ vs, Reps w κ vs (ps ++ as ++ qs) ∧ ∀ w', (execOp a.eval o).run P w' = .ok (.enter f vs) w' := by
  obtain ⟨first, caps, hv, h1, h2, h3, h4⟩ := rep_fn hf
  obtain ⟨fn, hfn, hn1, hn2⟩ := he
  refine ⟨first ++ c.args.map a.eval ++ caps, ?_, fun w' => ?_⟩
  · refine reps_append (reps_append ⟨h1, h3⟩ ⟨by simpa using hk.1, fun i v p hv hp => ?_⟩) ⟨h2, h4⟩
    rw [Array.getElem?_map] at hv
    cases hx : c.args[i]? with
    | none => simp [hx] at hv
    | some x => simp [hx] at hv; subst hv; exact hk.2 i x p (by simpa using hx) hp
  · simp only [execOp, ho, resolve, hf0, hv, Deferred.ofValue, invoke, callFunc, Sem.run_bind, Sem.run_pure, run_program, Result.andThen_ok, hfn, hn1, hn2, Bool.false_eq_true, if_false]

theorem view_closed {ex : Nat → Prop} {v : Value} {p : PV} (h : RepC w ex v p) : p.seen μ = true → RepC w ex v (p.view μ) := by
  have map_get : ∀ (ps : List PV) (i : Nat) (p : PV), (ps.map (PV.view μ))[i]? = some p → ∃ q, ps[i]? = some q ∧ p = q.view μ := by
    intro ps i p h
    rw [List.getElem?_map] at h
    cases hq : ps[i]? with
    | none => simp [hq] at h
    | some q => simp [hq] at h; exact ⟨q, rfl, h.symm⟩
  induction h with
  | fn f first caps ps qs h1 h2 h3 h4 ih3 ih4 =>
    intro hp
    simp only [PV.seen, Bool.and_eq_true, allMap] at hp
    simp only [PV.view]
    refine .fn f first caps _ _ (by simpa using h1) (by simpa using h2) (fun i v p a b => ?_) (fun i v p a b => ?_)
    · obtain ⟨q, hq, rfl⟩ := map_get ps i p b
      exact ih3 i v q a hq (hp.1 q (List.mem_of_getElem? hq))
    · obtain ⟨q, hq, rfl⟩ := map_get qs i p b
      exact ih4 i v q a hq (hp.2 q (List.mem_of_getElem? hq))
  | agg vs ps hs hr ih =>
    intro hp
    simp only [PV.seen, allMap] at hp
    simp only [PV.view]
    refine .agg vs _ (by simpa using hs) (fun i v p a b => ?_)
    obtain ⟨q, hq, rfl⟩ := map_get ps i p b
    exact ih i v q a hq (hp q (List.mem_of_getElem? hq))
  | tup vs ps hs hr ih =>
    intro hp
    simp only [PV.seen, allMap] at hp
    simp only [PV.view]
    refine .tup vs _ (by simpa using hs) (fun i v p a b => ?_)
    obtain ⟨q, hq, rfl⟩ := map_get ps i p b
    exact ih i v q a hq (hp q (List.mem_of_getElem? hq))
  | int k n => intro _; simp only [PV.view]; exact .int k n
  | bool b => intro _; simp only [PV.view]; exact .bool b
  | str s => intro _; simp only [PV.view]; exact .str s
  | nilFn => intro _; simp only [PV.view]; exact .nilFn
  | nilPtr => intro _; simp only [PV.view]; exact .nilPtr
  | nilSl => intro _; simp only [PV.view]; exact .nilSl
  | nilMap => intro _; simp only [PV.view]; exact .nilMap
  | yl l => intro _; simp only [PV.view]; exact .yl l
  | list a len cap sh xs b off val h1 h2 h3 h4 h5 h6 h7 _ => intro _; simp only [PV.view]; exact RepC.list a len cap sh xs b off val h1 h2 h3 h4 h5 h6 h7
  | full a len sh xs b off val h1 h3 h4 h5 h6 h7 _ => intro _; simp only [PV.view]; exact RepC.full a len sh xs b off val h1 h3 h4 h5 h6 h7
  | cmap r kd es ents clock h1 h2 h3 h4 h4' h5 h6 _ _ => intro _; simp only [PV.view]; exact RepC.cmap r kd es ents clock h1 h2 h3 h4 h4' h5 h6
  | cptr b o off sh x val h1 h2 h3 h4 _ => intro _; simp only [PV.view]; exact RepC.cptr b o off sh x val h1 h2 h3 h4

/-- What a call by value leaves. -/
theorem callRes_run (hS : Sim w κ μ) (hG : GlobsIn w (own κ) G) {f : Nat} {as : List PV} {res : PV} (h : callRes P G f as μ res) {vs : Array Value} (hv : Reps w κ vs as) :
    Calls P f vs w fun e w' => ∃ v, e = .returned v ∧ RowKit.Below w.heap.size w w' ∧ RepC w' (own κ) v res := by
  obtain ⟨-, n, h2, h3, h4⟩ := h
  rw [allMap] at h3
  have hget : ∀ (i : Nat) (p : PV), (as.map (PV.lend n μ))[i]? = some p → ∃ q, as[i]? = some q ∧ p = q.lend n μ := fun i p h => lend_get h
  rcases h4 with h4 | ⟨rfl, h4⟩
  · refine (h2 w κ.ex vs hS.exlt (fun g sh x hg => (hG g sh x hg).mono ⟨fun _ _ _ => rfl, fun b _ h h' => h (.inl h')⟩) ⟨by simpa using hv.1, fun i v p a b => ?_⟩).mono ?_
    · obtain ⟨q, hq, rfl⟩ := hget i p b
      exact rep_lend hS n (hv.2 i v q a hq) (h3 q (List.mem_of_getElem? hq))
    · rintro e w' ⟨v, he, hB, hr⟩
      exact ⟨v, he, hB, repC_flat hr h4⟩
  · rw [allMap] at h4
    refine (h2 w (own κ) vs (fun b hb => ?_) hG ⟨by simpa using hv.1, fun i v p a b => ?_⟩)
    · rcases hb with hb | ⟨t, hb⟩
      · exact hS.exlt b hb
      · exact hS.lt t b hb
    · obtain ⟨q, hq, rfl⟩ := hget i p b
      have hm := List.mem_of_getElem? hq
      exact view_closed (rep_noOwn (hv.2 i v q a hq) (h4 q hm)) (h3 q hm)


theorem execOp_mono {ops : Array Oper} {Q : Exit → Act → World → Prop} {rest : List Oper} {o : Oper} {v : Value} {w' : World} (hw : Region.wanted o (yielded ops a.tmps) = true)
    (hrun : (execOp a.eval o).run P w = .ok (.value v) w' ∨ ((execOp a.eval o).run P w = .ok .skip w' ∧ v = undef)) (h : wpList P ops Q rest (a.put o.dst v) w') : wpList P ops Q (o :: rest) a w := by
  simp only [wpList, hw, if_true]
  refine .inl ?_
  unfold Oper.wp
  rcases hrun with hrun | ⟨hrun, rfl⟩
  · rw [hrun]; exact h
  · rw [hrun]; exact h

theorem execOp_call {ops : Array Oper} {Q : Exit → Act → World → Prop} {rest : List Oper} {o : Oper} {f : Nat} {vs : Array Value} (hw : Region.wanted o (yielded ops a.tmps) = true)
    (hrun : (execOp a.eval o).run P w = .ok (.enter f vs) w) (h : Calls P f vs w fun e w' => ∃ v, e = .returned v ∧ wpList P ops Q rest (a.put o.dst v) w') : wpList P ops Q (o :: rest) a w := by
  simp only [wpList, hw, if_true]
  refine .inl ?_
  unfold Oper.wp
  rw [hrun]
  exact h.mono fun e w' ⟨v, he, hp⟩ => by subst he; exact hp

theorem skip_op {ops : Array Oper} {Q : Exit → Act → World → Prop} {rest : List Oper} {o : Oper} (hw : Region.wanted o (yielded ops a.tmps) = false)
    (h : wpList P ops Q rest (a.put o.dst undef) w) : wpList P ops Q (o :: rest) a w := by
  simp only [wpList, hw, Bool.false_eq_true, if_false]
  exact h

/-- The operations of a region, one by one. -/
theorem opsW_sound {ow : List Nat} {ops : Array Oper} {Q : Exit → Act → World → Prop} : ∀ {l : List Oper} {cs : List CO} {a : Act} {w : World} {κ : Kap} {env : Env} {μ : Mem} {K : Env → Mem → Prop}, l.mapM (compileOp P N ow ops) = some cs →
    opsW P G false C.mv cs env μ K → SR G N C a w κ env μ → (∀ env' μ' a' w' κ', K env' μ' → SR G N C a' w' κ' env' μ' → Q .normal a' w') → wpList P ops Q l a w
  | [], cs, a, w, κ, env, μ, K, hm, h, hR, hK => by
    simp at hm; subst hm
    exact hK _ _ _ _ _ h hR
  | o :: l, cs, a, w, κ, env, μ, K, hm, h, hR, hK => by
    simp only [List.mapM_cons, Option.bind_eq_bind, Option.bind_eq_some_iff] at hm
    obtain ⟨c, hc, cs', hcs, hm⟩ := hm
    simp at hm; subst hm
    obtain ⟨hdst, hd, hg, hop⟩ := compileOp_dst hc
    have next : ∀ {env' : Env} {μ' : Mem} {a' : Act} {w' : World} {κ' : Kap}, opsW P G false C.mv cs' env' μ' K → SR G N C a' w' κ' env' μ' → wpList P ops Q l a' w' := fun h' hR' => opsW_sound hcs h' hR' hK
    obtain ⟨cd, cg, cop⟩ := c
    simp only at hdst hg hop
    subst hdst
    simp only [opsW, stepW] at h
    cases cg with
    | none =>
      have hw := unguarded_wanted (a := a) hg
      simp only at h
      cases cop with
      | rd k args =>
        simp only at h
        obtain ⟨h1, h2⟩ := h
        obtain ⟨ys, hcr, hys⟩ := compileP_rd hop
        obtain ⟨v, hv, hrun⟩ := rd_sound hR.sim hcr (known_of hR.regs hR.globs hys) h1
        refine execOp_mono hw (.inl (hrun w (Same.refl w))) (next (κ' := κ) h2 ?_)
        exact hR.put (dead := none) hd hR.sim (Goes.refl _ _ _) trivial hv
      | eff k args =>
        simp only [true_and] at h
        obtain ⟨ys, hce, hys⟩ := compileP_eff hop
        obtain ⟨v, p, dead, μ', w', κ', hrun, ⟨hdk, hK'⟩, hS', hG', hv⟩ := eff_sound hR.sim hce (known_of hR.regs hR.globs hys) h
        exact execOp_mono hw hrun (next hK' (hR.put hd hS' hG' hdk hv))
      | call f args =>
        simp only at h
        obtain ⟨cl, f0, ho, hf0, hf, hys⟩ := compileP_call hop
        have hfr := evalO_rep hR.regs hR.globs hf
        have hkn := known_of hR.regs hR.globs hys
        unfold calleeK at h
        split at h
        · rename_i g first caps hfe
          rw [hfe] at hfr
          rcases h with ⟨res, hres, -, -, hK'⟩ | ⟨-, hent, h⟩
          · obtain ⟨vs, hvs, hrun⟩ := call_run ho hf0 hfr hkn hres.1
            refine execOp_call hw (hrun w) ((callRes_run hR.sim hR.globs hres hvs).mono ?_)
            rintro e w' ⟨v, rfl, hB, hr⟩
            exact ⟨v, rfl, next hK' (hR.put (dead := none) hd (hR.sim.below hB) (Goes.below hB _) trivial (.closed (hr.mono ⟨fun _ _ _ => rfl, fun _ _ h => h⟩)))⟩
          · obtain ⟨vs, hvs, hrun⟩ := call_run ho hf0 hfr hkn hent
            rcases h with ⟨R, hp, hRK⟩ | ⟨t, R, hp, hRK⟩
            · refine execOp_call hw (hrun w) ((hp w κ vs hR.sim hR.globs hvs).mono ?_)
              rintro e w' ⟨v, p, μ', κ', rfl, hRp, hS', hv, hG'⟩
              exact ⟨v, rfl, next (hRK p μ' hRp).2 (hR.put (dead := none) hd hS' (hG'.weak fun t ht => by cases ht) trivial hv)⟩
            · refine execOp_call hw (hrun w) ((hp w κ vs hR.sim hR.globs hvs).mono ?_)
              rintro e w' ⟨v, p, μ', κ', rfl, hRp, hS', hv, hG'⟩
              exact ⟨v, rfl, next (hRK p μ' hRp).2 (hR.put (dead := some t) hd hS' (hG'.weak fun i hi => by simp [killTag] at hi; rw [hi]) (hRK p μ' hRp).1 hv)⟩
        · exact h.elim
    | some gw =>
      obtain ⟨r, want⟩ := gw
      simp only at h
      split at h
      · rename_i b hb
        have hw := guard_wanted' hg (hR.regs r) hb
        unfold stepG at h
        cases cop with
        | rd k args =>
          simp only at h
          obtain ⟨h1, h2⟩ := h
          obtain ⟨ys, hcr, hys⟩ := compileP_rd hop
          by_cases hbw : b = want
          · obtain ⟨h3, h4⟩ := h1 hbw
            obtain ⟨v, hv, hrun⟩ := rd_sound hR.sim hcr (known_g (known_of hR.regs hR.globs hys) h3) h4
            refine execOp_mono (by rw [hw, hbw]; simp) (.inl (hrun w (Same.refl w))) (next (κ' := κ) h2 ?_)
            exact hR.put (dead := none) hd hR.sim (Goes.refl _ _ _) trivial (.cond _ (fun _ => hv) (fun hh => by rw [hbw] at hh; simp at hh))
          · refine skip_op (by rw [hw]; simpa using hbw) (next (κ' := κ) h2 ?_)
            exact hR.put (dead := none) hd hR.sim (Goes.refl _ _ _) trivial (.cond _ (fun hh => absurd (by simpa using hh) hbw) (fun _ => rfl))
        | eff k args =>
          simp only [true_and] at h
          obtain ⟨h1, h2⟩ := h
          obtain ⟨ys, hce, hys⟩ := compileP_eff hop
          by_cases hbw : b = want
          · obtain ⟨h3, h4⟩ := h1 hbw
            obtain ⟨v, p, dead, μ', w', κ', hrun, ⟨hdk, hK'⟩, hS', hG', hv⟩ := eff_sound hR.sim hce (known_under (known_of hR.regs hR.globs hys) h3) h4
            exact execOp_mono (by rw [hw, hbw]; simp) hrun (next hK' (hR.put hd hS' hG' hdk hv))
          · refine skip_op (by rw [hw]; simpa using hbw) (next (κ' := κ) (h2 hbw) ?_)
            exact hR.put (dead := none) hd hR.sim (Goes.refl _ _ _) trivial (.junk _)
        | call f args =>
          simp only at h
          obtain ⟨res, h1, h2⟩ := h
          obtain ⟨cl, f0, ho, hf0, hf, hys⟩ := compileP_call hop
          by_cases hbw : b = want
          · obtain ⟨h3, h4, h5, -⟩ := h1 hbw
            have hfr := rep_under (evalO_rep hR.regs hR.globs hf) h3 rfl
            have hkn := known_under (known_of hR.regs hR.globs hys) h4
            unfold calleeR at h5
            split at h5
            · rename_i g first caps hfe
              rw [hfe] at hfr
              obtain ⟨vs, hvs, hrun⟩ := call_run ho hf0 hfr hkn h5.1
              refine execOp_call (by rw [hw, hbw]; simp) (hrun w) ((callRes_run hR.sim hR.globs h5 hvs).mono ?_)
              rintro e w' ⟨v, rfl, hB, hr⟩
              exact ⟨v, rfl, next h2 (hR.put (dead := none) hd (hR.sim.below hB) (Goes.below hB _) trivial (.cond _ (fun _ => .closed hr) (fun hh => by rw [hbw] at hh; simp at hh)))⟩
            · exact h5.elim
          · refine skip_op (by rw [hw]; simpa using hbw) (next (κ' := κ) h2 ?_)
            exact hR.put (dead := none) hd hR.sim (Goes.refl _ _ _) trivial (.cond _ (fun hh => absurd (by simpa using hh) hbw) (fun _ => rfl))
      · exact h.elim

end
end PG

namespace PG
open Go
set_option linter.unusedSimpArgs false
set_option linter.unusedVariables false
section
variable {P : Program} {G : Globs} {N : Nat} {w : World} {κ : Kap} {env : Env} {μ : Mem}

/-! ### A region whose order is open -/
theorem quiet_rd {o : Oper} {a : Act} {Cl : World → Prop} {K : Act → Prop} {v : Value} (hrun : ∀ w', Cl w' → (execOp a.eval o).run P w' = .ok (.value v) w') (h : K (a.put o.dst v)) : o.quiet P a Cl K :=
  ⟨v, fun w' hw => by unfold Oper.quietAt; rw [hrun w' hw]; exact ⟨rfl, rfl⟩, h⟩

theorem quiet_call {o : Oper} {a : Act} {Cl : World → Prop} {K : Act → Prop} {f : Nat} {vs : Array Value} {v : Value} (hrun : ∀ w', Cl w' → (execOp a.eval o).run P w' = .ok (.enter f vs) w')
    (hc : ∀ w', Cl w' → Calls P f vs w' fun e w'' => e = .returned v ∧ Cl w'') (h : K (a.put o.dst v)) : o.quiet P a Cl K :=
  ⟨v, fun w' hw => by unfold Oper.quietAt; rw [hrun w' hw]; exact ⟨rfl, hc w' hw⟩, h⟩

theorem callRes_quiet (hS : Sim w κ μ) (hG : GlobsIn w (own κ) G) {f : Nat} {as : List PV} {res : PV} (h : callRes P G f as μ res) (hfl : res.flat = true) {vs : Array Value} (hv : Reps w κ vs as) :
    ∃ v, Rep w (own κ) κ v res ∧ ∀ w', RowKit.Below w.heap.size w w' → Calls P f vs w' fun e w'' => e = .returned v ∧ RowKit.Below w.heap.size w w'' := by
  obtain ⟨e0, w0, fr, ⟨v0, -, -, hr0⟩, -⟩ := callRes_run hS hG h hv []
  refine ⟨v0, .closed (repC_flat hr0 hfl), fun w' hB => ?_⟩
  have hG' : Goes w κ w' κ (fun _ => False) := Goes.below hB _
  refine (callRes_run (hS.below hB) (globs_goes hG hG') h (vs := vs) ⟨hv.1, fun i v p a b => (hv.2 i v p a b).still hG'⟩).mono ?_
  rintro e w'' ⟨v, rfl, hB', hr⟩
  rw [repC_uniq hr0 hfl hr]
  exact ⟨rfl, hB.trans (hB'.mono hB.size)⟩

theorem opsQ_sound {ow : List Nat} {ops : Array Oper} {mv : Nat → Bool} {Q : Act → Prop} (hS : Sim w κ μ) (hGl : GlobsIn w (own κ) G) : ∀ {l : List Oper} {cs : List CO} {a : Act} {env : Env} {K : Env → Mem → Prop}, l.mapM (compileOp P N ow ops) = some cs →
    opsW P G true mv cs env μ K → a.tmps.size = N → a.defers = [] → Regs w (own κ) κ a env → (∀ env' a', K env' μ → a'.tmps.size = N → a'.defers = [] → Regs w (own κ) κ a' env' → Q a') →
    wpQuiet P ops (fun w' => RowKit.Below w.heap.size w w') Q l a
  | [], cs, a, env, K, hm, h, hN, hD, hR, hK => by
    simp at hm; subst hm
    exact hK _ _ h hN hD hR
  | o :: l, cs, a, env, K, hm, h, hN, hD, hR, hK => by
    simp only [List.mapM_cons, Option.bind_eq_bind, Option.bind_eq_some_iff] at hm
    obtain ⟨c, hc, cs', hcs, hm⟩ := hm
    simp at hm; subst hm
    obtain ⟨hdst, hd, hg, hop⟩ := compileOp_dst hc
    have next : ∀ {env' : Env} {v : Value} {p : PV}, opsW P G true mv cs' (putE env o.dst p) μ K → Rep w (own κ) κ v p → wpQuiet P ops (fun w' => RowKit.Below w.heap.size w w') Q l (a.put o.dst v) := fun {env'} {v} {p} h' hv =>
      opsQ_sound hS hGl hcs h' (by rw [put_size]; exact hN) (by rw [put_defers]; exact hD) (regs_put hR hv (fun i hi => by rw [hN]; exact hd i hi)) hK
    obtain ⟨cd, cg, cop⟩ := c
    simp only at hdst hg hop
    subst hdst
    simp only [opsW, stepW] at h
    simp only [wpQuiet]
    cases cg with
    | none =>
      have hw := unguarded_wanted (a := a) hg
      rw [if_pos hw]
      simp only at h
      cases cop with
      | rd k args =>
        simp only at h
        obtain ⟨h1, h2⟩ := h
        obtain ⟨ys, hcr, hys⟩ := compileP_rd hop
        obtain ⟨v, hv, hrun⟩ := rd_sound hS hcr (known_of hR hGl hys) h1
        exact quiet_rd (fun w' hB => hrun w' hB.block) (next (env' := env) h2 hv)
      | eff k args => simp at h
      | call f args =>
        simp only at h
        obtain ⟨cl, f0, ho, hf0, hf, hys⟩ := compileP_call hop
        have hfr := evalO_rep hR hGl hf
        have hkn := known_of hR hGl hys
        unfold calleeK at h
        split at h
        · rename_i g first caps hfe
          rw [hfe] at hfr
          rcases h with ⟨res, hres, hfl, -, hK'⟩ | ⟨hq, -⟩
          · obtain ⟨vs, hvs, hrun⟩ := call_run ho hf0 hfr hkn hres.1
            obtain ⟨v, hv, hcall⟩ := callRes_quiet hS hGl hres (hfl rfl) hvs
            exact quiet_call (fun w' _ => hrun w') hcall (next (env' := env) hK' hv)
          · cases hq
        · exact h.elim
    | some gw =>
      obtain ⟨r, want⟩ := gw
      simp only at h
      split at h
      · rename_i b hb
        have hw := guard_wanted' hg (hR r) hb
        unfold stepG at h
        cases cop with
        | rd k args =>
          simp only at h
          obtain ⟨h1, h2⟩ := h
          obtain ⟨ys, hcr, hys⟩ := compileP_rd hop
          by_cases hbw : b = want
          · obtain ⟨h3, h4⟩ := h1 hbw
            obtain ⟨v, hv, hrun⟩ := rd_sound hS hcr (known_g (known_of hR hGl hys) h3) h4
            rw [if_pos (by rw [hw, hbw]; simp)]
            exact quiet_rd (fun w' hB => hrun w' hB.block) (next (env' := env) h2 (.cond _ (fun _ => hv) (fun hh => by rw [hbw] at hh; simp at hh)))
          · rw [if_neg (by rw [hw]; simpa using hbw)]
            exact next (env' := env) h2 (.cond _ (fun hh => absurd (by simpa using hh) hbw) (fun _ => rfl))
        | eff k args => simp at h
        | call f args =>
          simp only at h
          obtain ⟨res, h1, h2⟩ := h
          obtain ⟨cl, f0, ho, hf0, hf, hys⟩ := compileP_call hop
          by_cases hbw : b = want
          · obtain ⟨h3, h4, h5, h6⟩ := h1 hbw
            have hfr := rep_under (evalO_rep hR hGl hf) h3 rfl
            have hkn := known_under (known_of hR hGl hys) h4
            unfold calleeR at h5
            split at h5
            · rename_i g first caps hfe
              rw [hfe] at hfr
              obtain ⟨vs, hvs, hrun⟩ := call_run ho hf0 hfr hkn h5.1
              obtain ⟨v, hv, hcall⟩ := callRes_quiet hS hGl h5 (by simpa using h6) hvs
              rw [if_pos (by rw [hw, hbw]; simp)]
              exact quiet_call (fun w' _ => hrun w') hcall (next (env' := env) h2 (.cond _ (fun _ => hv) (fun hh => by rw [hbw] at hh; simp at hh)))
            · exact h5.elim
          · rw [if_neg (by rw [hw]; simpa using hbw)]
            exact next (env' := env) h2 (.cond _ (fun hh => absurd (by simpa using hh) hbw) (fun _ => rfl))
      · exact h.elim

/-! ### A region whose order is open, with effects: in whatever order they come up -/
inductive Sched where
  | done
  | stop
  | alt (l : List CO) (s more : Sched)
  deriving Inhabited
def schedW (P : Program) (G : Globs) (mv : Nat → Bool) : Sched → Env → Mem → (Env → Mem → Prop) → Prop
  | .done, env, μ, K => K env μ
  | .stop, _, _, _ => True
  | .alt l s more, env, μ, K => opsW P G false mv l env μ (fun e m => schedW P G mv s e m K) ∧ schedW P G mv more env μ K
def CO.wl (c : CO) : Bool :=
  match c.op with
  | .rd k _ => k.wl
  | _ => false
def mkAlt (c : CO) (s more : Sched) : Sched :=
  match s with
  | .alt l s' .stop => .alt (c :: l) s' more
  | s => .alt [c] s more
def mkSched (ops : Array Oper) (cs : List CO) : Nat → Array Bool → Option Sched
  | 0, listed => if Region.ready .any ops listed = [] then some .done else none
  | f + 1, listed =>
    if Region.ready .any ops listed = [] then some .done else
    match (Region.ready .any ops listed).find? (fun i => ((cs[i]?).map CO.wl).getD false && Region.free .any ops listed i) with
    | some i => (cs[i]?).bind fun c => (mkSched ops cs f (listed.setIfInBounds i true)).map fun s => mkAlt c s .stop
    | none => (Region.ready .any ops listed).foldr (fun i acc => acc.bind fun more => (cs[i]?).bind fun c => (mkSched ops cs f (listed.setIfInBounds i true)).map fun s => mkAlt c s more) (some .stop)

theorem schedW_mkAlt {mv : Nat → Bool} (c : CO) (s more : Sched) (K : Env → Mem → Prop) : schedW P G mv (mkAlt c s more) env μ K = (stepW P G false mv c env μ (fun e m => schedW P G mv s e m K) ∧ schedW P G mv more env μ K) := by
  unfold mkAlt
  split
  · simp only [schedW, opsW, and_true]
  · simp only [schedW, opsW]

theorem upon_congr {o : Oper} {a : Act} {next : Act → World → Prop} {Q Q1 : Exit → Act → World → Prop} (hp : ∀ c a w, Q (.panic c) a w = Q1 (.panic c) a w) (hl : LetsOut Q = LetsOut Q1) (r : Result Next) : o.upon P a next Q r = o.upon P a next Q1 r := by
  unfold Oper.upon
  split <;> first | rfl | (rw [hp]; done) | skip
  congr 1
  funext e w''
  cases e <;> first | rfl | exact hp _ _ _ | exact hl

/-- One operation, from what is told of it. -/
theorem step_op {ow : List Nat} {ops : Array Oper} {C : Ctx} {i : Nat} {o : Oper} {c : CO} (hi : ops[i]? = some o) (hc : compileOp P N ow ops o = some c) {Q : Exit → Act → World → Prop} {KK : Act → World → Prop} {a : Act} {K : Env → Mem → Prop}
    (h : stepW P G false C.mv c env μ K) (hR : SR G N C a w κ env μ) (hK : ∀ env' μ' a' w' κ', K env' μ' → SR G N C a' w' κ' env' μ' → KK a' w') : wpOp P ops Q i KK a w := by
  let Q1 : Exit → Act → World → Prop := fun e a w => match e with
    | .normal => KK a w
    | e => Q e a w
  have := opsW_sound (P := P) (ops := ops) (Q := Q1) (l := [o]) (cs := [c]) (ow := ow) (K := K) (by simp [hc]) (by simpa [opsW] using h) hR hK
  simp only [wpList] at this
  have hl : LetsOut Q1 = LetsOut Q := rfl
  unfold wpOp
  rw [hi]
  simp only
  split
  · rename_i hw
    rw [if_pos hw] at this
    refine this.imp (fun h => ?_) (fun h => ⟨h.1, h.2⟩)
    unfold Oper.wp at h ⊢
    have e := upon_congr (P := P) (o := o) (a := a) (next := KK) (Q := Q1) (Q1 := Q) (fun _ _ _ => rfl) hl ((execOp a.eval o).run P w)
    exact e.mp h
  · rename_i hw
    rw [if_neg hw] at this
    exact this

/-- An operation that reads no memory yields its value in whatever world. -/
theorem step_yields {ow : List Nat} {ops : Array Oper} {C : Ctx} {o : Oper} {c : CO} (hc : compileOp P N ow ops o = some c) (hwl : c.wl = true) {a : Act} {K : Env → Mem → Prop}
    (h : stepW P G false C.mv c env μ K) (hR : SR G N C a w κ env μ) : ∃ v env', YieldsIf P ops (fun _ => True) o v a ∧ K env' μ ∧ SR G N C (a.put o.dst v) w κ env' μ := by
  obtain ⟨hdst, hd, hg, hop⟩ := compileOp_dst hc
  obtain ⟨cd, cg, cop⟩ := c
  simp only at hdst hg hop
  subst hdst
  cases cop with
  | eff k args => simp [CO.wl] at hwl
  | call f args => simp [CO.wl] at hwl
  | rd k args =>
    simp only [CO.wl] at hwl
    obtain ⟨ys, hcr, hys⟩ := compileP_rd hop
    cases cg with
    | none =>
      have hw := unguarded_wanted (a := a) hg
      simp only [stepW] at h
      obtain ⟨h1, h2⟩ := h
      obtain ⟨v, hv, hrun⟩ := rd_soundA hR.sim hcr (known_of hR.regs hR.globs hys) h1 hwl
      exact ⟨v, _, .inl ⟨hw, fun w' _ => hrun w' trivial⟩, h2, hR.put (dead := none) hd hR.sim (Goes.refl _ _ _) trivial hv⟩
    | some gw =>
      obtain ⟨r, want⟩ := gw
      simp only [stepW] at h
      split at h
      · rename_i b hb
        have hw := guard_wanted' hg (hR.regs r) hb
        simp only [stepG] at h
        obtain ⟨h1, h2⟩ := h
        by_cases hbw : b = want
        · obtain ⟨h3, h4⟩ := h1 hbw
          obtain ⟨v, hv, hrun⟩ := rd_soundA hR.sim hcr (known_g (known_of hR.regs hR.globs hys) h3) h4 hwl
          exact ⟨v, _, .inl ⟨by rw [hw, hbw]; simp, fun w' _ => hrun w' trivial⟩, h2, hR.put (dead := none) hd hR.sim (Goes.refl _ _ _) trivial (.cond _ (fun _ => hv) (fun hh => by rw [hbw] at hh; simp at hh))⟩
        · exact ⟨undef, _, .inr ⟨by rw [hw]; simpa using hbw, rfl⟩, h2, hR.put (dead := none) hd hR.sim (Goes.refl _ _ _) trivial (.cond _ (fun hh => absurd (by simpa using hh) hbw) (fun _ => rfl))⟩
      · exact h.elim

theorem mapM_at {ow : List Nat} {ops : Array Oper} {cs : List CO} (hcs : ops.toList.mapM (compileOp P N ow ops) = some cs) {i : Nat} {c : CO} (hc : cs[i]? = some c) : ∃ o, ops[i]? = some o ∧ compileOp P N ow ops o = some c := by
  have := mapM_get hcs
  have h1 : (cs.map some)[i]? = some (some c) := by rw [List.getElem?_map, hc]; rfl
  rw [← this, List.getElem?_map] at h1
  cases ho : ops.toList[i]? with
  | none => rw [ho] at h1; cases h1
  | some o => rw [ho] at h1; exact ⟨o, by simpa using ho, by simpa using h1⟩

theorem YieldsIf.any {ops : Array Oper} {S : World → Prop} {o : Oper} {v : Value} {a : Act} (h : YieldsIf P ops (fun _ => True) o v a) : YieldsIf P ops S o v a :=
  h.imp (fun ⟨hw, hv⟩ => ⟨hw, fun w _ => hv w trivial⟩) id
theorem sched_sound {ow : List Nat} {ops : Array Oper} {cs : List CO} {C : Ctx} (hcs : ops.toList.mapM (compileOp P N ow ops) = some cs) (hsel : Region.noSelect ops = true) {Q : Exit → Act → World → Prop} (hQ : ∀ c a w, ¬ Q (.panic c) a w) {K : Env → Mem → Prop} {S : World → Prop} (hS : ∀ a w κ env μ, SR G N C a w κ env μ → S w)
    (hK : ∀ env' μ' a' w' κ', K env' μ' → SR G N C a' w' κ' env' μ' → Q .normal a' w') :
    ∀ (fuel : Nat) (listed : Array Bool) (s : Sched), mkSched ops cs fuel listed = some s → ∀ (a : Act) (w : World) (κ : Kap) (env : Env) (μ : Mem), schedW P G C.mv s env μ K → SR G N C a w κ env μ → wpAnyH P .any ops Q S fuel listed a w := by
  intro fuel
  induction fuel with
  | zero =>
    intro listed s hs a w κ env μ h hR
    simp only [mkSched] at hs
    split at hs
    · rename_i hr
      cases hs
      exact wpAnyH_done hr (hK _ _ _ _ _ h hR) 0
    · cases hs
  | succ f ih =>
    intro listed s hs a w κ env μ h hR
    simp only [mkSched] at hs
    split at hs
    · rename_i hr
      cases hs
      exact wpAnyH_done hr (hK _ _ _ _ _ h hR) _
    · rename_i hne
      split at hs
      · rename_i i hf
        simp only [Option.bind_eq_some_iff, Option.map_eq_some_iff] at hs
        obtain ⟨c, hc, s', hs', rfl⟩ := hs
        obtain ⟨o, ho, hco⟩ := mapM_at hcs hc
        have hfi := List.find?_some hf
        rw [hc] at hfi
        simp only [Option.map_some, Option.getD_some, Bool.and_eq_true] at hfi
        rw [schedW_mkAlt] at h
        obtain ⟨v, env', hy, hK', hR'⟩ := step_yields hco hfi.1 h.1 hR
        exact wpAnyH_take ho hsel hfi.2 (by simpa using List.mem_of_find?_eq_some hf) (fun c a w hp => absurd hp (hQ c _ _)) (YieldsIf.any hy) (hS _ _ _ _ _ hR) (ih _ _ hs' _ _ _ _ _ hK' hR')
      · refine wpAnyH_all rfl hne ?_
        have key : ∀ (r : List Nat) (s : Sched), r.foldr (fun i acc => acc.bind fun more => (cs[i]?).bind fun c => (mkSched ops cs f (listed.setIfInBounds i true)).map fun s => mkAlt c s more) (some .stop) = some s →
            schedW P G C.mv s env μ K → ∀ i ∈ r, wpOp P ops Q i (fun a' w' => S w' ∧ wpAnyH P .any ops Q S f (listed.setIfInBounds i true) a' w') a w := by
          intro r
          induction r with
          | nil => intro s _ _ i hi; cases hi
          | cons j r ihr =>
            intro s hs h i hi
            simp only [List.foldr_cons, Option.bind_eq_some_iff, Option.map_eq_some_iff] at hs
            obtain ⟨more, hm, c, hc, s', hs', rfl⟩ := hs
            rw [schedW_mkAlt] at h
            rcases List.mem_cons.1 hi with rfl | hi
            · obtain ⟨o, ho, hco⟩ := mapM_at hcs hc
              exact step_op ho hco h.1 hR (fun env' μ' a' w' κ' h1 h2 => ⟨hS _ _ _ _ _ h2, ih _ _ hs' _ _ _ _ _ h1 h2⟩)
            · exact ihr more hm h.2 i hi
        exact key _ s hs h


/-! ### Loads of what is closed, ahead of all effects -/
def earlyL : POp → Option (List Opd)
  | .rd (.load none) [x] => some [x]
  | _ => none
def isLoad : Op → Bool
  | .load _ _ => true
  | _ => false
def CO.early (o : Oper) (c : CO) : Bool := c.wl || (c.guard.isNone && isLoad o.op && (earlyL c.op).isSome)
def earlyAt (o : Option Oper) (c : Option CO) : Bool :=
  match o, c with
  | some o, some c => CO.early o c
  | _, _ => false
def CO.toE (c : CO) : CO :=
  match c.guard, earlyL c.op with
  | none, some xs => ⟨c.dst, none, .rd .loadC xs⟩
  | _, _ => c
/-- Loads that are not to be taken ahead: their slots are named. -/
def barred (ow : List Nat) : Option CO → Bool
  | some ⟨some d, _, _⟩ => ow.contains (100000 + d)
  | _ => false
def mkSchedE (ow : List Nat) (ops : Array Oper) (cs : List CO) : Nat → Array Bool → Option Sched
  | 0, listed => mkSched ops cs 0 listed
  | f + 1, listed =>
    match (Region.ready .any ops listed).find? (fun i => earlyAt ops[i]? cs[i]? && (Region.free .any ops listed i && !barred ow cs[i]?)) with
    | some i => (cs[i]?).bind fun c => (mkSchedE ow ops cs f (listed.setIfInBounds i true)).map fun s => mkAlt c.toE s .stop
    | none => mkSched ops cs (f + 1) listed
/-- What isn't owned is as it was. -/
def Held (w : World) (κ : Kap) (w' : World) : Prop := ∀ b, b < w.heap.size → ¬ own κ b → w'.heap[b]? = w.heap[b]?
theorem load_early {o : Oper} {ρ : Operand → Value} {t : TypeId} {x : Operand} (ho : o.op = .load t x) (ht : shOf P t = some none) {ps : List PV} (hk : Known w κ ρ [x] ps) (hd : rdD μ .loadC ps) :
    ∃ v, Rep w (own κ) κ v (rdV μ .loadC ps) ∧ ∀ w', Held w κ w' → (execOp ρ o).run P w' = .ok (.value v) w' := by
  obtain ⟨p, rfl, hp⟩ := known1 hk
  cases p <;> simp only [rdD] at hd
  rename_i sh' y off
  generalize hu : ρ x = u at hp
  cases hp with
  | closed hp =>
  cases hp with
  | cptr b o' _ _ _ val hfit hoff hc hr =>
    obtain ⟨hsz, hag, -⟩ := shOf_spec ht
    have hlen := shaped_len (fits_shaped hfit)
    have hin : off < y.cells.length := by
      rcases hd with ⟨rfl, rfl⟩ | h
      · rw [hlen]; simp [Sh.size]
      · omega
    refine ⟨val off, ?_, fun w' hw => ?_⟩
    · simp only [rdV, cut]
      split
      · rename_i h
        obtain ⟨rfl, rfl⟩ := h
        have hxa : y.cells = [y] := by cases y <;> simp_all [fits, PV.scalar, PV.cells]
        exact .closed (hr 0 y (by rw [hxa]; rfl))
      · simp only [sub]
        rw [List.getElem?_eq_getElem hin]
        exact .closed (hr off _ (List.getElem?_eq_getElem hin))
    · obtain ⟨h1, h2⟩ := hc off hin
      have hb := World.block_lt_of_cell? _ _ h2
      have h3 : w'.cell? ⟨b, o' + off, none⟩ = some (val off) := by rw [World.cell?_of_block (hw b hb h1)]; exact h2
      simp [execOp, ho, hu, Instr.loadAt, Instr.sureAddr, loadVar, hag, h3]
theorem step_early {ow : List Nat} {ops : Array Oper} {C : Ctx} {o : Oper} {c : CO} (hc : compileOp P N ow ops o = some c) (hearly : CO.early o c = true) {a : Act} {K : Env → Mem → Prop}
    (h : stepW P G false C.mv c.toE env μ K) (hR : SR G N C a w κ env μ) : ∃ v env', YieldsIf P ops (Held w κ) o v a ∧ K env' μ ∧ SR G N C (a.put o.dst v) w κ env' μ := by
  by_cases hwl : c.wl = true
  · have he : c.toE = c := by
      obtain ⟨cd, cg, cop⟩ := c
      unfold CO.toE
      split
      · rename_i h1 h2
        simp only at h1 h2
        unfold earlyL at h2
        split at h2
        · simp [CO.wl, RK.wl] at hwl
        · cases h2
      · rfl
    rw [he] at h
    obtain ⟨v, env', h1, h2, h3⟩ := step_yields hc hwl h hR
    exact ⟨v, env', YieldsIf.any h1, h2, h3⟩
  · have hearly' : (c.guard.isNone = true ∧ isLoad o.op = true) ∧ (earlyL c.op).isSome = true := by
      unfold CO.early at hearly
      rw [Bool.or_eq_true] at hearly
      rcases hearly with h1 | h1
      · exact absurd h1 hwl
      · rw [Bool.and_eq_true, Bool.and_eq_true] at h1; exact h1
    obtain ⟨⟨hg0, hl⟩, he⟩ := hearly'
    obtain ⟨hdst, hd, hg, hop⟩ := compileOp_dst hc
    cases c with
    | mk cd cg cop =>
    simp only at hdst hg hop
    subst hdst
    cases cg with
    | some _ => simp at *
    | none =>
    unfold earlyL at he
    split at he
    · rename_i x heq
      simp only at heq
      subst heq
      obtain ⟨ys, hcr, hys⟩ := compileP_rd hop
      cases hoo : o.op with
      | load t x0 =>
        rw [hoo] at hcr
        simp only [compileR, Option.map_eq_some_iff, Prod.mk.injEq, RK.load.injEq] at hcr
        obtain ⟨sh, hsh, rfl, rfl⟩ := hcr
        have hw := unguarded_wanted (a := a) hg
        have hte : CO.toE ⟨o.dst, none, .rd (.load none) [x]⟩ = ⟨o.dst, none, .rd .loadC [x]⟩ := rfl
        rw [hte] at h
        simp only [stepW] at h
        obtain ⟨h1, h2⟩ := h
        obtain ⟨v, hv, hrun⟩ := load_early hoo hsh (known_of hR.regs hR.globs hys) h1
        exact ⟨v, _, .inl ⟨hw, fun w' hw' => hrun w' hw'⟩, h2, hR.put (dead := none) hd hR.sim (Goes.refl _ _ _) trivial hv⟩
      | _ => rw [hoo] at hl; simp [isLoad] at hl
    · simp at he
theorem sched_soundE {ow : List Nat} {ops : Array Oper} {cs : List CO} {C : Ctx} (hcs : ops.toList.mapM (compileOp P N ow ops) = some cs) (hsel : Region.noSelect ops = true) {Q : Exit → Act → World → Prop} (hQ : ∀ c a w, ¬ Q (.panic c) a w) {K : Env → Mem → Prop}
    (hK : ∀ env' μ' a' w' κ', K env' μ' → SR G N C a' w' κ' env' μ' → Q .normal a' w') :
    ∀ (fuel : Nat) (listed : Array Bool) (s : Sched), mkSchedE ow ops cs fuel listed = some s → ∀ (a : Act) (env : Env) (μ : Mem), schedW P G C.mv s env μ K → SR G N C a C.w0 C.κ0 env μ → wpAnyH P .any ops Q (Held C.w0 C.κ0) fuel listed a C.w0 := by
  have hS : ∀ a w κ env μ, SR G N C a w κ env μ → Held C.w0 C.κ0 w := fun a w κ env μ h b hb ho => h.goes.block b hb (fun ht => ho (.inr ht))
  intro fuel
  induction fuel with
  | zero =>
    intro listed s hs a env μ h hR
    exact sched_sound hcs hsel hQ hS hK 0 listed s hs a _ _ _ _ h hR
  | succ f ih =>
    intro listed s hs a env μ h hR
    simp only [mkSchedE] at hs
    split at hs
    · rename_i i hf
      simp only [Option.bind_eq_some_iff, Option.map_eq_some_iff] at hs
      obtain ⟨c, hc, s', hs', rfl⟩ := hs
      obtain ⟨o, ho, hco⟩ := mapM_at hcs hc
      have hfi := List.find?_some hf
      rw [hc, ho] at hfi
      rw [Bool.and_eq_true, Bool.and_eq_true] at hfi
      simp only [earlyAt] at hfi
      rw [schedW_mkAlt] at h
      obtain ⟨v, env', hy, hK', hR'⟩ := step_early hco hfi.1 h.1 hR
      exact wpAnyH_take ho hsel hfi.2.1 (by simpa using List.mem_of_find?_eq_some hf) (fun c a w hp => absurd hp (hQ c _ _)) hy (hS _ _ _ _ _ hR) (ih _ _ hs' _ _ _ hK' hR')
    · exact sched_sound hcs hsel hQ hS hK (f + 1) listed s hs a _ _ _ _ h hR
def mkS (ow : List Nat) (ops : Array Oper) (cs : List CO) : Option Sched :=
  if ow.contains 888888 = true then mkSchedE ow ops cs ops.size (Array.replicate ops.size false) else mkSched ops cs ops.size (Array.replicate ops.size false)

/-! ### Code -/
inductive PCode where
  | skip
  | region (q : Bool) (ops : List CO) (keep : List Nat)
  | regionA (s : Sched) (keep : List Nat)
  | seq (a b : PCode)
  | cond (c : Opd) (a b : PCode)
  | block (id : Nat) (b : PCode)
  | loop (b : PCode)
  | exit (id : Nat)
  | ret
  | scope (b : PCode)
  | label
  deriving Inhabited

def CO.still (c : CO) : Bool :=
  match c.op with
  | .eff _ _ => false
  | _ => true

/-- Is this region told with all its orders? (999999: each; 700000 + d: the one that fills slot d) -/
def asA (ow : List Nat) (cs : List CO) : Bool := ow.contains 999999 || ow.any fun x => decide (700000 ≤ x) && cs.any fun c => c.dst == some (x - 700000)

def compileC (P : Program) (N : Nat) (ow L : List Nat) : Code → Option PCode
  | .skip => some .skip
  | .region _ ops d => if d = true then (ops.toList.mapM (compileOp P N ow ops)).bind fun cs =>
      if cs.all CO.still = true ∧ asA ow cs = false then (if Region.lexB .any ops = true then some (.region true cs L) else none)
      else if Region.noSelect ops = true then (mkS ow ops cs).map fun s => .regionA s L else none else (ops.toList.mapM (compileOp P N ow ops)).map fun cs => .region false cs L
  | .seq a b => (compileC P N ow L a).bind fun a' => (compileC P N ow L b).map fun b' => .seq a' b'
  | .cond c a b => (compileOpd c).bind fun c' => (compileC P N ow L a).bind fun a' => (compileC P N ow L b).map fun b' => .cond c' a' b'
  | .block id b => (compileC P N ow L b).map fun b' => .block id b'
  | .loop b => (compileC P N ow L b).map fun b' => .loop b'
  | .exit id => some (.exit id)
  | .ret => some .ret
  | .scope b => (compileC P N ow L b).map fun b' => .scope b'
  | .label _ => some .label
  | _ => none

def keepE (L : List Nat) (env : Env) : Env := L.map fun i => (i, env.get i)

abbrev Post := Exit → Env → Mem → Prop

/-- From a frame and a world that are told by 'env' and 'μ' the code comes to its end, told by 'Q'. -/
def PW (P : Program) (G : Globs) (N : Nat) (mv : Nat → Bool) (c : PCode) (env : Env) (μ : Mem) (Q : Post) : Prop :=
  ∀ ow L code, compileC P N ow L code = some c → P.follows .mixedOrders = true → ∀ (C : Ctx) (a : Act) (w : World) (κ : Kap), C.mv = mv → SR G N C a w κ env μ →
    code.wp P (fun e a' w' => ∃ env' μ' κ', Q e env' μ' ∧ SR G N C a' w' κ' env' μ') a w

theorem keep_get (L : List Nat) (env : Env) (i : Nat) : (keepE L env).get i = env.get i ∨ (keepE L env).get i = .junk := by
  induction L with
  | nil => exact .inr rfl
  | cons j L ih =>
    simp only [keepE, List.map_cons, Env.get]
    split
    · rename_i h; subst h; exact .inl rfl
    · exact ih

theorem SR.weak {C : Ctx} {a : Act} {env' : Env} (h : SR G N C a w κ env μ) (he : ∀ i, env'.get i = env.get i ∨ env'.get i = .junk) : SR G N C a w κ env' μ :=
  ⟨h.size, h.defers, fun i => (he i).elim (fun e => by rw [e]; exact h.regs i) (fun e => by rw [e]; exact .junk _), h.sim, h.globs, h.goes⟩

variable {mv : Nat → Bool} {Q : Post}

theorem compileC_reg {ow L : List Nat} {id : Nat} {ops : Array Oper} {d : Bool} {x : PCode} (h : compileC P N ow L (.region id ops d) = some x) :
    (d = false ∧ ∃ cs, ops.toList.mapM (compileOp P N ow ops) = some cs ∧ x = .region false cs L) ∨ (d = true ∧ ∃ cs, ops.toList.mapM (compileOp P N ow ops) = some cs ∧ x = .region true cs L ∧ Region.lexB .any ops = true) ∨
      (d = true ∧ ∃ cs s, ops.toList.mapM (compileOp P N ow ops) = some cs ∧ mkS ow ops cs = some s ∧ x = .regionA s L ∧ Region.noSelect ops = true) := by
  simp only [compileC] at h
  split at h
  · rename_i hd
    simp only [Option.bind_eq_some_iff] at h
    obtain ⟨cs, hcs, h⟩ := h
    split at h
    · split at h
      · rename_i hB
        cases h; exact .inr (.inl ⟨hd, cs, hcs, rfl, hB⟩)
      · cases h
    · split at h
      · rename_i hB
        simp only [Option.map_eq_some_iff] at h
        obtain ⟨s, hs, h⟩ := h
        cases h; exact .inr (.inr ⟨hd, cs, s, hcs, hs, rfl, hB⟩)
      · cases h
  · rename_i hd
    simp only [Option.map_eq_some_iff] at h
    obtain ⟨cs, hcs, h⟩ := h
    cases h
    exact .inl ⟨by simpa using hd, cs, hcs, rfl⟩
theorem compileC_region {ow L : List Nat} {code : Code} {q : Bool} {cs : List CO} {L' : List Nat} (h : compileC P N ow L code = some (.region q cs L')) :
    ∃ id ops, code = .region id ops q ∧ ops.toList.mapM (compileOp P N ow ops) = some cs ∧ L' = L ∧ (q = true → Region.lexB .any ops = true) := by
  cases code with
  | region id ops d =>
    rcases compileC_reg h with ⟨rfl, cs', h1, h2⟩ | ⟨rfl, cs', h1, h2, h3⟩ | ⟨rfl, cs', s, h1, h2, h3, h4⟩
    · cases h2; exact ⟨id, ops, rfl, h1, rfl, fun h => by cases h⟩
    · cases h2; exact ⟨id, ops, rfl, h1, rfl, fun _ => h3⟩
    · cases h3
  | _ => simp [compileC, Option.bind_eq_some_iff] at h
theorem compileC_regionA {ow L : List Nat} {code : Code} {s : Sched} {L' : List Nat} (h : compileC P N ow L code = some (.regionA s L')) :
    ∃ id ops cs, code = .region id ops true ∧ ops.toList.mapM (compileOp P N ow ops) = some cs ∧ L' = L ∧ mkS ow ops cs = some s ∧ Region.noSelect ops = true := by
  cases code with
  | region id ops d =>
    rcases compileC_reg h with ⟨rfl, cs', h1, h2⟩ | ⟨rfl, cs', h1, h2, h3⟩ | ⟨rfl, cs', s', h1, h2, h3, h4⟩
    · cases h2
    · cases h2
    · cases h3; exact ⟨id, ops, cs', rfl, h1, rfl, h2, h4⟩
  | _ => simp [compileC, Option.bind_eq_some_iff] at h

theorem PW.region {cs : List CO} {L : List Nat} (h : opsW P G false mv cs env μ fun env' μ' => Q .normal (keepE L env') μ') : PW P G N mv (.region false cs L) env μ Q := by
  intro ow L' code hc _ C a w κ hmv hR
  obtain ⟨id, ops, rfl, hm, rfl, -⟩ := compileC_region hc
  subst hmv
  refine wp_region_list (opsW_sound hm h hR fun env' μ' a' w' κ' hK hR' => ⟨_, _, _, hK, hR'.weak (keep_get _ _)⟩)

theorem PW.regionQ {cs : List CO} {L : List Nat} (h : opsW P G true mv cs env μ fun env' μ' => Q .normal (keepE L env') μ') : PW P G N mv (.region true cs L) env μ Q := by
  intro ow L' code hc hmix C a w κ hmv hR
  obtain ⟨id, ops, rfl, hm, rfl, hB⟩ := compileC_region hc
  refine wp_region_quiet (C := fun w' => RowKit.Below w.heap.size w w') hmix (hB rfl) ((RowKit.Below.refl _ _).drew) (opsQ_sound hR.sim hR.globs hm h hR.size hR.defers hR.regs fun env' a' hK hN hD hR' w' hB' => ?_)
  have hG : Goes w κ w' κ (fun _ => False) := Goes.below hB' _
  refine ⟨_, _, κ, hK, SR.weak ⟨hN, hD, regs_still hR' hG, hR.sim.below hB', globs_goes hR.globs hG, hR.goes.trans (hG.weak fun _ h => h.elim)⟩ (keep_get _ _)⟩

theorem PW.regionA {s : Sched} {L : List Nat} (h : schedW P G mv s env μ fun env' μ' => Q .normal (keepE L env') μ') : PW P G N mv (.regionA s L) env μ Q := by
  intro ow L' code hc hmix C a w κ hmv hR
  obtain ⟨id, ops, cs, rfl, hm, rfl, hs, hsel⟩ := compileC_regionA hc
  subst hmv
  have hR1 : SR G N C a { w with drawn := w.drawn + 1 } κ env μ := by
    have hG : Goes w κ w.drew κ (fun _ => False) := Goes.drew _ _ _
    exact ⟨hR.size, hR.defers, regs_still hR.regs hG, hR.sim.drew, globs_goes hR.globs hG, hR.goes.trans (hG.weak fun _ h => h.elim)⟩
  have h1 : (Code.region id ops true).wp P (fun e a' w' => e = .normal ∧ ∃ env' μ' κ', Q .normal env' μ' ∧ SR G N C a' w' κ' env' μ') a w := by
    unfold mkS at hs
    split at hs
    · have hR2 : SR G N ⟨{ w with drawn := w.drawn + 1 }, κ, C.mv⟩ a { w with drawn := w.drawn + 1 } κ env μ := ⟨hR1.size, hR1.defers, hR1.regs, hR1.sim, hR1.globs, Goes.refl _ _ _⟩
      refine wp_region_held (S := Held { w with drawn := w.drawn + 1 } κ) hmix (sched_soundE (C := ⟨{ w with drawn := w.drawn + 1 }, κ, C.mv⟩) hm hsel (fun c a w hp => by cases hp.1) (fun env' μ' a' w' κ' hK hR' =>
        ⟨rfl, _, _, _, hK, SR.weak ⟨hR'.size, hR'.defers, hR'.regs, hR'.sim, hR'.globs, hR1.goes.trans hR'.goes⟩ (keep_get _ _)⟩) _ _ _ hs _ _ _ h hR2)
    · refine wp_region_held (S := fun _ => True) hmix (sched_sound (S := fun _ => True) hm hsel (fun c a w hp => by cases hp.1) (fun _ _ _ _ _ _ => trivial) (fun env' μ' a' w' κ' hK hR' => ⟨rfl, _, _, _, hK, hR'.weak (keep_get _ _)⟩) _ _ _ hs _ _ _ _ _ h hR1)
  refine wp_mono h1 ?_
  rintro e a' w' ⟨rfl, env', μ', κ', hq, hR'⟩
  exact ⟨env', μ', κ', hq, hR'⟩

def seqQ (P : Program) (G : Globs) (N : Nat) (mv : Nat → Bool) (b : PCode) (Q : Post) : Post := fun e env μ =>
  match e with
  | .normal => PW P G N mv b env μ Q
  | e => Q e env μ

theorem compileC_seq {ow L : List Nat} {code : Code} {x y : PCode} (h : compileC P N ow L code = some (.seq x y)) : ∃ x0 y0, code = .seq x0 y0 ∧ compileC P N ow L x0 = some x ∧ compileC P N ow L y0 = some y := by
  cases code with
  | seq x0 y0 =>
    simp only [compileC, Option.bind_eq_some_iff, Option.map_eq_some_iff] at h
    obtain ⟨x', hx, y', hy, h⟩ := h
    cases h; exact ⟨x0, y0, rfl, hx, hy⟩
  | region id ops d => rcases compileC_reg h with ⟨_, _, _, h⟩ | ⟨_, _, _, h, _⟩ | ⟨_, _, _, _, _, h, _⟩ <;> cases h
  | _ => simp [compileC, Option.bind_eq_some_iff] at h
theorem compileC_cond {ow L : List Nat} {code : Code} {c : Opd} {x y : PCode} (h : compileC P N ow L code = some (.cond c x y)) :
    ∃ c0 x0 y0, code = .cond c0 x0 y0 ∧ compileOpd c0 = some c ∧ compileC P N ow L x0 = some x ∧ compileC P N ow L y0 = some y := by
  cases code with
  | cond c0 x0 y0 =>
    simp only [compileC, Option.bind_eq_some_iff, Option.map_eq_some_iff] at h
    obtain ⟨c', hc, x', hx, y', hy, h⟩ := h
    cases h; exact ⟨c0, x0, y0, rfl, hc, hx, hy⟩
  | region id ops d => rcases compileC_reg h with ⟨_, _, _, h⟩ | ⟨_, _, _, h, _⟩ | ⟨_, _, _, _, _, h, _⟩ <;> cases h
  | _ => simp [compileC, Option.bind_eq_some_iff] at h
theorem compileC_block {ow L : List Nat} {code : Code} {id : Nat} {x : PCode} (h : compileC P N ow L code = some (.block id x)) : ∃ x0, code = .block id x0 ∧ compileC P N ow L x0 = some x := by
  cases code with
  | block id x0 =>
    simp only [compileC, Option.map_eq_some_iff] at h
    obtain ⟨x', hx, h⟩ := h
    cases h; exact ⟨x0, rfl, hx⟩
  | region id ops d => rcases compileC_reg h with ⟨_, _, _, h⟩ | ⟨_, _, _, h, _⟩ | ⟨_, _, _, _, _, h, _⟩ <;> cases h
  | _ => simp [compileC, Option.bind_eq_some_iff] at h
theorem compileC_loop {ow L : List Nat} {code : Code} {x : PCode} (h : compileC P N ow L code = some (.loop x)) : ∃ x0, code = .loop x0 ∧ compileC P N ow L x0 = some x := by
  cases code with
  | loop x0 =>
    simp only [compileC, Option.map_eq_some_iff] at h
    obtain ⟨x', hx, h⟩ := h
    cases h; exact ⟨x0, rfl, hx⟩
  | region id ops d => rcases compileC_reg h with ⟨_, _, _, h⟩ | ⟨_, _, _, h, _⟩ | ⟨_, _, _, _, _, h, _⟩ <;> cases h
  | _ => simp [compileC, Option.bind_eq_some_iff] at h
theorem compileC_scope {ow L : List Nat} {code : Code} {x : PCode} (h : compileC P N ow L code = some (.scope x)) : ∃ x0, code = .scope x0 ∧ compileC P N ow L x0 = some x := by
  cases code with
  | scope x0 =>
    simp only [compileC, Option.map_eq_some_iff] at h
    obtain ⟨x', hx, h⟩ := h
    cases h; exact ⟨x0, rfl, hx⟩
  | region id ops d => rcases compileC_reg h with ⟨_, _, _, h⟩ | ⟨_, _, _, h, _⟩ | ⟨_, _, _, _, _, h, _⟩ <;> cases h
  | _ => simp [compileC, Option.bind_eq_some_iff] at h
theorem compileC_label {ow L : List Nat} {code : Code} (h : compileC P N ow L code = some .label) : ∃ l, code = .label l := by
  cases code with
  | label l => exact ⟨l, rfl⟩
  | region id ops d => rcases compileC_reg h with ⟨_, _, _, h⟩ | ⟨_, _, _, h, _⟩ | ⟨_, _, _, _, _, h, _⟩ <;> cases h
  | _ => simp [compileC, Option.bind_eq_some_iff] at h
theorem compileC_skip {ow L : List Nat} {code : Code} (h : compileC P N ow L code = some .skip) : code = .skip := by
  cases code with
  | skip => rfl
  | region id ops d => rcases compileC_reg h with ⟨_, _, _, h⟩ | ⟨_, _, _, h, _⟩ | ⟨_, _, _, _, _, h, _⟩ <;> cases h
  | _ => simp [compileC, Option.bind_eq_some_iff] at h
theorem compileC_ret {ow L : List Nat} {code : Code} (h : compileC P N ow L code = some .ret) : code = .ret := by
  cases code with
  | ret => rfl
  | region id ops d => rcases compileC_reg h with ⟨_, _, _, h⟩ | ⟨_, _, _, h, _⟩ | ⟨_, _, _, _, _, h, _⟩ <;> cases h
  | _ => simp [compileC, Option.bind_eq_some_iff] at h
theorem compileC_exit {ow L : List Nat} {code : Code} {id : Nat} (h : compileC P N ow L code = some (.exit id)) : code = .exit id := by
  cases code with
  | exit id => simp [compileC] at h; rw [h]
  | region id ops d => rcases compileC_reg h with ⟨_, _, _, h⟩ | ⟨_, _, _, h, _⟩ | ⟨_, _, _, _, _, h, _⟩ <;> cases h
  | _ => simp [compileC, Option.bind_eq_some_iff] at h

theorem PW.seq {x y : PCode} (h : PW P G N mv x env μ (seqQ P G N mv y Q)) : PW P G N mv (.seq x y) env μ Q := by
  intro ow L code hc hmix C a w κ hmv hR
  obtain ⟨x0, y0, rfl, hx, hy⟩ := compileC_seq hc
  refine wp_seq (wp_mono (h ow L x0 hx hmix C a w κ hmv hR) ?_)
  rintro e a' w' ⟨env', μ', κ', hq, hR'⟩
  cases e with
  | normal => exact hq ow L y0 hy hmix C a' w' κ' hmv hR'
  | exit id => exact ⟨env', μ', κ', hq, hR'⟩
  | goto l => exact ⟨env', μ', κ', hq, hR'⟩
  | ret => exact ⟨env', μ', κ', hq, hR'⟩
  | panic ch => exact ⟨env', μ', κ', hq, hR'⟩
  | outgrown => exact ⟨env', μ', κ', hq, hR'⟩


theorem PW.skip (h : Q .normal env μ) : PW P G N mv .skip env μ Q := by
  intro ow L code hc _ C a w κ _ hR
  obtain rfl := compileC_skip hc
  exact wp_skip ⟨_, _, _, h, hR⟩
theorem PW.ret (h : Q .ret env μ) : PW P G N mv .ret env μ Q := by
  intro ow L code hc _ C a w κ _ hR
  obtain rfl := compileC_ret hc
  exact wp_ret ⟨_, _, _, h, hR⟩
theorem PW.exit {id : Nat} (h : Q (.exit id) env μ) : PW P G N mv (.exit id) env μ Q := by
  intro ow L code hc _ C a w κ _ hR
  obtain rfl := compileC_exit hc
  exact wp_exit ⟨_, _, _, h, hR⟩

theorem PW.cond {c : Opd} {x y : PCode} {b : Bool} (hb : evalO G env c = .bool b) (ht : b = true → PW P G N mv x env μ Q) (hf : b = false → PW P G N mv y env μ Q) : PW P G N mv (.cond c x y) env μ Q := by
  intro ow L code hc hmix C a w κ hmv hR
  obtain ⟨c0, x0, y0, rfl, hc0, hx, hy⟩ := compileC_cond hc
  have hv := evalO_rep hR.regs hR.globs hc0
  rw [hb] at hv
  exact wp_cond_split (repC_bool hv) (fun h => ht h ow L x0 hx hmix C a w κ hmv hR) (fun h => hf h ow L y0 hy hmix C a w κ hmv hR)

def blockQ (id : Nat) (Q : Post) : Post := fun e env μ =>
  match e with
  | .exit id' => if id' = id then Q .normal env μ else Q (.exit id') env μ
  | e => Q e env μ

theorem PW.block {id : Nat} {x : PCode} (h : PW P G N mv x env μ (blockQ id Q)) : PW P G N mv (.block id x) env μ Q := by
  intro ow L code hc hmix C a w κ hmv hR
  obtain ⟨x0, rfl, hx⟩ := compileC_block hc
  refine wp_block (wp_mono (h ow L x0 hx hmix C a w κ hmv hR) ?_)
  rintro e a' w' ⟨env', μ', κ', hq, hR'⟩
  cases e with
  | exit id' =>
    simp only [blockQ, Exit.inBlock] at hq ⊢
    by_cases hid : id' = id
    · rw [if_pos hid] at hq ⊢; exact ⟨env', μ', κ', hq, hR'⟩
    · rw [if_neg hid] at hq ⊢; exact ⟨env', μ', κ', hq, hR'⟩
  | normal => exact ⟨env', μ', κ', hq, hR'⟩
  | goto l => exact ⟨env', μ', κ', hq, hR'⟩
  | ret => exact ⟨env', μ', κ', hq, hR'⟩
  | panic ch => exact ⟨env', μ', κ', hq, hR'⟩
  | outgrown => exact ⟨env', μ', κ', hq, hR'⟩

def scopeQ (Q : Post) : Post := fun e env μ =>
  match e with
  | .goto _ => False
  | e => Q e env μ
theorem scopeQ_normal : scopeQ Q .normal env μ = Q .normal env μ := rfl
theorem scopeQ_ret : scopeQ Q .ret env μ = Q .ret env μ := rfl
theorem scopeQ_exit (id : Nat) : scopeQ Q (.exit id) env μ = Q (.exit id) env μ := rfl
/-- A scope through which the run goes without a jump. -/
theorem PW.scope {x : PCode} (h : PW P G N mv x env μ (scopeQ Q)) : PW P G N mv (.scope x) env μ Q := by
  intro ow L code hc hmix C a w κ hmv hR
  obtain ⟨x0, rfl, hx⟩ := compileC_scope hc
  refine wp_scope_straight (wp_mono (h ow L x0 hx hmix C a w κ hmv hR) ?_)
  rintro e a' w' ⟨env', μ', κ', hq, hR'⟩
  cases e with
  | goto l => exact hq.elim
  | normal => exact ⟨env', μ', κ', hq, hR'⟩
  | exit id => exact ⟨env', μ', κ', hq, hR'⟩
  | ret => exact ⟨env', μ', κ', hq, hR'⟩
  | panic ch => exact ⟨env', μ', κ', hq, hR'⟩
  | outgrown => exact ⟨env', μ', κ', hq, hR'⟩
theorem PW.label (h : Q .normal env μ) : PW P G N mv .label env μ Q := by
  intro ow L code hc _ C a w κ _ hR
  obtain ⟨l, rfl⟩ := compileC_label hc
  exact wp_label ⟨_, _, _, h, hR⟩

theorem PW.mono {x : PCode} {Q' : Post} (h : PW P G N mv x env μ Q) (hq : ∀ e env μ, Q e env μ → Q' e env μ) : PW P G N mv x env μ Q' := by
  intro ow L code hc hmix C a w κ hmv hR
  exact wp_mono (h ow L code hc hmix C a w κ hmv hR) fun e a' w' ⟨env', μ', κ', hq', hR'⟩ => ⟨env', μ', κ', hq _ _ _ hq', hR'⟩

theorem PW.weak {x : PCode} {env' : Env} (h : PW P G N mv x env' μ Q) (he : ∀ i, env'.get i = env.get i ∨ env'.get i = .junk) : PW P G N mv x env μ Q := by
  intro ow L code hc hmix C a w κ hmv hR
  exact h ow L code hc hmix C a w κ hmv (hR.weak he)

def loopQ {σ : Type} (vars : List Nat) (vals : σ → List PV) (mem : σ → Mem) (Inv : σ → Prop) (meas : σ → Nat) (s : σ) (Q : Post) : Post := fun e env μ =>
  match e with
  | .normal => ∃ s', keepE vars env = vars.zip (vals s') ∧ μ = mem s' ∧ Inv s' ∧ meas s' < meas s
  | e => Q e env μ

/-- A loop: its state, the variables that tell it, what holds of it, and what goes down. -/
theorem PW.loop {σ : Type} (vars : List Nat) (vals : σ → List PV) (mem : σ → Mem) (Inv : σ → Prop) (meas : σ → Nat) (s0 : σ) {x : PCode} (h0 : keepE vars env = vars.zip (vals s0)) (hm : μ = mem s0) (hI : Inv s0)
    (round : ∀ s, Inv s → PW P G N mv x (vars.zip (vals s)) (mem s) (loopQ vars vals mem Inv meas s Q)) : PW P G N mv (.loop x) env μ Q := by
  intro ow L code hc hmix C a w κ hmv hR
  obtain ⟨x0, rfl, hx⟩ := compileC_loop hc
  refine wp_loop_ghost (fun n a w => ∃ s κ, meas s = n ∧ Inv s ∧ SR G N C a w κ (vars.zip (vals s)) (mem s)) (meas s0) ⟨s0, κ, rfl, hI, by rw [← h0, ← hm]; exact hR.weak (keep_get _ _)⟩ ?_
  rintro n a w ⟨s, κ, rfl, hI, hR⟩
  refine wp_mono (round s hI ow L x0 hx hmix C a w κ hmv hR) ?_
  rintro e a' w' ⟨env', μ', κ', hq, hR'⟩
  cases e with
  | normal =>
    obtain ⟨s', hs1, hs2, hs3, hs4⟩ := hq
    exact ⟨meas s', hs4, s', κ', rfl, hs3, by rw [← hs1, ← hs2]; exact hR'.weak (keep_get _ _)⟩
  | exit id' => exact ⟨env', μ', κ', hq, hR'⟩
  | goto l => exact ⟨env', μ', κ', hq, hR'⟩
  | ret => exact ⟨env', μ', κ', hq, hR'⟩
  | panic ch => exact ⟨env', μ', κ', hq, hR'⟩
  | outgrown => exact ⟨env', μ', κ', hq, hR'⟩

/-- A nil slice taken over as a row of the call's own. -/
theorem PW.own {x : PCode} (sh : Sh) (i : Nat) (hi : env.get i = .nilSl) (h : PW P G N mv x ((i, .sl sh μ.length 0) :: env) (μ ++ [some (.row sh [])]) Q) : PW P G N mv x env μ Q := by
  intro ow L code hc hmix C a w κ hmv hR
  obtain ⟨hG, hS'⟩ := hR.sim.nilrow sh
  refine h ow L code hc hmix C a w _ hmv ⟨hR.size, hR.defers, fun j => ?_, hS', globs_goes hR.globs hG, hR.goes.trans (hG.weak fun _ h => h.elim)⟩
  simp only [Env.get]
  split
  · rename_i hij
    subst hij
    have := hR.regs i
    rw [hi] at this
    rw [rep_nilSl this]
    exact .slnil sh μ.length (by simp)
  · exact (hR.regs j).still hG

/-! ### Functions -/
inductive RVar where
  | tmp (t : Nat)
  | cell (t : Nat) (sh : Sh)
  deriving Inhabited

def compileV (P : Program) : ResultVar → Option RVar
  | .tmp t => some (.tmp t)
  | .cell a t => (shOf P t).map fun sh => .cell a sh

def RVar.val (env : Env) (μ : Mem) : RVar → PV
  | .tmp t => env.get t
  | .cell t sh => rdV μ (.load sh) [env.get t]
def RVar.ok (env : Env) (μ : Mem) : RVar → Prop
  | .tmp _ => True
  | .cell t sh => rdD μ (.load sh) [env.get t]
def allOk (env : Env) (μ : Mem) : List RVar → Prop
  | [] => True
  | r :: rs => r.ok env μ ∧ allOk env μ rs
def retV (vs : List PV) : PV :=
  match vs with
  | [v] => v
  | vs => .tup vs

def resSem (a : Act) : ResultVar → Sem Value
  | .tmp t => pure (a.tmps.getD t undef)
  | .cell b t => do loadVar t (← asAddr (a.tmps.getD b undef))

theorem result_run {r0 : ResultVar} {r : RVar} (hS : Sim w κ μ) {a : Act} (hR : Regs w (own κ) κ a env) (hc : compileV P r0 = some r) (hok : r.ok env μ) :
    ∃ v, Rep w (own κ) κ v (r.val env μ) ∧ (resSem a r0).run P w = .ok v w := by
  cases r0 with
  | tmp t =>
    simp [compileV] at hc; subst hc
    exact ⟨_, hR t, rfl⟩
  | cell b t =>
    simp only [compileV, Option.map_eq_some_iff] at hc
    obtain ⟨sh, hsh, rfl⟩ := hc
    simp only [RVar.ok, rdD] at hok
    split at hok
    · rename_i sh' y off hb
      obtain ⟨hshp, b', o', hv, hcl⟩ := behind_spec hS (hR b) hb
      obtain ⟨v, hrv, hrun⟩ := load_run (P := P) hsh hshp hcl hok
      refine ⟨v, ?_, ?_⟩
      · simp only [RVar.val, rdV, hb]; exact hrv
      · simp [resSem, hv, asAddr, hrun w (Same.refl w)]
    · exact hok.elim

theorem results_run {fn : Func} {rs : List RVar} (hS : Sim w κ μ) {a : Act} (hR : Regs w (own κ) κ a env) (hc : fn.results.toList.mapM (compileV P) = some rs) (hok : allOk env μ rs) :
    ∃ v, Rep w (own κ) κ v (retV (rs.map (RVar.val env μ))) ∧ (results fn a.tmps).run P w = .ok v w := by
  have key : ∀ (l : List ResultVar) (rs : List RVar), l.mapM (compileV P) = some rs → allOk env μ rs →
      ∃ vs : List Value, vs.length = rs.length ∧ (∀ (i : Nat) (v : Value) (p : PV), vs[i]? = some v → (rs.map (RVar.val env μ))[i]? = some p → Rep w (own κ) κ v p) ∧
        (l.mapM (resSem a)).run P w = .ok vs w := by
    intro l
    induction l with
    | nil => intro rs h _; simp at h; subst h; exact ⟨[], rfl, fun i v p h => by simp at h, rfl⟩
    | cons r0 l ih =>
      intro rs h hok
      simp only [List.mapM_cons, Option.bind_eq_bind, Option.bind_eq_some_iff] at h
      obtain ⟨r, hr, rs', hrs, h⟩ := h
      simp at h; subst h
      obtain ⟨v, hv, hrun⟩ := result_run hS hR hr hok.1
      obtain ⟨vs, h1, h2, h3⟩ := ih rs' hrs hok.2
      refine ⟨v :: vs, by simp [h1], fun i u p hu hp => ?_, ?_⟩
      · cases i with
        | zero => simp at hu hp; subst hu; subst hp; exact hv
        | succ i => exact h2 i u p (by simpa using hu) (by simpa using hp)
      · simp only [List.mapM_cons, Sem.run_bind, hrun, Result.andThen_ok, h3, Sem.run_pure]
  obtain ⟨vs, h1, h2, h3⟩ := key _ _ hc hok
  have hrun : (results fn a.tmps).run P w = .ok (if h : vs.toArray.size = 1 then vs.toArray[0] else .tuple vs.toArray) w := by
    show (do let vs ← fn.results.mapM (resSem a); pure (if h : vs.size = 1 then vs[0] else .tuple vs) : Sem Value).run P w = _
    rw [Array.mapM_eq_mapM_toList]
    simp only [Sem.run_bind, Sem.run_map, h3, Result.andThen_ok, Sem.run_pure]
  refine ⟨_, ?_, hrun⟩
  clear hc hok h3 hrun key
  match rs, vs, h1, h2 with
  | [r], [v], _, h2 => exact h2 0 v _ rfl rfl
  | [], [], _, _ => exact .tup #[] [] rfl (fun i v p h => by simp at h)
  | r :: r' :: rs, v :: v' :: vs, h1, h2 =>
    rw [dif_neg (by simp)]
    exact .tup _ _ (by simpa using h1) (fun i u p hu hp => h2 i u p (by simpa using hu) hp)

structure CF where
  N : Nat
  code : PCode
  rs : List RVar
  deriving Inhabited

/-- The translation of a function. -/
def compileF (P : Program) (ow L : List Nat) (fn : Func) : Option CF :=
  fn.body.bind fun b => (compileC P fn.ntmps ow L b).bind fun c => (fn.results.toList.mapM (compileV P)).map fun rs => ⟨fn.ntmps, c, rs⟩

def argE (n : Nat) : List PV → Env
  | [] => []
  | p :: ps => (n, p) :: argE (n + 1) ps

theorem argE_get : ∀ (ps : List PV) (n i : Nat), (argE n ps).get i = if n ≤ i then (ps[i - n]?).getD .junk else .junk
  | [], n, i => by simp [argE, Env.get]
  | p :: ps, n, i => by
    simp only [argE, Env.get]
    by_cases h : n = i
    · subst h; simp
    · rw [if_neg h, argE_get ps (n + 1) i]
      by_cases h2 : n ≤ i
      · rw [if_pos (by omega), if_pos h2]
        obtain ⟨d, hd⟩ : ∃ d, i - n = d + 1 := ⟨i - n - 1, by omega⟩
        rw [hd, List.getElem?_cons_succ]
        congr 2; omega
      · rw [if_neg (by omega), if_neg h2]

/-- How a call by value ends. -/
def endV (rs : List RVar) (res : PV) : Post := fun e env μ =>
  match e with
  | .normal | .ret => allOk env μ rs ∧ (retV (rs.map (RVar.val env μ))).seen μ = true ∧ (retV (rs.map (RVar.val env μ))).view μ = res
  | _ => False

theorem VCalls.of_PW {f : Nat} {fn : Func} {ow L : List Nat} {cf : CF} (hf : P.funcs[f]? = some fn) (hc : compileF P ow L fn = some cf) (hmix : P.follows .mixedOrders = true) {args : List PV} {res : PV} (hn : args.length ≤ cf.N)
    (h : PW P G cf.N (fun _ => true) cf.code (argE 0 args) [] (endV cf.rs res)) : VCalls P G f args res := by
  intro w ex vs hex hG hv
  simp only [compileF, Option.bind_eq_some_iff, Option.map_eq_some_iff] at hc
  obtain ⟨b, hb, c, hcc, rs, hrs, rfl⟩ := hc
  refine calls_of_wp hf hb ?_
  have hex' : own ⟨fun _ => none, ex⟩ = ex := by
    funext b
    simp only [own, eq_iff_iff]
    exact ⟨fun h => h.elim id (fun ⟨t, ht⟩ => by simp at ht), .inl⟩
  let C : Ctx := ⟨w, ⟨fun _ => none, ex⟩, fun _ => true⟩
  have hS : Sim w ⟨fun _ => none, ex⟩ [] := ⟨fun t t' b h => by simp at h, fun t b h => by simp at h, fun t c h => by simp at h, fun t o h => by simp at h, hex, fun t b h => by simp at h⟩
  have hR : SR G fn.ntmps C { tmps := vs ++ Array.replicate (fn.ntmps - vs.size) undef, defers := [] } w ⟨fun _ => none, ex⟩ (argE 0 args) [] := by
    refine ⟨by have := hv.1; simp; simp at hn; omega, rfl, fun i => ?_, hS, by rw [hex']; exact hG, Goes.refl _ _ _⟩
    rw [argE_get, if_pos (Nat.zero_le _), Nat.sub_zero]
    cases hp : args[i]? with
    | none => exact .junk _
    | some p =>
      have hi : i < args.length := (List.getElem?_eq_some_iff.1 hp).1
      have hiv : i < vs.size := by rw [hv.1]; exact hi
      have hgd : (vs ++ Array.replicate (fn.ntmps - vs.size) undef).getD i undef = vs[i] := by
        rw [Array.getD_eq_getD_getElem?, Array.getElem?_append_left hiv, Array.getElem?_eq_getElem hiv]; rfl
      simp only [Option.getD_some]
      rw [hgd, hex']
      exact .closed (hv.2 i _ p (Array.getElem?_eq_getElem hiv) hp)
  refine wp_mono (h ow L b hcc hmix C _ w _ rfl hR) ?_
  rintro e a' w' ⟨env', μ', κ', hq, hR'⟩
  have fin : (allOk env' μ' rs ∧ (retV (rs.map (RVar.val env' μ'))).seen μ' = true ∧ (retV (rs.map (RVar.val env' μ'))).view μ' = res) →
      a'.defers = [] ∧ ∃ v, (results fn a'.tmps).run P w' = .ok v w' ∧ (∃ v', Ending.returned v = .returned v' ∧ RowKit.Below w.heap.size w w' ∧ RepC w' ex v' res) := by
    rintro ⟨h1, h2, h3⟩
    obtain ⟨v, hv', hrun⟩ := results_run hR'.sim hR'.regs hrs h1
    refine ⟨hR'.defers, v, hrun, v, rfl, ?_, ?_⟩
    · have hg := hR'.goes
      refine ⟨hg.os, hg.tape, hg.output, hg.size, fun k hk => ?_⟩
      exact hg.block k hk (fun ⟨t, ht⟩ => by simp [C] at ht)
    · have := rep_view hR'.sim hv' h2
      rw [h3, hR'.goes.ex] at this
      exact this
  cases e with
  | normal => exact fin hq
  | ret => exact fin hq
  | exit id' => exact hq.elim
  | goto l => exact hq.elim
  | panic ch => exact hq.elim
  | outgrown => exact hq.elim

end
end PG

namespace PG
open Go

def guardK (want : Bool) (p : PV) (f : Bool → Prop) : Prop :=
  match gEff want p with
  | some b => f b
  | none => False
theorem guardK_bool (want b : Bool) (f : Bool → Prop) : guardK want (.bool b) f = f b := rfl
theorem guardK_cond (want c b : Bool) (f : Bool → Prop) : guardK want (.cond c (.bool b)) f = f (if c = true then b else !want) := by cases c <;> rfl
@[congr] theorem guardK_congr {want : Bool} {p p' : PV} {f : Bool → Prop} (h : p = p') : guardK want p f = guardK want p' f := by rw [h]

section
variable {P : Program} {G : Globs} {q : Bool} {mv : Nat → Bool} {d : Option Nat} {rest : List CO} {env : Env} {μ : Mem} {K : Env → Mem → Prop} {args : List Opd}

@[congr] theorem opsW_congr {l : List CO} {env env' : Env} {μ μ' : Mem} (he : env = env') (hm : μ = μ') : opsW P G q mv l env μ K = opsW P G q mv l env' μ' K := by rw [he, hm]

theorem opsW_nil : opsW P G q mv [] env μ K = K env μ := rfl
theorem opsW_rd {k : RK} : opsW P G q mv (⟨d, none, .rd k args⟩ :: rest) env μ K = (rdD μ k (args.map (evalO G env)) ∧ opsW P G q mv rest (putE env d (rdV μ k (args.map (evalO G env)))) μ K) := rfl
theorem opsW_rdg {k : RK} {r : Nat} {want : Bool} : opsW P G q mv (⟨d, some (r, want), .rd k args⟩ :: rest) env μ K =
    guardK want (env.get r) fun b => (b = want → gOk k (args.map (evalO G env)) ∧ rdD μ k (gArgs k (args.map (evalO G env)))) ∧
      opsW P G q mv rest (putE env d (.cond (b == want) (rdV μ k (gArgs k (args.map (evalO G env)))))) μ K := rfl
/-- The effect of an operation, and what goes on behind it. -/
def effK (P : Program) (G : Globs) (mv : Nat → Bool) (d : Option Nat) (rest : List CO) (env : Env) (K : Env → Mem → Prop) (μ : Mem) (k : EK) (ps : List PV) : Prop :=
  effW μ k ps fun p dead μ' => deadOk mv dead ∧ opsW P G false mv rest (putE (killE env dead) d p) μ' K
@[congr] theorem effK_congr {env env' : Env} {μ μ' : Mem} {k k' : EK} {ps ps' : List PV} (he : env = env') (hm : μ = μ') (hk : k = k') (hp : ps = ps') : effK P G mv d rest env K μ k ps = effK P G mv d rest env' K μ' k' ps' := by rw [he, hm, hk, hp]
theorem opsW_eff {k : EK} : opsW P G false mv (⟨d, none, .eff k args⟩ :: rest) env μ K = effK P G mv d rest env K μ k (args.map (evalO G env)) := by
  simp [opsW, stepW, effK]
theorem opsW_effg {k : EK} {r : Nat} {want : Bool} : opsW P G false mv (⟨d, some (r, want), .eff k args⟩ :: rest) env μ K =
    guardK want (env.get r) fun b => (b = want → okAll (args.map (evalO G env)) ∧ effK P G mv d rest env K μ k ((args.map (evalO G env)).map (PV.under true))) ∧
      (b ≠ want → opsW P G false mv rest (putE env d .junk) μ K) := by
  simp only [opsW, stepW, guardK, stepG, effK]
  cases gEff want (env.get r) <;> simp

/-- A call, and what goes on behind it. -/
def goCall (P : Program) (G : Globs) (q : Bool) (mv : Nat → Bool) (d : Option Nat) (rest : List CO) (env : Env) (K : Env → Mem → Prop) (μ : Mem) (f : PV) (as : List PV) : Prop :=
  calleeK P G q f as μ fun p dead μ' => deadOk mv dead ∧ opsW P G q mv rest (putE (killE env dead) d p) μ' K
@[congr] theorem goCall_congr {env env' : Env} {μ μ' : Mem} {f f' : PV} {as as' : List PV} (he : env = env') (hm : μ = μ') (hf : f = f') (ha : as = as') : goCall P G q mv d rest env K μ f as = goCall P G q mv d rest env' K μ' f' as' := by rw [he, hm, hf, ha]
theorem opsW_call {f : Opd} : opsW P G q mv (⟨d, none, .call f args⟩ :: rest) env μ K = goCall P G q mv d rest env K μ (evalO G env f) (args.map (evalO G env)) := rfl

/-- A guarded call. -/
def goCallG (P : Program) (G : Globs) (q : Bool) (mv : Nat → Bool) (d : Option Nat) (rest : List CO) (env : Env) (K : Env → Mem → Prop) (μ : Mem) (b want : Bool) (f : PV) (as : List PV) : Prop :=
  ∃ res, (b = want → f.okUnder true ∧ okAll as ∧ calleeR P G (f.under true) (as.map (PV.under true)) μ res ∧ (q = true → res.flat = true)) ∧ opsW P G q mv rest (putE env d (.cond (b == want) res)) μ K
@[congr] theorem goCallG_congr {env env' : Env} {μ μ' : Mem} {b b' want want' : Bool} {f f' : PV} {as as' : List PV} (he : env = env') (hm : μ = μ') (hb : b = b') (hw : want = want') (hf : f = f') (ha : as = as') :
    goCallG P G q mv d rest env K μ b want f as = goCallG P G q mv d rest env' K μ' b' want' f' as' := by rw [he, hm, hb, hw, hf, ha]
theorem opsW_callg {f : Opd} {r : Nat} {want : Bool} : opsW P G q mv (⟨d, some (r, want), .call f args⟩ :: rest) env μ K =
    guardK want (env.get r) fun b => goCallG P G q mv d rest env K μ b want (evalO G env f) (args.map (evalO G env)) := rfl

/-- A call by value, met by a contract. -/
theorem goCall_V {f : Nat} {ps qs as : List PV} {res : PV} (hE : Ent P f) (hV : VCalls P G f ((ps ++ as ++ qs).map (PV.view μ)) res) (hs : ((ps ++ as ++ qs).map (PV.seen μ)).all id = true) (hf : res.flat = true ∨ q = false ∧ ((ps ++ as ++ qs).map PV.noOwn).all id = true)
    (h : opsW P G q mv rest (putE env d res) μ K) : goCall P G q mv d rest env K μ (.fn f ps qs) as := by
  refine .inl ⟨res, ⟨hE, 0, hV, hs, hf.imp id fun h => ⟨rfl, h.2⟩⟩, fun hq => ?_, trivial, h⟩
  rcases hf with hf | ⟨hf, -⟩
  · exact hf
  · rw [hq] at hf; cases hf

theorem goCallG_V {b want : Bool} {f : Nat} {ps qs as : List PV} {res : PV} (hE : Ent P f) (hok : b = want → okAll as) (hV : b = want → VCalls P G f ((ps ++ as.map (PV.under true) ++ qs).map (PV.view μ)) res)
    (hs : b = want → ((ps ++ as.map (PV.under true) ++ qs).map (PV.seen μ)).all id = true) (hf : res.flat = true)
    (h : opsW P G q mv rest (putE env d (.cond (b == want) res)) μ K) : goCallG P G q mv d rest env K μ b want (.fn f ps qs) as :=
  ⟨res, fun hb => ⟨trivial, hok hb, ⟨hE, 0, hV hb, hs hb, .inl hf⟩, fun _ => hf⟩, h⟩
theorem goCallG_Vc {b want c : Bool} {f : Nat} {ps qs as : List PV} {res : PV} (hE : Ent P f) (hc : b = want → c = true) (hok : b = want → okAll as) (hV : b = want → VCalls P G f ((ps ++ as.map (PV.under true) ++ qs).map (PV.view μ)) res)
    (hs : b = want → ((ps ++ as.map (PV.under true) ++ qs).map (PV.seen μ)).all id = true) (hf : res.flat = true)
    (h : opsW P G q mv rest (putE env d (.cond (b == want) res)) μ K) : goCallG P G q mv d rest env K μ b want (.cond c (.fn f ps qs)) as :=
  ⟨res, fun hb => ⟨fun _ => hc hb, hok hb, ⟨hE, 0, hV hb, hs hb, .inl hf⟩, fun _ => hf⟩, h⟩

theorem put_some (env : Env) (i : Nat) (p : PV) : putE env (some i) p = (i, p) :: env := rfl
theorem put_none (env : Env) (p : PV) : putE env none p = env := rfl
theorem kill_none (env : Env) : killE env none = env := rfl
theorem get_cons (j i : Nat) (p : PV) (e : Env) : Env.get ((j, p) :: e) i = if j = i then p else Env.get e i := rfl
theorem get_nil (i : Nat) : Env.get [] i = .junk := rfl
theorem eval_tmp (G : Globs) (env : Env) (t : Nat) : evalO G env (.tmp t) = env.get t := rfl
theorem eval_pv (G : Globs) (env : Env) (p : PV) : evalO G env (.pv p) = p := rfl
theorem keep_nil (env : Env) : keepE [] env = [] := rfl
theorem keep_cons (i : Nat) (L : List Nat) (env : Env) : keepE (i :: L) env = (i, env.get i) :: keepE L env := rfl

@[congr] theorem schedW_congr {s : Sched} {env env' : Env} {μ μ' : Mem} (he : env = env') (hm : μ = μ') : schedW P G mv s env μ K = schedW P G mv s env' μ' K := by rw [he, hm]
theorem schedW_done_i (h : K env μ) : schedW P G mv .done env μ K := h
theorem schedW_stop_i : schedW P G mv .stop env μ K := trivial
variable {N : Nat} {Q : Post} {b : PCode}
theorem seqQ_normal : seqQ P G N mv b Q .normal env μ = PW P G N mv b env μ Q := rfl
theorem seqQ_ret : seqQ P G N mv b Q .ret env μ = Q .ret env μ := rfl
theorem seqQ_exit (id : Nat) : seqQ P G N mv b Q (.exit id) env μ = Q (.exit id) env μ := rfl
theorem blockQ_normal (id : Nat) : blockQ id Q .normal env μ = Q .normal env μ := rfl
theorem blockQ_ret (id : Nat) : blockQ id Q .ret env μ = Q .ret env μ := rfl
theorem blockQ_exit (id id' : Nat) : blockQ id Q (.exit id') env μ = if id' = id then Q .normal env μ else Q (.exit id') env μ := rfl
theorem loopQ_ret {σ : Type} (vars : List Nat) (vals : σ → List PV) (mem : σ → Mem) (Inv : σ → Prop) (meas : σ → Nat) (s : σ) : loopQ vars vals mem Inv meas s Q .ret env μ = Q .ret env μ := rfl
theorem loopQ_exit {σ : Type} (vars : List Nat) (vals : σ → List PV) (mem : σ → Mem) (Inv : σ → Prop) (meas : σ → Nat) (s : σ) (id : Nat) : loopQ vars vals mem Inv meas s Q (.exit id) env μ = Q (.exit id) env μ := rfl
theorem loopQ_normal {σ : Type} (vars : List Nat) (vals : σ → List PV) (mem : σ → Mem) (Inv : σ → Prop) (meas : σ → Nat) (s : σ) :
    loopQ vars vals mem Inv meas s Q .normal env μ = ∃ s', keepE vars env = vars.zip (vals s') ∧ μ = mem s' ∧ Inv s' ∧ meas s' < meas s := rfl
theorem endV_normal (rs : List RVar) (res : PV) : endV rs res .normal env μ = (allOk env μ rs ∧ (retV (rs.map (RVar.val env μ))).seen μ = true ∧ (retV (rs.map (RVar.val env μ))).view μ = res) := rfl
theorem endV_ret (rs : List RVar) (res : PV) : endV rs res .ret env μ = (allOk env μ rs ∧ (retV (rs.map (RVar.val env μ))).seen μ = true ∧ (retV (rs.map (RVar.val env μ))).view μ = res) := rfl
@[congr] theorem PW_congr {env env' : Env} {μ μ' : Mem} (he : env = env') (hm : μ = μ') : PW P G N mv b env μ Q = PW P G N mv b env' μ' Q := by rw [he, hm]
@[congr] theorem seqQ_congr {e e' : Exit} {env env' : Env} {μ μ' : Mem} (hx : e = e') (he : env = env') (hm : μ = μ') : seqQ P G N mv b Q e env μ = seqQ P G N mv b Q e' env' μ' := by rw [hx, he, hm]
@[congr] theorem blockQ_congr {id : Nat} {e e' : Exit} {env env' : Env} {μ μ' : Mem} (hx : e = e') (he : env = env') (hm : μ = μ') : blockQ id Q e env μ = blockQ id Q e' env' μ' := by rw [hx, he, hm]
@[congr] theorem loopQ_congr {σ : Type} {vars : List Nat} {vals : σ → List PV} {mem : σ → Mem} {Inv : σ → Prop} {meas : σ → Nat} {s : σ} {e e' : Exit} {env env' : Env} {μ μ' : Mem} (hx : e = e') (he : env = env') (hm : μ = μ') :
    loopQ vars vals mem Inv meas s Q e env μ = loopQ vars vals mem Inv meas s Q e' env' μ' := by rw [hx, he, hm]
theorem cut_zero (sh : Sh) (x : PV) : cut sh sh x 0 = x := by simp [cut]
theorem mem_get0 (o : Option MObj) (μ : Mem) : Mem.get (o :: μ) 0 = o := by cases o <;> rfl
theorem mem_get1 (o : Option MObj) (μ : Mem) : Mem.get (o :: μ) 1 = Mem.get μ 0 := by simp [Mem.get]
theorem mem_get2 (o : Option MObj) (μ : Mem) : Mem.get (o :: μ) 2 = Mem.get μ 1 := by simp [Mem.get]
theorem mem_get3 (o : Option MObj) (μ : Mem) : Mem.get (o :: μ) 3 = Mem.get μ 2 := by simp [Mem.get]
theorem u8sub48 (b : UInt8) : IntKind.u8.wrap ((b.toNat : Int) - 48) = ((b - 48).toNat : Int) := by
  rw [UInt8.toNat_sub]
  have := b.toNat_lt
  simp [IntKind.wrap, IntKind.bits, IntKind.signed]
  omega
theorem i64_u8 (b : UInt8) : IntKind.i64.wrap (b.toNat : Int) = (b.toNat : Int) := by
  have := b.toNat_lt
  simp [IntKind.wrap, IntKind.bits, IntKind.signed]
  omega
theorem u8s_length (l : List UInt8) : (u8s l).length = l.length := by simp [u8s]
theorem bnot_imp (x : Bool) : (x = false → (!x) = true) = True := by cases x <;> simp
theorem ite_or (x y : Bool) : (if x = true then true else y) = (x || y) := by cases x <;> rfl
theorem ite_and (x y : Bool) : (if x = true then y else false) = (x && y) := by cases x <;> rfl
theorem getC0 (p : PV) (l : List PV) : (p :: l).getD 0 .junk = p := rfl
theorem getC1 (p q : PV) (l : List PV) : (p :: q :: l).getD 1 .junk = q := rfl
theorem getC2 (p q r : PV) (l : List PV) : (p :: q :: r :: l).getD 2 .junk = r := rfl
theorem getC3 (p q r s : PV) (l : List PV) : (p :: q :: r :: s :: l).getD 3 .junk = s := rfl
theorem okAll_nil : okAll [] = True := rfl
theorem okAll_cons (p : PV) (ps : List PV) : okAll (p :: ps) = (p.okUnder true ∧ okAll ps) := rfl
theorem toNat_add2 (a b : Nat) : ((a : Int) + (b : Int)).toNat = a + b := by omega
theorem toNat_add1 (a : Nat) : ((a : Int) + 1).toNat = a + 1 := by omega
end
end PG

namespace PG
open Go

def optK {α : Type} (o : Option α) (f : α → Prop) : Prop :=
  match o with
  | some a => f a
  | none => False
theorem optK_some {α : Type} (a : α) (f : α → Prop) : optK (some a) f = f a := rfl
def rowK (o : Option MObj) (f : Sh → List PV → Prop) : Prop :=
  match o with
  | some (.row sh xs) => f sh xs
  | _ => False
theorem rowK_row (sh : Sh) (xs : List PV) (f : Sh → List PV → Prop) : rowK (some (.row sh xs)) f = f sh xs := rfl
def varK (o : Option MObj) (f : Sh → PV → Prop) : Prop :=
  match o with
  | some (.var sh x) => f sh x
  | _ => False
theorem varK_var (sh : Sh) (x : PV) (f : Sh → PV → Prop) : varK (some (.var sh x)) f = f sh x := rfl

def mpK (o : Option MObj) (f : KK → List (PV × PV) → Prop) : Prop :=
  match o with
  | some (.mp kd es) => f kd es
  | _ => False
def mupK (o : Option MObj) (f g : KK → List (PV × PV) → Prop) : Prop :=
  match o with
  | some (.mp kd es) => f kd es
  | some (.mpo kd es) => g kd es
  | _ => False
theorem mpK_mp (kd : KK) (es : List (PV × PV)) (f : KK → List (PV × PV) → Prop) : mpK (some (.mp kd es)) f = f kd es := rfl
def iterK (o : Option MObj) (f : KK → List (PV × PV) → List Nat → Prop) : Prop :=
  match o with
  | some (.iter kd es seen) => f kd es seen
  | _ => False
theorem iterK_iter (kd : KK) (es : List (PV × PV)) (seen : List Nat) (f : KK → List (PV × PV) → List Nat → Prop) : iterK (some (.iter kd es seen)) f = f kd es seen := rfl
def lastK (l : List Nat) (f : Nat → Prop) : Prop :=
  match l.getLast? with
  | some i => f i
  | none => False
theorem lastK_snoc (l : List Nat) (i : Nat) (f : Nat → Prop) : lastK (l ++ [i]) f = f i := by simp [lastK]

section
variable {P : Program} {G : Globs} {mv : Nat → Bool} {d : Option Nat} {rest : List CO} {env : Env} {μ : Mem} {K : Env → Mem → Prop} {J : PV → Option Nat → Mem → Prop}
theorem effK_eq {k : EK} {ps : List PV} : effK P G mv d rest env K μ k ps = effW μ k ps fun p dead μ' => deadOk mv dead ∧ opsW P G false mv rest (putE (killE env dead) d p) μ' K := rfl
theorem deadOk_none : deadOk mv none = True := rfl
theorem deadOk_some (t : Nat) : deadOk mv (some t) = (mv t = true) := rfl
theorem kill_some (t : Nat) : killE env (some t) = env.map fun x => (x.1, x.2.kill (killTag t)) := rfl

theorem effW_s2b (l : List UInt8) : effW μ .s2b [.str l] J = (l.length ≤ 9223372036854775807 ∧ J (.list none (u8s l)) none μ) := rfl
theorem effW_b2s (p : PV) : effW μ .b2s [p] J = optK (elemsSh μ none p) fun ys => areBytes ys ∧ J (.str (ys.map byteOf)) none μ := by
  simp only [effW]; cases elemsSh μ none p <;> rfl
theorem effW_alloc (sh : Sh) (z : PV) : effW μ (.alloc sh z) [] J = J (.ref μ.length 0) none (μ ++ [some (.var sh z)]) := rfl
theorem effW_box (sh : Sh) (v : PV) : effW μ (.box sh) [v] J = ((partSh v sh).isSome = true ∧ J (.ref μ.length 0) none (μ ++ [some (.var sh v)])) := rfl
theorem effW_litC (sh : Sh) (ps : List PV) : effW μ (.lit sh false) ps J = (allFit sh ps ∧ (ps.map PV.noOwn).all id = true ∧ ps.length * sh.size ≤ 16777216 ∧ J (.list sh ps) none μ) := rfl
theorem effW_litO (sh : Sh) (ps : List PV) : effW μ (.lit sh true) ps J = (allFit sh ps ∧ (ps.map PV.noOwn).all id = true ∧ ps.length * sh.size ≤ 16777216 ∧ J (.sl sh μ.length ps.length) none (μ ++ [some (.row sh ps)])) := rfl
theorem effW_make (sh : Sh) (z : PV) (bytes : Nat) (k k' : IntKind) (l c : Int) : effW μ (.make sh z bytes) [.int k l, .int k' c] J = (0 ≤ l ∧ l ≤ c ∧ (bytes : Int) * c ≤ 281474976710656 ∧ c ≤ 9223372036854775807 ∧ J (.sl sh μ.length l.toNat) none (μ ++ [some (.row sh (List.replicate l.toNat z))])) := rfl
theorem effW_app_nil (sh : Sh) (bytes : Nat) (b : PV) : effW μ (.append sh bytes) [.nilSl, b] J = optK (elemsSh μ sh b) fun ys => ys.length ≤ 9223372036854775807 ∧ ys.length * bytes ≤ 140737488355328 ∧ J (.sl sh μ.length ys.length) none (μ ++ [some (.row sh ys)]) := by
  simp only [effW]; cases elemsSh μ sh b <;> rfl
theorem effW_app_sl (sh sh' : Sh) (bytes t n : Nat) (b : PV) : effW μ (.append sh bytes) [.sl sh' t n, b] J = optK (elemsSh μ sh b) fun ys => rowK (μ.get t) fun sh'' xs => sh' = sh ∧ sh'' = sh ∧ n ≤ xs.length ∧ n + ys.length ≤ 9223372036854775807 ∧ (n + ys.length) * bytes ≤ 140737488355328 ∧
            J (.sl sh t (n + ys.length)) (some t) ((μ.kill (killTag t)).set t (some (.row sh (xs.take n ++ ys)))) := by
  simp only [effW]
  cases elemsSh μ sh b with
  | none => rfl
  | some ys => rcases μ.get t with _ | (_ | _ | _ | _ | _) <;> rfl
theorem effW_store_eptr (sh : Sh) (t n i off : Nat) (v : PV) : effW μ (.store sh) [.eptr t n i off, v] J = rowK (μ.get t) fun sh' xs => optK (partSh v sh) fun cs => (∀ c ∈ cs, c.scalar = true) ∧ v.noOwn = true ∧ n = sh'.size ∧ i < xs.length ∧ ((off = 0 ∧ sh' = sh) ∨ (sh'.isSome = true ∧ off + sh.size ≤ sh'.size)) ∧
        J .junk none (μ.set t (some (.row sh' (xs.set i (putPart sh' sh (xs.getD i .junk) off v))))) := by
  simp only [effW]
  rcases μ.get t with _ | (_ | _ | _ | _) <;> cases partSh v sh <;> rfl
theorem effW_store_ref (sh : Sh) (t off : Nat) (v : PV) : effW μ (.store sh) [.ref t off, v] J = varK (μ.get t) fun sh' x => optK (partSh v sh) fun cs => (∀ c ∈ cs, c.scalar = true) ∧ ((off = 0 ∧ sh' = sh) ∨ (sh'.isSome = true ∧ off + sh.size ≤ sh'.size)) ∧ J .junk none (μ.set t (some (.var sh' (putPart sh' sh x off v)))) := by
  simp only [effW]
  rcases μ.get t with _ | (_ | _ | _ | _) <;> cases partSh v sh <;> rfl

theorem effW_mmk (kd : KK) : effW μ (.mmk kd) [] J = J (.mref μ.length) none (μ ++ [some (.mp kd [])]) := rfl
theorem effW_mupd (kd : KK) (t : Nat) (k v : PV) : effW μ (.mupd kd) [.mref t, k, v] J = mupK (μ.get t) (fun kd' es => kd' = kd ∧ keyOk kd k = true ∧ v.noOwn = true ∧ J .junk none (μ.set t (some (.mp kd (mset es k v)))))
    (fun kd' es => kd' = kd ∧ keyOk kd k = true ∧ J .junk none (μ.set t (some (.mpo kd (mset es k v))))) := by
  simp only [effW]; rcases μ.get t with _ | (_ | _ | _ | _ | _) <;> rfl
theorem effW_ment (kd : KK) (z : PV) (t : Nat) (k : PV) : effW μ (.ment kd z) [.mref t, k] J = mpK (μ.get t) fun kd' es => kd' = kd ∧ keyOk kd k = true ∧ J (.tup [(mget es k).getD z, .int .i64 (midx es k)]) none (μ.set t (some (.mp kd (mset es k ((mget es k).getD z))))) := by
  simp only [effW]; rcases μ.get t with _ | (_ | _ | _ | _ | _) <;> rfl
theorem effW_mst (t : Nat) (k : IntKind) (i : Int) (v : PV) : effW μ .mst [.mref t, .int k i, v] J = mpK (μ.get t) fun kd es => 0 ≤ i ∧ i < es.length ∧ v.noOwn = true ∧ J .junk none (μ.set t (some (.mp kd (es.set i.toNat (enK es i.toNat, v))))) := by
  simp only [effW]; rcases μ.get t with _ | (_ | _ | _ | _ | _) <;> rfl
theorem effW_rng_nil (kd : KK) : effW μ (.rng kd) [.nilMap] J = J (.ref μ.length 0) none (μ ++ [some (.iter kd [] [])]) := rfl
theorem effW_rng_cmap (kd kd' : KK) (es : List (PV × PV)) : effW μ (.rng kd) [.cmap kd' es] J = (kd' = kd ∧ J (.ref μ.length 0) none (μ ++ [some (.iter kd es [])])) := rfl
theorem effW_nxt (t : Nat) : effW μ .nxt [.ref t 0] J = iterK (μ.get t) fun kd es seen => (∀ i, i < es.length → i ∉ seen → J (.tup [.bool true, enK es i, enV es i]) none (μ.set t (some (.iter kd es (seen ++ [i]))))) ∧ ((∀ i, i < es.length → i ∈ seen) → J (.tup [.bool false]) none μ) := by
  simp only [effW]; rcases μ.get t with _ | (_ | _ | _ | _ | _) <;> rfl
theorem effW_ent (t : Nat) : effW μ .ent [.ref t 0] J = iterK (μ.get t) fun _ es seen => lastK seen fun i => i < es.length ∧ J (.tup [enK es i, enV es i]) none μ := by
  simp only [effW]
  rcases μ.get t with _ | (_ | _ | _ | ⟨kd, es, seen⟩) <;> try rfl
theorem effW_app_full (sh sh' : Sh) (bytes : Nat) (xs : List PV) (b : PV) : effW μ (.append sh bytes) [.full sh' xs, b] J = optK (elemsSh μ sh b) fun ys => sh' = sh ∧ xs.length + ys.length ≤ 9223372036854775807 ∧ (xs.length + ys.length) * bytes ≤ 140737488355328 ∧ 0 < ys.length ∧
    J (.sl sh μ.length (xs.length + ys.length)) none (μ ++ [some (.row sh (xs ++ ys))]) := by
  simp only [effW]
  cases elemsSh μ sh b with
  | none => rfl
  | some ys => rfl
theorem lookV_t (z : PV) (o : Option PV) : lookV true z o = .tup [o.getD z, .bool o.isSome] := rfl
theorem lookV_f (z : PV) (o : Option PV) : lookV false z o = o.getD z := rfl
theorem keyOk_str (s : List UInt8) : keyOk .str (.str s) = true := rfl
theorem keyOk_int (k : IntKind) (n : Int) : keyOk (.int k) (.int k n) = true := by simp [keyOk]
theorem slcV_list (sh : Sh) (xs : List PV) (a b : Int) : slcV (.list sh xs) a b = .list sh ((xs.take b.toNat).drop a.toNat) := rfl
theorem slcV_sl (sh : Sh) (t n : Nat) (a b : Int) : slcV (.sl sh t n) a b = .sl sh t b.toNat := rfl
theorem slcV_nil (a b : Int) : slcV .nilSl a b = .nilSl := rfl
theorem slcD_list (sh sh' : Sh) (xs : List PV) (a b : Int) : slcD sh (.list sh' xs) a b = (sh' = sh ∧ 0 ≤ a ∧ a ≤ b ∧ b ≤ xs.length) := rfl
theorem slcD_sl (sh sh' : Sh) (t n : Nat) (a b : Int) : slcD sh (.sl sh' t n) a b = (sh' = sh ∧ a = 0 ∧ 0 ≤ b ∧ b ≤ n) := rfl
theorem slcD_nil (sh : Sh) (a b : Int) : slcD sh .nilSl a b = (a = 0 ∧ b = 0) := rfl
theorem lenV_list (sh : Sh) (xs : List PV) : lenV (.list sh xs) = xs.length := rfl
theorem lenV_sl (sh : Sh) (t n : Nat) : lenV (.sl sh t n) = n := rfl
theorem lenV_nil : lenV .nilSl = 0 := rfl
theorem fullV_list (sh : Sh) (xs : List PV) (a b m : Int) : fullV (.list sh xs) a b m = if m = b then .full sh ((xs.take b.toNat).drop a.toNat) else .list sh ((xs.take b.toNat).drop a.toNat) := rfl
theorem fullV_nil (a b m : Int) : fullV .nilSl a b m = .nilSl := rfl
theorem fullD_list (sh sh' : Sh) (xs : List PV) (a b m : Int) : fullD sh (.list sh' xs) a b m = (sh' = sh ∧ 0 ≤ a ∧ a ≤ b ∧ b ≤ m ∧ m ≤ xs.length) := rfl
theorem fullD_nil (sh : Sh) (a b m : Int) : fullD sh .nilSl a b m = (a = 0 ∧ b = 0 ∧ m = 0) := rfl
theorem eqK_int (k k' : IntKind) (a b : Int) (ks : List Nat) (l l' : List PV) : eqK (0 :: ks) (.int k a :: l) (.int k' b :: l') = (k = k' ∧ eqK ks l l') := rfl
theorem eqK_bool (a b : Bool) (ks : List Nat) (l l' : List PV) : eqK (1 :: ks) (.bool a :: l) (.bool b :: l') = eqK ks l l' := rfl
theorem eqK_str (a b : List UInt8) (ks : List Nat) (l l' : List PV) : eqK (2 :: ks) (.str a :: l) (.str b :: l') = eqK ks l l' := rfl
theorem eqK_nil : eqK [] [] [] = True := rfl
theorem eqC_int (k k' : IntKind) (a b : Int) (l l' : List PV) : eqC (.int k a :: l) (.int k' b :: l') = (decide (a = b) && eqC l l') := rfl
theorem eqC_bool (a b : Bool) (l l' : List PV) : eqC (.bool a :: l) (.bool b :: l') = (decide (a = b) && eqC l l') := rfl
theorem eqC_str (a b : List UInt8) (l l' : List PV) : eqC (.str a :: l) (.str b :: l') = (decide (a = b) && eqC l l') := rfl
theorem eqC_nil : eqC [] [] = true := rfl
theorem dec_true : decide True = true := rfl
theorem dec_false : decide False = false := rfl
theorem elems_list (sh : Sh) (xs : List PV) : elemsSh μ sh (.list sh xs) = some xs := by simp [elemsSh]
theorem elems_nil (sh : Sh) : elemsSh μ sh .nilSl = some [] := rfl
theorem putPart_same (sh : Sh) (x p : PV) : putPart sh sh x 0 p = p := by simp [putPart]
theorem partSh_int (k : IntKind) (n : Int) : partSh (.int k n) none = some [.int k n] := rfl
theorem partSh_bool (b : Bool) : partSh (.bool b) none = some [.bool b] := rfl
theorem partSh_str (s : List UInt8) : partSh (.str s) none = some [.str s] := rfl
theorem fits_none (p : PV) : fits none p = (p.scalar = true) := rfl
theorem fits_agg (n : Nat) (cs : List PV) : fits (some n) (.agg cs) = (cs.length = n ∧ ∀ c ∈ cs, c.scalar = true) := by
  simp [fits]
theorem allFit_nil (sh : Sh) : allFit sh [] = True := rfl
theorem allFit_cons (sh : Sh) (p : PV) (ps : List PV) : allFit sh (p :: ps) = (fits sh p ∧ allFit sh ps) := rfl
theorem allm_cons (p : PV) (ps : List PV) : (∀ c ∈ p :: ps, c.scalar = true) = (p.scalar = true ∧ ∀ c ∈ ps, c.scalar = true) := by simp
theorem allm_nil : (∀ c ∈ ([] : List PV), c.scalar = true) = True := by simp
theorem sc_int (k : IntKind) (n : Int) : (PV.int k n).scalar = true := rfl
theorem sc_bool (b : Bool) : (PV.bool b).scalar = true := rfl
theorem sc_str (s : List UInt8) : (PV.str s).scalar = true := rfl
theorem mem_kill_nil (dead : Nat → Bool) : Mem.kill [] dead = [] := rfl
theorem mem_kill_cons (o : Option MObj) (μ : Mem) (dead : Nat → Bool) : Mem.kill (o :: μ) dead = o.map (MObj.kill dead) :: Mem.kill μ dead := rfl
theorem mem_set0 (o x : Option MObj) (μ : List (Option MObj)) : (o :: μ).set 0 x = x :: μ := rfl
theorem mem_set1 (o p x : Option MObj) (μ : List (Option MObj)) : (o :: p :: μ).set 1 x = o :: x :: μ := rfl
theorem mem_set2 (o p q x : Option MObj) (μ : List (Option MObj)) : (o :: p :: q :: μ).set 2 x = o :: p :: x :: μ := rfl
theorem setAll0 ( x p : PV) (l : List PV) : setAll (x :: l) 0 [p] = p :: l := rfl
theorem setAll1 (a x p : PV) (l : List PV) : setAll (a :: x :: l) 1 [p] = a :: p :: l := rfl
theorem setAll2 (a b x p : PV) (l : List PV) : setAll (a :: b :: x :: l) 2 [p] = a :: b :: p :: l := rfl
theorem setAll3 (a b c x p : PV) (l : List PV) : setAll (a :: b :: c :: x :: l) 3 [p] = a :: b :: c :: p :: l := rfl
theorem setAll4 (a b c d x p : PV) (l : List PV) : setAll (a :: b :: c :: d :: x :: l) 4 [p] = a :: b :: c :: d :: p :: l := rfl
theorem setAll5 (a b c d e x p : PV) (l : List PV) : setAll (a :: b :: c :: d :: e :: x :: l) 5 [p] = a :: b :: c :: d :: e :: p :: l := rfl
theorem setAll6 (a b c d e f x p : PV) (l : List PV) : setAll (a :: b :: c :: d :: e :: f :: x :: l) 6 [p] = a :: b :: c :: d :: e :: f :: p :: l := rfl
theorem setAll7 (a b c d e f g x p : PV) (l : List PV) : setAll (a :: b :: c :: d :: e :: f :: g :: x :: l) 7 [p] = a :: b :: c :: d :: e :: f :: g :: p :: l := rfl
theorem setAll8 (a b c d e f g h x p : PV) (l : List PV) : setAll (a :: b :: c :: d :: e :: f :: g :: h :: x :: l) 8 [p] = a :: b :: c :: d :: e :: f :: g :: h :: p :: l := rfl
theorem setAll9 (a b c d e f g h i x p : PV) (l : List PV) : setAll (a :: b :: c :: d :: e :: f :: g :: h :: i :: x :: l) 9 [p] = a :: b :: c :: d :: e :: f :: g :: h :: i :: p :: l := rfl
theorem part_int (k : IntKind) (n : Int) : partOf (.int k n) 1 = some [.int k n] := rfl
theorem part_bool (b : Bool) : partOf (.bool b) 1 = some [.bool b] := rfl
theorem part_str (s : List UInt8) : partOf (.str s) 1 = some [.str s] := rfl
theorem fillP_cons (cs : List PV) (o s : Nat) (ps : List (Nat × Nat)) (p : PV) (qs : List PV) : fillP cs ((o, s) :: ps) (p :: qs) = fillP (setAll cs o ((partOf p s).getD [])) ps qs := rfl
theorem fillP_nil (cs : List PV) : fillP cs [] [] = cs := by simp [fillP]
theorem fillOk_cons (n o s : Nat) (ps : List (Nat × Nat)) (p : PV) (qs : List PV) : fillOk n ((o, s) :: ps) (p :: qs) = ((partOf p s).isSome = true ∧ o + s ≤ n ∧ fillOk n ps qs) := rfl
theorem fillOk_nil (n : Nat) : fillOk n [] [] = True := rfl
end
end PG

namespace PG
open Go

def plainT (P : Program) : Nat → TypeId → Bool
  | 0, _ => false
  | n + 1, t =>
    match P.underlying t with
    | some .bool | some (.int _) | some .string => true
    | some (.slice e) => (shOf P e).isSome && decide (0 < P.cellsOf e) && plainT P n e
    | some (.struct fs) => fs.toList.all fun f => plainT P n f.type
    | _ => false

/-- The cells of a value of a type. -/
def ShC (P : Program) : Nat → TypeId → List PV → Prop
  | 0, _, _ => False
  | n + 1, t, ps =>
    match P.underlying t with
    | some .bool => ∃ b, ps = [.bool b]
    | some (.int k) => ∃ m, ps = [.int k m] ∧ (Lit.int k m).wf = true
    | some .string => ∃ l, ps = [.str l] ∧ l.length ≤ maxLen
    | some (.slice e) => ∃ sh xs, shOf P e = some sh ∧ ps = [.list sh xs] ∧ xs.length ≤ maxLen ∧ ∀ x ∈ xs, fits sh x ∧ ShC P n e x.cells
    | some (.struct fs) => ps.length = P.cellsOf t ∧ ∀ f ∈ fs.toList, ShC P n f.type ((ps.drop f.offset).take (P.cellsOf f.type))
    | _ => False

/-- A value of a type: a struct as a whole. -/
def ShA (P : Program) (n : Nat) (t : TypeId) (p : PV) : Prop :=
  match P.underlying t with
  | some (.struct _) => ∃ ps, p = .agg ps ∧ ShC P n t ps
  | _ => ShC P n t [p]

theorem tile {R : Value → PV → Prop} {P : Program} {S : Field → List PV → Prop} {cs : List Value} : ∀ (fs : List Field) (o : Nat),
    (∀ (j : Nat) f, fs[j]? = some f → f.offset = o + ((fs.take j).map fun f => P.cellsOf f.type).sum) → o + (fs.map fun f => P.cellsOf f.type).sum ≤ cs.length →
    (∀ f ∈ fs, ∃ ps : List PV, ps.length = ((cs.drop f.offset).take (P.cellsOf f.type)).length ∧ (∀ (j : Nat) (v : Value) (p : PV), ((cs.drop f.offset).take (P.cellsOf f.type))[j]? = some v → ps[j]? = some p → R v p) ∧ S f ps) →
    ∃ qs : List PV, qs.length = (fs.map fun f => P.cellsOf f.type).sum ∧ (∀ (j : Nat) (v : Value) (p : PV), (cs.drop o)[j]? = some v → qs[j]? = some p → R v p) ∧ ∀ f ∈ fs, S f ((qs.drop (f.offset - o)).take (P.cellsOf f.type)) := by
  intro fs
  induction fs with
  | nil => intro o _ _ _; exact ⟨[], rfl, fun j v p _ h => by simp at h, fun f h => by cases h⟩
  | cons f fs ih =>
    intro o ho hl hf
    have hof : f.offset = o := by have := ho 0 f rfl; simpa using this
    obtain ⟨ps, h1, h2, h3⟩ := hf f (by simp)
    simp only [List.map_cons, List.sum_cons] at hl
    have hpl : ps.length = P.cellsOf f.type := by rw [h1, hof]; simp; omega
    obtain ⟨qs, q1, q2, q3⟩ := ih (o + P.cellsOf f.type) (fun j g hj => by have := ho (j + 1) g (by simpa using hj); simp only [List.take_succ_cons, List.map_cons, List.sum_cons] at this; rw [this, Nat.add_assoc]) (by omega) (fun g hg => hf g (by simp [hg]))
    have hoge : ∀ g ∈ fs, o + P.cellsOf f.type ≤ g.offset := by
      intro g hg
      obtain ⟨j, hj⟩ := List.mem_iff_getElem?.1 hg
      have := ho (j + 1) g (by simpa using hj)
      simp at this; omega
    refine ⟨ps ++ qs, by simp [hpl, q1], fun j v p hv hp => ?_, fun g hg => ?_⟩
    · rcases Nat.lt_or_ge j ps.length with hj | hj
      · rw [List.getElem?_append_left hj] at hp
        refine h2 j v p ?_ hp
        rw [hof, List.getElem?_take_of_lt (by omega)]; exact hv
      · rw [List.getElem?_append_right hj] at hp
        refine q2 (j - ps.length) v p ?_ hp
        rw [List.getElem?_drop] at hv ⊢
        rw [← hv]; congr 1; omega
    · rcases List.mem_cons.1 hg with rfl | hg
      · rw [hof, Nat.sub_self, List.drop_zero, List.take_append_of_le_length (by omega), List.take_of_length_le (by omega)]; exact h3
      · have h4 := hoge g hg
        have := q3 g hg
        rw [List.drop_append, List.drop_eq_nil_of_le (by omega), List.nil_append, hpl, show g.offset - o - P.cellsOf f.type = g.offset - (o + P.cellsOf f.type) by omega]
        exact this

theorem shOf_size {P : Program} {t : TypeId} {sh : Sh} (h : shOf P t = some sh) : sh.size = P.cellsOf t := by
  obtain ⟨-, -, i, h1, h2⟩ := shOf_spec h
  simp [Program.cellsOf, h1, h2]
theorem exists_list {Q : Nat → PV → Prop} : ∀ n, (∀ i, i < n → ∃ x, Q i x) → ∃ xs : List PV, xs.length = n ∧ ∀ (i : Nat) x, xs[i]? = some x → Q i x
  | 0, _ => ⟨[], rfl, fun i x h => by simp at h⟩
  | n + 1, h => by
    obtain ⟨xs, h1, h2⟩ := exists_list n (fun i hi => h i (by omega))
    obtain ⟨x, hx⟩ := h n (by omega)
    refine ⟨xs ++ [x], by simp [h1], fun i y hy => ?_⟩
    rcases Nat.lt_or_ge i xs.length with hi | hi
    · rw [List.getElem?_append_left hi] at hy; exact h2 i y hy
    · rw [List.getElem?_append_right hi] at hy
      have : i - xs.length = 0 := by
        have := (List.getElem?_eq_some_iff.1 hy).1
        simp at this; omega
      rw [this] at hy; simp at hy; subst hy
      rw [show i = n by omega]; exact hx

theorem read_repC {H : Type} {enc : TypeId × Value → H} {P : Program} {W : World} {sp : Nat → Bool} {hd : Bool} (hl : laidOutB P = true) : ∀ (n : Nat) (t : TypeId) (fuel : Nat) (cs : List Value) (x : DataW H × List MemPlace),
    t < P.types.size → plainT P n t = true → DataW.trod enc P W 0 sp hd fuel t cs = some x →
    ∃ ps : List PV, ps.length = cs.length ∧ (∀ (j : Nat) (v : Value) (p : PV), cs[j]? = some v → ps[j]? = some p → RepC W (fun _ => False) v p) ∧ (∀ p ∈ ps, p.scalar = true) ∧ ShC P n t ps
  | 0, _, _, _, _, _, h, _ => by simp [plainT] at h
  | n + 1, t, fuel, cs, x, ht, hp, h => by
    unfold plainT at hp
    split at hp
    · rename_i hu
      obtain ⟨b, rfl, -⟩ := DataW.trod_bool hu h
      refine ⟨[.bool b], rfl, fun j v p hv hq => ?_, by simp [PV.scalar], by unfold ShC; rw [hu]; exact ⟨b, rfl⟩⟩
      cases j <;> simp at hv hq; subst hv; subst hq; exact .bool b
    · rename_i k hu
      obtain ⟨m, rfl, -, hw⟩ := DataW.trod_int hu h
      refine ⟨[.int k m], rfl, fun j v p hv hq => ?_, by simp [PV.scalar], by unfold ShC; rw [hu]; exact ⟨m, rfl, hw⟩⟩
      cases j <;> simp at hv hq; subst hv; subst hq; exact .int k m
    · rename_i hu
      obtain ⟨s, rfl, -, hs⟩ := DataW.trod_string hu h
      refine ⟨[.str s.data.toList], rfl, fun j v p hv hq => ?_, by simp [PV.scalar], by unfold ShC; rw [hu]; exact ⟨_, rfl, by simpa using hs⟩⟩
      cases j <;> simp at hv hq; subst hv; subst hq; exact .str s
    · rename_i e hu
      simp only [Bool.and_eq_true, decide_eq_true_eq] at hp
      obtain ⟨⟨hsh, hpos⟩, hpe⟩ := hp
      obtain ⟨sh, hsh⟩ := Option.isSome_iff_exists.1 hsh
      have hsz := shOf_size hsh
      have het : e < P.types.size := kid_slice hl ht hu
      rcases DataW.trod_slice hu h with ⟨rfl, -⟩ | ⟨a, len, cap, elems, rest, m, rfl, rfl, -, hb, hlc, hcm, hel, hr, -⟩
      · refine ⟨[.list sh []], rfl, fun j v p hv hq => ?_, by simp [PV.scalar], by unfold ShC; rw [hu]; exact ⟨sh, [], hsh, rfl, Nat.zero_le _, by simp⟩⟩
        cases j <;> simp at hv hq; subst hv; subst hq
        exact .list none 0 0 sh [] 0 0 (fun _ => undef) rfl (Nat.le_refl _) (Nat.zero_le _) (by simp) (by simp) (fun j hj => by simp [flat] at hj) (fun j p hp => by simp [flat] at hp)
      · have key : ∀ i, i < len → ∃ y : PV, fits sh y ∧ ShC P n e y.cells ∧ ∀ j, j < sh.size → ∃ v p, W.cell? ((a.add (i * P.cellsOf e)).add j) = some v ∧ y.cells[j]? = some p ∧ RepC W (fun _ => False) v p := by
          intro i hi
          have h1 := hr i hi
          rw [List.getElem?_eq_getElem (by omega : i < elems.length), Option.bind_eq_some_iff] at h1
          obtain ⟨cs', hc1, hc2⟩ := h1
          obtain ⟨-, hcl, hcg⟩ := World.cells?_some hc1
          obtain ⟨ps, p1, p2, p3, p4⟩ := read_repC hl n e m cs' _ het hpe hc2
          have cells : ∀ y : PV, y.cells = ps → ∀ j, j < sh.size → ∃ v p, W.cell? ((a.add (i * P.cellsOf e)).add j) = some v ∧ y.cells[j]? = some p ∧ RepC W (fun _ => False) v p := by
            intro y hy j hj
            have hjc : j < cs'.length := by omega
            have hjp : j < ps.length := by omega
            refine ⟨cs'[j], ps[j], ?_, by rw [hy]; simp [hjp], p2 j _ _ (List.getElem?_eq_getElem hjc) (List.getElem?_eq_getElem hjp)⟩
            rw [hcg j (by omega)]; simp [hjc]
          cases hs : sh with
          | some k =>
            refine ⟨.agg ps, ⟨ps, rfl, ?_, p3⟩, p4, ?_⟩
            · rw [hs] at hsz; simp [Sh.size] at hsz; omega
            · rw [← hs]; exact cells _ rfl
          | none =>
            have h1 : ps.length = 1 := by rw [hs] at hsz; simp [Sh.size] at hsz; omega
            obtain ⟨q, rfl⟩ : ∃ q, ps = [q] := by
              match ps, h1 with
              | [q], _ => exact ⟨q, rfl⟩
            have hq := p3 q (by simp)
            have hqc : q.cells = [q] := by cases q <;> simp_all [PV.cells, PV.scalar]
            refine ⟨q, hq, by rw [hqc]; exact p4, ?_⟩
            rw [← hs]; exact cells _ hqc
        obtain ⟨xs, x1, x2⟩ := exists_list len key
        have hfit : ∀ y ∈ xs, fits sh y := fun y hy => by
          obtain ⟨i, hi⟩ := List.mem_iff_getElem?.1 hy
          exact (x2 i y hi).1
        have hfl := flat_length hfit
        have hspos : 0 < sh.size := by omega
        have hcell : ∀ j, j < (flat xs).length → ∃ v p, W.cell? ⟨a.block, a.off + j, none⟩ = some v ∧ (flat xs)[j]? = some p ∧ RepC W (fun _ => False) v p := by
          intro j hj
          have hjd : j = (j / sh.size) * sh.size + j % sh.size := by rw [Nat.mul_comm]; exact (Nat.div_add_mod _ _).symm
          have hjm : j % sh.size < sh.size := Nat.mod_lt _ hspos
          have hji : j / sh.size < xs.length := by rw [Nat.div_lt_iff_lt_mul hspos]; omega
          obtain ⟨v, p, c1, c2, c3⟩ := (x2 _ _ (List.getElem?_eq_getElem hji)).2.2 _ hjm
          refine ⟨v, p, ?_, ?_, c3⟩
          · rw [← c1]
            have hnsp : ((a.add (j / sh.size * P.cellsOf e)).add (j % sh.size)).spot = none := by
              unfold World.cell? at c1
              split at c1
              · split at c1
                · cases c1
                · rename_i hns; simpa using hns
              · cases c1
            have : ((a.add (j / sh.size * P.cellsOf e)).add (j % sh.size)) = ⟨a.block, a.off + j, none⟩ := by
              have e1 : ((a.add (j / sh.size * P.cellsOf e)).add (j % sh.size)).block = a.block := by unfold Addr.add; split <;> split <;> rfl
              have e2 : ((a.add (j / sh.size * P.cellsOf e)).add (j % sh.size)).off = a.off + j := by
                rw [← hsz]
                have ea : ∀ (b : Addr) (k : Nat), (b.add k).off = b.off + k := by
                  intro b k; unfold Addr.add; split
                  · rename_i h0; rw [h0]; rfl
                  · rfl
                rw [ea, ea]; omega
              generalize ((a.add (j / sh.size * P.cellsOf e)).add (j % sh.size)) = z at hnsp e1 e2
              obtain ⟨z1, z2, z3⟩ := z
              simp only at hnsp e1 e2
              rw [hnsp, e1, e2]
            rw [this]
          · rw [hjd, flat_get hfit _ _ _ (List.getElem?_eq_getElem hji) hjm]; exact c2
        have hch : ∀ j, ∃ v, j < (flat xs).length → W.cell? ⟨a.block, a.off + j, none⟩ = some v ∧ ∃ p, (flat xs)[j]? = some p ∧ RepC W (fun _ => False) v p := by
          intro j
          by_cases hj : j < (flat xs).length
          · obtain ⟨v, p, c1, c2, c3⟩ := hcell j hj
            exact ⟨v, fun _ => ⟨c1, p, c2, c3⟩⟩
          · exact ⟨undef, fun h => absurd h hj⟩
        have ha : xs ≠ [] → (some a : Option Addr) = some ⟨a.block, a.off, none⟩ := by
          intro hne
          have hl0 : 0 < xs.length := List.length_pos_iff.2 hne
          obtain ⟨v, p, c1, -, -⟩ := (x2 0 _ (List.getElem?_eq_getElem hl0)).2.2 0 hspos
          simp only [Nat.zero_mul, Addr.add, if_true] at c1
          have hsp : a.spot = none := by
            unfold World.cell? at c1
            split at c1
            · split at c1
              · cases c1
              · rename_i hns; simpa using hns
            · cases c1
          obtain ⟨a1, a2, a3⟩ := a
          simp only at hsp
          rw [hsp]
        refine ⟨[.list sh xs], rfl, fun j v p hv hq => ?_, by simp [PV.scalar], ?_⟩
        · cases j <;> simp at hv hq; subst hv; subst hq
          refine .list (some a) len cap sh xs a.block a.off (fun j => (hch j).choose) x1.symm hlc hcm hfit ha (fun j hj => ⟨fun h => h, ((hch j).choose_spec hj).1⟩) (fun j p hp => ?_)
          have hj := (List.getElem?_eq_some_iff.1 hp).1
          obtain ⟨p', c2, c3⟩ := ((hch j).choose_spec hj).2
          rw [hp] at c2; cases c2; exact c3
        · unfold ShC; rw [hu]
          refine ⟨sh, xs, hsh, rfl, by omega, fun y hy => ?_⟩
          obtain ⟨i, hi⟩ := List.mem_iff_getElem?.1 hy
          exact ⟨(x2 i y hi).1, (x2 i y hi).2.1⟩
    · rename_i fs hu
      obtain ⟨k1, k2, k3⟩ := kid_struct hl ht hu
      obtain ⟨xs, m, rfl, -, hcl, hxl, hf⟩ := DataW.trod_struct hu h
      simp only [List.all_eq_true] at hp
      have key : ∀ f ∈ fs.toList, ∃ ps : List PV, ps.length = ((cs.drop f.offset).take (P.cellsOf f.type)).length ∧ (∀ (j : Nat) (v : Value) (p : PV), ((cs.drop f.offset).take (P.cellsOf f.type))[j]? = some v → ps[j]? = some p → RepC W (fun _ => False) v p ∧ p.scalar = true) ∧ ShC P n f.type ps := by
        intro f hfm
        obtain ⟨i, hi⟩ := List.mem_iff_getElem?.1 hfm
        have h1 := hf i f (by simpa using hi)
        have hsome : ∃ y, xs[i]? = some y := by
          cases hx : xs[i]? with
          | some y => exact ⟨y, rfl⟩
          | none =>
            exfalso
            have hi' := (List.getElem?_eq_some_iff.1 hi).1
            rw [List.getElem?_eq_none_iff] at hx
            simp at hi'; omega
        obtain ⟨y, hy⟩ := hsome
        rw [hy] at h1
        obtain ⟨ps, p1, p2, p3, p4⟩ := read_repC hl n f.type m _ _ (k1 f hfm) (hp f hfm) h1
        exact ⟨ps, p1, fun j v p a b => ⟨p2 j v p a b, p3 p (List.mem_of_getElem? b)⟩, p4⟩
      obtain ⟨qs, q1, q2, q3⟩ := tile (R := fun v p => RepC W (fun _ => False) v p ∧ p.scalar = true) (S := fun f ps => ShC P n f.type ps) fs.toList 0 (fun j f hj => by rw [Nat.zero_add]; exact k3 j f hj) (by rw [← k2]; omega) key
      have hql : qs.length = cs.length := by rw [q1, ← k2]; omega
      refine ⟨qs, hql, fun j v p a b => (q2 j v p (by simpa using a) b).1, fun p hp' => ?_, by unfold ShC; rw [hu]; exact ⟨by omega, fun f hf => by simpa using q3 f hf⟩⟩
      obtain ⟨i, hi⟩ := List.mem_iff_getElem?.1 hp'
      have hil := (List.getElem?_eq_some_iff.1 hi).1
      exact (q2 i _ p (by simpa using List.getElem?_eq_getElem (by omega : i < cs.length)) hi).2
    · cases hp

/-- A value that is well formed and reads, as a pure one. -/
theorem read_arg {H : Type} {enc : TypeId × Value → H} {P : Program} {W : World} {sp : Nat → Bool} {hd : Bool} {base : Nat} (hl : laidOutB P = true) {n : Nat} {t : TypeId} {v : Value} {d : DataW H} {p : List MemPlace}
    (ht : t < P.types.size) (hp : plainT P n t = true) (hv : Value.okWide P W .any base t v) (h : DataW.Trod enc P W 0 sp hd t v d p) : ∃ q, RepC W (fun _ => False) v q ∧ ShA P n t q := by
  obtain ⟨fuel, h⟩ := h
  obtain ⟨ps, h1, h2, -, h3⟩ := read_repC hl n t fuel _ _ ht hp h
  unfold ShA
  cases n with
  | zero => cases hp
  | succ n =>
  unfold Value.okWide at hv
  unfold plainT at hp
  cases hu : P.underlying t with
  | none => rw [hu] at hp; cases hp
  | some u =>
    rw [hu] at hv hp
    have one : ∀ v : Value, v.cells.toList = [v] → ps.length = v.cells.toList.length → (∀ (j : Nat) (x : Value) (p : PV), v.cells.toList[j]? = some x → ps[j]? = some p → RepC W (fun _ => False) x p) → ∃ q, ps = [q] ∧ RepC W (fun _ => False) v q := by
      intro v hc h1 h2
      rw [hc] at h1 h2
      match ps, h1, h2 with
      | [q], _, h2 => exact ⟨q, rfl, h2 0 v q rfl rfl⟩
    have fin : (∃ q, ps = [q] ∧ RepC W (fun _ => False) v q) → ∃ q, RepC W (fun _ => False) v q ∧ ShC P (n + 1) t [q] := by
      rintro ⟨q, rfl, hq⟩
      exact ⟨q, hq, h3⟩
    cases u with
    | struct fs =>
      obtain ⟨cs, rfl, -, -⟩ := hv
      refine ⟨.agg ps, .agg cs ps ?_ ?_, ps, rfl, h3⟩
      · simpa [Value.cells] using h1.symm
      · simpa [Value.cells] using h2
    | _ =>
      simp only at hp
      first
        | (cases hp; done)
        | (refine fin (one v ?_ h1 h2)
           unfold Cell.okWide Cell.ok at hv
           rw [hu] at hv
           cases v <;> first | rfl | (simp at hv; done))

def ShAs (P : Program) (n : Nat) : List TypeId → List PV → Prop
  | [], [] => True
  | t :: ts, p :: ps => ShA P n t p ∧ ShAs P n ts ps
  | _, _ => False

theorem read_args {H : Type} {enc : TypeId × Value → H} {P : Program} {W : World} {sp : Nat → Bool} {hd : Bool} {base : Nat} (hl : laidOutB P = true) {n : Nat} : ∀ (ts : List TypeId) (vs : List Value) (ds : List (DataW H)) (p : List MemPlace),
    (∀ t ∈ ts, t < P.types.size ∧ plainT P n t = true) → (∀ (j : Nat) t v, ts[j]? = some t → vs[j]? = some v → Value.okWide P W .any base t v) → DataW.TrodAll enc P W 0 sp hd ts vs ds p →
    ∃ qs : List PV, qs.length = vs.length ∧ (∀ (i : Nat) (v : Value) (q : PV), vs[i]? = some v → qs[i]? = some q → RepC W (fun _ => False) v q) ∧ ShAs P n ts qs
  | [], [], _, _, _, _, _ => ⟨[], rfl, fun i v q h => by simp at h, trivial⟩
  | [], v :: vs, ds, _, _, _, h => by cases ds <;> exact h.elim
  | t :: ts, [], ds, _, _, _, h => by cases ds <;> exact h.elim
  | t :: ts, v :: vs, [], _, _, _, h => h.elim
  | t :: ts, v :: vs, d :: ds, _, ht, hv, ⟨p, q, h1, h2, _⟩ => by
    obtain ⟨a, ha, hs⟩ := read_arg hl (ht t (by simp)).1 (ht t (by simp)).2 (hv 0 t v rfl rfl) h1
    obtain ⟨qs, q1, q2, q3⟩ := read_args hl ts vs ds q (fun t h => ht t (by simp [h])) (fun j t v a b => hv (j + 1) t v (by simpa using a) (by simpa using b)) h2
    refine ⟨a :: qs, by simp [q1], fun i v q hv hq => ?_, hs, q3⟩
    cases i with
    | zero => simp at hv hq; subst hv; subst hq; exact ha
    | succ i => exact q2 i v q (by simpa using hv) (by simpa using hq)

/-- Behind the call the arguments read as they did. -/
theorem args_below {H : Type} {enc : TypeId × Value → H} {P : Program} {W W' : World} (hl : laidOutB P = true) (hb : RowKit.Below W.heap.size W W') : ∀ (ts : List TypeId) (vs : List Value) (ds : List (DataW H)) (p : List MemPlace) (sp : Nat → Bool),
    (∀ t ∈ ts, t < P.types.size ∧ P.readableRec t = true) → DataW.TrodAll enc P W 0 (fun _ => true) true ts vs ds p → (∀ x ∈ p, x.block < W.heap.size) → (∀ x ∈ p, sp x.block = true) → DataW.TrodAll enc P W' 0 sp true ts vs ds p
  | [], [], [], _, _, _, h, _, _ => h
  | [], [], _ :: _, _, _, _, h, _, _ => h.elim
  | [], v :: vs, ds, _, _, _, h, _, _ => by cases ds <;> exact h.elim
  | t :: ts, [], ds, _, _, _, h, _, _ => by cases ds <;> exact h.elim
  | t :: ts, v :: vs, [], _, _, _, h, _, _ => h.elim
  | t :: ts, v :: vs, d :: ds, _, sp, ht, ⟨p, q, h1, h2, e⟩, hlt, hsp => by
    subst e
    exact ⟨p, q, WideElems.Trod_stays hl (ht t (by simp)).2 (ht t (by simp)).1 h1 (fun x hx => hb.same (hlt x (by simp [hx]))) (fun x hx => hsp x (by simp [hx])),
      args_below hl hb ts vs ds q sp (fun t h => ht t (by simp [h])) h2 (fun x hx => hlt x (by simp [hx])) (fun x hx => hsp x (by simp [hx])), rfl⟩

section
open Go.RowKit Go.WideShapes Go.ChangeShapes
variable {H : Type} {enc : TypeId × Value → H} {P : Program}
theorem post_of_below {f : Func} {s : ChangeSpec} {apart fresh handsOn again : Bool} {W W' : World} {args : Array Value} {v : Value} {ds gs : List (DataW H)} {before pa pv : List MemPlace}
    (hW : DataW.Whole enc P f.params.toList s.vars apart W args.toList ds gs before)
    (hres : ∀ (b : Nat) (sp : Nat → Bool) (hd : Bool), DataW.TrodAll enc P W' b sp hd f.resultTypes.toList (v.resultList f.resultTypes.size) (s.fn H (ds ++ gs)).results [])
    (hargs : ∀ sp : Nat → Bool, (∀ p ∈ before, sp p.block = true) → DataW.TrodAll enc P W' 0 sp true f.params.toList args.toList (s.fn H (ds ++ gs)).args pa)
    (hvars : ∀ sp : Nat → Bool, (∀ p ∈ before, sp p.block = true) → DataW.TrodVars enc P W' sp s.vars (s.fn H (ds ++ gs)).vars pv)
    (hps : before = pa ++ pv) (hb : Below W.heap.size W W')
    (hok : ∀ (j : Nat) (t : TypeId) (r : Value), f.resultTypes[j]? = some t → (v.resultList f.resultTypes.size)[j]? = some r → Value.okWide P W' .any 0 t r) :
    s.post enc P f apart fresh handsOn again W args v W' := by
  have hlt : ∀ p ∈ before, p.block < W.heap.size := fun p hp => hW.lt p hp
  have hold : ∀ p ∈ before, (fun b => decide (b < W.heap.size)) p.block = true := fun p hp => by simpa using hlt p hp
  refine ⟨ds, gs, before, [], pa, pv, hW, hres _ _ _, hargs _ hold, hvars _ hold, World.keptBut_mono (fun p hp => ⟨hp, ?_⟩) (hb.frame (· ∈ before)), fun _ => ?_⟩
  · rw [hps, List.mem_append] at hp
    exact Or.inr hp
  · obtain ⟨_, _, _, _, _, hz, hn⟩ := hW
    refine ⟨hok, _, _, ([] ++ pa) ++ pv, ⟨[] ++ pa, pv, trodAll_append (hargs _ (fun _ _ => rfl)) (hres _ _ _), hvars _ (fun _ _ => rfl), rfl, ?_, ?_⟩, ?_⟩
    · intro b off hp
      have hin : MemPlace.cell b off ∈ before := by rw [hps]; simpa using hp
      rw [hb.frozen (hlt _ hin)]
      exact hz b off hin
    · intro ha
      have := hn ha
      rw [hps] at this
      simpa using this
    · intro p hp _
      rw [hps]
      simpa using hp

/-- A law by value, as its row asks for it: no package-level variable is listed. -/
theorem law_of_V {fn : Func} {f : Nat} {s : ChangeSpec} {apart fresh handsOn again : Bool} {G : Globs} {n : Nat} {tb : TypeId} (hl : laidOutB P = true) (hpl : (fn.params.toList.all fun t => decide (t < P.types.size) && plainT P n t && P.readableRec t) = true)
    (hvars : s.vars = []) (hs : ∀ ds : List (DataW H), ds.length = fn.params.toList.length → s.fn H ds = { results := [.lit (.bool true)], args := ds }) (hres : fn.resultTypes = #[tb]) (htb : P.underlying tb = some .bool)
    {W : World} (hG : GlobsIn W (fun _ => False) G) {base : Nat} {args : Array Value} {ds gs : List (DataW H)} {before : List MemPlace}
    (hV : ∀ ps, ShAs P n fn.params.toList ps → VCalls P G f ps (.bool true))
    (hval : ∀ (j : Nat) t v, fn.params[j]? = some t → args[j]? = some v → Value.okWide P W .any base t v)
    (hW : DataW.Whole enc P fn.params.toList s.vars apart W args.toList ds gs before) :
    Calls P f args W fun e W' => ∃ v, e = .returned v ∧ s.post enc P fn apart fresh handsOn again W args v W' := by
  simp only [List.all_eq_true, Bool.and_eq_true, decide_eq_true_eq] at hpl
  have hW0 := hW
  obtain ⟨p, q, hA, hVr, rfl, -, -⟩ := hW
  rw [hvars] at hVr
  obtain ⟨rfl, rfl⟩ := trodVars_none hVr
  obtain ⟨qs, q1, q2, q3⟩ := read_args hl fn.params.toList args.toList ds p (fun t h => ⟨(hpl t h).1.1, (hpl t h).1.2⟩) (fun j t v a b => hval j t v (by simpa using a) (by simpa using b)) hA
  have hlen : ds.length = fn.params.toList.length := by
    have : ∀ (ts : List TypeId) (vs : List Value) (ds : List (DataW H)) (p : List MemPlace), DataW.TrodAll enc P W 0 (fun _ => true) true ts vs ds p → ds.length = ts.length := by
      intro ts
      induction ts with
      | nil => intro vs ds p h; cases vs <;> cases ds <;> first | rfl | exact h.elim
      | cons t ts ih =>
        intro vs ds p h
        cases vs <;> cases ds <;> first | exact h.elim | (obtain ⟨_, _, _, h2, _⟩ := h; simp [ih _ _ _ h2])
    exact this _ _ _ _ hA
  have hlt : ∀ x ∈ p, x.block < W.heap.size := fun x hx => hW0.lt x (by simpa using hx)
  refine (hV qs q3 W (fun _ => False) args (fun b h => h.elim) hG ⟨by simpa using q1.symm, fun i v p a b => q2 i v p (by simpa using a) b⟩).mono ?_
  rintro e W' ⟨v, rfl, hB, hr⟩
  cases hr with
  | bool b =>
  refine ⟨_, rfl, post_of_below (pa := p) (pv := []) hW0 (fun b sp hd => ?_) (fun sp hsp => ?_) (fun sp _ => ?_) rfl hB ?_⟩
  · rw [List.append_nil, hs ds hlen, hres]
    exact trodAll_mk1 (shut_bool htb _)
  · rw [List.append_nil, hs ds hlen]
    exact args_below hl hB _ _ _ _ sp (fun t h => ⟨(hpl t h).1.1, (hpl t h).2⟩) hA hlt (fun x hx => hsp x (by simpa using hx))
  · rw [hvars, List.append_nil, hs ds hlen]; rfl
  · exact ok_one hres rfl (okWide_bool_mk htb _)
end

end PG

namespace PG
open Go
theorem SS : type_of% (And.intro (And.intro (And.intro (And.intro (And.intro (And.intro (And.intro (@opsW_rd) (@opsW_rdg)) (And.intro (@opsW_eff) (And.intro (@opsW_effg) (@opsW_call)))) (And.intro (And.intro (@opsW_callg) (And.intro (@opsW_nil) (@put_some))) (And.intro (@put_none) (And.intro (@kill_none) (@List.map_cons Opd PV))))) (And.intro (And.intro (And.intro (@List.map_cons PV PV) (And.intro (@List.map_cons PV Bool) (@List.map_cons RVar PV))) (And.intro (@List.map_cons (Nat × PV) (Nat × PV)) (And.intro (@List.map_cons (Option MObj) (Option MObj)) (@List.map_nil Opd PV)))) (And.intro (And.intro (@List.map_nil PV PV) (And.intro (@List.map_nil PV Bool) (@List.map_nil RVar PV))) (And.intro (@List.map_nil (Nat × PV) (Nat × PV)) (And.intro (@List.map_nil (Option MObj) (Option MObj)) (@eval_tmp)))))) (And.intro (And.intro (And.intro (And.intro (@eval_pv) (And.intro (@get_cons) (@get_nil))) (And.intro (@keep_nil) (And.intro (@keep_cons) (@guardK_bool)))) (And.intro (And.intro (@true_and) (And.intro (@and_true) (@seqQ_normal))) (And.intro (@seqQ_ret) (And.intro (@seqQ_exit) (@blockQ_normal))))) (And.intro (And.intro (And.intro (@blockQ_ret) (And.intro (@blockQ_exit) (@loopQ_ret))) (And.intro (@loopQ_exit) (And.intro (@and_self) (@beq_true)))) (And.intro (And.intro (@not_true_eq_false) (And.intro (@not_false_eq_true) (@endV_ret))) (And.intro (@endV_normal) (And.intro (@beq_false) (@imp_self))))))) (And.intro (And.intro (And.intro (And.intro (And.intro (@true_implies) (@List.all_cons Bool)) (And.intro (@List.all_nil Bool) (And.intro (@Bool.and_self) (@Bool.true_and)))) (And.intro (And.intro (@Bool.and_true) (And.intro (@List.nil_append PV) (@List.nil_append (Option MObj)))) (And.intro (@List.append_nil PV) (And.intro (@List.append_nil (Option MObj)) (@List.cons_append PV))))) (And.intro (And.intro (And.intro (@List.cons_append (Option MObj)) (And.intro (@toNat_add2) (@toNat_add1))) (And.intro (@Int.toNat_natCast) (And.intro (@okAll_nil) (@okAll_cons)))) (And.intro (And.intro (@loopQ_normal) (And.intro (@cut_zero) (@mem_get0))) (And.intro (@mem_get1) (And.intro (@mem_get2) (@mem_get3)))))) (And.intro (And.intro (And.intro (And.intro (@u8sub48) (And.intro (@i64_u8) (@u8s_length))) (And.intro (@bnot_imp) (And.intro (@ite_or) (@ite_and)))) (And.intro (And.intro (@getC0) (And.intro (@getC1) (@getC2))) (And.intro (@getC3) (And.intro (@effK_eq) (@deadOk_none))))) (And.intro (And.intro (And.intro (@deadOk_some) (And.intro (@kill_some) (@effW_s2b))) (And.intro (@effW_b2s) (And.intro (@effW_alloc) (@effW_box)))) (And.intro (And.intro (@effW_litC) (And.intro (@effW_litO) (@effW_make))) (And.intro (@effW_app_nil) (And.intro (@effW_app_sl) (@effW_store_eptr)))))))) (And.intro (And.intro (And.intro (And.intro (And.intro (And.intro (@effW_store_ref) (@optK_some)) (And.intro (@rowK_row) (And.intro (@varK_var) (@elems_list)))) (And.intro (And.intro (@elems_nil) (And.intro (@putPart_same) (@partSh_int))) (And.intro (@partSh_bool) (And.intro (@partSh_str) (@fits_none))))) (And.intro (And.intro (And.intro (@fits_agg) (And.intro (@allFit_nil) (@allFit_cons))) (And.intro (@allm_cons) (And.intro (@allm_nil) (@sc_int)))) (And.intro (And.intro (@sc_bool) (And.intro (@sc_str) (@mem_kill_nil))) (And.intro (@mem_kill_cons) (And.intro (@mem_set0) (@mem_set1)))))) (And.intro (And.intro (And.intro (And.intro (@mem_set2) (And.intro (@Option.map_some MObj MObj) (@setAll0))) (And.intro (@setAll1) (And.intro (@setAll2) (@setAll3)))) (And.intro (And.intro (@setAll4) (And.intro (@setAll5) (@setAll6))) (And.intro (@setAll7) (And.intro (@setAll8) (@setAll9))))) (And.intro (And.intro (And.intro (@part_int) (And.intro (@part_bool) (@part_str))) (And.intro (@fillP_cons) (And.intro (@fillP_nil) (@fillOk_cons)))) (And.intro (And.intro (@fillOk_nil) (And.intro (@Option.getD_some (List PV)) (@Option.isSome_some (List PV)))) (And.intro (@true_or) (And.intro (@or_true) (@Bool.not_false))))))) (And.intro (And.intro (And.intro (And.intro (And.intro (@Bool.not_true) (@Bool.true_or)) (And.intro (@Bool.false_or) (And.intro (@Bool.or_true) (@Bool.or_false)))) (And.intro (And.intro (@false_implies) (And.intro (@Bool.false_eq_true) (@eqK_int))) (And.intro (@eqK_bool) (And.intro (@eqK_str) (@eqK_nil))))) (And.intro (And.intro (And.intro (@eqC_int) (And.intro (@eqC_bool) (@eqC_str))) (And.intro (@eqC_nil) (And.intro (@dec_true) (@dec_false)))) (And.intro (And.intro (@guardK_cond) (And.intro (@effW_mmk) (@effW_mupd))) (And.intro (@effW_ment) (And.intro (@effW_mst) (@effW_rng_nil)))))) (And.intro (And.intro (And.intro (And.intro (@effW_rng_cmap) (And.intro (@effW_nxt) (@effW_ent))) (And.intro (@effW_app_full) (And.intro (@lookV_t) (@lookV_f)))) (And.intro (And.intro (@keyOk_str) (And.intro (@keyOk_int) (@slcV_list))) (And.intro (@slcV_sl) (And.intro (@slcV_nil) (@slcD_list))))) (And.intro (And.intro (And.intro (@slcD_sl) (And.intro (@slcD_nil) (@lenV_list))) (And.intro (@lenV_sl) (And.intro (@lenV_nil) (@fullV_list)))) (And.intro (And.intro (@fullV_nil) (And.intro (@fullD_list) (@fullD_nil))) (And.intro (@mpK_mp) (And.intro (@iterK_iter) (@lastK_snoc))))))))) :=
  (And.intro (And.intro (And.intro (And.intro (And.intro (And.intro (And.intro (@opsW_rd) (@opsW_rdg)) (And.intro (@opsW_eff) (And.intro (@opsW_effg) (@opsW_call)))) (And.intro (And.intro (@opsW_callg) (And.intro (@opsW_nil) (@put_some))) (And.intro (@put_none) (And.intro (@kill_none) (@List.map_cons Opd PV))))) (And.intro (And.intro (And.intro (@List.map_cons PV PV) (And.intro (@List.map_cons PV Bool) (@List.map_cons RVar PV))) (And.intro (@List.map_cons (Nat × PV) (Nat × PV)) (And.intro (@List.map_cons (Option MObj) (Option MObj)) (@List.map_nil Opd PV)))) (And.intro (And.intro (@List.map_nil PV PV) (And.intro (@List.map_nil PV Bool) (@List.map_nil RVar PV))) (And.intro (@List.map_nil (Nat × PV) (Nat × PV)) (And.intro (@List.map_nil (Option MObj) (Option MObj)) (@eval_tmp)))))) (And.intro (And.intro (And.intro (And.intro (@eval_pv) (And.intro (@get_cons) (@get_nil))) (And.intro (@keep_nil) (And.intro (@keep_cons) (@guardK_bool)))) (And.intro (And.intro (@true_and) (And.intro (@and_true) (@seqQ_normal))) (And.intro (@seqQ_ret) (And.intro (@seqQ_exit) (@blockQ_normal))))) (And.intro (And.intro (And.intro (@blockQ_ret) (And.intro (@blockQ_exit) (@loopQ_ret))) (And.intro (@loopQ_exit) (And.intro (@and_self) (@beq_true)))) (And.intro (And.intro (@not_true_eq_false) (And.intro (@not_false_eq_true) (@endV_ret))) (And.intro (@endV_normal) (And.intro (@beq_false) (@imp_self))))))) (And.intro (And.intro (And.intro (And.intro (And.intro (@true_implies) (@List.all_cons Bool)) (And.intro (@List.all_nil Bool) (And.intro (@Bool.and_self) (@Bool.true_and)))) (And.intro (And.intro (@Bool.and_true) (And.intro (@List.nil_append PV) (@List.nil_append (Option MObj)))) (And.intro (@List.append_nil PV) (And.intro (@List.append_nil (Option MObj)) (@List.cons_append PV))))) (And.intro (And.intro (And.intro (@List.cons_append (Option MObj)) (And.intro (@toNat_add2) (@toNat_add1))) (And.intro (@Int.toNat_natCast) (And.intro (@okAll_nil) (@okAll_cons)))) (And.intro (And.intro (@loopQ_normal) (And.intro (@cut_zero) (@mem_get0))) (And.intro (@mem_get1) (And.intro (@mem_get2) (@mem_get3)))))) (And.intro (And.intro (And.intro (And.intro (@u8sub48) (And.intro (@i64_u8) (@u8s_length))) (And.intro (@bnot_imp) (And.intro (@ite_or) (@ite_and)))) (And.intro (And.intro (@getC0) (And.intro (@getC1) (@getC2))) (And.intro (@getC3) (And.intro (@effK_eq) (@deadOk_none))))) (And.intro (And.intro (And.intro (@deadOk_some) (And.intro (@kill_some) (@effW_s2b))) (And.intro (@effW_b2s) (And.intro (@effW_alloc) (@effW_box)))) (And.intro (And.intro (@effW_litC) (And.intro (@effW_litO) (@effW_make))) (And.intro (@effW_app_nil) (And.intro (@effW_app_sl) (@effW_store_eptr)))))))) (And.intro (And.intro (And.intro (And.intro (And.intro (And.intro (@effW_store_ref) (@optK_some)) (And.intro (@rowK_row) (And.intro (@varK_var) (@elems_list)))) (And.intro (And.intro (@elems_nil) (And.intro (@putPart_same) (@partSh_int))) (And.intro (@partSh_bool) (And.intro (@partSh_str) (@fits_none))))) (And.intro (And.intro (And.intro (@fits_agg) (And.intro (@allFit_nil) (@allFit_cons))) (And.intro (@allm_cons) (And.intro (@allm_nil) (@sc_int)))) (And.intro (And.intro (@sc_bool) (And.intro (@sc_str) (@mem_kill_nil))) (And.intro (@mem_kill_cons) (And.intro (@mem_set0) (@mem_set1)))))) (And.intro (And.intro (And.intro (And.intro (@mem_set2) (And.intro (@Option.map_some MObj MObj) (@setAll0))) (And.intro (@setAll1) (And.intro (@setAll2) (@setAll3)))) (And.intro (And.intro (@setAll4) (And.intro (@setAll5) (@setAll6))) (And.intro (@setAll7) (And.intro (@setAll8) (@setAll9))))) (And.intro (And.intro (And.intro (@part_int) (And.intro (@part_bool) (@part_str))) (And.intro (@fillP_cons) (And.intro (@fillP_nil) (@fillOk_cons)))) (And.intro (And.intro (@fillOk_nil) (And.intro (@Option.getD_some (List PV)) (@Option.isSome_some (List PV)))) (And.intro (@true_or) (And.intro (@or_true) (@Bool.not_false))))))) (And.intro (And.intro (And.intro (And.intro (And.intro (@Bool.not_true) (@Bool.true_or)) (And.intro (@Bool.false_or) (And.intro (@Bool.or_true) (@Bool.or_false)))) (And.intro (And.intro (@false_implies) (And.intro (@Bool.false_eq_true) (@eqK_int))) (And.intro (@eqK_bool) (And.intro (@eqK_str) (@eqK_nil))))) (And.intro (And.intro (And.intro (@eqC_int) (And.intro (@eqC_bool) (@eqC_str))) (And.intro (@eqC_nil) (And.intro (@dec_true) (@dec_false)))) (And.intro (And.intro (@guardK_cond) (And.intro (@effW_mmk) (@effW_mupd))) (And.intro (@effW_ment) (And.intro (@effW_mst) (@effW_rng_nil)))))) (And.intro (And.intro (And.intro (And.intro (@effW_rng_cmap) (And.intro (@effW_nxt) (@effW_ent))) (And.intro (@effW_app_full) (And.intro (@lookV_t) (@lookV_f)))) (And.intro (And.intro (@keyOk_str) (And.intro (@keyOk_int) (@slcV_list))) (And.intro (@slcV_sl) (And.intro (@slcV_nil) (@slcD_list))))) (And.intro (And.intro (And.intro (@slcD_sl) (And.intro (@slcD_nil) (@lenV_list))) (And.intro (@lenV_sl) (And.intro (@lenV_nil) (@fullV_list)))) (And.intro (And.intro (@fullV_nil) (And.intro (@fullD_list) (@fullD_nil))) (And.intro (@mpK_mp) (And.intro (@iterK_iter) (@lastK_snoc)))))))))
end PG

