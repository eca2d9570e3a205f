/-
  The pure layer: regions of operations.
-/
import Derived.Test.YtdemgegpnlngeaaDoorPure10
import Derived.Tactics
import Derived.Deep.Quiet
namespace PG
open Go
set_option linter.unusedSimpArgs false
set_option linter.unusedVariables false

inductive POp where
  | rd (k : RK) (args : List Opd)
  | eff (k : EK) (args : List Opd)
  | call (f : Opd) (args : List Opd)
  deriving Inhabited
structure CO where
  dst : Option Nat
  guard : Option (Nat × Bool)
  op : POp
  deriving Inhabited

def compileG (ops : Array Oper) (o : Oper) : Option (Option (Nat × Bool)) :=
  match o.guard with
  | none => some none
  | some (j, want) => ((ops[j]?).bind (·.dst)).map fun r => some (r, want)

def compileP (P : Program) (ow : List Nat) (o : Oper) : Option POp :=
  match compileR P o.op with
  | some (k, xs) => (xs.mapM compileOpd).map (.rd k)
  | none => match compileE P ow o with
    | some (k, xs) => (xs.mapM compileOpd).map (.eff k)
    | none => match o.op with
      | .call c => match c.callee with
        | .value f => (compileOpd f).bind fun f' => (c.args.toList.mapM compileOpd).map (.call f')
        | _ => none
      | _ => none

def compileOp (P : Program) (N : Nat) (ow : List Nat) (ops : Array Oper) (o : Oper) : Option CO :=
  if (o.dst.map fun d => decide (d < N)).getD true = true then
    (compileG ops o).bind fun g => (compileP P ow o).map fun op => ⟨o.dst, g, op⟩
  else none

/-! ### Calls -/
/-- A function with a text of its own. -/
def Ent (P : Program) (f : Nat) : Prop := ∃ fn, P.funcs[f]? = some fn ∧ (fn.name == "runtime.NumGoroutine") = false ∧ fn.body.isNone = false

def callRes (P : Program) (G : Globs) (f : Nat) (as : List PV) (μ : Mem) (res : PV) : Prop :=
  Ent P f ∧ VCalls P G f (as.map (PV.view μ)) res ∧ (as.map (PV.seen μ)).all id = true ∧ (res.flat = true ∨ (as.map PV.noOwn).all id = true)

def callK (P : Program) (G : Globs) (q : Bool) (f : Nat) (as : List PV) (μ : Mem) (K : PV → Option Nat → Mem → Prop) : Prop :=
  (∃ res, callRes P G f as μ res ∧ (q = true → res.flat = true) ∧ K res none μ) ∨
  (q = false ∧ Ent P f ∧ ((∃ R, PCalls P G f as μ (fun _ => false) R ∧ ∀ p μ', R p μ' → K p none μ') ∨ (∃ t R, PCalls P G f as μ (killTag t) R ∧ ∀ p μ', R p μ' → K p (some t) μ')))

/-! ### Steps -/
def putE (env : Env) (d : Option Nat) (p : PV) : Env :=
  match d with
  | some d => (d, p) :: env
  | none => env
def killE (env : Env) (t : Option Nat) : Env :=
  match t with
  | some t => env.map fun x => (x.1, x.2.kill (killTag t))
  | none => env
def okAll : List PV → Prop
  | [] => True
  | p :: ps => p.okUnder true ∧ okAll ps

def calleeK (P : Program) (G : Globs) (q : Bool) (f : PV) (args : List PV) (μ : Mem) (K : PV → Option Nat → Mem → Prop) : Prop :=
  match f with
  | .fn f first caps => callK P G q f (first ++ args ++ caps) μ K
  | _ => False
def calleeR (P : Program) (G : Globs) (f : PV) (args : List PV) (μ : Mem) (res : PV) : Prop :=
  match f with
  | .fn f first caps => callRes P G f (first ++ args ++ caps) μ res
  | _ => False

def deadOk (mv : Nat → Bool) : Option Nat → Prop
  | none => True
  | some t => mv t = true

/-- What a guarded operation reads: of a choice, the test alone must be there. -/
def gArgs : RK → List PV → List PV
  | .pick, [c, x, y] => [c.under true, x, y]
  | _, ps => ps.map (PV.under true)
def gOk : RK → List PV → Prop
  | .pick, [c, _, _] => c.okUnder true
  | _, ps => okAll ps

def stepG (P : Program) (G : Globs) (q : Bool) (mv : Nat → Bool) (o : CO) (b want : Bool) (env : Env) (μ : Mem) (K : Env → Mem → Prop) : Prop :=
  match o.op with
  | .rd k args => (b = want → gOk k (args.map (evalO G env)) ∧ rdD μ k (gArgs k (args.map (evalO G env)))) ∧ K (putE env o.dst (.cond (b == want) (rdV μ k (gArgs k (args.map (evalO G env)))))) μ
  | .eff k args => q = false ∧ (b = want → okAll (args.map (evalO G env)) ∧ effW μ k ((args.map (evalO G env)).map (PV.under true)) fun p dead μ' => deadOk mv dead ∧ K (putE (killE env dead) o.dst p) μ') ∧ (b ≠ want → K (putE env o.dst .junk) μ)
  | .call f args => ∃ res, (b = want → (evalO G env f).okUnder true ∧ okAll (args.map (evalO G env)) ∧ calleeR P G ((evalO G env f).under true) ((args.map (evalO G env)).map (PV.under true)) μ res ∧ (q = true → res.flat = true)) ∧
      K (putE env o.dst (.cond (b == want) res)) μ

/-- Whether the operation behind a guard is carried out: as if the guard were this. -/
def gEff (want : Bool) : PV → Option Bool
  | .bool b => some b
  | .cond c (.bool b) => some (if c = true then b else !want)
  | _ => none

def stepW (P : Program) (G : Globs) (q : Bool) (mv : Nat → Bool) (o : CO) (env : Env) (μ : Mem) (K : Env → Mem → Prop) : Prop :=
  match o.guard with
  | none => match o.op with
    | .rd k args => rdD μ k (args.map (evalO G env)) ∧ K (putE env o.dst (rdV μ k (args.map (evalO G env)))) μ
    | .eff k args => q = false ∧ effW μ k (args.map (evalO G env)) fun p dead μ' => deadOk mv dead ∧ K (putE (killE env dead) o.dst p) μ'
    | .call f args => calleeK P G q (evalO G env f) (args.map (evalO G env)) μ fun p dead μ' => deadOk mv dead ∧ K (putE (killE env dead) o.dst p) μ'
  | some (r, want) => match gEff want (env.get r) with
    | some b => stepG P G q mv o b want env μ K
    | none => False

def opsW (P : Program) (G : Globs) (q : Bool) (mv : Nat → Bool) : List CO → Env → Mem → (Env → Mem → Prop) → Prop
  | [], env, μ, K => K env μ
  | o :: rest, env, μ, K => stepW P G q mv o env μ fun env' μ' => opsW P G q mv rest env' μ' K

/-! ### What holds of a frame and a world -/
structure Ctx where
  w0 : World
  κ0 : Kap
  mv : Nat → Bool

structure SR (G : Globs) (N : Nat) (C : Ctx) (a : Act) (w : World) (κ : Kap) (env : Env) (μ : Mem) : Prop where
  size : a.tmps.size = N
  defers : a.defers = []
  regs : Regs w (own κ) κ a env
  sim : Sim w κ μ
  globs : GlobsIn w (own κ) G
  goes : Goes C.w0 C.κ0 w κ (fun t => C.mv t = true)

section
variable {P : Program} {G : Globs} {N : Nat} {C : Ctx} {a : Act} {w : World} {κ : Kap} {env : Env} {μ : Mem}

theorem put_size (a : Act) (d : Option Nat) (v : Value) : (a.put d v).tmps.size = a.tmps.size := by cases d <;> simp [Act.put]
theorem put_defers (a : Act) (d : Option Nat) (v : Value) : (a.put d v).defers = a.defers := by cases d <;> rfl

theorem regs_put {ex : Nat → Prop} (h : Regs w ex κ a env) {v : Value} {p : PV} (hv : Rep w ex κ v p) {d : Option Nat} (hd : ∀ i, d = some i → i < a.tmps.size) : Regs w ex κ (a.put d v) (putE env d p) := by
  intro t
  cases d with
  | none => exact h t
  | some d =>
    simp only [Act.put, putE, Env.get]
    have hd' := hd d rfl
    by_cases e : d = t
    · subst e
      simp [Array.getD_eq_getD_getElem?, hd', hv]
    · rw [if_neg e, Array.getD_eq_getD_getElem?, Array.getElem?_setIfInBounds, if_neg e, ← Array.getD_eq_getD_getElem?]
      exact h t

theorem regs_kill {w' : World} {κ' : Kap} {t : Nat} (h : Regs w (own κ) κ a env) (hG : Goes w κ w' κ' fun i => some t = some i) : Regs w' (own κ') κ' a (killE env (some t)) := by
  intro i
  have : ∀ (env : Env) (v : Value), Rep w (own κ) κ v (env.get i) → Rep w' (own κ') κ' v (Env.get (killE env (some t)) i) := by
    intro env v
    induction env with
    | nil => intro _; exact .junk v
    | cons x e ih =>
      obtain ⟨j, p⟩ := x
      simp only [Env.get, killE, List.map_cons]
      split
      · intro h; exact h.goes hG (fun k hk => by simp at hk; subst hk; simp [killTag])
      · exact ih
  exact this env _ (h i)

theorem regs_still {w' : World} {κ' : Kap} (h : Regs w (own κ) κ a env) (hG : Goes w κ w' κ' fun _ => False) : Regs w' (own κ') κ' a env := fun i => (h i).still hG

theorem globs_goes {w' : World} {κ' : Kap} {m : Nat → Prop} (h : GlobsIn w (own κ) G) (hG : Goes w κ w' κ' m) : GlobsIn w' (own κ') G := fun g sh x hg => (h g sh x hg).mono hG.agree

theorem known_of {ex : List Operand} {xs' : List Opd} (hR : Regs w (own κ) κ a env) (hG : GlobsIn w (own κ) G) (h : ex.mapM compileOpd = some xs') : Known w κ a.eval ex (xs'.map (evalO G env)) := by
  have hm := mapM_get h
  have hl : ex.length = xs'.length := by simpa using congrArg List.length hm
  refine ⟨by simpa using hl, fun i x p hx hp => ?_⟩
  rw [List.getElem?_map] at hp
  cases hq : xs'[i]? with
  | none => simp [hq] at hp
  | some o' =>
    simp [hq] at hp; subst hp
    have h3 : (xs'.map some)[i]? = some (some o') := by simp [hq]
    rw [← hm, List.getElem?_map, hx] at h3
    simp at h3
    exact evalO_rep hR hG h3

theorem known_under {ρ : Operand → Value} {ex : List Operand} {ps : List PV} (h : Known w κ ρ ex ps) (hok : okAll ps) : Known w κ ρ ex (ps.map (PV.under true)) := by
  refine ⟨by simpa using h.1, fun i x p hx hp => ?_⟩
  rw [List.getElem?_map] at hp
  cases hq : ps[i]? with
  | none => simp [hq] at hp
  | some q =>
    simp [hq] at hp; subst hp
    have hqo : q.okUnder true := by
      have : ∀ (ps : List PV), okAll ps → ∀ q ∈ ps, q.okUnder true := by
        intro ps
        induction ps with
        | nil => intro _ q h; cases h
        | cons p ps ih => intro h q hq; rcases List.mem_cons.1 hq with e | e
                          · rw [e]; exact h.1
                          · exact ih h.2 q e
      exact this ps hok q (List.mem_of_getElem? hq)
    exact rep_under (h.2 i x q hx hq) hqo rfl

theorem guard_wanted {ops : Array Oper} {o : Oper} {r : Nat} {want b : Bool} (hg : compileG ops o = some (some (r, want))) (hr : Rep w (own κ) κ (a.tmps.getD r undef) (.bool b)) :
    Region.wanted o (yielded ops a.tmps) = (b == want) := by
  unfold compileG at hg
  split at hg
  · cases hg
  · rename_i j want' ho
    simp only [Option.map_eq_some_iff] at hg
    obtain ⟨r', hr', hg⟩ := hg
    simp at hg
    obtain ⟨rfl, rfl⟩ := hg
    have hv := repC_bool hr
    have hlt : r' < a.tmps.size := by
      rcases Nat.lt_or_ge r' a.tmps.size with h | h
      · exact h
      · rw [Array.getD_eq_getD_getElem?, Array.getElem?_eq_none h] at hv; cases hv
    have hget : a.tmps[r']? = some (.bool b) := by
      rw [Array.getElem?_eq_getElem hlt]
      rw [Array.getD_eq_getD_getElem?, Array.getElem?_eq_getElem hlt] at hv
      simpa using hv
    have hy : yielded ops a.tmps j = some b := by
      unfold yielded
      rw [hr']; simp [hget]
    simp only [Region.wanted, ho, hy]
    cases b <;> cases want' <;> rfl

theorem known_g {ρ : Operand → Value} {ex : List Operand} {ps : List PV} {k : RK} (h : Known w κ ρ ex ps) (hok : gOk k ps) : Known w κ ρ ex (gArgs k ps) := by
  unfold gOk at hok
  unfold gArgs
  split at hok
  · rename_i c x y
    refine ⟨h.1, fun i e p he hp => ?_⟩
    match i, hp with
    | 0, hp =>
      simp at hp; subst hp
      exact rep_under (h.2 0 e c he rfl) hok rfl
    | 1, hp => exact h.2 1 e p he hp
    | 2, hp => exact h.2 2 e p he hp
  · exact known_under h hok
theorem rep_cond_true {ex : Nat → Prop} {v : Value} {p : PV} (h : Rep w ex κ v (.cond true p)) : Rep w ex κ v p := by
  cases h with
  | closed h => cases h
  | cond _ h _ => exact h rfl
theorem rep_cond_false {ex : Nat → Prop} {v : Value} {p : PV} (h : Rep w ex κ v (.cond false p)) : v = undef := by
  cases h with
  | closed h => cases h
  | cond _ _ h => exact h rfl
theorem guard_wanted' {ops : Array Oper} {o : Oper} {r : Nat} {want b : Bool} {p : PV} (hg : compileG ops o = some (some (r, want))) (hr : Rep w (own κ) κ (a.tmps.getD r undef) p) (hb : gEff want p = some b) :
    Region.wanted o (yielded ops a.tmps) = (b == want) := by
  unfold gEff at hb
  split at hb
  · cases hb; exact guard_wanted hg hr
  · rename_i c b'
    simp only [Option.some.injEq] at hb
    cases c with
    | true =>
      rw [if_pos rfl] at hb; subst hb
      exact guard_wanted hg (rep_cond_true hr)
    | false =>
      rw [if_neg (by simp)] at hb; subst hb
      have hu : a.tmps.getD r undef = undef := rep_cond_false hr
      unfold compileG at hg
      split at hg
      · cases hg
      · rename_i j want' ho
        simp only [Option.map_eq_some_iff] at hg
        obtain ⟨r', hr', hg⟩ := hg
        simp at hg
        obtain ⟨rfl, rfl⟩ := hg
        have hy : yielded ops a.tmps j = none := by
          unfold yielded
          rw [hr']
          simp only [Option.bind_some]
          rcases Nat.lt_or_ge r' a.tmps.size with h | h
          · rw [Array.getD_eq_getD_getElem?, Array.getElem?_eq_getElem h] at hu
            simp only [Option.getD_some] at hu
            rw [Array.getElem?_eq_getElem h, hu]; rfl
          · rw [Array.getElem?_eq_none h]
        simp only [Region.wanted, ho, hy]
        cases want' <;> rfl
  · cases hb

theorem unguarded_wanted {ops : Array Oper} {o : Oper} (hg : compileG ops o = some none) : Region.wanted o (yielded ops a.tmps) = true := by
  unfold compileG at hg
  split at hg
  · rename_i ho
    simp [Region.wanted, ho]
  · simp only [Option.map_eq_some_iff] at hg
    obtain ⟨r', hr', hg⟩ := hg
    simp at hg

theorem SR.put (h : SR G N C a w κ env μ) {w' : World} {κ' : Kap} {μ' : Mem} {v : Value} {p : PV} {dead : Option Nat} {d : Option Nat} (hd : ∀ i, d = some i → i < N) (hS : Sim w' κ' μ') (hG : Goes w κ w' κ' fun t => dead = some t) (hm : deadOk C.mv dead)
    (hv : Rep w' (own κ') κ' v p) : SR G N C (a.put d v) w' κ' (putE (killE env dead) d p) μ' := by
  have hd' : ∀ i, d = some i → i < a.tmps.size := fun i hi => by rw [h.size]; exact hd i hi
  refine ⟨by rw [put_size]; exact h.size, by rw [put_defers]; exact h.defers, ?_, hS, globs_goes h.globs hG, ?_⟩
  · cases dead with
    | none => exact regs_put (regs_still h.regs (hG.weak fun t ht => by cases ht)) hv hd'
    | some t => exact regs_put (regs_kill h.regs hG) hv hd'
  · have h1 := h.goes
    refine ⟨hG.os.trans h1.os, hG.tape.trans h1.tape, hG.output.trans h1.output, Nat.le_trans h1.size hG.size, hG.ex.trans h1.ex,
      fun b hb ho => (hG.block b (Nat.lt_of_lt_of_le hb h1.size) (h1.out b hb ho)).trans (h1.block b hb ho), fun b hb ho => hG.out b (Nat.lt_of_lt_of_le hb h1.size) (h1.out b hb ho),
      fun b s hs => hG.shape b s (h1.shape b s hs), fun t c hc hn => hG.tags t c (h1.tags t c hc hn) (fun hdd => ?_)⟩
    subst hdd
    exact hn hm


theorem compileOp_dst {ow : List Nat} {ops : Array Oper} {o : Oper} {c : CO} (h : compileOp P N ow ops o = some c) : c.dst = o.dst ∧ (∀ i, o.dst = some i → i < N) ∧ compileG ops o = some c.guard ∧ compileP P ow o = some c.op := by
  unfold compileOp at h
  split at h
  · rename_i hd
    simp only [Option.bind_eq_some_iff, Option.map_eq_some_iff] at h
    obtain ⟨g, hg, op, hop, rfl⟩ := h
    refine ⟨rfl, fun i hi => ?_, hg, hop⟩
    rw [hi] at hd; simpa using hd
  · cases h

theorem compileP_rd {ow : List Nat} {o : Oper} {k : RK} {xs : List Opd} (h : compileP P ow o = some (.rd k xs)) : ∃ ys, compileR P o.op = some (k, ys) ∧ ys.mapM compileOpd = some xs := by
  unfold compileP at h
  split at h
  · rename_i k' ys hy
    simp only [Option.map_eq_some_iff] at h
    obtain ⟨zs, hz, h⟩ := h
    cases h; exact ⟨ys, hy, hz⟩
  · split at h
    · simp only [Option.map_eq_some_iff] at h
      obtain ⟨zs, hz, h⟩ := h
      cases h
    · split at h
      · split at h
        · simp only [Option.bind_eq_some_iff, Option.map_eq_some_iff] at h
          obtain ⟨f', hf, zs, hz, h⟩ := h
          cases h
        · cases h
      · cases h

theorem compileP_eff {ow : List Nat} {o : Oper} {k : EK} {xs : List Opd} (h : compileP P ow o = some (.eff k xs)) : ∃ ys, compileE P ow o = some (k, ys) ∧ ys.mapM compileOpd = some xs := by
  unfold compileP at h
  split at h
  · simp only [Option.map_eq_some_iff] at h
    obtain ⟨zs, hz, h⟩ := h
    cases h
  · split at h
    · rename_i k' ys hy
      simp only [Option.map_eq_some_iff] at h
      obtain ⟨zs, hz, h⟩ := h
      cases h; exact ⟨ys, hy, hz⟩
    · split at h
      · split at h
        · simp only [Option.bind_eq_some_iff, Option.map_eq_some_iff] at h
          obtain ⟨f', hf, zs, hz, h⟩ := h
          cases h
        · cases h
      · cases h

theorem compileP_call {ow : List Nat} {o : Oper} {f : Opd} {xs : List Opd} (h : compileP P ow o = some (.call f xs)) :
    ∃ c f0, o.op = .call c ∧ c.callee = .value f0 ∧ compileOpd f0 = some f ∧ c.args.toList.mapM compileOpd = some xs := by
  unfold compileP at h
  split at h
  · simp only [Option.map_eq_some_iff] at h
    obtain ⟨zs, hz, h⟩ := h
    cases h
  · split at h
    · simp only [Option.map_eq_some_iff] at h
      obtain ⟨zs, hz, h⟩ := h
      cases h
    · split at h
      · rename_i c ho
        split at h
        · rename_i f0 hf0
          simp only [Option.bind_eq_some_iff, Option.map_eq_some_iff] at h
          obtain ⟨f', hf, zs, hz, h⟩ := h
          cases h; exact ⟨c, f0, ho, hf0, hf, hz⟩
        · cases h
      · cases h

theorem rep_fn {v : Value} {f : Nat} {ps qs : List PV} (h : Rep w (own κ) κ v (.fn f ps qs)) :
    ∃ first caps, v = .func (.func f) first caps ∧ first.size = ps.length ∧ caps.size = qs.length ∧ (∀ (i : Nat) (v : Value) (p : PV), first[i]? = some v → ps[i]? = some p → Rep w (own κ) κ v p) ∧
      ∀ (i : Nat) (v : Value) (p : PV), caps[i]? = some v → qs[i]? = some p → Rep w (own κ) κ v p := by
  cases h with
  | fn _ first caps _ _ h1 h2 h3 h4 => exact ⟨first, caps, rfl, h1, h2, h3, h4⟩
  | closed h => cases h with | fn _ first caps _ _ h1 h2 h3 h4 => exact ⟨first, caps, rfl, h1, h2, fun i v p a b => .closed (h3 i v p a b), fun i v p a b => .closed (h4 i v p a b)⟩

theorem reps_append {vs us : Array Value} {ps qs : List PV} (h1 : Reps w κ vs ps) (h2 : Reps w κ us qs) : Reps w κ (vs ++ us) (ps ++ qs) := by
  refine ⟨by simp [h1.1, h2.1], fun i v p hv hp => ?_⟩
  rcases Nat.lt_or_ge i vs.size with hi | hi
  · rw [Array.getElem?_append_left hi] at hv
    rw [List.getElem?_append_left (by rw [← h1.1]; exact hi)] at hp
    exact h1.2 i v p hv hp
  · rw [Array.getElem?_append_right hi] at hv
    rw [List.getElem?_append_right (by rw [← h1.1]; exact hi), ← h1.1] at hp
    exact h2.2 _ v p hv hp

/-- The run of a call: the callee is entered. -/
theorem call_run {o : Oper} {c : Call} {f0 : Operand} (ho : o.op = .call c) (hf0 : c.callee = .value f0) {f : Nat} {ps qs as : List PV} (hf : Rep w (own κ) κ (a.eval f0) (.fn f ps qs))
    (hk : Known w κ a.eval c.args.toList as) (he : Ent P f) : ∃ vs, Reps w κ vs (ps ++ as ++ qs) ∧ ∀ w', (execOp a.eval o).run P w' = .ok (.enter f vs) w' := by
  obtain ⟨first, caps, hv, h1, h2, h3, h4⟩ := rep_fn hf
  obtain ⟨fn, hfn, hn1, hn2⟩ := he
  refine ⟨first ++ c.args.map a.eval ++ caps, ?_, fun w' => ?_⟩
  · refine reps_append (reps_append ⟨h1, h3⟩ ⟨by simpa using hk.1, fun i v p hv hp => ?_⟩) ⟨h2, h4⟩
    rw [Array.getElem?_map] at hv
    cases hx : c.args[i]? with
    | none => simp [hx] at hv
    | some x => simp [hx] at hv; subst hv; exact hk.2 i x p (by simpa using hx) hp
  · simp only [execOp, ho, resolve, hf0, hv, Deferred.ofValue, invoke, callFunc, Sem.run_bind, Sem.run_pure, run_program, Result.andThen_ok, hfn, hn1, hn2, Bool.false_eq_true, if_false]

theorem view_closed {ex : Nat → Prop} {v : Value} {p : PV} (h : RepC w ex v p) : p.seen μ = true → RepC w ex v (p.view μ) := by
  have map_get : ∀ (ps : List PV) (i : Nat) (p : PV), (ps.map (PV.view μ))[i]? = some p → ∃ q, ps[i]? = some q ∧ p = q.view μ := by
    intro ps i p h
    rw [List.getElem?_map] at h
    cases hq : ps[i]? with
    | none => simp [hq] at h
    | some q => simp [hq] at h; exact ⟨q, rfl, h.symm⟩
  induction h with
  | fn f first caps ps qs h1 h2 h3 h4 ih3 ih4 =>
    intro hp
    simp only [PV.seen, Bool.and_eq_true, allMap] at hp
    simp only [PV.view]
    refine .fn f first caps _ _ (by simpa using h1) (by simpa using h2) (fun i v p a b => ?_) (fun i v p a b => ?_)
    · obtain ⟨q, hq, rfl⟩ := map_get ps i p b
      exact ih3 i v q a hq (hp.1 q (List.mem_of_getElem? hq))
    · obtain ⟨q, hq, rfl⟩ := map_get qs i p b
      exact ih4 i v q a hq (hp.2 q (List.mem_of_getElem? hq))
  | agg vs ps hs hr ih =>
    intro hp
    simp only [PV.seen, allMap] at hp
    simp only [PV.view]
    refine .agg vs _ (by simpa using hs) (fun i v p a b => ?_)
    obtain ⟨q, hq, rfl⟩ := map_get ps i p b
    exact ih i v q a hq (hp q (List.mem_of_getElem? hq))
  | tup vs ps hs hr ih =>
    intro hp
    simp only [PV.seen, allMap] at hp
    simp only [PV.view]
    refine .tup vs _ (by simpa using hs) (fun i v p a b => ?_)
    obtain ⟨q, hq, rfl⟩ := map_get ps i p b
    exact ih i v q a hq (hp q (List.mem_of_getElem? hq))
  | int k n => intro _; simp only [PV.view]; exact .int k n
  | bool b => intro _; simp only [PV.view]; exact .bool b
  | str s => intro _; simp only [PV.view]; exact .str s
  | nilFn => intro _; simp only [PV.view]; exact .nilFn
  | nilPtr => intro _; simp only [PV.view]; exact .nilPtr
  | nilSl => intro _; simp only [PV.view]; exact .nilSl
  | nilMap => intro _; simp only [PV.view]; exact .nilMap
  | list a len cap sh xs b off val h1 h2 h3 h4 h5 h6 h7 _ => intro _; simp only [PV.view]; exact RepC.list a len cap sh xs b off val h1 h2 h3 h4 h5 h6 h7
  | full a len sh xs b off val h1 h3 h4 h5 h6 h7 _ => intro _; simp only [PV.view]; exact RepC.full a len sh xs b off val h1 h3 h4 h5 h6 h7
  | cmap r kd es ents clock h1 h2 h3 h4 h4' h5 h6 _ _ => intro _; simp only [PV.view]; exact RepC.cmap r kd es ents clock h1 h2 h3 h4 h4' h5 h6
  | cptr b o off sh x val h1 h2 h3 h4 _ => intro _; simp only [PV.view]; exact RepC.cptr b o off sh x val h1 h2 h3 h4

/-- What a call by value leaves. -/
theorem callRes_run (hS : Sim w κ μ) (hG : GlobsIn w (own κ) G) {f : Nat} {as : List PV} {res : PV} (h : callRes P G f as μ res) {vs : Array Value} (hv : Reps w κ vs as) :
    Calls P f vs w fun e w' => ∃ v, e = .returned v ∧ RowKit.Below w.heap.size w w' ∧ RepC w' (own κ) v res := by
  obtain ⟨-, h2, h3, h4⟩ := h
  rw [allMap] at h3
  have hget : ∀ (i : Nat) (p : PV), (as.map (PV.view μ))[i]? = some p → ∃ q, as[i]? = some q ∧ p = q.view μ := by
    intro i p h
    rw [List.getElem?_map] at h
    cases hq : as[i]? with
    | none => simp [hq] at h
    | some q => simp [hq] at h; exact ⟨q, rfl, h.symm⟩
  rcases h4 with h4 | h4
  · refine (h2 w κ.ex vs hS.exlt (fun g sh x hg => (hG g sh x hg).mono ⟨fun _ _ _ => rfl, fun b _ h h' => h (.inl h')⟩) ⟨by simpa using hv.1, fun i v p a b => ?_⟩).mono ?_
    · obtain ⟨q, hq, rfl⟩ := hget i p b
      exact rep_view hS (hv.2 i v q a hq) (h3 q (List.mem_of_getElem? hq))
    · rintro e w' ⟨v, he, hB, hr⟩
      exact ⟨v, he, hB, repC_flat hr h4⟩
  · rw [allMap] at h4
    refine (h2 w (own κ) vs (fun b hb => ?_) hG ⟨by simpa using hv.1, fun i v p a b => ?_⟩)
    · rcases hb with hb | ⟨t, hb⟩
      · exact hS.exlt b hb
      · exact hS.lt t b hb
    · obtain ⟨q, hq, rfl⟩ := hget i p b
      have hm := List.mem_of_getElem? hq
      exact view_closed (rep_noOwn (hv.2 i v q a hq) (h4 q hm)) (h3 q hm)


theorem execOp_mono {ops : Array Oper} {Q : Exit → Act → World → Prop} {rest : List Oper} {o : Oper} {v : Value} {w' : World} (hw : Region.wanted o (yielded ops a.tmps) = true)
    (hrun : (execOp a.eval o).run P w = .ok (.value v) w' ∨ ((execOp a.eval o).run P w = .ok .skip w' ∧ v = undef)) (h : wpList P ops Q rest (a.put o.dst v) w') : wpList P ops Q (o :: rest) a w := by
  simp only [wpList, hw, if_true]
  refine .inl ?_
  unfold Oper.wp
  rcases hrun with hrun | ⟨hrun, rfl⟩
  · rw [hrun]; exact h
  · rw [hrun]; exact h

theorem execOp_call {ops : Array Oper} {Q : Exit → Act → World → Prop} {rest : List Oper} {o : Oper} {f : Nat} {vs : Array Value} (hw : Region.wanted o (yielded ops a.tmps) = true)
    (hrun : (execOp a.eval o).run P w = .ok (.enter f vs) w) (h : Calls P f vs w fun e w' => ∃ v, e = .returned v ∧ wpList P ops Q rest (a.put o.dst v) w') : wpList P ops Q (o :: rest) a w := by
  simp only [wpList, hw, if_true]
  refine .inl ?_
  unfold Oper.wp
  rw [hrun]
  exact h.mono fun e w' ⟨v, he, hp⟩ => by subst he; exact hp

theorem skip_op {ops : Array Oper} {Q : Exit → Act → World → Prop} {rest : List Oper} {o : Oper} (hw : Region.wanted o (yielded ops a.tmps) = false)
    (h : wpList P ops Q rest (a.put o.dst undef) w) : wpList P ops Q (o :: rest) a w := by
  simp only [wpList, hw, Bool.false_eq_true, if_false]
  exact h

/-- The operations of a region, one by one. -/
theorem opsW_sound {ow : List Nat} {ops : Array Oper} {Q : Exit → Act → World → Prop} : ∀ {l : List Oper} {cs : List CO} {a : Act} {w : World} {κ : Kap} {env : Env} {μ : Mem} {K : Env → Mem → Prop}, l.mapM (compileOp P N ow ops) = some cs →
    opsW P G false C.mv cs env μ K → SR G N C a w κ env μ → (∀ env' μ' a' w' κ', K env' μ' → SR G N C a' w' κ' env' μ' → Q .normal a' w') → wpList P ops Q l a w
  | [], cs, a, w, κ, env, μ, K, hm, h, hR, hK => by
    simp at hm; subst hm
    exact hK _ _ _ _ _ h hR
  | o :: l, cs, a, w, κ, env, μ, K, hm, h, hR, hK => by
    simp only [List.mapM_cons, Option.bind_eq_bind, Option.bind_eq_some_iff] at hm
    obtain ⟨c, hc, cs', hcs, hm⟩ := hm
    simp at hm; subst hm
    obtain ⟨hdst, hd, hg, hop⟩ := compileOp_dst hc
    have next : ∀ {env' : Env} {μ' : Mem} {a' : Act} {w' : World} {κ' : Kap}, opsW P G false C.mv cs' env' μ' K → SR G N C a' w' κ' env' μ' → wpList P ops Q l a' w' := fun h' hR' => opsW_sound hcs h' hR' hK
    obtain ⟨cd, cg, cop⟩ := c
    simp only at hdst hg hop
    subst hdst
    simp only [opsW, stepW] at h
    cases cg with
    | none =>
      have hw := unguarded_wanted (a := a) hg
      simp only at h
      cases cop with
      | rd k args =>
        simp only at h
        obtain ⟨h1, h2⟩ := h
        obtain ⟨ys, hcr, hys⟩ := compileP_rd hop
        obtain ⟨v, hv, hrun⟩ := rd_sound hR.sim hcr (known_of hR.regs hR.globs hys) h1
        refine execOp_mono hw (.inl (hrun w (Same.refl w))) (next (κ' := κ) h2 ?_)
        exact hR.put (dead := none) hd hR.sim (Goes.refl _ _ _) trivial hv
      | eff k args =>
        simp only [true_and] at h
        obtain ⟨ys, hce, hys⟩ := compileP_eff hop
        obtain ⟨v, p, dead, μ', w', κ', hrun, ⟨hdk, hK'⟩, hS', hG', hv⟩ := eff_sound hR.sim hce (known_of hR.regs hR.globs hys) h
        exact execOp_mono hw hrun (next hK' (hR.put hd hS' hG' hdk hv))
      | call f args =>
        simp only at h
        obtain ⟨cl, f0, ho, hf0, hf, hys⟩ := compileP_call hop
        have hfr := evalO_rep hR.regs hR.globs hf
        have hkn := known_of hR.regs hR.globs hys
        unfold calleeK at h
        split at h
        · rename_i g first caps hfe
          rw [hfe] at hfr
          rcases h with ⟨res, hres, -, -, hK'⟩ | ⟨-, hent, h⟩
          · obtain ⟨vs, hvs, hrun⟩ := call_run ho hf0 hfr hkn hres.1
            refine execOp_call hw (hrun w) ((callRes_run hR.sim hR.globs hres hvs).mono ?_)
            rintro e w' ⟨v, rfl, hB, hr⟩
            exact ⟨v, rfl, next hK' (hR.put (dead := none) hd (hR.sim.below hB) (Goes.below hB _) trivial (.closed (hr.mono ⟨fun _ _ _ => rfl, fun _ _ h => h⟩)))⟩
          · obtain ⟨vs, hvs, hrun⟩ := call_run ho hf0 hfr hkn hent
            rcases h with ⟨R, hp, hRK⟩ | ⟨t, R, hp, hRK⟩
            · refine execOp_call hw (hrun w) ((hp w κ vs hR.sim hR.globs hvs).mono ?_)
              rintro e w' ⟨v, p, μ', κ', rfl, hRp, hS', hv, hG'⟩
              exact ⟨v, rfl, next (hRK p μ' hRp).2 (hR.put (dead := none) hd hS' (hG'.weak fun t ht => by cases ht) trivial hv)⟩
            · refine execOp_call hw (hrun w) ((hp w κ vs hR.sim hR.globs hvs).mono ?_)
              rintro e w' ⟨v, p, μ', κ', rfl, hRp, hS', hv, hG'⟩
              exact ⟨v, rfl, next (hRK p μ' hRp).2 (hR.put (dead := some t) hd hS' (hG'.weak fun i hi => by simp [killTag] at hi; rw [hi]) (hRK p μ' hRp).1 hv)⟩
        · exact h.elim
    | some gw =>
      obtain ⟨r, want⟩ := gw
      simp only at h
      split at h
      · rename_i b hb
        have hw := guard_wanted' hg (hR.regs r) hb
        unfold stepG at h
        cases cop with
        | rd k args =>
          simp only at h
          obtain ⟨h1, h2⟩ := h
          obtain ⟨ys, hcr, hys⟩ := compileP_rd hop
          by_cases hbw : b = want
          · obtain ⟨h3, h4⟩ := h1 hbw
            obtain ⟨v, hv, hrun⟩ := rd_sound hR.sim hcr (known_g (known_of hR.regs hR.globs hys) h3) h4
            refine execOp_mono (by rw [hw, hbw]; simp) (.inl (hrun w (Same.refl w))) (next (κ' := κ) h2 ?_)
            exact hR.put (dead := none) hd hR.sim (Goes.refl _ _ _) trivial (.cond _ (fun _ => hv) (fun hh => by rw [hbw] at hh; simp at hh))
          · refine skip_op (by rw [hw]; simpa using hbw) (next (κ' := κ) h2 ?_)
            exact hR.put (dead := none) hd hR.sim (Goes.refl _ _ _) trivial (.cond _ (fun hh => absurd (by simpa using hh) hbw) (fun _ => rfl))
        | eff k args =>
          simp only [true_and] at h
          obtain ⟨h1, h2⟩ := h
          obtain ⟨ys, hce, hys⟩ := compileP_eff hop
          by_cases hbw : b = want
          · obtain ⟨h3, h4⟩ := h1 hbw
            obtain ⟨v, p, dead, μ', w', κ', hrun, ⟨hdk, hK'⟩, hS', hG', hv⟩ := eff_sound hR.sim hce (known_under (known_of hR.regs hR.globs hys) h3) h4
            exact execOp_mono (by rw [hw, hbw]; simp) hrun (next hK' (hR.put hd hS' hG' hdk hv))
          · refine skip_op (by rw [hw]; simpa using hbw) (next (κ' := κ) (h2 hbw) ?_)
            exact hR.put (dead := none) hd hR.sim (Goes.refl _ _ _) trivial (.junk _)
        | call f args =>
          simp only at h
          obtain ⟨res, h1, h2⟩ := h
          obtain ⟨cl, f0, ho, hf0, hf, hys⟩ := compileP_call hop
          by_cases hbw : b = want
          · obtain ⟨h3, h4, h5, -⟩ := h1 hbw
            have hfr := rep_under (evalO_rep hR.regs hR.globs hf) h3 rfl
            have hkn := known_under (known_of hR.regs hR.globs hys) h4
            unfold calleeR at h5
            split at h5
            · rename_i g first caps hfe
              rw [hfe] at hfr
              obtain ⟨vs, hvs, hrun⟩ := call_run ho hf0 hfr hkn h5.1
              refine execOp_call (by rw [hw, hbw]; simp) (hrun w) ((callRes_run hR.sim hR.globs h5 hvs).mono ?_)
              rintro e w' ⟨v, rfl, hB, hr⟩
              exact ⟨v, rfl, next h2 (hR.put (dead := none) hd (hR.sim.below hB) (Goes.below hB _) trivial (.cond _ (fun _ => .closed hr) (fun hh => by rw [hbw] at hh; simp at hh)))⟩
            · exact h5.elim
          · refine skip_op (by rw [hw]; simpa using hbw) (next (κ' := κ) h2 ?_)
            exact hR.put (dead := none) hd hR.sim (Goes.refl _ _ _) trivial (.cond _ (fun hh => absurd (by simpa using hh) hbw) (fun _ => rfl))
      · exact h.elim

end
end PG
