/-
  The pure layer: code, and functions.
-/
import Derived.Test.YtdemgegpnlngeaaDoorPure11
import Derived.Deep.LoopGhost
import Derived.OrdersHeld
namespace PG
open Go
set_option linter.unusedSimpArgs false
set_option linter.unusedVariables false
section
variable {P : Program} {G : Globs} {N : Nat} {w : World} {κ : Kap} {env : Env} {μ : Mem}

/-! ### A region whose order is open -/
theorem quiet_rd {o : Oper} {a : Act} {Cl : World → Prop} {K : Act → Prop} {v : Value} (hrun : ∀ w', Cl w' → (execOp a.eval o).run P w' = .ok (.value v) w') (h : K (a.put o.dst v)) : o.quiet P a Cl K :=
  ⟨v, fun w' hw => by unfold Oper.quietAt; rw [hrun w' hw]; exact ⟨rfl, rfl⟩, h⟩

theorem quiet_call {o : Oper} {a : Act} {Cl : World → Prop} {K : Act → Prop} {f : Nat} {vs : Array Value} {v : Value} (hrun : ∀ w', Cl w' → (execOp a.eval o).run P w' = .ok (.enter f vs) w')
    (hc : ∀ w', Cl w' → Calls P f vs w' fun e w'' => e = .returned v ∧ Cl w'') (h : K (a.put o.dst v)) : o.quiet P a Cl K :=
  ⟨v, fun w' hw => by unfold Oper.quietAt; rw [hrun w' hw]; exact ⟨rfl, hc w' hw⟩, h⟩

theorem callRes_quiet (hS : Sim w κ μ) (hG : GlobsIn w (own κ) G) {f : Nat} {as : List PV} {res : PV} (h : callRes P G f as μ res) (hfl : res.flat = true) {vs : Array Value} (hv : Reps w κ vs as) :
    ∃ v, Rep w (own κ) κ v res ∧ ∀ w', RowKit.Below w.heap.size w w' → Calls P f vs w' fun e w'' => e = .returned v ∧ RowKit.Below w.heap.size w w'' := by
  obtain ⟨e0, w0, fr, ⟨v0, -, -, hr0⟩, -⟩ := callRes_run hS hG h hv []
  refine ⟨v0, .closed (repC_flat hr0 hfl), fun w' hB => ?_⟩
  have hG' : Goes w κ w' κ (fun _ => False) := Goes.below hB _
  refine (callRes_run (hS.below hB) (globs_goes hG hG') h (vs := vs) ⟨hv.1, fun i v p a b => (hv.2 i v p a b).still hG'⟩).mono ?_
  rintro e w'' ⟨v, rfl, hB', hr⟩
  rw [repC_uniq hr0 hfl hr]
  exact ⟨rfl, hB.trans (hB'.mono hB.size)⟩

theorem opsQ_sound {ow : List Nat} {ops : Array Oper} {mv : Nat → Bool} {Q : Act → Prop} (hS : Sim w κ μ) (hGl : GlobsIn w (own κ) G) : ∀ {l : List Oper} {cs : List CO} {a : Act} {env : Env} {K : Env → Mem → Prop}, l.mapM (compileOp P N ow ops) = some cs →
    opsW P G true mv cs env μ K → a.tmps.size = N → a.defers = [] → Regs w (own κ) κ a env → (∀ env' a', K env' μ → a'.tmps.size = N → a'.defers = [] → Regs w (own κ) κ a' env' → Q a') →
    wpQuiet P ops (fun w' => RowKit.Below w.heap.size w w') Q l a
  | [], cs, a, env, K, hm, h, hN, hD, hR, hK => by
    simp at hm; subst hm
    exact hK _ _ h hN hD hR
  | o :: l, cs, a, env, K, hm, h, hN, hD, hR, hK => by
    simp only [List.mapM_cons, Option.bind_eq_bind, Option.bind_eq_some_iff] at hm
    obtain ⟨c, hc, cs', hcs, hm⟩ := hm
    simp at hm; subst hm
    obtain ⟨hdst, hd, hg, hop⟩ := compileOp_dst hc
    have next : ∀ {env' : Env} {v : Value} {p : PV}, opsW P G true mv cs' (putE env o.dst p) μ K → Rep w (own κ) κ v p → wpQuiet P ops (fun w' => RowKit.Below w.heap.size w w') Q l (a.put o.dst v) := fun {env'} {v} {p} h' hv =>
      opsQ_sound hS hGl hcs h' (by rw [put_size]; exact hN) (by rw [put_defers]; exact hD) (regs_put hR hv (fun i hi => by rw [hN]; exact hd i hi)) hK
    obtain ⟨cd, cg, cop⟩ := c
    simp only at hdst hg hop
    subst hdst
    simp only [opsW, stepW] at h
    simp only [wpQuiet]
    cases cg with
    | none =>
      have hw := unguarded_wanted (a := a) hg
      rw [if_pos hw]
      simp only at h
      cases cop with
      | rd k args =>
        simp only at h
        obtain ⟨h1, h2⟩ := h
        obtain ⟨ys, hcr, hys⟩ := compileP_rd hop
        obtain ⟨v, hv, hrun⟩ := rd_sound hS hcr (known_of hR hGl hys) h1
        exact quiet_rd (fun w' hB => hrun w' hB.block) (next (env' := env) h2 hv)
      | eff k args => simp at h
      | call f args =>
        simp only at h
        obtain ⟨cl, f0, ho, hf0, hf, hys⟩ := compileP_call hop
        have hfr := evalO_rep hR hGl hf
        have hkn := known_of hR hGl hys
        unfold calleeK at h
        split at h
        · rename_i g first caps hfe
          rw [hfe] at hfr
          rcases h with ⟨res, hres, hfl, -, hK'⟩ | ⟨hq, -⟩
          · obtain ⟨vs, hvs, hrun⟩ := call_run ho hf0 hfr hkn hres.1
            obtain ⟨v, hv, hcall⟩ := callRes_quiet hS hGl hres (hfl rfl) hvs
            exact quiet_call (fun w' _ => hrun w') hcall (next (env' := env) hK' hv)
          · cases hq
        · exact h.elim
    | some gw =>
      obtain ⟨r, want⟩ := gw
      simp only at h
      split at h
      · rename_i b hb
        have hw := guard_wanted' hg (hR r) hb
        unfold stepG at h
        cases cop with
        | rd k args =>
          simp only at h
          obtain ⟨h1, h2⟩ := h
          obtain ⟨ys, hcr, hys⟩ := compileP_rd hop
          by_cases hbw : b = want
          · obtain ⟨h3, h4⟩ := h1 hbw
            obtain ⟨v, hv, hrun⟩ := rd_sound hS hcr (known_g (known_of hR hGl hys) h3) h4
            rw [if_pos (by rw [hw, hbw]; simp)]
            exact quiet_rd (fun w' hB => hrun w' hB.block) (next (env' := env) h2 (.cond _ (fun _ => hv) (fun hh => by rw [hbw] at hh; simp at hh)))
          · rw [if_neg (by rw [hw]; simpa using hbw)]
            exact next (env' := env) h2 (.cond _ (fun hh => absurd (by simpa using hh) hbw) (fun _ => rfl))
        | eff k args => simp at h
        | call f args =>
          simp only at h
          obtain ⟨res, h1, h2⟩ := h
          obtain ⟨cl, f0, ho, hf0, hf, hys⟩ := compileP_call hop
          by_cases hbw : b = want
          · obtain ⟨h3, h4, h5, h6⟩ := h1 hbw
            have hfr := rep_under (evalO_rep hR hGl hf) h3 rfl
            have hkn := known_under (known_of hR hGl hys) h4
            unfold calleeR at h5
            split at h5
            · rename_i g first caps hfe
              rw [hfe] at hfr
              obtain ⟨vs, hvs, hrun⟩ := call_run ho hf0 hfr hkn h5.1
              obtain ⟨v, hv, hcall⟩ := callRes_quiet hS hGl h5 (by simpa using h6) hvs
              rw [if_pos (by rw [hw, hbw]; simp)]
              exact quiet_call (fun w' _ => hrun w') hcall (next (env' := env) h2 (.cond _ (fun _ => hv) (fun hh => by rw [hbw] at hh; simp at hh)))
            · exact h5.elim
          · rw [if_neg (by rw [hw]; simpa using hbw)]
            exact next (env' := env) h2 (.cond _ (fun hh => absurd (by simpa using hh) hbw) (fun _ => rfl))
      · exact h.elim

/-! ### A region whose order is open, with effects: in whatever order they come up -/
inductive Sched where
  | done
  | stop
  | alt (l : List CO) (s more : Sched)
  deriving Inhabited
def schedW (P : Program) (G : Globs) (mv : Nat → Bool) : Sched → Env → Mem → (Env → Mem → Prop) → Prop
  | .done, env, μ, K => K env μ
  | .stop, _, _, _ => True
  | .alt l s more, env, μ, K => opsW P G false mv l env μ (fun e m => schedW P G mv s e m K) ∧ schedW P G mv more env μ K
def CO.wl (c : CO) : Bool :=
  match c.op with
  | .rd k _ => k.wl
  | _ => false
def mkAlt (c : CO) (s more : Sched) : Sched :=
  match s with
  | .alt l s' .stop => .alt (c :: l) s' more
  | s => .alt [c] s more
def mkSched (ops : Array Oper) (cs : List CO) : Nat → Array Bool → Option Sched
  | 0, listed => if Region.ready .any ops listed = [] then some .done else none
  | f + 1, listed =>
    if Region.ready .any ops listed = [] then some .done else
    match (Region.ready .any ops listed).find? (fun i => ((cs[i]?).map CO.wl).getD false && Region.free .any ops listed i) with
    | some i => (cs[i]?).bind fun c => (mkSched ops cs f (listed.setIfInBounds i true)).map fun s => mkAlt c s .stop
    | none => (Region.ready .any ops listed).foldr (fun i acc => acc.bind fun more => (cs[i]?).bind fun c => (mkSched ops cs f (listed.setIfInBounds i true)).map fun s => mkAlt c s more) (some .stop)

theorem schedW_mkAlt {mv : Nat → Bool} (c : CO) (s more : Sched) (K : Env → Mem → Prop) : schedW P G mv (mkAlt c s more) env μ K = (stepW P G false mv c env μ (fun e m => schedW P G mv s e m K) ∧ schedW P G mv more env μ K) := by
  unfold mkAlt
  split
  · simp only [schedW, opsW, and_true]
  · simp only [schedW, opsW]

theorem upon_congr {o : Oper} {a : Act} {next : Act → World → Prop} {Q Q1 : Exit → Act → World → Prop} (hp : ∀ c a w, Q (.panic c) a w = Q1 (.panic c) a w) (hl : LetsOut Q = LetsOut Q1) (r : Result Next) : o.upon P a next Q r = o.upon P a next Q1 r := by
  unfold Oper.upon
  split <;> first | rfl | (rw [hp]; done) | skip
  congr 1
  funext e w''
  cases e <;> first | rfl | exact hp _ _ _ | exact hl

/-- One operation, from what is told of it. -/
theorem step_op {ow : List Nat} {ops : Array Oper} {C : Ctx} {i : Nat} {o : Oper} {c : CO} (hi : ops[i]? = some o) (hc : compileOp P N ow ops o = some c) {Q : Exit → Act → World → Prop} {KK : Act → World → Prop} {a : Act} {K : Env → Mem → Prop}
    (h : stepW P G false C.mv c env μ K) (hR : SR G N C a w κ env μ) (hK : ∀ env' μ' a' w' κ', K env' μ' → SR G N C a' w' κ' env' μ' → KK a' w') : wpOp P ops Q i KK a w := by
  let Q1 : Exit → Act → World → Prop := fun e a w => match e with
    | .normal => KK a w
    | e => Q e a w
  have := opsW_sound (P := P) (ops := ops) (Q := Q1) (l := [o]) (cs := [c]) (ow := ow) (K := K) (by simp [hc]) (by simpa [opsW] using h) hR hK
  simp only [wpList] at this
  have hl : LetsOut Q1 = LetsOut Q := rfl
  unfold wpOp
  rw [hi]
  simp only
  split
  · rename_i hw
    rw [if_pos hw] at this
    refine this.imp (fun h => ?_) (fun h => ⟨h.1, h.2⟩)
    unfold Oper.wp at h ⊢
    have e := upon_congr (P := P) (o := o) (a := a) (next := KK) (Q := Q1) (Q1 := Q) (fun _ _ _ => rfl) hl ((execOp a.eval o).run P w)
    exact e.mp h
  · rename_i hw
    rw [if_neg hw] at this
    exact this

/-- An operation that reads no memory yields its value in whatever world. -/
theorem step_yields {ow : List Nat} {ops : Array Oper} {C : Ctx} {o : Oper} {c : CO} (hc : compileOp P N ow ops o = some c) (hwl : c.wl = true) {a : Act} {K : Env → Mem → Prop}
    (h : stepW P G false C.mv c env μ K) (hR : SR G N C a w κ env μ) : ∃ v env', YieldsIf P ops (fun _ => True) o v a ∧ K env' μ ∧ SR G N C (a.put o.dst v) w κ env' μ := by
  obtain ⟨hdst, hd, hg, hop⟩ := compileOp_dst hc
  obtain ⟨cd, cg, cop⟩ := c
  simp only at hdst hg hop
  subst hdst
  cases cop with
  | eff k args => simp [CO.wl] at hwl
  | call f args => simp [CO.wl] at hwl
  | rd k args =>
    simp only [CO.wl] at hwl
    obtain ⟨ys, hcr, hys⟩ := compileP_rd hop
    cases cg with
    | none =>
      have hw := unguarded_wanted (a := a) hg
      simp only [stepW] at h
      obtain ⟨h1, h2⟩ := h
      obtain ⟨v, hv, hrun⟩ := rd_soundA hR.sim hcr (known_of hR.regs hR.globs hys) h1 hwl
      exact ⟨v, _, .inl ⟨hw, fun w' _ => hrun w' trivial⟩, h2, hR.put (dead := none) hd hR.sim (Goes.refl _ _ _) trivial hv⟩
    | some gw =>
      obtain ⟨r, want⟩ := gw
      simp only [stepW] at h
      split at h
      · rename_i b hb
        have hw := guard_wanted' hg (hR.regs r) hb
        simp only [stepG] at h
        obtain ⟨h1, h2⟩ := h
        by_cases hbw : b = want
        · obtain ⟨h3, h4⟩ := h1 hbw
          obtain ⟨v, hv, hrun⟩ := rd_soundA hR.sim hcr (known_g (known_of hR.regs hR.globs hys) h3) h4 hwl
          exact ⟨v, _, .inl ⟨by rw [hw, hbw]; simp, fun w' _ => hrun w' trivial⟩, h2, hR.put (dead := none) hd hR.sim (Goes.refl _ _ _) trivial (.cond _ (fun _ => hv) (fun hh => by rw [hbw] at hh; simp at hh))⟩
        · exact ⟨undef, _, .inr ⟨by rw [hw]; simpa using hbw, rfl⟩, h2, hR.put (dead := none) hd hR.sim (Goes.refl _ _ _) trivial (.cond _ (fun hh => absurd (by simpa using hh) hbw) (fun _ => rfl))⟩
      · exact h.elim

theorem mapM_at {ow : List Nat} {ops : Array Oper} {cs : List CO} (hcs : ops.toList.mapM (compileOp P N ow ops) = some cs) {i : Nat} {c : CO} (hc : cs[i]? = some c) : ∃ o, ops[i]? = some o ∧ compileOp P N ow ops o = some c := by
  have := mapM_get hcs
  have h1 : (cs.map some)[i]? = some (some c) := by rw [List.getElem?_map, hc]; rfl
  rw [← this, List.getElem?_map] at h1
  cases ho : ops.toList[i]? with
  | none => rw [ho] at h1; cases h1
  | some o => rw [ho] at h1; exact ⟨o, by simpa using ho, by simpa using h1⟩

theorem sched_sound {ow : List Nat} {ops : Array Oper} {cs : List CO} {C : Ctx} (hcs : ops.toList.mapM (compileOp P N ow ops) = some cs) (hsel : Region.noSelect ops = true) {Q : Exit → Act → World → Prop} (hQ : ∀ c a w, ¬ Q (.panic c) a w) {K : Env → Mem → Prop}
    (hK : ∀ env' μ' a' w' κ', K env' μ' → SR G N C a' w' κ' env' μ' → Q .normal a' w') :
    ∀ (fuel : Nat) (listed : Array Bool) (s : Sched), mkSched ops cs fuel listed = some s → ∀ (a : Act) (w : World) (κ : Kap) (env : Env) (μ : Mem), schedW P G C.mv s env μ K → SR G N C a w κ env μ → wpAnyH P .any ops Q (fun _ => True) fuel listed a w := by
  intro fuel
  induction fuel with
  | zero =>
    intro listed s hs a w κ env μ h hR
    simp only [mkSched] at hs
    split at hs
    · rename_i hr
      cases hs
      exact wpAnyH_done hr (hK _ _ _ _ _ h hR) 0
    · cases hs
  | succ f ih =>
    intro listed s hs a w κ env μ h hR
    simp only [mkSched] at hs
    split at hs
    · rename_i hr
      cases hs
      exact wpAnyH_done hr (hK _ _ _ _ _ h hR) _
    · rename_i hne
      split at hs
      · rename_i i hf
        simp only [Option.bind_eq_some_iff, Option.map_eq_some_iff] at hs
        obtain ⟨c, hc, s', hs', rfl⟩ := hs
        obtain ⟨o, ho, hco⟩ := mapM_at hcs hc
        have hfi := List.find?_some hf
        rw [hc] at hfi
        simp only [Option.map_some, Option.getD_some, Bool.and_eq_true] at hfi
        rw [schedW_mkAlt] at h
        obtain ⟨v, env', hy, hK', hR'⟩ := step_yields hco hfi.1 h.1 hR
        exact wpAnyH_take ho hsel hfi.2 (by simpa using List.mem_of_find?_eq_some hf) (fun c a w hp => absurd hp (hQ c _ _)) hy trivial (ih _ _ hs' _ _ _ _ _ hK' hR')
      · refine wpAnyH_all rfl hne ?_
        have key : ∀ (r : List Nat) (s : Sched), r.foldr (fun i acc => acc.bind fun more => (cs[i]?).bind fun c => (mkSched ops cs f (listed.setIfInBounds i true)).map fun s => mkAlt c s more) (some .stop) = some s →
            schedW P G C.mv s env μ K → ∀ i ∈ r, wpOp P ops Q i (fun a' w' => True ∧ wpAnyH P .any ops Q (fun _ => True) f (listed.setIfInBounds i true) a' w') a w := by
          intro r
          induction r with
          | nil => intro s _ _ i hi; cases hi
          | cons j r ihr =>
            intro s hs h i hi
            simp only [List.foldr_cons, Option.bind_eq_some_iff, Option.map_eq_some_iff] at hs
            obtain ⟨more, hm, c, hc, s', hs', rfl⟩ := hs
            rw [schedW_mkAlt] at h
            rcases List.mem_cons.1 hi with rfl | hi
            · obtain ⟨o, ho, hco⟩ := mapM_at hcs hc
              exact step_op ho hco h.1 hR (fun env' μ' a' w' κ' h1 h2 => ⟨trivial, ih _ _ hs' _ _ _ _ _ h1 h2⟩)
            · exact ihr more hm h.2 i hi
        exact key _ s hs h

/-! ### Code -/
inductive PCode where
  | skip
  | region (q : Bool) (ops : List CO) (keep : List Nat)
  | regionA (s : Sched) (keep : List Nat)
  | seq (a b : PCode)
  | cond (c : Opd) (a b : PCode)
  | block (id : Nat) (b : PCode)
  | loop (b : PCode)
  | exit (id : Nat)
  | ret
  deriving Inhabited

def CO.still (c : CO) : Bool :=
  match c.op with
  | .eff _ _ => false
  | _ => true

def compileC (P : Program) (N : Nat) (ow L : List Nat) : Code → Option PCode
  | .skip => some .skip
  | .region _ ops d => if d = true then (ops.toList.mapM (compileOp P N ow ops)).bind fun cs =>
      if cs.all CO.still = true ∧ ow.contains 999999 = false then (if Region.lexB .any ops = true then some (.region true cs L) else none)
      else if Region.noSelect ops = true then (mkSched ops cs ops.size (Array.replicate ops.size false)).map fun s => .regionA s L else none else (ops.toList.mapM (compileOp P N ow ops)).map fun cs => .region false cs L
  | .seq a b => (compileC P N ow L a).bind fun a' => (compileC P N ow L b).map fun b' => .seq a' b'
  | .cond c a b => (compileOpd c).bind fun c' => (compileC P N ow L a).bind fun a' => (compileC P N ow L b).map fun b' => .cond c' a' b'
  | .block id b => (compileC P N ow L b).map fun b' => .block id b'
  | .loop b => (compileC P N ow L b).map fun b' => .loop b'
  | .exit id => some (.exit id)
  | .ret => some .ret
  | _ => none

def keepE (L : List Nat) (env : Env) : Env := L.map fun i => (i, env.get i)

abbrev Post := Exit → Env → Mem → Prop

/-- From a frame and a world that are told by 'env' and 'μ' the code comes to its end, told by 'Q'. -/
def PW (P : Program) (G : Globs) (N : Nat) (mv : Nat → Bool) (c : PCode) (env : Env) (μ : Mem) (Q : Post) : Prop :=
  ∀ ow L code, compileC P N ow L code = some c → P.follows .mixedOrders = true → ∀ (C : Ctx) (a : Act) (w : World) (κ : Kap), C.mv = mv → SR G N C a w κ env μ →
    code.wp P (fun e a' w' => ∃ env' μ' κ', Q e env' μ' ∧ SR G N C a' w' κ' env' μ') a w

theorem keep_get (L : List Nat) (env : Env) (i : Nat) : (keepE L env).get i = env.get i ∨ (keepE L env).get i = .junk := by
  induction L with
  | nil => exact .inr rfl
  | cons j L ih =>
    simp only [keepE, List.map_cons, Env.get]
    split
    · rename_i h; subst h; exact .inl rfl
    · exact ih

theorem SR.weak {C : Ctx} {a : Act} {env' : Env} (h : SR G N C a w κ env μ) (he : ∀ i, env'.get i = env.get i ∨ env'.get i = .junk) : SR G N C a w κ env' μ :=
  ⟨h.size, h.defers, fun i => (he i).elim (fun e => by rw [e]; exact h.regs i) (fun e => by rw [e]; exact .junk _), h.sim, h.globs, h.goes⟩

variable {mv : Nat → Bool} {Q : Post}

theorem compileC_reg {ow L : List Nat} {id : Nat} {ops : Array Oper} {d : Bool} {x : PCode} (h : compileC P N ow L (.region id ops d) = some x) :
    (d = false ∧ ∃ cs, ops.toList.mapM (compileOp P N ow ops) = some cs ∧ x = .region false cs L) ∨ (d = true ∧ ∃ cs, ops.toList.mapM (compileOp P N ow ops) = some cs ∧ x = .region true cs L ∧ Region.lexB .any ops = true) ∨
      (d = true ∧ ∃ cs s, ops.toList.mapM (compileOp P N ow ops) = some cs ∧ mkSched ops cs ops.size (Array.replicate ops.size false) = some s ∧ x = .regionA s L ∧ Region.noSelect ops = true) := by
  simp only [compileC] at h
  split at h
  · rename_i hd
    simp only [Option.bind_eq_some_iff] at h
    obtain ⟨cs, hcs, h⟩ := h
    split at h
    · split at h
      · rename_i hB
        cases h; exact .inr (.inl ⟨hd, cs, hcs, rfl, hB⟩)
      · cases h
    · split at h
      · rename_i hB
        simp only [Option.map_eq_some_iff] at h
        obtain ⟨s, hs, h⟩ := h
        cases h; exact .inr (.inr ⟨hd, cs, s, hcs, hs, rfl, hB⟩)
      · cases h
  · rename_i hd
    simp only [Option.map_eq_some_iff] at h
    obtain ⟨cs, hcs, h⟩ := h
    cases h
    exact .inl ⟨by simpa using hd, cs, hcs, rfl⟩
theorem compileC_region {ow L : List Nat} {code : Code} {q : Bool} {cs : List CO} {L' : List Nat} (h : compileC P N ow L code = some (.region q cs L')) :
    ∃ id ops, code = .region id ops q ∧ ops.toList.mapM (compileOp P N ow ops) = some cs ∧ L' = L ∧ (q = true → Region.lexB .any ops = true) := by
  cases code with
  | region id ops d =>
    rcases compileC_reg h with ⟨rfl, cs', h1, h2⟩ | ⟨rfl, cs', h1, h2, h3⟩ | ⟨rfl, cs', s, h1, h2, h3, h4⟩
    · cases h2; exact ⟨id, ops, rfl, h1, rfl, fun h => by cases h⟩
    · cases h2; exact ⟨id, ops, rfl, h1, rfl, fun _ => h3⟩
    · cases h3
  | _ => simp [compileC, Option.bind_eq_some_iff] at h
theorem compileC_regionA {ow L : List Nat} {code : Code} {s : Sched} {L' : List Nat} (h : compileC P N ow L code = some (.regionA s L')) :
    ∃ id ops cs, code = .region id ops true ∧ ops.toList.mapM (compileOp P N ow ops) = some cs ∧ L' = L ∧ mkSched ops cs ops.size (Array.replicate ops.size false) = some s ∧ Region.noSelect ops = true := by
  cases code with
  | region id ops d =>
    rcases compileC_reg h with ⟨rfl, cs', h1, h2⟩ | ⟨rfl, cs', h1, h2, h3⟩ | ⟨rfl, cs', s', h1, h2, h3, h4⟩
    · cases h2
    · cases h2
    · cases h3; exact ⟨id, ops, cs', rfl, h1, rfl, h2, h4⟩
  | _ => simp [compileC, Option.bind_eq_some_iff] at h

theorem PW.region {cs : List CO} {L : List Nat} (h : opsW P G false mv cs env μ fun env' μ' => Q .normal (keepE L env') μ') : PW P G N mv (.region false cs L) env μ Q := by
  intro ow L' code hc _ C a w κ hmv hR
  obtain ⟨id, ops, rfl, hm, rfl, -⟩ := compileC_region hc
  subst hmv
  refine wp_region_list (opsW_sound hm h hR fun env' μ' a' w' κ' hK hR' => ⟨_, _, _, hK, hR'.weak (keep_get _ _)⟩)

theorem PW.regionQ {cs : List CO} {L : List Nat} (h : opsW P G true mv cs env μ fun env' μ' => Q .normal (keepE L env') μ') : PW P G N mv (.region true cs L) env μ Q := by
  intro ow L' code hc hmix C a w κ hmv hR
  obtain ⟨id, ops, rfl, hm, rfl, hB⟩ := compileC_region hc
  refine wp_region_quiet (C := fun w' => RowKit.Below w.heap.size w w') hmix (hB rfl) ((RowKit.Below.refl _ _).drew) (opsQ_sound hR.sim hR.globs hm h hR.size hR.defers hR.regs fun env' a' hK hN hD hR' w' hB' => ?_)
  have hG : Goes w κ w' κ (fun _ => False) := Goes.below hB' _
  refine ⟨_, _, κ, hK, SR.weak ⟨hN, hD, regs_still hR' hG, hR.sim.below hB', globs_goes hR.globs hG, hR.goes.trans (hG.weak fun _ h => h.elim)⟩ (keep_get _ _)⟩

theorem PW.regionA {s : Sched} {L : List Nat} (h : schedW P G mv s env μ fun env' μ' => Q .normal (keepE L env') μ') : PW P G N mv (.regionA s L) env μ Q := by
  intro ow L' code hc hmix C a w κ hmv hR
  obtain ⟨id, ops, cs, rfl, hm, rfl, hs, hsel⟩ := compileC_regionA hc
  subst hmv
  have hR1 : SR G N C a { w with drawn := w.drawn + 1 } κ env μ := by
    have hG : Goes w κ w.drew κ (fun _ => False) := Goes.drew _ _ _
    exact ⟨hR.size, hR.defers, regs_still hR.regs hG, hR.sim.drew, globs_goes hR.globs hG, hR.goes.trans (hG.weak fun _ h => h.elim)⟩
  have h1 : (Code.region id ops true).wp P (fun e a' w' => e = .normal ∧ ∃ env' μ' κ', Q .normal env' μ' ∧ SR G N C a' w' κ' env' μ') a w := by
    refine wp_region_held (S := fun _ => True) hmix (sched_sound hm hsel (fun c a w hp => by cases hp.1) (fun env' μ' a' w' κ' hK hR' => ⟨rfl, _, _, _, hK, hR'.weak (keep_get _ _)⟩) _ _ _ hs _ _ _ _ _ h hR1)
  refine wp_mono h1 ?_
  rintro e a' w' ⟨rfl, env', μ', κ', hq, hR'⟩
  exact ⟨env', μ', κ', hq, hR'⟩

def seqQ (P : Program) (G : Globs) (N : Nat) (mv : Nat → Bool) (b : PCode) (Q : Post) : Post := fun e env μ =>
  match e with
  | .normal => PW P G N mv b env μ Q
  | e => Q e env μ

theorem compileC_seq {ow L : List Nat} {code : Code} {x y : PCode} (h : compileC P N ow L code = some (.seq x y)) : ∃ x0 y0, code = .seq x0 y0 ∧ compileC P N ow L x0 = some x ∧ compileC P N ow L y0 = some y := by
  cases code with
  | seq x0 y0 =>
    simp only [compileC, Option.bind_eq_some_iff, Option.map_eq_some_iff] at h
    obtain ⟨x', hx, y', hy, h⟩ := h
    cases h; exact ⟨x0, y0, rfl, hx, hy⟩
  | region id ops d => rcases compileC_reg h with ⟨_, _, _, h⟩ | ⟨_, _, _, h, _⟩ | ⟨_, _, _, _, _, h, _⟩ <;> cases h
  | _ => simp [compileC, Option.bind_eq_some_iff] at h
theorem compileC_cond {ow L : List Nat} {code : Code} {c : Opd} {x y : PCode} (h : compileC P N ow L code = some (.cond c x y)) :
    ∃ c0 x0 y0, code = .cond c0 x0 y0 ∧ compileOpd c0 = some c ∧ compileC P N ow L x0 = some x ∧ compileC P N ow L y0 = some y := by
  cases code with
  | cond c0 x0 y0 =>
    simp only [compileC, Option.bind_eq_some_iff, Option.map_eq_some_iff] at h
    obtain ⟨c', hc, x', hx, y', hy, h⟩ := h
    cases h; exact ⟨c0, x0, y0, rfl, hc, hx, hy⟩
  | region id ops d => rcases compileC_reg h with ⟨_, _, _, h⟩ | ⟨_, _, _, h, _⟩ | ⟨_, _, _, _, _, h, _⟩ <;> cases h
  | _ => simp [compileC, Option.bind_eq_some_iff] at h
theorem compileC_block {ow L : List Nat} {code : Code} {id : Nat} {x : PCode} (h : compileC P N ow L code = some (.block id x)) : ∃ x0, code = .block id x0 ∧ compileC P N ow L x0 = some x := by
  cases code with
  | block id x0 =>
    simp only [compileC, Option.map_eq_some_iff] at h
    obtain ⟨x', hx, h⟩ := h
    cases h; exact ⟨x0, rfl, hx⟩
  | region id ops d => rcases compileC_reg h with ⟨_, _, _, h⟩ | ⟨_, _, _, h, _⟩ | ⟨_, _, _, _, _, h, _⟩ <;> cases h
  | _ => simp [compileC, Option.bind_eq_some_iff] at h
theorem compileC_loop {ow L : List Nat} {code : Code} {x : PCode} (h : compileC P N ow L code = some (.loop x)) : ∃ x0, code = .loop x0 ∧ compileC P N ow L x0 = some x := by
  cases code with
  | loop x0 =>
    simp only [compileC, Option.map_eq_some_iff] at h
    obtain ⟨x', hx, h⟩ := h
    cases h; exact ⟨x0, rfl, hx⟩
  | region id ops d => rcases compileC_reg h with ⟨_, _, _, h⟩ | ⟨_, _, _, h, _⟩ | ⟨_, _, _, _, _, h, _⟩ <;> cases h
  | _ => simp [compileC, Option.bind_eq_some_iff] at h
theorem compileC_skip {ow L : List Nat} {code : Code} (h : compileC P N ow L code = some .skip) : code = .skip := by
  cases code with
  | skip => rfl
  | region id ops d => rcases compileC_reg h with ⟨_, _, _, h⟩ | ⟨_, _, _, h, _⟩ | ⟨_, _, _, _, _, h, _⟩ <;> cases h
  | _ => simp [compileC, Option.bind_eq_some_iff] at h
theorem compileC_ret {ow L : List Nat} {code : Code} (h : compileC P N ow L code = some .ret) : code = .ret := by
  cases code with
  | ret => rfl
  | region id ops d => rcases compileC_reg h with ⟨_, _, _, h⟩ | ⟨_, _, _, h, _⟩ | ⟨_, _, _, _, _, h, _⟩ <;> cases h
  | _ => simp [compileC, Option.bind_eq_some_iff] at h
theorem compileC_exit {ow L : List Nat} {code : Code} {id : Nat} (h : compileC P N ow L code = some (.exit id)) : code = .exit id := by
  cases code with
  | exit id => simp [compileC] at h; rw [h]
  | region id ops d => rcases compileC_reg h with ⟨_, _, _, h⟩ | ⟨_, _, _, h, _⟩ | ⟨_, _, _, _, _, h, _⟩ <;> cases h
  | _ => simp [compileC, Option.bind_eq_some_iff] at h

theorem PW.seq {x y : PCode} (h : PW P G N mv x env μ (seqQ P G N mv y Q)) : PW P G N mv (.seq x y) env μ Q := by
  intro ow L code hc hmix C a w κ hmv hR
  obtain ⟨x0, y0, rfl, hx, hy⟩ := compileC_seq hc
  refine wp_seq (wp_mono (h ow L x0 hx hmix C a w κ hmv hR) ?_)
  rintro e a' w' ⟨env', μ', κ', hq, hR'⟩
  cases e with
  | normal => exact hq ow L y0 hy hmix C a' w' κ' hmv hR'
  | exit id => exact ⟨env', μ', κ', hq, hR'⟩
  | goto l => exact ⟨env', μ', κ', hq, hR'⟩
  | ret => exact ⟨env', μ', κ', hq, hR'⟩
  | panic ch => exact ⟨env', μ', κ', hq, hR'⟩
  | outgrown => exact ⟨env', μ', κ', hq, hR'⟩


theorem PW.skip (h : Q .normal env μ) : PW P G N mv .skip env μ Q := by
  intro ow L code hc _ C a w κ _ hR
  obtain rfl := compileC_skip hc
  exact wp_skip ⟨_, _, _, h, hR⟩
theorem PW.ret (h : Q .ret env μ) : PW P G N mv .ret env μ Q := by
  intro ow L code hc _ C a w κ _ hR
  obtain rfl := compileC_ret hc
  exact wp_ret ⟨_, _, _, h, hR⟩
theorem PW.exit {id : Nat} (h : Q (.exit id) env μ) : PW P G N mv (.exit id) env μ Q := by
  intro ow L code hc _ C a w κ _ hR
  obtain rfl := compileC_exit hc
  exact wp_exit ⟨_, _, _, h, hR⟩

theorem PW.cond {c : Opd} {x y : PCode} {b : Bool} (hb : evalO G env c = .bool b) (ht : b = true → PW P G N mv x env μ Q) (hf : b = false → PW P G N mv y env μ Q) : PW P G N mv (.cond c x y) env μ Q := by
  intro ow L code hc hmix C a w κ hmv hR
  obtain ⟨c0, x0, y0, rfl, hc0, hx, hy⟩ := compileC_cond hc
  have hv := evalO_rep hR.regs hR.globs hc0
  rw [hb] at hv
  exact wp_cond_split (repC_bool hv) (fun h => ht h ow L x0 hx hmix C a w κ hmv hR) (fun h => hf h ow L y0 hy hmix C a w κ hmv hR)

def blockQ (id : Nat) (Q : Post) : Post := fun e env μ =>
  match e with
  | .exit id' => if id' = id then Q .normal env μ else Q (.exit id') env μ
  | e => Q e env μ

theorem PW.block {id : Nat} {x : PCode} (h : PW P G N mv x env μ (blockQ id Q)) : PW P G N mv (.block id x) env μ Q := by
  intro ow L code hc hmix C a w κ hmv hR
  obtain ⟨x0, rfl, hx⟩ := compileC_block hc
  refine wp_block (wp_mono (h ow L x0 hx hmix C a w κ hmv hR) ?_)
  rintro e a' w' ⟨env', μ', κ', hq, hR'⟩
  cases e with
  | exit id' =>
    simp only [blockQ, Exit.inBlock] at hq ⊢
    by_cases hid : id' = id
    · rw [if_pos hid] at hq ⊢; exact ⟨env', μ', κ', hq, hR'⟩
    · rw [if_neg hid] at hq ⊢; exact ⟨env', μ', κ', hq, hR'⟩
  | normal => exact ⟨env', μ', κ', hq, hR'⟩
  | goto l => exact ⟨env', μ', κ', hq, hR'⟩
  | ret => exact ⟨env', μ', κ', hq, hR'⟩
  | panic ch => exact ⟨env', μ', κ', hq, hR'⟩
  | outgrown => exact ⟨env', μ', κ', hq, hR'⟩

theorem PW.mono {x : PCode} {Q' : Post} (h : PW P G N mv x env μ Q) (hq : ∀ e env μ, Q e env μ → Q' e env μ) : PW P G N mv x env μ Q' := by
  intro ow L code hc hmix C a w κ hmv hR
  exact wp_mono (h ow L code hc hmix C a w κ hmv hR) fun e a' w' ⟨env', μ', κ', hq', hR'⟩ => ⟨env', μ', κ', hq _ _ _ hq', hR'⟩

theorem PW.weak {x : PCode} {env' : Env} (h : PW P G N mv x env' μ Q) (he : ∀ i, env'.get i = env.get i ∨ env'.get i = .junk) : PW P G N mv x env μ Q := by
  intro ow L code hc hmix C a w κ hmv hR
  exact h ow L code hc hmix C a w κ hmv (hR.weak he)

def loopQ {σ : Type} (vars : List Nat) (vals : σ → List PV) (mem : σ → Mem) (Inv : σ → Prop) (meas : σ → Nat) (s : σ) (Q : Post) : Post := fun e env μ =>
  match e with
  | .normal => ∃ s', keepE vars env = vars.zip (vals s') ∧ μ = mem s' ∧ Inv s' ∧ meas s' < meas s
  | e => Q e env μ

/-- A loop: its state, the variables that tell it, what holds of it, and what goes down. -/
theorem PW.loop {σ : Type} (vars : List Nat) (vals : σ → List PV) (mem : σ → Mem) (Inv : σ → Prop) (meas : σ → Nat) (s0 : σ) {x : PCode} (h0 : keepE vars env = vars.zip (vals s0)) (hm : μ = mem s0) (hI : Inv s0)
    (round : ∀ s, Inv s → PW P G N mv x (vars.zip (vals s)) (mem s) (loopQ vars vals mem Inv meas s Q)) : PW P G N mv (.loop x) env μ Q := by
  intro ow L code hc hmix C a w κ hmv hR
  obtain ⟨x0, rfl, hx⟩ := compileC_loop hc
  refine wp_loop_ghost (fun n a w => ∃ s κ, meas s = n ∧ Inv s ∧ SR G N C a w κ (vars.zip (vals s)) (mem s)) (meas s0) ⟨s0, κ, rfl, hI, by rw [← h0, ← hm]; exact hR.weak (keep_get _ _)⟩ ?_
  rintro n a w ⟨s, κ, rfl, hI, hR⟩
  refine wp_mono (round s hI ow L x0 hx hmix C a w κ hmv hR) ?_
  rintro e a' w' ⟨env', μ', κ', hq, hR'⟩
  cases e with
  | normal =>
    obtain ⟨s', hs1, hs2, hs3, hs4⟩ := hq
    exact ⟨meas s', hs4, s', κ', rfl, hs3, by rw [← hs1, ← hs2]; exact hR'.weak (keep_get _ _)⟩
  | exit id' => exact ⟨env', μ', κ', hq, hR'⟩
  | goto l => exact ⟨env', μ', κ', hq, hR'⟩
  | ret => exact ⟨env', μ', κ', hq, hR'⟩
  | panic ch => exact ⟨env', μ', κ', hq, hR'⟩
  | outgrown => exact ⟨env', μ', κ', hq, hR'⟩

/-- A nil slice taken over as a row of the call's own. -/
theorem PW.own {x : PCode} (sh : Sh) (i : Nat) (hi : env.get i = .nilSl) (h : PW P G N mv x ((i, .sl sh μ.length 0) :: env) (μ ++ [some (.row sh [])]) Q) : PW P G N mv x env μ Q := by
  intro ow L code hc hmix C a w κ hmv hR
  obtain ⟨hG, hS'⟩ := hR.sim.nilrow sh
  refine h ow L code hc hmix C a w _ hmv ⟨hR.size, hR.defers, fun j => ?_, hS', globs_goes hR.globs hG, hR.goes.trans (hG.weak fun _ h => h.elim)⟩
  simp only [Env.get]
  split
  · rename_i hij
    subst hij
    have := hR.regs i
    rw [hi] at this
    rw [rep_nilSl this]
    exact .slnil sh μ.length (by simp)
  · exact (hR.regs j).still hG

/-! ### Functions -/
inductive RVar where
  | tmp (t : Nat)
  | cell (t : Nat) (sh : Sh)
  deriving Inhabited

def compileV (P : Program) : ResultVar → Option RVar
  | .tmp t => some (.tmp t)
  | .cell a t => (shOf P t).map fun sh => .cell a sh

def RVar.val (env : Env) (μ : Mem) : RVar → PV
  | .tmp t => env.get t
  | .cell t sh => rdV μ (.load sh) [env.get t]
def RVar.ok (env : Env) (μ : Mem) : RVar → Prop
  | .tmp _ => True
  | .cell t sh => rdD μ (.load sh) [env.get t]
def allOk (env : Env) (μ : Mem) : List RVar → Prop
  | [] => True
  | r :: rs => r.ok env μ ∧ allOk env μ rs
def retV (vs : List PV) : PV :=
  match vs with
  | [v] => v
  | vs => .tup vs

def resSem (a : Act) : ResultVar → Sem Value
  | .tmp t => pure (a.tmps.getD t undef)
  | .cell b t => do loadVar t (← asAddr (a.tmps.getD b undef))

theorem result_run {r0 : ResultVar} {r : RVar} (hS : Sim w κ μ) {a : Act} (hR : Regs w (own κ) κ a env) (hc : compileV P r0 = some r) (hok : r.ok env μ) :
    ∃ v, Rep w (own κ) κ v (r.val env μ) ∧ (resSem a r0).run P w = .ok v w := by
  cases r0 with
  | tmp t =>
    simp [compileV] at hc; subst hc
    exact ⟨_, hR t, rfl⟩
  | cell b t =>
    simp only [compileV, Option.map_eq_some_iff] at hc
    obtain ⟨sh, hsh, rfl⟩ := hc
    simp only [RVar.ok, rdD] at hok
    split at hok
    · rename_i sh' y off hb
      obtain ⟨hshp, b', o', hv, hcl⟩ := behind_spec hS (hR b) hb
      obtain ⟨v, hrv, hrun⟩ := load_run (P := P) hsh hshp hcl hok
      refine ⟨v, ?_, ?_⟩
      · simp only [RVar.val, rdV, hb]; exact hrv
      · simp [resSem, hv, asAddr, hrun w (Same.refl w)]
    · exact hok.elim

theorem results_run {fn : Func} {rs : List RVar} (hS : Sim w κ μ) {a : Act} (hR : Regs w (own κ) κ a env) (hc : fn.results.toList.mapM (compileV P) = some rs) (hok : allOk env μ rs) :
    ∃ v, Rep w (own κ) κ v (retV (rs.map (RVar.val env μ))) ∧ (results fn a.tmps).run P w = .ok v w := by
  have key : ∀ (l : List ResultVar) (rs : List RVar), l.mapM (compileV P) = some rs → allOk env μ rs →
      ∃ vs : List Value, vs.length = rs.length ∧ (∀ (i : Nat) (v : Value) (p : PV), vs[i]? = some v → (rs.map (RVar.val env μ))[i]? = some p → Rep w (own κ) κ v p) ∧
        (l.mapM (resSem a)).run P w = .ok vs w := by
    intro l
    induction l with
    | nil => intro rs h _; simp at h; subst h; exact ⟨[], rfl, fun i v p h => by simp at h, rfl⟩
    | cons r0 l ih =>
      intro rs h hok
      simp only [List.mapM_cons, Option.bind_eq_bind, Option.bind_eq_some_iff] at h
      obtain ⟨r, hr, rs', hrs, h⟩ := h
      simp at h; subst h
      obtain ⟨v, hv, hrun⟩ := result_run hS hR hr hok.1
      obtain ⟨vs, h1, h2, h3⟩ := ih rs' hrs hok.2
      refine ⟨v :: vs, by simp [h1], fun i u p hu hp => ?_, ?_⟩
      · cases i with
        | zero => simp at hu hp; subst hu; subst hp; exact hv
        | succ i => exact h2 i u p (by simpa using hu) (by simpa using hp)
      · simp only [List.mapM_cons, Sem.run_bind, hrun, Result.andThen_ok, h3, Sem.run_pure]
  obtain ⟨vs, h1, h2, h3⟩ := key _ _ hc hok
  have hrun : (results fn a.tmps).run P w = .ok (if h : vs.toArray.size = 1 then vs.toArray[0] else .tuple vs.toArray) w := by
    show (do let vs ← fn.results.mapM (resSem a); pure (if h : vs.size = 1 then vs[0] else .tuple vs) : Sem Value).run P w = _
    rw [Array.mapM_eq_mapM_toList]
    simp only [Sem.run_bind, Sem.run_map, h3, Result.andThen_ok, Sem.run_pure]
  refine ⟨_, ?_, hrun⟩
  clear hc hok h3 hrun key
  match rs, vs, h1, h2 with
  | [r], [v], _, h2 => exact h2 0 v _ rfl rfl
  | [], [], _, _ => exact .tup #[] [] rfl (fun i v p h => by simp at h)
  | r :: r' :: rs, v :: v' :: vs, h1, h2 =>
    rw [dif_neg (by simp)]
    exact .tup _ _ (by simpa using h1) (fun i u p hu hp => h2 i u p (by simpa using hu) hp)

structure CF where
  N : Nat
  code : PCode
  rs : List RVar
  deriving Inhabited

/-- The translation of a function. -/
def compileF (P : Program) (ow L : List Nat) (fn : Func) : Option CF :=
  fn.body.bind fun b => (compileC P fn.ntmps ow L b).bind fun c => (fn.results.toList.mapM (compileV P)).map fun rs => ⟨fn.ntmps, c, rs⟩

def argE (n : Nat) : List PV → Env
  | [] => []
  | p :: ps => (n, p) :: argE (n + 1) ps

theorem argE_get : ∀ (ps : List PV) (n i : Nat), (argE n ps).get i = if n ≤ i then (ps[i - n]?).getD .junk else .junk
  | [], n, i => by simp [argE, Env.get]
  | p :: ps, n, i => by
    simp only [argE, Env.get]
    by_cases h : n = i
    · subst h; simp
    · rw [if_neg h, argE_get ps (n + 1) i]
      by_cases h2 : n ≤ i
      · rw [if_pos (by omega), if_pos h2]
        obtain ⟨d, hd⟩ : ∃ d, i - n = d + 1 := ⟨i - n - 1, by omega⟩
        rw [hd, List.getElem?_cons_succ]
        congr 2; omega
      · rw [if_neg (by omega), if_neg h2]

/-- How a call by value ends. -/
def endV (rs : List RVar) (res : PV) : Post := fun e env μ =>
  match e with
  | .normal | .ret => allOk env μ rs ∧ (retV (rs.map (RVar.val env μ))).seen μ = true ∧ (retV (rs.map (RVar.val env μ))).view μ = res
  | _ => False

theorem VCalls.of_PW {f : Nat} {fn : Func} {ow L : List Nat} {cf : CF} (hf : P.funcs[f]? = some fn) (hc : compileF P ow L fn = some cf) (hmix : P.follows .mixedOrders = true) {args : List PV} {res : PV} (hn : args.length ≤ cf.N)
    (h : PW P G cf.N (fun _ => true) cf.code (argE 0 args) [] (endV cf.rs res)) : VCalls P G f args res := by
  intro w ex vs hex hG hv
  simp only [compileF, Option.bind_eq_some_iff, Option.map_eq_some_iff] at hc
  obtain ⟨b, hb, c, hcc, rs, hrs, rfl⟩ := hc
  refine calls_of_wp hf hb ?_
  have hex' : own ⟨fun _ => none, ex⟩ = ex := by
    funext b
    simp only [own, eq_iff_iff]
    exact ⟨fun h => h.elim id (fun ⟨t, ht⟩ => by simp at ht), .inl⟩
  let C : Ctx := ⟨w, ⟨fun _ => none, ex⟩, fun _ => true⟩
  have hS : Sim w ⟨fun _ => none, ex⟩ [] := ⟨fun t t' b h => by simp at h, fun t b h => by simp at h, fun t c h => by simp at h, fun t o h => by simp at h, hex, fun t b h => by simp at h⟩
  have hR : SR G fn.ntmps C { tmps := vs ++ Array.replicate (fn.ntmps - vs.size) undef, defers := [] } w ⟨fun _ => none, ex⟩ (argE 0 args) [] := by
    refine ⟨by have := hv.1; simp; simp at hn; omega, rfl, fun i => ?_, hS, by rw [hex']; exact hG, Goes.refl _ _ _⟩
    rw [argE_get, if_pos (Nat.zero_le _), Nat.sub_zero]
    cases hp : args[i]? with
    | none => exact .junk _
    | some p =>
      have hi : i < args.length := (List.getElem?_eq_some_iff.1 hp).1
      have hiv : i < vs.size := by rw [hv.1]; exact hi
      have hgd : (vs ++ Array.replicate (fn.ntmps - vs.size) undef).getD i undef = vs[i] := by
        rw [Array.getD_eq_getD_getElem?, Array.getElem?_append_left hiv, Array.getElem?_eq_getElem hiv]; rfl
      simp only [Option.getD_some]
      rw [hgd, hex']
      exact .closed (hv.2 i _ p (Array.getElem?_eq_getElem hiv) hp)
  refine wp_mono (h ow L b hcc hmix C _ w _ rfl hR) ?_
  rintro e a' w' ⟨env', μ', κ', hq, hR'⟩
  have fin : (allOk env' μ' rs ∧ (retV (rs.map (RVar.val env' μ'))).seen μ' = true ∧ (retV (rs.map (RVar.val env' μ'))).view μ' = res) →
      a'.defers = [] ∧ ∃ v, (results fn a'.tmps).run P w' = .ok v w' ∧ (∃ v', Ending.returned v = .returned v' ∧ RowKit.Below w.heap.size w w' ∧ RepC w' ex v' res) := by
    rintro ⟨h1, h2, h3⟩
    obtain ⟨v, hv', hrun⟩ := results_run hR'.sim hR'.regs hrs h1
    refine ⟨hR'.defers, v, hrun, v, rfl, ?_, ?_⟩
    · have hg := hR'.goes
      refine ⟨hg.os, hg.tape, hg.output, hg.size, fun k hk => ?_⟩
      exact hg.block k hk (fun ⟨t, ht⟩ => by simp [C] at ht)
    · have := rep_view hR'.sim hv' h2
      rw [h3, hR'.goes.ex] at this
      exact this
  cases e with
  | normal => exact fin hq
  | ret => exact fin hq
  | exit id' => exact hq.elim
  | goto l => exact hq.elim
  | panic ch => exact hq.elim
  | outgrown => exact hq.elim

end
end PG
