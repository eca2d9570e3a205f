import Derived.Laws.AppendOwn
import Derived.Test.YtdemgegpnlngeaaDoorP3
namespace PG
open Go
set_option linter.unusedSimpArgs false
set_option linter.unusedVariables false
section
variable {P : Program} {G : Globs} {N : Nat} {C : Ctx} {a : Act} {w : World} {κ : Kap} {env : Env} {μ : Mem}
/-- The operations of a region's first part, one by one; what is known behind it serves the rest. -/
theorem opsW_sound2 {ow : List Nat} {ops : Array Oper} {Q : Exit → Act → World → Prop} {l2 : List Oper} : ∀ {l : List Oper} {cs : List CO} {a : Act} {w : World} {κ : Kap} {env : Env} {μ : Mem} {K : Env → Mem → Prop}, l.mapM (compileOp P N ow ops) = some cs →
    opsW P G false C.mv cs env μ K → SR G N C a w κ env μ → (∀ env' μ' a' w' κ', K env' μ' → SR G N C a' w' κ' env' μ' → wpList P ops Q l2 a' w') → wpList P ops Q (l ++ l2) a w
  | [], cs, a, w, κ, env, μ, K, hm, h, hR, hK => by
    simp at hm; subst hm
    exact hK _ _ _ _ _ h hR
  | o :: l, cs, a, w, κ, env, μ, K, hm, h, hR, hK => by
    simp only [List.mapM_cons, Option.bind_eq_bind, Option.bind_eq_some_iff] at hm
    obtain ⟨c, hc, cs', hcs, hm⟩ := hm
    simp at hm; subst hm
    obtain ⟨hdst, hd, hg, hop⟩ := compileOp_dst hc
    have next : ∀ {env' : Env} {μ' : Mem} {a' : Act} {w' : World} {κ' : Kap}, opsW P G false C.mv cs' env' μ' K → SR G N C a' w' κ' env' μ' → wpList P ops Q (l ++ l2) a' w' := fun h' hR' => opsW_sound2 hcs h' hR' hK
    obtain ⟨cd, cg, cop⟩ := c
    simp only at hdst hg hop
    subst hdst
    simp only [opsW, stepW] at h
    cases cg with
    | none =>
      have hw := unguarded_wanted (a := a) hg
      simp only at h
      cases cop with
      | rd k args =>
        simp only at h
        obtain ⟨h1, h2⟩ := h
        obtain ⟨ys, hcr, hys⟩ := compileP_rd hop
        obtain ⟨v, hv, hrun⟩ := rd_sound hR.sim hcr (known_of hR.regs hR.globs hys) h1
        refine execOp_mono hw (.inl (hrun w (Same.refl w))) (next (κ' := κ) h2 ?_)
        exact hR.put (dead := none) hd hR.sim (Goes.refl _ _ _) trivial hv
      | eff k args =>
        simp only [true_and] at h
        obtain ⟨ys, hce, hys⟩ := compileP_eff hop
        obtain ⟨v, p, dead, μ', w', κ', hrun, ⟨hdk, hK'⟩, hS', hG', hv⟩ := eff_sound hR.sim hce (known_of hR.regs hR.globs hys) h
        exact execOp_mono hw hrun (next hK' (hR.put hd hS' hG' hdk hv))
      | call f args =>
        simp only at h
        obtain ⟨cl, f0, ho, hf0, hf, hys⟩ := compileP_call hop
        have hfr := evalO_rep hR.regs hR.globs hf
        have hkn := known_of hR.regs hR.globs hys
        unfold calleeK at h
        split at h
        · rename_i g first caps hfe
          rw [hfe] at hfr
          rcases h with ⟨res, hres, -, -, hK'⟩ | ⟨-, hent, h⟩
          · obtain ⟨vs, hvs, hrun⟩ := call_run ho hf0 hfr hkn hres.1
            refine execOp_call hw (hrun w) ((callRes_run hR.sim hR.globs hres hvs).mono ?_)
            rintro e w' ⟨v, rfl, hB, hr⟩
            exact ⟨v, rfl, next hK' (hR.put (dead := none) hd (hR.sim.below hB) (Goes.below hB _) trivial (.closed (hr.mono ⟨fun _ _ _ => rfl, fun _ _ h => h⟩)))⟩
          · obtain ⟨vs, hvs, hrun⟩ := call_run ho hf0 hfr hkn hent
            rcases h with ⟨R, hp, hRK⟩ | ⟨t, R, hp, hRK⟩
            · refine execOp_call hw (hrun w) ((hp w κ vs hR.sim hR.globs hvs).mono ?_)
              rintro e w' ⟨v, p, μ', κ', rfl, hRp, hS', hv, hG'⟩
              exact ⟨v, rfl, next (hRK p μ' hRp).2 (hR.put (dead := none) hd hS' (hG'.weak fun t ht => by cases ht) trivial hv)⟩
            · refine execOp_call hw (hrun w) ((hp w κ vs hR.sim hR.globs hvs).mono ?_)
              rintro e w' ⟨v, p, μ', κ', rfl, hRp, hS', hv, hG'⟩
              exact ⟨v, rfl, next (hRK p μ' hRp).2 (hR.put (dead := some t) hd hS' (hG'.weak fun i hi => by simp [killTag] at hi; rw [hi]) (hRK p μ' hRp).1 hv)⟩
        · exact h.elim
    | some gw =>
      obtain ⟨r, want⟩ := gw
      simp only at h
      split at h
      · rename_i b hb
        have hw := guard_wanted' hg (hR.regs r) hb
        unfold stepG at h
        cases cop with
        | rd k args =>
          simp only at h
          obtain ⟨h1, h2⟩ := h
          obtain ⟨ys, hcr, hys⟩ := compileP_rd hop
          by_cases hbw : b = want
          · obtain ⟨h3, h4⟩ := h1 hbw
            obtain ⟨v, hv, hrun⟩ := rd_sound hR.sim hcr (known_g (known_of hR.regs hR.globs hys) h3) h4
            refine execOp_mono (by rw [hw, hbw]; simp) (.inl (hrun w (Same.refl w))) (next (κ' := κ) h2 ?_)
            exact hR.put (dead := none) hd hR.sim (Goes.refl _ _ _) trivial (.cond _ (fun _ => hv) (fun hh => by rw [hbw] at hh; simp at hh))
          · refine skip_op (by rw [hw]; simpa using hbw) (next (κ' := κ) h2 ?_)
            exact hR.put (dead := none) hd hR.sim (Goes.refl _ _ _) trivial (.cond _ (fun hh => absurd (by simpa using hh) hbw) (fun _ => rfl))
        | eff k args =>
          simp only [true_and] at h
          obtain ⟨h1, h2⟩ := h
          obtain ⟨ys, hce, hys⟩ := compileP_eff hop
          by_cases hbw : b = want
          · obtain ⟨h3, h4⟩ := h1 hbw
            obtain ⟨v, p, dead, μ', w', κ', hrun, ⟨hdk, hK'⟩, hS', hG', hv⟩ := eff_sound hR.sim hce (known_under (known_of hR.regs hR.globs hys) h3) h4
            exact execOp_mono (by rw [hw, hbw]; simp) hrun (next hK' (hR.put hd hS' hG' hdk hv))
          · refine skip_op (by rw [hw]; simpa using hbw) (next (κ' := κ) (h2 hbw) ?_)
            exact hR.put (dead := none) hd hR.sim (Goes.refl _ _ _) trivial (.junk _)
        | call f args =>
          simp only at h
          obtain ⟨res, h1, h2⟩ := h
          obtain ⟨cl, f0, ho, hf0, hf, hys⟩ := compileP_call hop
          by_cases hbw : b = want
          · obtain ⟨h3, h4, h5, -⟩ := h1 hbw
            have hfr := rep_under (evalO_rep hR.regs hR.globs hf) h3 rfl
            have hkn := known_under (known_of hR.regs hR.globs hys) h4
            unfold calleeR at h5
            split at h5
            · rename_i g first caps hfe
              rw [hfe] at hfr
              obtain ⟨vs, hvs, hrun⟩ := call_run ho hf0 hfr hkn h5.1
              refine execOp_call (by rw [hw, hbw]; simp) (hrun w) ((callRes_run hR.sim hR.globs h5 hvs).mono ?_)
              rintro e w' ⟨v, rfl, hB, hr⟩
              exact ⟨v, rfl, next h2 (hR.put (dead := none) hd (hR.sim.below hB) (Goes.below hB _) trivial (.cond _ (fun _ => .closed hr) (fun hh => by rw [hbw] at hh; simp at hh)))⟩
            · exact h5.elim
          · refine skip_op (by rw [hw]; simpa using hbw) (next (κ' := κ) h2 ?_)
            exact hR.put (dead := none) hd hR.sim (Goes.refl _ _ _) trivial (.cond _ (fun hh => absurd (by simpa using hh) hbw) (fun _ => rfl))
      · exact h.elim


theorem mapM_app {α β : Type} (f : α → Option β) : ∀ (l : List α) (cs : List β) (n : Nat), l.mapM f = some cs → (l.take n).mapM f = some (cs.take n) ∧ (l.drop n).mapM f = some (cs.drop n)
  | [], cs, n, h => by simp at h; subst h; simp
  | x :: l, cs, 0, h => ⟨by simp, by simpa using h⟩
  | x :: l, cs, n + 1, h => by
    simp only [List.mapM_cons, Option.bind_eq_bind, Option.bind_eq_some_iff] at h
    obtain ⟨c, hc, cs', hcs, h⟩ := h
    simp at h; subst h
    obtain ⟨h1, h2⟩ := mapM_app f l cs' n hcs
    refine ⟨?_, h2⟩
    simp only [List.take_succ_cons, List.mapM_cons, Option.bind_eq_bind, Option.bind_eq_some_iff]
    exact ⟨c, hc, _, h1, rfl⟩
def frzE (t : Nat) (o : MObj) (env : Env) : Env := env.map fun x => (x.1, x.2.frz t o)
def frzMem (t : Nat) (o : MObj) (μ : Mem) : Mem := (μ.map (Option.map (MObj.frz t o))).set t none
theorem SR.frz {C : Ctx} {a : Act} (hR : SR G N C a w κ env μ) (t : Nat) (o : MObj) (hm : μ.get t = some o) (hmv : C.mv t = true) : SR G N C a w (κ.del t) (frzE t o env) (frzMem t o μ) := by
  have hG : Goes w κ w (κ.del t) (fun i => i = t) := Goes.del t
  refine ⟨hR.size, hR.defers, fun i => ?_, hR.sim.frz hm, globs_goes hR.globs hG, hR.goes.trans (hG.weak fun i hi => by rw [hi]; exact hmv)⟩
  have key : ∀ (env : Env) (v : Value), Rep w (PG.own κ) κ v (env.get i) → Rep w (PG.own (κ.del t)) (κ.del t) v (Env.get (env.map fun x => (x.1, x.2.frz t o)) i) := by
    intro env v
    induction env with
    | nil => intro _; exact .junk v
    | cons y e ih =>
      obtain ⟨j, p⟩ := y
      simp only [Env.get, List.map_cons]
      split
      · exact fun h => Rep.frz hR.sim hm h
      · exact ih
  exact key env _ (hR.regs i)
variable {mv : Nat → Bool} {Q : Post}
/-- What is known behind a region's first part: an owned row, or map, is told by value from here on. -/
def frzK (mv : Nat → Bool) (t : Nat) (K : Env → Mem → Prop) (env : Env) (μ : Mem) : Prop := ∃ o, μ.get t = some o ∧ mv t = true ∧ K (frzE t o env) (frzMem t o μ)
theorem frzK.mk {t : Nat} {K : Env → Mem → Prop} {o : MObj} (h1 : μ.get t = some o) (h2 : mv t = true) (h3 : K (frzE t o env) (frzMem t o μ)) : frzK mv t K env μ := ⟨o, h1, h2, h3⟩
/-- A region whose first n operations are walked, then a row of the call's own is frozen, then the others. -/
theorem PW.regionF (n t : Nat) {cs : List CO} {L : List Nat} (h : opsW P G false mv (cs.take n) env μ (frzK mv t fun env' μ' => opsW P G false mv (cs.drop n) env' μ' fun env' μ' => Q .normal (keepE L env') μ')) : PW P G N mv (.region false cs L) env μ Q := by
  intro ow L' code hc _ C a w κ hmv hR
  obtain ⟨id, ops, rfl, hm, rfl, -⟩ := compileC_region hc
  subst hmv
  obtain ⟨h1, h2⟩ := mapM_app _ _ _ n hm
  refine wp_region_list ?_
  rw [← List.take_append_drop n ops.toList]
  refine opsW_sound2 h1 h hR fun env' μ' a' w' κ' hK hR' => ?_
  obtain ⟨o, hg, hmt, hK⟩ := hK
  exact opsW_sound h2 hK (hR'.frz t o hg hmt) fun env' μ' a' w' κ' hK hR' => ⟨_, _, _, hK, hR'.weak (keep_get _ _)⟩
/-- A drawn region whose orders all end alike: what stands behind it is walked once. -/
def mergeQ (E : Env) (M : Mem) : Post := fun e env μ => e = .normal ∧ env = E ∧ μ = M
theorem mergeQ_mk (E : Env) (M : Mem) : mergeQ E M .normal E M := ⟨rfl, rfl, rfl⟩
theorem mergeQ_elim {E : Env} {M : Mem} {Q : Post} (h : Q .normal E M) : ∀ e env μ, mergeQ E M e env μ → Q e env μ := by
  rintro e env μ ⟨rfl, rfl, rfl⟩; exact h
/-- What stands behind, out of sight. -/
theorem PW.seqK {x y : PCode} (h : ∀ K : Post, K = seqQ P G N mv y Q → PW P G N mv x env μ K) : PW P G N mv (.seq x y) env μ Q := PW.seq (h _ rfl)
theorem seqK_n {y : PCode} {K : Post} (hK : K = seqQ P G N mv y Q) (h : PW P G N mv y env μ Q) : K .normal env μ := by rw [hK]; exact h
theorem seqK_r {y : PCode} {K : Post} (hK : K = seqQ P G N mv y Q) (h : Q .ret env μ) : K .ret env μ := by rw [hK]; exact h
theorem seqK_e {y : PCode} {K : Post} {i : Nat} (hK : K = seqQ P G N mv y Q) (h : Q (.exit i) env μ) : K (.exit i) env μ := by rw [hK]; exact h
theorem PW.seqA {s : Sched} {L : List Nat} {y : PCode} {E : Env} {M : Mem} (h : schedW P G mv s env μ fun env' μ' => mergeQ E M .normal (keepE L env') μ') (h2 : PW P G N mv y E M Q) : PW P G N mv (.seq (.regionA s L) y) env μ Q :=
  PW.seq (PW.mono (Q := mergeQ E M) (PW.regionA h) (mergeQ_elim h2))
end
end PG

namespace PG
open Go
set_option linter.unusedSimpArgs false
set_option linter.unusedVariables false
section
variable {P : Program} {G : Globs} {N : Nat} {w : World} {κ : Kap} {env : Env} {μ : Mem} {mv : Nat → Bool} {Q : Post}
theorem Rep.nilto {ex : Nat → Prop} {v : Value} (sh : Sh) (h : Rep w ex κ v .nilSl) : Rep w ex κ v (.list sh []) := by
  cases h with
  | closed h => exact .closed (h.sub (.nil sh))
/-- A nil slice in a slot is an empty list. -/
theorem PW.subE {x : PCode} (sh : Sh) (i : Nat) (hi : env.get i = .nilSl) (h : PW P G N mv x ((i, .list sh []) :: env) μ Q) : PW P G N mv x env μ Q := by
  intro ow L code hc hmix C a w κ hmv hR
  refine h ow L code hc hmix C a w κ hmv ⟨hR.size, hR.defers, fun j => ?_, hR.sim, hR.globs, hR.goes⟩
  simp only [Env.get]
  split
  · rename_i hij
    subst hij
    have := hR.regs i
    rw [hi] at this
    exact this.nilto sh
  · exact hR.regs j
/-- Field by field the same, or nil and an empty list. -/
inductive NilL : List PV → List PV → Prop
  | nil : NilL [] []
  | same {p : PV} {ps qs : List PV} (t : NilL ps qs) : NilL (p :: ps) (p :: qs)
  | nilto (sh : Sh) {ps qs : List PV} (t : NilL ps qs) : NilL (.nilSl :: ps) (.list sh [] :: qs)
theorem NilL.len {ps qs : List PV} (h : NilL ps qs) : ps.length = qs.length := by
  induction h with
  | nil => rfl
  | same _ ih => simp [ih]
  | nilto _ _ ih => simp [ih]
theorem NilL.get {ex : Nat → Prop} {ps qs : List PV} (h : NilL ps qs) : ∀ {j : Nat} {q : PV} {v : Value}, qs[j]? = some q → (∀ p, ps[j]? = some p → Rep w ex κ v p) → Rep w ex κ v q := by
  induction h with
  | nil => intro j q v h _; simp at h
  | same _ ih =>
    intro j q v h hp
    cases j with
    | zero => exact hp q h
    | succ j => exact ih (by simpa using h) (fun p h => hp p (by simpa using h))
  | nilto sh _ ih =>
    intro j q v h hp
    cases j with
    | zero => simp at h; subst h; exact (hp .nilSl (by simp)).nilto sh
    | succ j => exact ih (by simpa using h) (fun p h => hp p (by simpa using h))
/-- Nil slices in a variable's fields are empty lists. -/
theorem PW.subM {x : PCode} (t n : Nat) (ps qs : List PV) (hs : NilL ps qs) (hm : μ.get t = some (.var (some n) (.agg ps))) (h : PW P G N mv x env (μ.set t (some (.var (some n) (.agg qs)))) Q) : PW P G N mv x env μ Q := by
  intro ow L code hc hmix C a w κ hmv hR
  have hg := Mem.get_some hm
  have hlt : t < μ.length := (List.getElem?_eq_some_iff.1 hg).1
  refine h ow L code hc hmix C a w κ hmv ⟨hR.size, hR.defers, hR.regs, ⟨hR.sim.inj, hR.sim.lt, fun i c hic => ?_, fun i o hi => ?_, hR.sim.exlt, hR.sim.exout⟩, hR.globs, hR.goes⟩
  · obtain ⟨o, h1, h2⟩ := hR.sim.live i c hic
    by_cases hit : i = t
    · subst hit
      rw [hg] at h1; cases h1
      refine ⟨_, List.getElem?_set_self hlt, ?_⟩
      cases h2 with
      | var b arr E _ _ hh hsz hsh hr =>
        refine .var b arr E (some n) _ hh hsz ?_ (fun j p v hp hv => ?_)
        · obtain ⟨cs, hcs, hl⟩ := hsh; cases hcs; exact ⟨_, rfl, by rw [← hs.len]; exact hl⟩
        · exact hs.get hp (fun p hp => hr j p v hp hv)
    · exact ⟨o, by rw [List.getElem?_set_ne (Ne.symm hit)]; exact h1, h2⟩
  · by_cases hit : i = t
    · subst hit; exact hR.sim.dead i _ hg
    · rw [List.getElem?_set_ne (Ne.symm hit)] at hi; exact hR.sim.dead i o hi
/-- A call met by a contract: its arguments' print to be shown alike. -/
theorem goCall_W {q : Bool} {d : Option Nat} {rest : List CO} {K : Env → Mem → Prop} {f : Nat} {ps qs as as' : List PV} {res : PV} (hE : Ent P f) (hV : VCalls P G f as' res) (ha : (ps ++ as ++ qs).map (PV.view μ) = as') (hs : ((ps ++ as ++ qs).map (PV.seen μ)).all id = true)
    (hf : res.flat = true ∨ q = false ∧ ((ps ++ as ++ qs).map PV.noOwn).all id = true) (h : opsW P G q mv rest (putE env d res) μ K) : goCall P G q mv d rest env K μ (.fn f ps qs) as :=
  goCall_V hE (by rw [ha]; exact hV) hs hf h
def Gd (b want : Bool) (X : Prop) : Prop := b = want → X
theorem gd_i {b want : Bool} {X : Prop} (h : b = want → X) : Gd b want X := h
theorem goCallG_W {q : Bool} {d : Option Nat} {rest : List CO} {K : Env → Mem → Prop} {b want : Bool} {f : Nat} {ps qs as as' : List PV} {res : PV} (hE : Ent P f) (hV : VCalls P G f as' res) (ha : Gd b want ((ps ++ as.map (PV.under true) ++ qs).map (PV.view μ) = as')) (hok : Gd b want (okAll as))
    (hs : Gd b want (((ps ++ as.map (PV.under true) ++ qs).map (PV.seen μ)).all id = true)) (hf : res.flat = true) (h : opsW P G q mv rest (putE env d (.cond (b == want) res)) μ K) : goCallG P G q mv d rest env K μ b want (.fn f ps qs) as :=
  goCallG_V hE hok (fun e => by rw [ha e]; exact hV) hs hf h
end
end PG

namespace PG
open Go
set_option linter.unusedSimpArgs false
set_option linter.unusedVariables false
section
variable {P : Program} {G : Globs}
theorem flat_scal : ∀ {xs : List PV}, (∀ x ∈ xs, x.scalar = true) → flat xs = xs
  | [], _ => rfl
  | x :: xs, h => by
    have h1 := h x (by simp)
    have h2 := flat_scal (xs := xs) fun y hy => h y (by simp [hy])
    have : x.cells = [x] := by cases x <;> simp_all [PV.cells, PV.scalar]
    simp only [flat, List.flatMap_cons, this] at *
    rw [h2]; rfl
/-- A slice of cells, of new memory. -/
theorem FCalls.row {f : Nat} {args : List PV} {xs : List PV} (E : TypeId) (hx : ∀ x ∈ xs, x.scalar = true ∧ x.flat = true)
    (h : ∀ (w : World) (ex : Nat → Prop) (vs : Array Value), (∀ b, ex b → b < w.heap.size) → GlobsIn w ex G → RepCs w ex vs args →
      Calls P f vs w fun e w' => ∃ v vals, e = .returned v ∧ w'.ownsRow w.heap.size E 1 v xs.length vals ∧ (∀ (j : Nat) (p : PV) (u : Value), xs[j]? = some p → vals[j]? = some u → RepC w' ex u p) ∧ RowKit.Below w.heap.size w w') :
    FCalls P G f args (fun p ν => p = .sl none 0 xs.length ∧ ν = [some (.row none xs)]) := by
  intro w ex vs hex hG hr
  refine (h w ex vs hex hG hr).mono ?_
  rintro e w' ⟨v, vals, rfl, ⟨hl, hv⟩, hval, hB⟩
  rcases hv with ⟨rfl, hz⟩ | ⟨g, cap, cur, rfl, hb, hg, h0, h1, h2, h3⟩
  · have hxs : xs = [] := List.eq_nil_of_length_eq_zero hz
    subst hxs
    let κ' : Kap := ⟨fun t => if t = 0 then some none else none, ex⟩
    have kt : ∀ t c, κ' t = some c → t = 0 ∧ c = none := by
      intro t c ht
      by_cases h0 : t = 0
      · subst h0; exact ⟨rfl, by cases ht; rfl⟩
      · exact absurd ht (by show (if t = 0 then some none else none) ≠ some c; rw [if_neg h0]; exact fun h => by cases h)
    refine ⟨_, _, _, κ', rfl, ⟨rfl, rfl⟩, ⟨?_, ?_, ?_, ?_, ?_, ?_⟩, rfl, .slnil none 0 rfl, hB, ?_⟩
    · intro t t' b h1; have := (kt t _ h1).2; cases this
    · intro t b h1; have := (kt t _ h1).2; cases this
    · intro t c h1
      obtain ⟨rfl, rfl⟩ := kt t c h1
      exact ⟨_, rfl, .nilrow none⟩
    · intro t o h1
      cases t with
      | zero => exact fun h => by cases h
      | succ t => simp at h1
    · intro b h1; have := hex b h1; have := hB.size; omega
    · intro t b h1; have := (kt t _ h1).2; cases this
    · intro t b h1; have := (kt t _ h1).2; cases this
  · let κ' : Kap := ⟨fun t => if t = 0 then some (some g) else none, ex⟩
    have kt : ∀ t c, κ' t = some c → t = 0 ∧ c = some g := by
      intro t c ht
      by_cases h0 : t = 0
      · subst h0; exact ⟨rfl, by cases ht; rfl⟩
      · exact absurd ht (by show (if t = 0 then some (some g) else none) ≠ some c; rw [if_neg h0]; exact fun h => by cases h)
    have hgl : g < w'.heap.size := (Array.getElem?_eq_some_iff.1 hg).1
    have hfl : flat xs = xs := flat_scal fun x h => (hx x h).1
    have h2' : cur.size = cap * Sh.size none := by simpa [Sh.size] using h2
    refine ⟨_, _, _, κ', rfl, ⟨rfl, rfl⟩, ⟨?_, ?_, ?_, ?_, ?_, ?_⟩, rfl, .sl none 0 _ g cap rfl ⟨E, ?_⟩ h0 h1, hB, ?_⟩
    · intro t t' b q1 q2; rw [(kt t _ q1).1, (kt t' _ q2).1]
    · intro t b q1; have := (kt t _ q1).2; cases this; exact hgl
    · intro t c q1
      obtain ⟨rfl, rfl⟩ := kt t c q1
      refine ⟨_, rfl, .row g cur E cap none xs hg h2' h1 (by omega) (fun x h => (hx x h).1) (fun j p u hp hu => ?_)⟩
      rw [hfl] at hp
      refine repC_flat (hval j p u hp ?_) (hx p (List.mem_of_getElem? hp)).2
      have hj : j < xs.length := (List.getElem?_eq_some_iff.1 hp).1
      rw [← h3, List.getElem?_take_of_lt (by omega)]
      simpa using hu
    · intro t o q1
      cases t with
      | zero => exact fun h => by cases h
      | succ t => simp at q1
    · intro b q1; have := hex b q1; have := hB.size; omega
    · intro t b q1 q2; have := hex b q2; have := (kt t _ q1).2; cases this; omega
    · unfold World.shape?; rw [hg]; simp [h2']
    · intro t b q1; have := (kt t _ q1).2; cases this; exact hb
/-- .. and told as a value. -/
theorem FCalls.val {f : Nat} {args : List PV} {R : PV → Mem → Prop} {res : PV} (h : FCalls P G f args R) (hR : ∀ p ν, R p ν → p.seen ν = true ∧ p.view ν = res) : VCalls P G f args res := by
  intro w ex vs hex hG hr
  refine (h w ex vs hex hG hr).mono ?_
  rintro e w' ⟨v, p, ν, κ', rfl, hp, hS, hx, hv, hB, -⟩
  obtain ⟨h1, h2⟩ := hR p ν hp
  have := rep_view hS hv h1
  rw [h2, hx] at this
  exact ⟨v, rfl, hB, this⟩
/-- A guarded call whose result is memory: what it is handed is nobody's. -/
theorem goCallG_N {q : Bool} {mv : Nat → Bool} {env : Env} {μ : Mem} {d : Option Nat} {rest : List CO} {K : Env → Mem → Prop} {as : List PV} {b want : Bool} {f : Nat} {ps qs : List PV} {res : PV} (hE : Ent P f) (hok : b = want → okAll as) (hV : b = want → VCalls P G f ((ps ++ as.map (PV.under true) ++ qs).map (PV.view μ)) res)
    (hs : b = want → ((ps ++ as.map (PV.under true) ++ qs).map (PV.seen μ)).all id = true) (hn : b = want → ((ps ++ as.map (PV.under true) ++ qs).map PV.noOwn).all id = true) (hq : q = false)
    (h : opsW P G q mv rest (putE env d (.cond (b == want) res)) μ K) : goCallG P G q mv d rest env K μ b want (.fn f ps qs) as :=
  ⟨res, fun hb => ⟨trivial, hok hb, ⟨hE, hV hb, hs hb, .inr (hn hb)⟩, fun e => by rw [hq] at e; cases e⟩, h⟩
end
end PG

