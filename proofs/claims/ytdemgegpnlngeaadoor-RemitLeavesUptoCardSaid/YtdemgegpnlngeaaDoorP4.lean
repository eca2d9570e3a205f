import Derived.Test.YtdemgegpnlngeaaDoorP3
namespace PG
open Go
set_option linter.unusedSimpArgs false
set_option linter.unusedVariables false
section
variable {P : Program} {G : Globs} {N : Nat} {w : World} {κ : Kap} {env : Env} {μ : Mem} {mv : Nat → Bool} {Q : Post}
theorem Rep.nilto {ex : Nat → Prop} {v : Value} (sh : Sh) (h : Rep w ex κ v .nilSl) : Rep w ex κ v (.list sh []) := by
  cases h with
  | closed h => exact .closed (h.sub (.nil sh))
/-- A nil slice in a slot is an empty list. -/
theorem PW.subE {x : PCode} (sh : Sh) (i : Nat) (hi : env.get i = .nilSl) (h : PW P G N mv x ((i, .list sh []) :: env) μ Q) : PW P G N mv x env μ Q := by
  intro ow L code hc hmix C a w κ hmv hR
  refine h ow L code hc hmix C a w κ hmv ⟨hR.size, hR.defers, fun j => ?_, hR.sim, hR.globs, hR.goes⟩
  simp only [Env.get]
  split
  · rename_i hij
    subst hij
    have := hR.regs i
    rw [hi] at this
    exact this.nilto sh
  · exact hR.regs j
/-- Field by field the same, or nil and an empty list. -/
inductive NilL : List PV → List PV → Prop
  | nil : NilL [] []
  | same {p : PV} {ps qs : List PV} (t : NilL ps qs) : NilL (p :: ps) (p :: qs)
  | nilto (sh : Sh) {ps qs : List PV} (t : NilL ps qs) : NilL (.nilSl :: ps) (.list sh [] :: qs)
theorem NilL.len {ps qs : List PV} (h : NilL ps qs) : ps.length = qs.length := by
  induction h with
  | nil => rfl
  | same _ ih => simp [ih]
  | nilto _ _ ih => simp [ih]
theorem NilL.get {ex : Nat → Prop} {ps qs : List PV} (h : NilL ps qs) : ∀ {j : Nat} {q : PV} {v : Value}, qs[j]? = some q → (∀ p, ps[j]? = some p → Rep w ex κ v p) → Rep w ex κ v q := by
  induction h with
  | nil => intro j q v h _; simp at h
  | same _ ih =>
    intro j q v h hp
    cases j with
    | zero => exact hp q h
    | succ j => exact ih (by simpa using h) (fun p h => hp p (by simpa using h))
  | nilto sh _ ih =>
    intro j q v h hp
    cases j with
    | zero => simp at h; subst h; exact (hp .nilSl (by simp)).nilto sh
    | succ j => exact ih (by simpa using h) (fun p h => hp p (by simpa using h))
/-- Nil slices in a variable's fields are empty lists. -/
theorem PW.subM {x : PCode} (t n : Nat) (ps qs : List PV) (hs : NilL ps qs) (hm : μ.get t = some (.var (some n) (.agg ps))) (h : PW P G N mv x env (μ.set t (some (.var (some n) (.agg qs)))) Q) : PW P G N mv x env μ Q := by
  intro ow L code hc hmix C a w κ hmv hR
  have hg := Mem.get_some hm
  have hlt : t < μ.length := (List.getElem?_eq_some_iff.1 hg).1
  refine h ow L code hc hmix C a w κ hmv ⟨hR.size, hR.defers, hR.regs, ⟨hR.sim.inj, hR.sim.lt, fun i c hic => ?_, fun i o hi => ?_, hR.sim.exlt, hR.sim.exout⟩, hR.globs, hR.goes⟩
  · obtain ⟨o, h1, h2⟩ := hR.sim.live i c hic
    by_cases hit : i = t
    · subst hit
      rw [hg] at h1; cases h1
      refine ⟨_, List.getElem?_set_self hlt, ?_⟩
      cases h2 with
      | var b arr E _ _ hh hsz hsh hr =>
        refine .var b arr E (some n) _ hh hsz ?_ (fun j p v hp hv => ?_)
        · obtain ⟨cs, hcs, hl⟩ := hsh; cases hcs; exact ⟨_, rfl, by rw [← hs.len]; exact hl⟩
        · exact hs.get hp (fun p hp => hr j p v hp hv)
    · exact ⟨o, by rw [List.getElem?_set_ne (Ne.symm hit)]; exact h1, h2⟩
  · by_cases hit : i = t
    · subst hit; exact hR.sim.dead i _ hg
    · rw [List.getElem?_set_ne (Ne.symm hit)] at hi; exact hR.sim.dead i o hi
theorem goCallG_skip {q : Bool} {d : Option Nat} {rest : List CO} {K : Env → Mem → Prop} {b want : Bool} {f : PV} {as : List PV} (hb : (b == want) = false) (h : opsW P G q mv rest (putE env d (.cond (b == want) .junk)) μ K) : goCallG P G q mv d rest env K μ b want f as := by
  unfold goCallG
  exact ⟨.junk, fun e => absurd hb (by rw [e]; simp), h⟩
/-- A call met by a contract: its arguments' print to be shown alike. -/
theorem goCall_W {q : Bool} {d : Option Nat} {rest : List CO} {K : Env → Mem → Prop} {f : Nat} {ps qs as as' : List PV} {res : PV} (hE : Ent P f) (hV : VCalls P G f as' res) (ha : (ps ++ as ++ qs).map (PV.view μ) = as') (hs : ((ps ++ as ++ qs).map (PV.seen μ)).all id = true)
    (hf : res.flat = true ∨ q = false ∧ ((ps ++ as ++ qs).map PV.noOwn).all id = true) (h : opsW P G q mv rest (putE env d res) μ K) : goCall P G q mv d rest env K μ (.fn f ps qs) as :=
  goCall_V hE (by rw [ha]; exact hV) hs hf h
def Gd (b want : Bool) (X : Prop) : Prop := b = want → X
theorem gd_i {b want : Bool} {X : Prop} (h : b = want → X) : Gd b want X := h
theorem goCallG_W {q : Bool} {d : Option Nat} {rest : List CO} {K : Env → Mem → Prop} {b want : Bool} {f : Nat} {ps qs as as' : List PV} {res : PV} (hE : Ent P f) (hV : VCalls P G f as' res) (ha : Gd b want ((ps ++ as.map (PV.under true) ++ qs).map (PV.view μ) = as')) (hok : Gd b want (okAll as))
    (hs : Gd b want (((ps ++ as.map (PV.under true) ++ qs).map (PV.seen μ)).all id = true)) (hf : res.flat = true) (h : opsW P G q mv rest (putE env d (.cond (b == want) res)) μ K) : goCallG P G q mv d rest env K μ b want (.fn f ps qs) as :=
  goCallG_V hE hok (fun e => by rw [ha e]; exact hV) hs hf h
end
end PG

