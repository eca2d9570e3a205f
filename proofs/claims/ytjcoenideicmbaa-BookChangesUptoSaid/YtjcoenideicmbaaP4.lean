import Derived.Laws.AppendOwn
import Derived.Sort.OwnSorted
import Derived.Test.YtjcoenideicmbaaP3
namespace PG
open Go
set_option linter.unusedSimpArgs false
set_option linter.unusedVariables false
section
variable {P : Program} {G : Globs} {N : Nat} {C : Ctx} {a : Act} {w : World} {κ : Kap} {env : Env} {μ : Mem}
def frzE (t : Nat) (o : MObj) (env : Env) : Env := env.map fun x => (x.1, x.2.frz t o)
def frzMem (t : Nat) (o : MObj) (μ : Mem) : Mem := (μ.map (Option.map (MObj.frz t o))).set t none
theorem SR.frz {C : Ctx} {a : Act} (hR : SR G N C a w κ env μ) (t : Nat) (o : MObj) (hm : μ.get t = some o) (hmv : C.mv t = true) : SR G N C a w (κ.del t) (frzE t o env) (frzMem t o μ) := by
  have hG : Goes w κ w (κ.del t) (fun i => i = t) := Goes.del t
  refine ⟨hR.size, hR.defers, fun i => ?_, hR.sim.frz hm, globs_goes hR.globs hG, hR.goes.trans (hG.weak fun i hi => by rw [hi]; exact hmv)⟩
  have key : ∀ (env : Env) (v : Value), Rep w (PG.own κ) κ v (env.get i) → Rep w (PG.own (κ.del t)) (κ.del t) v (Env.get (env.map fun x => (x.1, x.2.frz t o)) i) := by
    intro env v
    induction env with
    | nil => intro _; exact .junk v
    | cons y e ih =>
      obtain ⟨j, p⟩ := y
      simp only [Env.get, List.map_cons]
      split
      · exact fun h => Rep.frz hR.sim hm h
      · exact ih
  exact key env _ (hR.regs i)
variable {mv : Nat → Bool} {Q : Post}
/-- What is known behind a region's first part: an owned row, or map, is told by value from here on. -/
def frzK (mv : Nat → Bool) (t : Nat) (K : Env → Mem → Prop) (env : Env) (μ : Mem) : Prop := ∃ o, μ.get t = some o ∧ mv t = true ∧ K (frzE t o env) (frzMem t o μ)
theorem frzK.mk {t : Nat} {K : Env → Mem → Prop} {o : MObj} (h1 : μ.get t = some o) (h2 : mv t = true) (h3 : K (frzE t o env) (frzMem t o μ)) : frzK mv t K env μ := ⟨o, h1, h2, h3⟩
/-- A drawn region whose orders all end alike: what stands behind it is walked once. -/
def mergeQ (E : Env) (M : Mem) : Post := fun e env μ => e = .normal ∧ env = E ∧ μ = M
theorem mergeQ_mk (E : Env) (M : Mem) : mergeQ E M .normal E M := ⟨rfl, rfl, rfl⟩
theorem mergeQ_elim {E : Env} {M : Mem} {Q : Post} (h : Q .normal E M) : ∀ e env μ, mergeQ E M e env μ → Q e env μ := by
  rintro e env μ ⟨rfl, rfl, rfl⟩; exact h
/-- What stands behind, out of sight. -/
theorem PW.seqK {x y : PCode} (h : ∀ K : Post, K = seqQ P G N mv y Q → PW P G N mv x env μ K) : PW P G N mv (.seq x y) env μ Q := PW.seq (h _ rfl)
theorem seqK_n {y : PCode} {K : Post} (hK : K = seqQ P G N mv y Q) (h : PW P G N mv y env μ Q) : K .normal env μ := by rw [hK]; exact h
theorem seqK_r {y : PCode} {K : Post} (hK : K = seqQ P G N mv y Q) (h : Q .ret env μ) : K .ret env μ := by rw [hK]; exact h
theorem seqK_e {y : PCode} {K : Post} {i : Nat} (hK : K = seqQ P G N mv y Q) (h : Q (.exit i) env μ) : K (.exit i) env μ := by rw [hK]; exact h
theorem PW.seqA {s : Sched} {L : List Nat} {y : PCode} {E : Env} {M : Mem} (h : schedW P G mv s env μ fun env' μ' => mergeQ E M .normal (keepE L env') μ') (h2 : PW P G N mv y E M Q) : PW P G N mv (.seq (.regionA s L) y) env μ Q :=
  PW.seq (PW.mono (Q := mergeQ E M) (PW.regionA h) (mergeQ_elim h2))
end
end PG

namespace PG
open Go
set_option linter.unusedSimpArgs false
set_option linter.unusedVariables false
section
variable {P : Program} {G : Globs} {N : Nat} {w : World} {κ : Kap} {env : Env} {μ : Mem} {mv : Nat → Bool} {Q : Post}
theorem Rep.nilto {ex : Nat → Prop} {v : Value} (sh : Sh) (h : Rep w ex κ v .nilSl) : Rep w ex κ v (.list sh []) := by
  cases h with
  | closed h => exact .closed (h.sub (.nil sh))
/-- A nil slice in a slot is an empty list. -/
theorem PW.subE {x : PCode} (sh : Sh) (i : Nat) (hi : env.get i = .nilSl) (h : PW P G N mv x ((i, .list sh []) :: env) μ Q) : PW P G N mv x env μ Q := by
  intro ow L code hc hmix C a w κ hmv hR
  refine h ow L code hc hmix C a w κ hmv ⟨hR.size, hR.defers, fun j => ?_, hR.sim, hR.globs, hR.goes⟩
  simp only [Env.get]
  split
  · rename_i hij
    subst hij
    have := hR.regs i
    rw [hi] at this
    exact this.nilto sh
  · exact hR.regs j
/-- Field by field the same, or nil and an empty list. -/
inductive NilL : List PV → List PV → Prop
  | nil : NilL [] []
  | same {p : PV} {ps qs : List PV} (t : NilL ps qs) : NilL (p :: ps) (p :: qs)
  | nilto (sh : Sh) {ps qs : List PV} (t : NilL ps qs) : NilL (.nilSl :: ps) (.list sh [] :: qs)
theorem NilL.len {ps qs : List PV} (h : NilL ps qs) : ps.length = qs.length := by
  induction h with
  | nil => rfl
  | same _ ih => simp [ih]
  | nilto _ _ ih => simp [ih]
theorem NilL.get {ex : Nat → Prop} {ps qs : List PV} (h : NilL ps qs) : ∀ {j : Nat} {q : PV} {v : Value}, qs[j]? = some q → (∀ p, ps[j]? = some p → Rep w ex κ v p) → Rep w ex κ v q := by
  induction h with
  | nil => intro j q v h _; simp at h
  | same _ ih =>
    intro j q v h hp
    cases j with
    | zero => exact hp q h
    | succ j => exact ih (by simpa using h) (fun p h => hp p (by simpa using h))
  | nilto sh _ ih =>
    intro j q v h hp
    cases j with
    | zero => simp at h; subst h; exact (hp .nilSl (by simp)).nilto sh
    | succ j => exact ih (by simpa using h) (fun p h => hp p (by simpa using h))
theorem goCallG_skip {q : Bool} {d : Option Nat} {rest : List CO} {K : Env → Mem → Prop} {b want : Bool} {f : PV} {as : List PV} (hb : (b == want) = false) (h : opsW P G q mv rest (putE env d (.cond (b == want) .junk)) μ K) : goCallG P G q mv d rest env K μ b want f as := by
  unfold goCallG
  exact ⟨.junk, fun e => absurd hb (by rw [e]; simp), h⟩
/-- A call met by a contract: its arguments' print to be shown alike. -/
theorem goCall_W {q : Bool} {d : Option Nat} {rest : List CO} {K : Env → Mem → Prop} {f : Nat} {ps qs as as' : List PV} {res : PV} (hE : Ent P f) (hV : VCalls P G f as' res) (ha : (ps ++ as ++ qs).map (PV.view μ) = as') (hs : ((ps ++ as ++ qs).map (PV.seen μ)).all id = true)
    (hf : res.flat = true ∨ q = false ∧ ((ps ++ as ++ qs).map PV.noOwn).all id = true) (h : opsW P G q mv rest (putE env d res) μ K) : goCall P G q mv d rest env K μ (.fn f ps qs) as :=
  goCall_V hE (by rw [ha]; exact hV) hs hf h
def Gd (b want : Bool) (X : Prop) : Prop := b = want → X
theorem gd_i {b want : Bool} {X : Prop} (h : b = want → X) : Gd b want X := h
theorem goCallG_W {q : Bool} {d : Option Nat} {rest : List CO} {K : Env → Mem → Prop} {b want : Bool} {f : Nat} {ps qs as as' : List PV} {res : PV} (hE : Ent P f) (hV : VCalls P G f as' res) (ha : Gd b want ((ps ++ as.map (PV.under true) ++ qs).map (PV.view μ) = as')) (hok : Gd b want (okAll as))
    (hs : Gd b want (((ps ++ as.map (PV.under true) ++ qs).map (PV.seen μ)).all id = true)) (hf : res.flat = true) (h : opsW P G q mv rest (putE env d (.cond (b == want) res)) μ K) : goCallG P G q mv d rest env K μ b want (.fn f ps qs) as :=
  goCallG_V hE hok (fun e => by rw [ha e]; exact hV) hs hf h
end
end PG

namespace PG
open Go
set_option linter.unusedSimpArgs false
set_option linter.unusedVariables false
section
variable {P : Program} {G : Globs}
theorem flat_scal : ∀ {xs : List PV}, (∀ x ∈ xs, x.scalar = true) → flat xs = xs
  | [], _ => rfl
  | x :: xs, h => by
    have h1 := h x (by simp)
    have h2 := flat_scal (xs := xs) fun y hy => h y (by simp [hy])
    have : x.cells = [x] := by cases x <;> simp_all [PV.cells, PV.scalar]
    simp only [flat, List.flatMap_cons, this] at *
    rw [h2]; rfl
/-- A slice of cells, of new memory. -/
theorem FCalls.row {f : Nat} {args : List PV} {xs : List PV} (E : TypeId) (hx : ∀ x ∈ xs, x.scalar = true ∧ x.flat = true)
    (h : ∀ (w : World) (ex : Nat → Prop) (vs : Array Value), (∀ b, ex b → b < w.heap.size) → GlobsIn w ex G → RepCs w ex vs args →
      Calls P f vs w fun e w' => ∃ v vals, e = .returned v ∧ w'.ownsRow w.heap.size E 1 v xs.length vals ∧ (∀ (j : Nat) (p : PV) (u : Value), xs[j]? = some p → vals[j]? = some u → RepC w' ex u p) ∧ RowKit.Below w.heap.size w w') :
    FCalls P G f args (fun p ν => p = .sl none 0 xs.length ∧ ν = [some (.row none xs)]) := by
  intro w ex vs hex hG hr
  refine (h w ex vs hex hG hr).mono ?_
  rintro e w' ⟨v, vals, rfl, ⟨hl, hv⟩, hval, hB⟩
  rcases hv with ⟨rfl, hz⟩ | ⟨g, cap, cur, rfl, hb, hg, h0, h1, h2, h3⟩
  · have hxs : xs = [] := List.eq_nil_of_length_eq_zero hz
    subst hxs
    let κ' : Kap := ⟨fun t => if t = 0 then some none else none, ex⟩
    have kt : ∀ t c, κ' t = some c → t = 0 ∧ c = none := by
      intro t c ht
      by_cases h0 : t = 0
      · subst h0; exact ⟨rfl, by cases ht; rfl⟩
      · exact absurd ht (by show (if t = 0 then some none else none) ≠ some c; rw [if_neg h0]; exact fun h => by cases h)
    refine ⟨_, _, _, κ', rfl, ⟨rfl, rfl⟩, ⟨?_, ?_, ?_, ?_, ?_, ?_⟩, rfl, .slnil none 0 rfl, hB, ?_⟩
    · intro t t' b h1; have := (kt t _ h1).2; cases this
    · intro t b h1; have := (kt t _ h1).2; cases this
    · intro t c h1
      obtain ⟨rfl, rfl⟩ := kt t c h1
      exact ⟨_, rfl, .nilrow none⟩
    · intro t o h1
      cases t with
      | zero => exact fun h => by cases h
      | succ t => simp at h1
    · intro b h1; have := hex b h1; have := hB.size; omega
    · intro t b h1; have := (kt t _ h1).2; cases this
    · intro t b h1; have := (kt t _ h1).2; cases this
  · let κ' : Kap := ⟨fun t => if t = 0 then some (some g) else none, ex⟩
    have kt : ∀ t c, κ' t = some c → t = 0 ∧ c = some g := by
      intro t c ht
      by_cases h0 : t = 0
      · subst h0; exact ⟨rfl, by cases ht; rfl⟩
      · exact absurd ht (by show (if t = 0 then some (some g) else none) ≠ some c; rw [if_neg h0]; exact fun h => by cases h)
    have hgl : g < w'.heap.size := (Array.getElem?_eq_some_iff.1 hg).1
    have hfl : flat xs = xs := flat_scal fun x h => (hx x h).1
    have h2' : cur.size = cap * Sh.size none := by simpa [Sh.size] using h2
    refine ⟨_, _, _, κ', rfl, ⟨rfl, rfl⟩, ⟨?_, ?_, ?_, ?_, ?_, ?_⟩, rfl, .sl none 0 _ g cap rfl ⟨E, ?_⟩ h0 h1, hB, ?_⟩
    · intro t t' b q1 q2; rw [(kt t _ q1).1, (kt t' _ q2).1]
    · intro t b q1; have := (kt t _ q1).2; cases this; exact hgl
    · intro t c q1
      obtain ⟨rfl, rfl⟩ := kt t c q1
      refine ⟨_, rfl, .row g cur E cap none xs hg h2' h1 (by omega) (fun x h => (hx x h).1) (fun j p u hp hu => ?_)⟩
      rw [hfl] at hp
      refine repC_flat (hval j p u hp ?_) (hx p (List.mem_of_getElem? hp)).2
      have hj : j < xs.length := (List.getElem?_eq_some_iff.1 hp).1
      rw [← h3, List.getElem?_take_of_lt (by omega)]
      simpa using hu
    · intro t o q1
      cases t with
      | zero => exact fun h => by cases h
      | succ t => simp at q1
    · intro b q1; have := hex b q1; have := hB.size; omega
    · intro t b q1 q2; have := hex b q2; have := (kt t _ q1).2; cases this; omega
    · unfold World.shape?; rw [hg]; simp [h2']
    · intro t b q1; have := (kt t _ q1).2; cases this; exact hb
/-- .. and told as a value. -/
theorem FCalls.val {f : Nat} {args : List PV} {R : PV → Mem → Prop} {res : PV} (h : FCalls P G f args R) (hR : ∀ p ν, R p ν → p.seen ν = true ∧ p.view ν = res) : VCalls P G f args res := by
  intro w ex vs hex hG hr
  refine (h w ex vs hex hG hr).mono ?_
  rintro e w' ⟨v, p, ν, κ', rfl, hp, hS, hx, hv, hB, -⟩
  obtain ⟨h1, h2⟩ := hR p ν hp
  have := rep_view hS hv h1
  rw [h2, hx] at this
  exact ⟨v, rfl, hB, this⟩
/-- A guarded call whose result is memory: what it is handed is nobody's. -/
theorem goCallG_N {q : Bool} {mv : Nat → Bool} {env : Env} {μ : Mem} {d : Option Nat} {rest : List CO} {K : Env → Mem → Prop} {as : List PV} {b want : Bool} {f : Nat} {ps qs : List PV} {res : PV} (hE : Ent P f) (hok : b = want → okAll as) (hV : b = want → VCalls P G f ((ps ++ as.map (PV.under true) ++ qs).map (PV.view μ)) res)
    (hs : b = want → ((ps ++ as.map (PV.under true) ++ qs).map (PV.seen μ)).all id = true) (hn : b = want → ((ps ++ as.map (PV.under true) ++ qs).map PV.noOwn).all id = true) (hq : q = false)
    (h : opsW P G q mv rest (putE env d (.cond (b == want) res)) μ K) : goCallG P G q mv d rest env K μ b want (.fn f ps qs) as :=
  ⟨res, fun hb => ⟨trivial, hok hb, ⟨hE, hV hb, hs hb, .inr (hn hb)⟩, fun e => by rw [hq] at e; cases e⟩, h⟩
end
end PG

namespace PG
open Go
set_option linter.unusedSimpArgs false
set_option linter.unusedVariables false
section
variable {P : Program} {G : Globs} {N : Nat} {w w' : World} {κ : Kap} {env : Env} {μ : Mem} {mv : Nat → Bool} {Q : Post}

theorem Sim.swap (hS : Sim w κ μ) {t : Nat} {o o' : MObj} (hm : μ.get t = some o) (h : ∀ c, ORep w (own κ) κ c o → ORep w (own κ) κ c o') : Sim w κ (μ.set t (some o')) := by
  have hg := Mem.get_some hm
  have hlt : t < μ.length := (List.getElem?_eq_some_iff.1 hg).1
  refine ⟨hS.inj, hS.lt, fun i c hic => ?_, fun i o'' hi => ?_, hS.exlt, hS.exout⟩
  · obtain ⟨o1, h1, h2⟩ := hS.live i c hic
    by_cases hit : i = t
    · subst hit
      rw [hg] at h1; cases h1
      exact ⟨_, List.getElem?_set_self hlt, h c h2⟩
    · exact ⟨o1, by rw [List.getElem?_set_ne (Ne.symm hit)]; exact h1, h2⟩
  · by_cases hit : i = t
    · subst hit; exact hS.dead i _ hg
    · rw [List.getElem?_set_ne (Ne.symm hit)] at hi; exact hS.dead i o'' hi

/-- A map of closed elements as one whose elements may be the call's own. -/
theorem PW.toMpo {x : PCode} (t : Nat) (kd : KK) (es : List (PV × PV)) (hm : μ.get t = some (.mp kd es)) (h : PW P G N mv x env (μ.set t (some (.mpo kd es))) Q) : PW P G N mv x env μ Q := by
  intro ow L code hc hmix C a w κ hmv hR
  refine h ow L code hc hmix C a w κ hmv ⟨hR.size, hR.defers, hR.regs, hR.sim.swap hm fun c hO => ?_, hR.globs, hR.goes⟩
  cases hO with
  | mp b _ _ ents clock h hs hB hkd hk hv => exact .mpo b kd es ents clock h hs hB hkd hk (fun i e q a b => .closed (hv i e q a b))

/-- .. and back, where none is. -/
theorem PW.toMp {x : PCode} (t : Nat) (kd : KK) (es : List (PV × PV)) (hm : μ.get t = some (.mpo kd es)) (hno : ∀ q ∈ es, q.2.noOwn = true) (h : PW P G N mv x env (μ.set t (some (.mp kd es))) Q) : PW P G N mv x env μ Q := by
  intro ow L code hc hmix C a w κ hmv hR
  refine h ow L code hc hmix C a w κ hmv ⟨hR.size, hR.defers, hR.regs, hR.sim.swap hm fun c hO => ?_, hR.globs, hR.goes⟩
  cases hO with
  | mpo b _ _ ents clock h hs hB hkd hk hv => exact .mp b kd es ents clock h hs hB hkd hk (fun i e q a b => rep_noOwn (hv i e q a b) (hno q (List.mem_of_getElem? b)))

/-- The first n objects are kept, no more is said of the others. -/
theorem PW.trim {x : PCode} (n : Nat) (hmv : ∀ t, n ≤ t → mv t = true) (h : PW P G N mv x (trimE n env) (trimM n μ) Q) : PW P G N mv x env μ Q := by
  intro ow L code hc hmix C a w κ hC hR
  exact h ow L code hc hmix C a w _ hC (hR.trim n (by rw [hC]; exact hmv))

/-! ### Rows that the library writes -/
theorem Sim.putRow (hS : Sim w κ μ) {t b : Nat} {o o1 : MObj} (hk : κ t = some (some b)) (hm : μ.get t = some o) (hos : w'.os = w.os) (htp : w'.tape = w.tape) (hou : w'.output = w.output) (hsz : w.heap.size ≤ w'.heap.size)
    (hw : ∀ k, k < w.heap.size → k ≠ b → w'.heap[k]? = w.heap[k]?) (hsh : ∀ s, w.shape? b = some s → w'.shape? b = some s) (ho : Goes w κ w' κ (fun _ => False) → ORep w' (own κ) κ (some b) o1) :
    Sim w' κ (μ.set t (some o1)) ∧ Goes w κ w' κ (fun _ => False) := by
  have hG : Goes w κ w' κ (fun _ => False) := by
    refine ⟨hos, htp, hou, hsz, rfl, fun k hkl hn => hw k hkl (fun e => hn ⟨t, by rw [e]; exact hk⟩), fun _ _ h => h, fun k s hs => ?_, fun _ _ h _ => h⟩
    by_cases e : k = b
    · subst e; exact hsh s hs
    · have hkl : k < w.heap.size := by
        unfold World.shape? at hs
        rcases Nat.lt_or_ge k w.heap.size with h | h
        · exact h
        · simp [Array.getElem?_eq_none h] at hs
      rw [shape?_of_block (hw k hkl e)]; exact hs
  have hg := Mem.get_some hm
  have hlt : t < μ.length := (List.getElem?_eq_some_iff.1 hg).1
  refine ⟨⟨hS.inj, fun i c h => Nat.lt_of_lt_of_le (hS.lt i c h) hsz, fun i c hic => ?_, fun i o'' hi => ?_, fun k h => Nat.lt_of_lt_of_le (hS.exlt k h) hsz, hS.exout⟩, hG⟩
  · obtain ⟨o2, h1, h2⟩ := hS.live i c hic
    by_cases hit : i = t
    · subst hit
      rw [hk] at hic; cases hic
      exact ⟨_, List.getElem?_set_self hlt, ho hG⟩
    · refine ⟨o2, by rw [List.getElem?_set_ne (Ne.symm hit)]; exact h1, ORep.still hG (fun k e => ?_) h2⟩
      subst e
      exact hw k (hS.lt i k hic) (fun e => hit (by subst e; exact hS.inj i t k hic hk))
  · by_cases hit : i = t
    · subst hit; exact hS.dead i _ hg
    · rw [List.getElem?_set_ne (Ne.symm hit)] at hi; exact hS.dead i o'' hi

theorem heap_put {α : Type} [Inhabited α] {enc : α → Value} {w : World} {g n : Nat} {os : Array Obj} {cur : Array Value} {e : TypeId} {fr : Nat × Nat} (d : Array α) (hb : w.heap[g]? = some (.cells cur e fr)) :
    (Sort.grow (Sort.putRow enc (Sort.ahead w n) g 0 d) os).heap[g]? = some (.cells (Sort.putCells enc 0 d cur) e fr) := by
  have hg : g < w.heap.size := (Array.getElem?_eq_some_iff.1 hb).1
  rw [Sort.heap_grow_old _ _ (by simpa using hg)]
  simp [Sort.putRow, Sort.mapBlock, Sort.ahead, Array.getElem?_modify, hb, Sort.onCells]
theorem grown_put {α : Type} [Inhabited α] {enc : α → Value} {w : World} {g n : Nat} {os : Array Obj} (d : Array α) : w.grownBy (Sort.grow (Sort.putRow enc (Sort.ahead w n) g 0 d) os) (some g) := by
  refine ⟨rfl, rfl, rfl, by simp, fun k hk hne => ?_⟩
  rw [Sort.heap_grow_old _ _ (by simpa using hk)]
  have : g ≠ k := fun e => hne (by rw [e])
  simp [Sort.putRow, Sort.mapBlock, Sort.ahead, Array.getElem?_modify, this]

/-- A function of the library that writes a row of the call's own, whole: what it hands back, and what the row then holds. -/
theorem PCalls.row {α : Type} [Inhabited α] {enc : α → Value} {pv : α → PV} (hrep : ∀ w ex a, RepC w ex (enc a) (pv a)) (hfl : ∀ a, (pv a).flat = true ∧ (pv a).scalar = true) {f : Nat} {t : Nat} {d d' : List α} (hl : d'.length = d.length) (hm : μ.get t = some (.row none (d.map pv)))
    {rv : Option Addr → Nat → Value} {rp : PV}
    (h1 : ∀ (blk off cap : Nat) (w : World), Sort.Holds enc w blk off d.toArray → blk < w.heap.size → d.length ≤ cap → Calls P f #[.slice (some ⟨blk, off, none⟩) d.length cap] w fun e w' => e = .returned (rv (some ⟨blk, off, none⟩) cap) ∧ ∃ n os, w' = Sort.grow (Sort.putRow enc (Sort.ahead w n) blk off d'.toArray) os)
    (h0 : d = [] → ∀ (w : World), Calls P f #[.slice none 0 0] w fun e w' => e = .returned (rv none 0) ∧ w' = w)
    (hr : ∀ (w : World) (κ : Kap) (a : Option Addr) (cap : Nat), Rep w (own κ) κ (.slice a d.length cap) (.sl none t d.length) → Rep w (own κ) κ (rv a cap) rp) :
    PCalls P G f [.sl none t d.length] μ (fun _ => false) (fun p μ' => p = rp ∧ μ' = μ.set t (some (.row none (d'.map pv)))) := by
  intro w κ vs hS hG hv
  obtain ⟨hvs, hv⟩ := hv
  obtain ⟨L⟩ := vs
  match L, hvs with
  | [v], _ =>
  have hv0 := hv 0 v _ rfl rfl
  have hv1 := hv0
  obtain ⟨c, hc, hO⟩ := hS.at hm
  obtain ⟨n0, hn0⟩ : ∃ n0, n0 = d.length := ⟨_, rfl⟩
  rw [← hn0] at hv0
  cases hv0 with
  | closed h => cases h
  | sl _ _ _ b cap hb hs hlc hmc =>
    subst hn0
    rw [hb] at hc; cases hc
    cases hO with
    | row _ cur E cap' _ _ hh hcs hm' hl' hfit hrr =>
      have hflat : flat (d.map pv) = d.map pv := flat_scal fun x hx => by obtain ⟨a, -, rfl⟩ := List.mem_map.1 hx; exact (hfl a).2
      have hcur : cur.size = cap' := by rw [hcs]; simp [Sh.size]
      have hld : d.length ≤ cap' := by simpa using hl'
      have hat : ∀ j (hj : j < d.length), cur[j]? = some (enc d[j]) := by
        intro j hj
        have hjc : j < cur.size := by omega
        have := hrr j (pv d[j]) cur[j] (by rw [hflat]; simp [hj]) (by simp [hjc])
        rw [Array.getElem?_eq_getElem hjc]
        congr 1
        exact repC_uniq (hrep w (own κ) d[j]) (hfl _).1 this
      have hH : Sort.Holds enc w b 0 d.toArray := by
        intro j hj
        have hj' : j < d.length := by simpa using hj
        refine ⟨?_, by simp [World.frozen?, hh]⟩
        simp only [World.cell?, hh, Nat.zero_add, Option.isSome_none, Bool.false_eq_true, if_false, hat j hj']
        simp [hj']
      refine (h1 b 0 cap w hH (Array.getElem?_eq_some_iff.1 hh).1 hlc).mono ?_
      rintro e w' ⟨rfl, n, os, rfl⟩
      have hgb := grown_put (enc := enc) (w := w) (g := b) (n := n) (os := os) d'.toArray
      have hhp := heap_put (enc := enc) (n := n) (os := os) d'.toArray hh
      obtain ⟨hS', hG'⟩ := hS.putRow hb hm (o1 := .row none (d'.map pv)) hgb.os hgb.tape hgb.output hgb.size (fun k hk hne => hgb.block k hk (fun e => hne (by cases e; rfl)))
        (fun s hs => by
          unfold World.shape? at hs ⊢
          rw [hhp]; rw [hh] at hs
          simpa [Sort.putCells] using hs)
        (fun hG' => by
          refine .row b _ E cap' none _ hhp (by simpa [Sort.putCells] using hcs) hm' (by simp [hl]; exact hld) (fun x hx => by obtain ⟨a, -, rfl⟩ := List.mem_map.1 hx; exact (hfl a).2) (fun j p u hp hu => ?_)
          rw [flat_scal fun x hx => by obtain ⟨a, -, rfl⟩ := List.mem_map.1 hx; exact (hfl a).2, List.getElem?_map] at hp
          cases hq : d'[j]? with
          | none => rw [hq] at hp; cases hp
          | some a =>
            rw [hq] at hp; simp at hp; subst hp
            have hj : j < d'.length := (List.getElem?_eq_some_iff.1 hq).1
            simp only [Sort.putCells, Array.getElem?_mapIdx] at hu
            rw [Array.getElem?_eq_getElem (by omega)] at hu
            simp only [Option.map_some, Nat.zero_le, Nat.zero_add, List.size_toArray, hj, and_self, if_true, Nat.sub_zero, Option.some.injEq] at hu
            rw [← hu]
            have : d'.toArray[j]! = a := by
              have := (List.getElem?_eq_some_iff.1 hq).2
              simp [hj, this]
            rw [this]
            exact hrep _ _ a)
      exact ⟨_, _, _, κ, rfl, ⟨rfl, rfl⟩, hS', hr _ κ _ cap (hv1.still hG'), hG'.weak fun _ h => h.elim⟩
  | slnil _ _ hb =>
    have hd : d = [] := List.eq_nil_of_length_eq_zero hn0.symm
    subst hd
    have hd' : d' = [] := List.eq_nil_of_length_eq_zero hl
    subst hd'
    refine (h0 rfl w).mono ?_
    rintro e w' ⟨rfl, rfl⟩
    refine ⟨_, _, _, κ, rfl, ⟨rfl, rfl⟩, ?_, hr _ κ none 0 hv1, Goes.refl _ _ _⟩
    exact hS.swap hm fun c h => h
end
end PG

namespace PG
open Go
set_option linter.unusedSimpArgs false
set_option linter.unusedVariables false
section
open Go.RowKit Go.WideShapes Go.ChangeShapes
variable {H : Type} {enc : TypeId × Value → H} {P : Program}
end
end PG

namespace PG
open Go
set_option linter.unusedSimpArgs false
set_option linter.unusedVariables false
section
variable {P : Program} {G : Globs} {N : Nat} {w : World} {κ : Kap} {env : Env} {μ : Mem} {mv : Nat → Bool} {Q : Post} {K : Env → Mem → Prop}
/-- What is known, in some other form. -/
def Wk (G : Globs) (N : Nat) (mv : Nat → Bool) (K : Env → Mem → Prop) (env : Env) (μ : Mem) : Prop :=
  ∀ (C : Ctx) (a : Act) (w : World) (κ : Kap), C.mv = mv → SR G N C a w κ env μ → ∃ env' μ' κ', SR G N C a w κ' env' μ' ∧ K env' μ'
theorem Wk.id (h : K env μ) : Wk G N mv K env μ := fun _ _ _ κ _ hR => ⟨env, μ, κ, hR, h⟩
theorem Wk.frz (t : Nat) (o : MObj) (hm : μ.get t = some o) (hmv : mv t = true) (h : Wk G N mv K (frzE t o env) (frzMem t o μ)) : Wk G N mv K env μ := by
  intro C a w κ hC hR
  exact h C a w _ hC (hR.frz t o hm (by rw [hC]; exact hmv))
theorem Wk.trim (n : Nat) (hmv : ∀ t, n ≤ t → mv t = true) (h : Wk G N mv K (trimE n env) (trimM n μ)) : Wk G N mv K env μ := by
  intro C a w κ hC hR
  exact h C a w _ hC (hR.trim n (by rw [hC]; exact hmv))
theorem Sim.pad (hS : Sim w κ μ) (k : Nat) : Sim w κ (μ ++ List.replicate k none) := by
  refine ⟨hS.inj, hS.lt, fun t c h => ?_, fun t o h => ?_, hS.exlt, hS.exout⟩
  · obtain ⟨o, h1, h2⟩ := hS.live t c h
    refine ⟨o, ?_, h2⟩
    rw [List.getElem?_append_left (List.getElem?_eq_some_iff.1 h1).1]; exact h1
  · rcases Nat.lt_or_ge t μ.length with hl | hl
    · rw [List.getElem?_append_left hl] at h; exact hS.dead t o h
    · rw [List.getElem?_append_right hl, List.getElem?_replicate] at h
      split at h <;> cases h
theorem Wk.pad (k : Nat) (h : Wk G N mv K env (μ ++ List.replicate k none)) : Wk G N mv K env μ := by
  intro C a w κ hC hR
  exact h C a w κ hC ⟨hR.size, hR.defers, hR.regs, hR.sim.pad k, hR.globs, hR.goes⟩
def CO.plain (c : CO) : Bool := c.wl || (match c.op with
  | .rd .loadC _ => true
  | _ => false)
/-- Operations, ahead of each of which what is known may be put in another form. -/
def opsX (P : Program) (G : Globs) (N : Nat) (mv : Nat → Bool) : List CO → Env → Mem → (Env → Mem → Prop) → Prop
  | [], env, μ, K => K env μ
  | c :: l, env, μ, K => if c.plain = true then stepW P G false mv c env μ (fun e m => opsX P G N mv l e m K) else Wk G N mv (fun e m => stepW P G false mv c e m (fun e m => opsX P G N mv l e m K)) env μ
def schedX (P : Program) (G : Globs) (N : Nat) (mv : Nat → Bool) : Sched → Env → Mem → (Env → Mem → Prop) → Prop
  | .done, env, μ, K => Wk G N mv K env μ
  | .stop, _, _, _ => True
  | .alt l s more, env, μ, K => opsX P G N mv l env μ (fun e m => schedX P G N mv s e m K) ∧ schedX P G N mv more env μ K
theorem Wk.bind {K : Env → Mem → Prop} {L : Env → Mem → Prop} (h : Wk G N mv L env μ) (hl : ∀ e m, L e m → Wk G N mv K e m) : Wk G N mv K env μ := by
  intro C a w κ hC hR
  obtain ⟨env', μ', κ', h1, h2⟩ := h C a w κ hC hR
  exact hl _ _ h2 C a w κ' hC h1
/-- The same, told so that no unfolding is tried. -/
structure SX (P : Program) (G : Globs) (N : Nat) (mv : Nat → Bool) (s : Sched) (env : Env) (μ : Mem) (K : Env → Mem → Prop) : Prop where
  go : schedX P G N mv s env μ K
structure OX (P : Program) (G : Globs) (N : Nat) (mv : Nat → Bool) (l : List CO) (s : Sched) (env : Env) (μ : Mem) (K : Env → Mem → Prop) : Prop where
  go : opsX P G N mv l env μ fun e m => schedX P G N mv s e m K
theorem schedW_alt_k {l : List CO} {s more : Sched} (h1 : ∀ K' : Env → Mem → Prop, (K' = fun e m => schedW P G mv s e m K) → opsW P G false mv l env μ K') (h2 : schedW P G mv more env μ K) : schedW P G mv (.alt l s more) env μ K := ⟨h1 _ rfl, h2⟩
theorem schK_n {s : Sched} {K' : Env → Mem → Prop} (hK : K' = fun e m => schedW P G mv s e m K) (h : schedW P G mv s env μ K) : K' env μ := by rw [hK]; exact h
/-- Where a walk is to halt. -/
structure Stop (p : Prop) : Prop where
  go : p
theorem PW.stop {x : PCode} (h : Stop (PW P G N mv x env μ Q)) : PW P G N mv x env μ Q := h.go
end
end PG

namespace PG
open Go
set_option linter.unusedSimpArgs false
set_option linter.unusedVariables false
section
variable {P : Program} {G : Globs} {N : Nat} {w : World} {κ : Kap} {env : Env} {μ : Mem} {mv : Nat → Bool} {Q : Post}
/-- From here on a variable of the call's own is told by value: no one writes to it. -/
theorem PW.frzV {x : PCode} (i t : Nat) (sh : Sh) (p : PV) (hi : env.get i = .ref t 0) (hm : μ.get t = some (.var sh p)) (hf : fits sh p) (hno : ∀ c ∈ p.cells, c.noOwn = true) (hmv : mv t = true)
    (h : PW P G N mv x ((i, .cptr sh p 0) :: frzE t (.var sh p) env) (frzMem t (.var sh p) μ) Q) : PW P G N mv x env μ Q := by
  intro ow L code hc hmix C a w κ hC hR
  have hR' := hR.frz t _ hm (by rw [hC]; exact hmv)
  have hG : Goes w κ w (κ.del t) (fun i => i = t) := Goes.del t
  refine h ow L code hc hmix C a w _ hC ⟨hR'.size, hR'.defers, fun j => ?_, hR'.sim, hR'.globs, hR'.goes⟩
  simp only [Env.get]
  split
  · rename_i hij; subst hij
    have hv := hR.regs i
    rw [hi] at hv
    generalize a.tmps.getD i undef = v at hv
    cases hv with
    | closed h => cases h
    | ref _ _ b hb =>
      obtain ⟨c, hc, hO⟩ := hR.sim.at hm
      rw [hb] at hc; cases hc
      cases hO with
      | var _ arr E _ _ hh hs hsh hr =>
        have hl := hf.len
        have := RepC.cptr (w := w) (ex := PG.own (κ.del t)) b 0 0 sh p (fun j => arr.getD j undef) hf (Nat.zero_le _)
          (fun j hj => ⟨own_del hR.sim hb, by rw [Nat.zero_add, cell?_cells hh]; simp [show j < arr.size by omega]⟩)
          (fun j q hq => by
            have hj := (List.getElem?_eq_some_iff.1 hq).1
            exact (rep_noOwn (hr j q (arr.getD j undef) hq (by simp [show j < arr.size by omega])) (hno q (List.mem_of_getElem? hq))).mono hG.agree)
        exact .closed (by simpa using this)
  · exact hR'.regs j
end
end PG

