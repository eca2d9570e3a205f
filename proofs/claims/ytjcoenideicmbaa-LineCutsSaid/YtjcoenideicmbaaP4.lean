import Derived.Sort.OwnSorted
import Derived.Test.YtjcoenideicmbaaP3
namespace PG
open Go
set_option linter.unusedSimpArgs false
set_option linter.unusedVariables false
section
variable {P : Program} {G : Globs} {N : Nat} {w w' : World} {κ : Kap} {env : Env} {μ : Mem} {mv : Nat → Bool} {Q : Post}

theorem Sim.swap (hS : Sim w κ μ) {t : Nat} {o o' : MObj} (hm : μ.get t = some o) (h : ∀ c, ORep w (own κ) κ c o → ORep w (own κ) κ c o') : Sim w κ (μ.set t (some o')) := by
  have hg := Mem.get_some hm
  have hlt : t < μ.length := (List.getElem?_eq_some_iff.1 hg).1
  refine ⟨hS.inj, hS.lt, fun i c hic => ?_, fun i o'' hi => ?_, hS.exlt, hS.exout⟩
  · obtain ⟨o1, h1, h2⟩ := hS.live i c hic
    by_cases hit : i = t
    · subst hit
      rw [hg] at h1; cases h1
      exact ⟨_, List.getElem?_set_self hlt, h c h2⟩
    · exact ⟨o1, by rw [List.getElem?_set_ne (Ne.symm hit)]; exact h1, h2⟩
  · by_cases hit : i = t
    · subst hit; exact hS.dead i _ hg
    · rw [List.getElem?_set_ne (Ne.symm hit)] at hi; exact hS.dead i o'' hi

/-- The first n objects are kept, no more is said of the others. -/
theorem PW.trim {x : PCode} (n : Nat) (hmv : ∀ t, n ≤ t → mv t = true) (h : PW P G N mv x (trimE n env) (trimM n μ) Q) : PW P G N mv x env μ Q := by
  intro ow L code hc hmix C a w κ hC hR
  exact h ow L code hc hmix C a w _ hC (hR.trim n (by rw [hC]; exact hmv))

/-! ### Rows that the library writes -/
theorem Sim.putRow (hS : Sim w κ μ) {t b : Nat} {o o1 : MObj} (hk : κ t = some (some b)) (hm : μ.get t = some o) (hos : w'.os = w.os) (htp : w'.tape = w.tape) (hou : w'.output = w.output) (hsz : w.heap.size ≤ w'.heap.size)
    (hw : ∀ k, k < w.heap.size → k ≠ b → w'.heap[k]? = w.heap[k]?) (hsh : ∀ s, w.shape? b = some s → w'.shape? b = some s) (ho : Goes w κ w' κ (fun _ => False) → ORep w' (own κ) κ (some b) o1) :
    Sim w' κ (μ.set t (some o1)) ∧ Goes w κ w' κ (fun _ => False) := by
  have hG : Goes w κ w' κ (fun _ => False) := by
    refine ⟨hos, htp, hou, hsz, rfl, fun k hkl hn => hw k hkl (fun e => hn ⟨t, by rw [e]; exact hk⟩), fun _ _ h => h, fun k s hs => ?_, fun _ _ h _ => h⟩
    by_cases e : k = b
    · subst e; exact hsh s hs
    · have hkl : k < w.heap.size := by
        unfold World.shape? at hs
        rcases Nat.lt_or_ge k w.heap.size with h | h
        · exact h
        · simp [Array.getElem?_eq_none h] at hs
      rw [shape?_of_block (hw k hkl e)]; exact hs
  have hg := Mem.get_some hm
  have hlt : t < μ.length := (List.getElem?_eq_some_iff.1 hg).1
  refine ⟨⟨hS.inj, fun i c h => Nat.lt_of_lt_of_le (hS.lt i c h) hsz, fun i c hic => ?_, fun i o'' hi => ?_, fun k h => Nat.lt_of_lt_of_le (hS.exlt k h) hsz, hS.exout⟩, hG⟩
  · obtain ⟨o2, h1, h2⟩ := hS.live i c hic
    by_cases hit : i = t
    · subst hit
      rw [hk] at hic; cases hic
      exact ⟨_, List.getElem?_set_self hlt, ho hG⟩
    · refine ⟨o2, by rw [List.getElem?_set_ne (Ne.symm hit)]; exact h1, ORep.still hG (fun k e => ?_) h2⟩
      subst e
      exact hw k (hS.lt i k hic) (fun e => hit (by subst e; exact hS.inj i t k hic hk))
  · by_cases hit : i = t
    · subst hit; exact hS.dead i _ hg
    · rw [List.getElem?_set_ne (Ne.symm hit)] at hi; exact hS.dead i o'' hi

theorem heap_put {α : Type} [Inhabited α] {enc : α → Value} {w : World} {g n : Nat} {os : Array Obj} {cur : Array Value} {e : TypeId} {fr : Nat × Nat} (d : Array α) (hb : w.heap[g]? = some (.cells cur e fr)) :
    (Sort.grow (Sort.putRow enc (Sort.ahead w n) g 0 d) os).heap[g]? = some (.cells (Sort.putCells enc 0 d cur) e fr) := by
  have hg : g < w.heap.size := (Array.getElem?_eq_some_iff.1 hb).1
  rw [Sort.heap_grow_old _ _ (by simpa using hg)]
  simp [Sort.putRow, Sort.mapBlock, Sort.ahead, Array.getElem?_modify, hb, Sort.onCells]
theorem grown_put {α : Type} [Inhabited α] {enc : α → Value} {w : World} {g n : Nat} {os : Array Obj} (d : Array α) : w.grownBy (Sort.grow (Sort.putRow enc (Sort.ahead w n) g 0 d) os) (some g) := by
  refine ⟨rfl, rfl, rfl, by simp, fun k hk hne => ?_⟩
  rw [Sort.heap_grow_old _ _ (by simpa using hk)]
  have : g ≠ k := fun e => hne (by rw [e])
  simp [Sort.putRow, Sort.mapBlock, Sort.ahead, Array.getElem?_modify, this]

/-- A function of the library that writes a row of the call's own, whole: what it hands back, and what the row then holds. -/
theorem PCalls.row {α : Type} [Inhabited α] {enc : α → Value} {pv : α → PV} (hrep : ∀ w ex a, RepC w ex (enc a) (pv a)) (hfl : ∀ a, (pv a).flat = true ∧ (pv a).scalar = true) {f : Nat} {t : Nat} {d d' : List α} (hl : d'.length = d.length) (hm : μ.get t = some (.row none (d.map pv)))
    {rv : Option Addr → Nat → Value} {rp : PV}
    (h1 : ∀ (blk off cap : Nat) (w : World), Sort.Holds enc w blk off d.toArray → blk < w.heap.size → d.length ≤ cap → Calls P f #[.slice (some ⟨blk, off, none⟩) d.length cap] w fun e w' => e = .returned (rv (some ⟨blk, off, none⟩) cap) ∧ ∃ n os, w' = Sort.grow (Sort.putRow enc (Sort.ahead w n) blk off d'.toArray) os)
    (h0 : d = [] → ∀ (w : World), Calls P f #[.slice none 0 0] w fun e w' => e = .returned (rv none 0) ∧ w' = w)
    (hr : ∀ (w : World) (κ : Kap) (a : Option Addr) (cap : Nat), Rep w (own κ) κ (.slice a d.length cap) (.sl none t d.length) → Rep w (own κ) κ (rv a cap) rp) :
    PCalls P G f [.sl none t d.length] μ (fun _ => false) (fun p μ' => p = rp ∧ μ' = μ.set t (some (.row none (d'.map pv)))) := by
  intro w κ vs hS hG hv
  obtain ⟨hvs, hv⟩ := hv
  obtain ⟨L⟩ := vs
  match L, hvs with
  | [v], _ =>
  have hv0 := hv 0 v _ rfl rfl
  have hv1 := hv0
  obtain ⟨c, hc, hO⟩ := hS.at hm
  obtain ⟨n0, hn0⟩ : ∃ n0, n0 = d.length := ⟨_, rfl⟩
  rw [← hn0] at hv0
  cases hv0 with
  | closed h => cases h
  | sl _ _ _ b cap hb hs hlc hmc =>
    subst hn0
    rw [hb] at hc; cases hc
    cases hO with
    | row _ cur E cap' _ _ hh hcs hm' hl' hfit hrr =>
      have hflat : flat (d.map pv) = d.map pv := flat_scal fun x hx => by obtain ⟨a, -, rfl⟩ := List.mem_map.1 hx; exact (hfl a).2
      have hcur : cur.size = cap' := by rw [hcs]; simp [Sh.size]
      have hld : d.length ≤ cap' := by simpa using hl'
      have hat : ∀ j (hj : j < d.length), cur[j]? = some (enc d[j]) := by
        intro j hj
        have hjc : j < cur.size := by omega
        have := hrr j (pv d[j]) cur[j] (by rw [hflat]; simp [hj]) (by simp [hjc])
        rw [Array.getElem?_eq_getElem hjc]
        congr 1
        exact repC_uniq (hrep w (own κ) d[j]) (hfl _).1 this
      have hH : Sort.Holds enc w b 0 d.toArray := by
        intro j hj
        have hj' : j < d.length := by simpa using hj
        refine ⟨?_, by simp [World.frozen?, hh]⟩
        simp only [World.cell?, hh, Nat.zero_add, Option.isSome_none, Bool.false_eq_true, if_false, hat j hj']
        simp [hj']
      refine (h1 b 0 cap w hH (Array.getElem?_eq_some_iff.1 hh).1 hlc).mono ?_
      rintro e w' ⟨rfl, n, os, rfl⟩
      have hgb := grown_put (enc := enc) (w := w) (g := b) (n := n) (os := os) d'.toArray
      have hhp := heap_put (enc := enc) (n := n) (os := os) d'.toArray hh
      obtain ⟨hS', hG'⟩ := hS.putRow hb hm (o1 := .row none (d'.map pv)) hgb.os hgb.tape hgb.output hgb.size (fun k hk hne => hgb.block k hk (fun e => hne (by cases e; rfl)))
        (fun s hs => by
          unfold World.shape? at hs ⊢
          rw [hhp]; rw [hh] at hs
          simpa [Sort.putCells] using hs)
        (fun hG' => by
          refine .row b _ E cap' none _ hhp (by simpa [Sort.putCells] using hcs) hm' (by simp [hl]; exact hld) (fun x hx => by obtain ⟨a, -, rfl⟩ := List.mem_map.1 hx; exact (hfl a).2) (fun j p u hp hu => ?_)
          rw [flat_scal fun x hx => by obtain ⟨a, -, rfl⟩ := List.mem_map.1 hx; exact (hfl a).2, List.getElem?_map] at hp
          cases hq : d'[j]? with
          | none => rw [hq] at hp; cases hp
          | some a =>
            rw [hq] at hp; simp at hp; subst hp
            have hj : j < d'.length := (List.getElem?_eq_some_iff.1 hq).1
            simp only [Sort.putCells, Array.getElem?_mapIdx] at hu
            rw [Array.getElem?_eq_getElem (by omega)] at hu
            simp only [Option.map_some, Nat.zero_le, Nat.zero_add, List.size_toArray, hj, and_self, if_true, Nat.sub_zero, Option.some.injEq] at hu
            rw [← hu]
            have : d'.toArray[j]! = a := by
              have := (List.getElem?_eq_some_iff.1 hq).2
              simp [hj, this]
            rw [this]
            exact hrep _ _ a)
      exact ⟨_, _, _, κ, rfl, ⟨rfl, rfl⟩, hS', hr _ κ _ cap (hv1.still hG'), hG'.weak fun _ h => h.elim⟩
  | slnil _ _ hb =>
    have hd : d = [] := List.eq_nil_of_length_eq_zero hn0.symm
    subst hd
    have hd' : d' = [] := List.eq_nil_of_length_eq_zero hl
    subst hd'
    refine (h0 rfl w).mono ?_
    rintro e w' ⟨rfl, rfl⟩
    refine ⟨_, _, _, κ, rfl, ⟨rfl, rfl⟩, ?_, hr _ κ none 0 hv1, Goes.refl _ _ _⟩
    exact hS.swap hm fun c h => h
end
end PG

namespace PG
open Go
set_option linter.unusedSimpArgs false
set_option linter.unusedVariables false
/-- An array of so many numbers of a kind. -/
def arrT (P : Program) (t : TypeId) : Option (Nat × IntKind) :=
  match P.underlying t with
  | some (.array n e) => match P.underlying e with
    | some (.int k) => if P.cellsOf e = 1 then some (n, k) else none
    | _ => none
  | _ => none
def ShX (P : Program) (n : Nat) (t : TypeId) (p : PV) : Prop :=
  match arrT P t with
  | some (m, k) => ∃ ps, p = .agg ps ∧ ps.length = m ∧ ∀ q ∈ ps, ∃ x, q = .int k x ∧ k.min ≤ x ∧ x ≤ k.max
  | none => ShA P n t p
def ShXs (P : Program) (n : Nat) : List TypeId → List PV → Prop
  | [], [] => True
  | t :: ts, p :: ps => ShX P n t p ∧ ShXs P n ts ps
  | _, _ => False
def plainX (P : Program) (n : Nat) (t : TypeId) : Bool := (arrT P t).isSome || plainT P n t
theorem arrT_spec {P : Program} {t : TypeId} {n : Nat} {k : IntKind} (h : arrT P t = some (n, k)) : ∃ e, P.underlying t = some (.array n e) ∧ P.underlying e = some (.int k) ∧ P.cellsOf e = 1 := by
  unfold arrT at h
  split at h
  · rename_i m e hu
    split at h
    · rename_i k' hk
      split at h
      · cases h; exact ⟨e, hu, hk, by assumption⟩
      · cases h
    · cases h
  · cases h
theorem trod_arr {H : Type} {enc : TypeId × Value → H} {P : Program} {w : World} {base : Nat} {spare : Nat → Bool} {held : Bool} {fuel : Nat} {t : TypeId} {cs : List Value} {x : DataW H × List MemPlace} {n : Nat} {e : TypeId}
    (ht : P.underlying t = some (.array n e)) (h : DataW.trod enc P w base spare held fuel t cs = some x) :
    ∃ (xs : List (DataW H × List MemPlace)) (m : Nat), cs.length = P.cellsOf t ∧ ∀ i, i < n → DataW.trod enc P w base spare held m e ((cs.drop (i * P.cellsOf e)).take (P.cellsOf e)) = xs[i]? ∧ i < xs.length := by
  cases fuel with
  | zero => simp [DataW.trod] at h
  | succ m =>
    unfold DataW.trod at h
    rw [ht] at h
    split at h <;> simp_all
    obtain ⟨hl, xs, hp, hd⟩ := h
    have hlen := mapM_some_length hp
    rw [List.length_range] at hlen
    exact ⟨xs, m, fun i hi => ⟨by simpa using mapM_some_get hp i i (by simp [hi]), by omega⟩⟩
theorem read_argX {H : Type} {enc : TypeId × Value → H} {P : Program} {W : World} {sp : Nat → Bool} {hd : Bool} {base : Nat} (hl : laidOutB P = true) {n : Nat} {t : TypeId} {v : Value} {d : DataW H} {p : List MemPlace}
    (ht : t < P.types.size) (hp : plainX P n t = true) (hok : Value.okWide P W .any base t v) (h : DataW.Trod enc P W 0 sp hd t v d p) : ∃ q, RepC W (fun _ => False) v q ∧ ShX P n t q := by
  unfold ShX
  cases ha : arrT P t with
  | none =>
    simp only
    unfold plainX at hp; rw [ha] at hp
    exact read_arg hl ht (by simpa using hp) hok h
  | some mk =>
    obtain ⟨m, k⟩ := mk
    simp only
    obtain ⟨e, hu, he, hc⟩ := arrT_spec ha
    unfold Value.okWide at hok; rw [hu] at hok
    obtain ⟨cs, rfl, hcs, -⟩ := hok
    obtain ⟨-, hk⟩ := kid_array hl ht hu
    rw [hc, Nat.mul_one] at hk
    obtain ⟨fuel, h⟩ := h
    have hcc : (Value.agg cs).cells.toList = cs.toList := rfl
    rw [hcc] at h
    obtain ⟨xs, f, h1, h2⟩ := trod_arr hu h
    have key : ∀ i, i < m → ∃ x, cs[i]? = some (.int k x) ∧ k.min ≤ x ∧ x ≤ k.max := by
      intro i hi
      obtain ⟨h3, h4⟩ := h2 i hi
      rw [List.getElem?_eq_getElem h4] at h3
      obtain ⟨x, hx, -, hw⟩ := DataW.trod_int he h3
      rw [hc, Nat.mul_one] at hx
      have hi' : i < cs.size := by omega
      have : (cs.toList.drop i).take 1 = [cs[i]] := by
        rw [List.drop_eq_getElem_cons (by simpa using hi')]; simp
      rw [this] at hx
      simp only [Lit.wf, Bool.and_eq_true, decide_eq_true_eq] at hw
      exact ⟨x, by rw [Array.getElem?_eq_getElem hi']; simpa using hx, hw⟩
    obtain ⟨ps, p1, p2⟩ := exists_list (Q := fun i q => ∃ x, cs[i]? = some (.int k x) ∧ k.min ≤ x ∧ x ≤ k.max ∧ q = PV.int k x) m fun i hi => by
      obtain ⟨x, h1, h2, h3⟩ := key i hi; exact ⟨_, x, h1, h2, h3, rfl⟩
    refine ⟨.agg ps, .agg cs ps (by omega) fun i v q a b => ?_, ps, rfl, p1, fun q hq => ?_⟩
    · obtain ⟨x, h1, h2, h3, rfl⟩ := p2 i q b
      rw [h1] at a; cases a; exact .int _ _
    · obtain ⟨i, hi⟩ := List.mem_iff_getElem?.1 hq
      obtain ⟨x, h1, h2, h3, rfl⟩ := p2 i q hi
      exact ⟨x, rfl, h2, h3⟩
theorem read_argsX {H : Type} {enc : TypeId × Value → H} {P : Program} {W : World} {sp : Nat → Bool} {hd : Bool} {base : Nat} (hl : laidOutB P = true) {n : Nat} : ∀ (ts : List TypeId) (vs : List Value) (ds : List (DataW H)) (p : List MemPlace),
    (∀ t ∈ ts, t < P.types.size ∧ plainX P n t = true) → (∀ (j : Nat) t v, ts[j]? = some t → vs[j]? = some v → Value.okWide P W .any base t v) → DataW.TrodAll enc P W 0 sp hd ts vs ds p →
    ∃ qs : List PV, qs.length = vs.length ∧ (∀ (i : Nat) (v : Value) (q : PV), vs[i]? = some v → qs[i]? = some q → RepC W (fun _ => False) v q) ∧ ShXs P n ts qs
  | [], [], _, _, _, _, _ => ⟨[], rfl, fun i v q h => by simp at h, trivial⟩
  | [], v :: vs, ds, _, _, _, h => by cases ds <;> exact h.elim
  | t :: ts, [], ds, _, _, _, h => by cases ds <;> exact h.elim
  | t :: ts, v :: vs, [], _, _, _, h => h.elim
  | t :: ts, v :: vs, d :: ds, _, ht, hv, ⟨p, q, h1, h2, _⟩ => by
    obtain ⟨a, ha, hs⟩ := read_argX hl (ht t (by simp)).1 (ht t (by simp)).2 (hv 0 t v rfl rfl) h1
    obtain ⟨qs, q1, q2, q3⟩ := read_argsX hl ts vs ds q (fun t h => ht t (by simp [h])) (fun j t v a b => hv (j + 1) t v (by simpa using a) (by simpa using b)) h2
    refine ⟨a :: qs, by simp [q1], fun i v q hv hq => ?_, hs, q3⟩
    cases i with
    | zero => simp at hv hq; subst hv; subst hq; exact ha
    | succ i => exact q2 i v q (by simpa using hv) (by simpa using hq)
section
open Go.RowKit Go.WideShapes Go.ChangeShapes
variable {H : Type} {enc : TypeId × Value → H} {P : Program}
/-- A law by value, where some arguments are arrays of numbers. -/
theorem law_of_VX {fn : Func} {f : Nat} {s : ChangeSpec} {apart fresh handsOn again : Bool} {G : Globs} {n : Nat} {tb : TypeId} (hl : laidOutB P = true) (hpl : (fn.params.toList.all fun t => decide (t < P.types.size) && plainX P n t && P.readableRec t) = true)
    (hvars : s.vars = []) (hs : ∀ ds : List (DataW H), ds.length = fn.params.toList.length → s.fn H ds = { results := [.lit (.bool true)], args := ds }) (hres : fn.resultTypes = #[tb]) (htb : P.underlying tb = some .bool)
    {W : World} (hG : GlobsIn W (fun _ => False) G) {base : Nat} {args : Array Value} {ds gs : List (DataW H)} {before : List MemPlace}
    (hV : ∀ ps, ShXs P n fn.params.toList ps → VCalls P G f ps (.bool true))
    (hval : ∀ (j : Nat) t v, fn.params[j]? = some t → args[j]? = some v → Value.okWide P W .any base t v)
    (hW : DataW.Whole enc P fn.params.toList s.vars apart W args.toList ds gs before) :
    Calls P f args W fun e W' => ∃ v, e = .returned v ∧ s.post enc P fn apart fresh handsOn again W args v W' := by
  simp only [List.all_eq_true, Bool.and_eq_true, decide_eq_true_eq] at hpl
  have hW0 := hW
  obtain ⟨p, q, hA, hVr, rfl, -, -⟩ := hW
  rw [hvars] at hVr
  obtain ⟨rfl, rfl⟩ := trodVars_none hVr
  obtain ⟨qs, q1, q2, q3⟩ := read_argsX hl fn.params.toList args.toList ds p (fun t h => ⟨(hpl t h).1.1, (hpl t h).1.2⟩) (fun j t v a b => hval j t v (by simpa using a) (by simpa using b)) hA
  have hlen : ds.length = fn.params.toList.length := by
    have : ∀ (ts : List TypeId) (vs : List Value) (ds : List (DataW H)) (p : List MemPlace), DataW.TrodAll enc P W 0 (fun _ => true) true ts vs ds p → ds.length = ts.length := by
      intro ts
      induction ts with
      | nil => intro vs ds p h; cases vs <;> cases ds <;> first | rfl | exact h.elim
      | cons t ts ih =>
        intro vs ds p h
        cases vs <;> cases ds <;> first | exact h.elim | (obtain ⟨_, _, _, h2, _⟩ := h; simp [ih _ _ _ h2])
    exact this _ _ _ _ hA
  have hlt : ∀ x ∈ p, x.block < W.heap.size := fun x hx => hW0.lt x (by simpa using hx)
  refine (hV qs q3 W (fun _ => False) args (fun b h => h.elim) hG ⟨by simpa using q1.symm, fun i v p a b => q2 i v p (by simpa using a) b⟩).mono ?_
  rintro e W' ⟨v, rfl, hB, hr⟩
  cases hr with
  | bool b =>
  refine ⟨_, rfl, post_of_below (pa := p) (pv := []) hW0 (fun b sp hd => ?_) (fun sp hsp => ?_) (fun sp _ => ?_) rfl hB ?_⟩
  · rw [List.append_nil, hs ds hlen, hres]
    exact trodAll_mk1 (shut_bool htb _)
  · rw [List.append_nil, hs ds hlen]
    exact args_below hl hB _ _ _ _ sp (fun t h => ⟨(hpl t h).1.1, (hpl t h).2⟩) hA hlt (fun x hx => hsp x (by simpa using hx))
  · rw [hvars, List.append_nil, hs ds hlen]; rfl
  · exact ok_one hres rfl (okWide_bool_mk htb _)
end
end PG

namespace PG
open Go
set_option linter.unusedSimpArgs false
set_option linter.unusedVariables false
section
variable {P : Program} {G : Globs} {N : Nat} {w : World} {κ : Kap} {env : Env} {μ : Mem} {mv : Nat → Bool} {Q : Post} {K : Env → Mem → Prop}
/-- What is known, in some other form. -/
def Wk (G : Globs) (N : Nat) (mv : Nat → Bool) (K : Env → Mem → Prop) (env : Env) (μ : Mem) : Prop :=
  ∀ (C : Ctx) (a : Act) (w : World) (κ : Kap), C.mv = mv → SR G N C a w κ env μ → ∃ env' μ' κ', SR G N C a w κ' env' μ' ∧ K env' μ'
theorem Wk.id (h : K env μ) : Wk G N mv K env μ := fun _ _ _ κ _ hR => ⟨env, μ, κ, hR, h⟩
theorem Wk.frz (t : Nat) (o : MObj) (hm : μ.get t = some o) (hmv : mv t = true) (h : Wk G N mv K (frzE t o env) (frzMem t o μ)) : Wk G N mv K env μ := by
  intro C a w κ hC hR
  exact h C a w _ hC (hR.frz t o hm (by rw [hC]; exact hmv))
theorem Wk.trim (n : Nat) (hmv : ∀ t, n ≤ t → mv t = true) (h : Wk G N mv K (trimE n env) (trimM n μ)) : Wk G N mv K env μ := by
  intro C a w κ hC hR
  exact h C a w _ hC (hR.trim n (by rw [hC]; exact hmv))
theorem Wk.bind {K : Env → Mem → Prop} {L : Env → Mem → Prop} (h : Wk G N mv L env μ) (hl : ∀ e m, L e m → Wk G N mv K e m) : Wk G N mv K env μ := by
  intro C a w κ hC hR
  obtain ⟨env', μ', κ', h1, h2⟩ := h C a w κ hC hR
  exact hl _ _ h2 C a w κ' hC h1
/-- Where a walk is to halt. -/
structure Stop (p : Prop) : Prop where
  go : p
theorem PW.stop {x : PCode} (h : Stop (PW P G N mv x env μ Q)) : PW P G N mv x env μ Q := h.go
end
end PG

