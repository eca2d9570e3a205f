/-
  The pure layer: a nil slice is an empty list of whatever shape.
-/
import Derived.Test.YtdemgegpnlngeaaDoorPure20
namespace PG
open Go
set_option linter.unusedSimpArgs false
set_option linter.unusedVariables false
mutual
inductive Sub : PV → PV → Prop
  | refl (p : PV) : Sub p p
  | nil (sh : Sh) : Sub .nilSl (.list sh [])
  | agg {ps qs : List PV} (h : SubL ps qs) : Sub (.agg ps) (.agg qs)
  | list {sh : Sh} {xs ys : List PV} (h : SubL xs ys) : Sub (.list sh xs) (.list sh ys)
inductive SubL : List PV → List PV → Prop
  | nil : SubL [] []
  | cons {p q : PV} {ps qs : List PV} (h : Sub p q) (t : SubL ps qs) : SubL (p :: ps) (q :: qs)
end
theorem SubL.len : ∀ {ps qs : List PV}, SubL ps qs → ps.length = qs.length
  | [], _, h => by cases h; rfl
  | p :: ps, _, h => by cases h with | cons h t => simp [SubL.len t]
theorem SubL.refl : ∀ (ps : List PV), SubL ps ps
  | [] => .nil
  | p :: ps => .cons (.refl p) (SubL.refl ps)
theorem SubL.get : ∀ {ps qs : List PV}, SubL ps qs → ∀ {i : Nat} {q : PV}, qs[i]? = some q → ∃ p, ps[i]? = some p ∧ Sub p q
  | [], _, h, i, q, hq => by cases h; simp at hq
  | p :: ps, _, h, i, q, hq => by
    cases h with
    | cons h t =>
      cases i with
      | zero => simp at hq; subst hq; exact ⟨p, rfl, h⟩
      | succ i => simp at hq; simpa using SubL.get t hq
theorem SubL.app : ∀ {ps qs rs ss : List PV}, SubL ps qs → SubL rs ss → SubL (ps ++ rs) (qs ++ ss)
  | [], _, _, _, h, k => by cases h; exact k
  | p :: ps, _, _, _, h, k => by cases h with | cons h t => exact .cons h (SubL.app t k)
theorem Sub.cells {p q : PV} (h : Sub p q) : SubL p.cells q.cells := by
  cases h with
  | refl => exact .refl _
  | nil sh => exact .cons (.nil sh) .nil
  | agg h => exact h
  | list h => exact .cons (.list h) .nil
theorem SubL.flat : ∀ {xs ys : List PV}, SubL xs ys → SubL (PG.flat xs) (PG.flat ys)
  | [], _, h => by cases h; exact .nil
  | x :: xs, _, h => by
    cases h with
    | cons h t => simp only [PG.flat, List.flatMap_cons]; exact SubL.app h.cells (SubL.flat t)
theorem Sub.scalar {p q : PV} (h : Sub p q) (hp : p.scalar = true) : q.scalar = true := by
  cases h with
  | refl => exact hp
  | nil sh => rfl
  | agg h => exact hp
  | list h => rfl
theorem SubL.scalars : ∀ {ps qs : List PV}, SubL ps qs → (∀ c ∈ ps, c.scalar = true) → ∀ c ∈ qs, c.scalar = true
  | [], _, h, _ => by cases h; simp
  | p :: ps, _, h, hp => by
    cases h with
    | cons h t =>
      intro c hc
      rcases List.mem_cons.1 hc with rfl | hc
      · exact h.scalar (hp p (by simp))
      · exact SubL.scalars t (fun c hc => hp c (by simp [hc])) c hc
theorem Sub.fits {sh : Sh} {p q : PV} (h : Sub p q) (hp : PG.fits sh p) : PG.fits sh q := by
  cases sh with
  | none => exact h.scalar hp
  | some n =>
    obtain ⟨cs, rfl, hl, hs⟩ := hp
    cases h with
    | refl => exact ⟨cs, rfl, hl, hs⟩
    | agg h => exact ⟨_, rfl, by rw [← h.len]; exact hl, h.scalars hs⟩
theorem SubL.fits {sh : Sh} : ∀ {xs ys : List PV}, SubL xs ys → (∀ x ∈ xs, PG.fits sh x) → ∀ y ∈ ys, PG.fits sh y
  | [], _, h, _ => by cases h; simp
  | x :: xs, _, h, hp => by
    cases h with
    | cons h t =>
      intro c hc
      rcases List.mem_cons.1 hc with rfl | hc
      · exact h.fits (hp x (by simp))
      · exact SubL.fits t (fun c hc => hp c (by simp [hc])) c hc
theorem RepC.sub {w : World} {ex : Nat → Prop} {v : Value} {p : PV} (h : RepC w ex v p) : ∀ {q : PV}, Sub p q → RepC w ex v q := by
  induction h with
  | nilSl =>
    intro q hq
    cases hq with
    | refl => exact .nilSl
    | nil sh => exact .list none 0 0 sh [] 0 0 (fun _ => undef) rfl (Nat.le_refl _) (Nat.zero_le _) (by simp) (by simp) (by simp [flat]) (by simp [flat])
  | list a len cap sh xs b off val hlen hcap hmax hfit ha hc hr ih =>
    intro q hq
    cases hq with
    | refl => exact .list a len cap sh xs b off val hlen hcap hmax hfit ha hc hr
    | list hs =>
      have hf := hs.flat
      refine .list a len cap sh _ b off val (by rw [hlen, hs.len]) hcap hmax (hs.fits hfit) (fun hne => ha (fun e => hne ?_)) (fun j hj => hc j (by rw [hf.len]; exact hj)) (fun j p hp => ?_)
      · have := hs.len; rw [e] at this; exact List.eq_nil_of_length_eq_zero (by simpa using this.symm)
      · obtain ⟨p', hp', hs'⟩ := hf.get hp
        exact ih j p' hp' hs'
  | agg vs ps hs hr ih =>
    intro q hq
    cases hq with
    | refl => exact .agg vs ps hs hr
    | agg h =>
      refine .agg vs _ (by rw [hs, h.len]) (fun i v p hv hp => ?_)
      obtain ⟨p', hp', hs'⟩ := h.get hp
      exact ih i v p' hv hp' hs'
  | int k n => intro q hq; cases hq; exact .int k n
  | bool b => intro q hq; cases hq; exact .bool b
  | str s => intro q hq; cases hq; exact .str s
  | fn f first caps ps qs h1 h2 h3 h4 _ _ => intro q hq; cases hq; exact .fn f first caps ps qs h1 h2 h3 h4
  | nilFn => intro q hq; cases hq; exact .nilFn
  | nilPtr => intro q hq; cases hq; exact .nilPtr
  | nilMap => intro q hq; cases hq; exact .nilMap
  | full a len sh xs b off val hlen hmax hfit ha hc hr _ => intro q hq; cases hq; exact .full a len sh xs b off val hlen hmax hfit ha hc hr
  | cmap r kd es ents clock hx h hs hB hkd hk hv _ _ => intro q hq; cases hq; exact .cmap r kd es ents clock hx h hs hB hkd hk hv
  | cptr b o off sh x val hfit hoff hc hr _ => intro q hq; cases hq; exact .cptr b o off sh x val hfit hoff hc hr
  | tup vs ps hs hr _ => intro q hq; cases hq; exact .tup vs ps hs hr
theorem VCalls.sub {P : Program} {G : Globs} {f : Nat} {as bs : List PV} {res : PV} (h : VCalls P G f bs res) (hs : SubL as bs) : VCalls P G f as res := by
  intro w ex vs hex hG hv
  refine h w ex vs hex hG ⟨by rw [hv.1, hs.len], fun i v q hvi hq => ?_⟩
  obtain ⟨p, hp, hs'⟩ := hs.get hq
  exact (hv.2 i v p hvi hp).sub hs'
/-- A result that is told otherwise. -/
theorem VCalls.res {P : Program} {G : Globs} {f : Nat} {as : List PV} {p q : PV} (h : VCalls P G f as p) (hs : Sub p q) : VCalls P G f as q := by
  intro w ex vs hex hG hv
  refine (h w ex vs hex hG hv).mono ?_
  rintro e w' ⟨v, rfl, hB, hr⟩
  exact ⟨v, rfl, hB, hr.sub hs⟩
end PG
