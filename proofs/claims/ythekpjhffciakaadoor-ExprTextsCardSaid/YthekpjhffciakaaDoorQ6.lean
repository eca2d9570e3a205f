import Derived.Test.YthekpjhffciakaaDoorP4
import Derived.Test.YthekpjhffciakaaDoorQ5
namespace Go.Proofs.YthekpjhffciakaaDoor
open Go PG Go.Proofs
set_option linter.unusedSimpArgs false
set_option linter.unusedVariables false
set_option maxRecDepth 100000
/-- A node of a tree. -/
structure Nd where
  op : Int
  num : Int
  name : List UInt8
  kids : List Int
  deriving DecidableEq, Inhabited
/-- A token: its kind, its text, its place. -/
abbrev Tok := Nat × List UInt8 × Nat
/-- How far a reader has come. -/
structure PS where
  at_ : Nat
  e : Int
  out : List Nd
def tkAt (l : List Tok) (i : Nat) : Tok := l.getD i (0, [], 0)
def sgn (l : List Tok) (s : PS) (x : List UInt8) : Bool := decide ((tkAt l s.at_).1 = 3) && decide ((tkAt l s.at_).2.1 = x)
def failP (s : PS) (e : Int) : Int × PS := (0, ⟨s.at_, if s.e = 0 then e else s.e, s.out⟩)
def putP (s : PS) (n : Nd) : Int × PS := (s.out.length, ⟨s.at_, s.e, s.out ++ [n]⟩)
def adv (s : PS) (k : Nat) : PS := ⟨s.at_ + k, s.e, s.out⟩
def callWords : List (List UInt8) := [[108, 101, 97, 115, 116], [109, 111, 115, 116], [105, 102], [108, 101, 115, 115], [101, 113, 117, 97, 108]]
def callNo (x : List UInt8) : Option Nat := callWords.idxOf? x
def kidN (op : Nat) : Nat := if op = 7 then 3 else 2
section
variable (nm : List UInt8 → Int) (l : List Tok)
def callL (sum : PS → Int × PS) (op : Nat) : Nat → List Int → PS → Int × PS
  | 0, _, s => (0, s)
  | k + 1, kids, s =>
    if (sum s).2.e ≠ 0 then (0, (sum s).2)
    else if k = 0 then (if sgn l (sum s).2 [41] then putP (adv (sum s).2 1) ⟨op, 0, [], kids ++ [(sum s).1]⟩ else failP (sum s).2 3)
    else if sgn l (sum s).2 [44] then callL sum op k (kids ++ [(sum s).1]) (adv (sum s).2 1) else failP (sum s).2 3
def callP (sum : PS → Int × PS) (s : PS) : Int × PS :=
  match callNo (tkAt l s.at_).2.1 with
  | none => failP s 21
  | some i => callL l sum (i + 5) (kidN (i + 5)) [] (adv s 2)
def factorP (jk : Bool) (sum : PS → Int × PS) (s : PS) : Int × PS :=
  if (tkAt l s.at_).1 = 2 then putP (adv s 1) ⟨0, nm (tkAt l s.at_).2.1, [], []⟩
  else if (tkAt l s.at_).1 = 1 then (if sgn l (adv s 1) [40] then callP l sum s else putP (adv s 1) ⟨1, 0, (tkAt l s.at_).2.1, []⟩)
  else if sgn l s [40] = false then failP s 3
  else if (sum (adv s 1)).2.e ≠ 0 then (if jk then (sum (adv s 1)).1 else 0, (sum (adv s 1)).2)
  else if sgn l (sum (adv s 1)).2 [41] then ((sum (adv s 1)).1, adv (sum (adv s 1)).2 1)
  else failP (sum (adv s 1)).2 3
def rowL (part : PS → Int × PS) (ops : List (Nat × List UInt8)) : Nat → Int → PS → Int × PS
  | 0, n, s => (n, s)
  | k + 1, n, s =>
    if s.e ≠ 0 then (n, s)
    else match ops.find? (fun o => sgn l s o.2) with
      | none => (n, s)
      | some o => rowL part ops k (putP (part (adv s 1)).2 ⟨o.1, 0, [], [n, (part (adv s 1)).1]⟩).1 (putP (part (adv s 1)).2 ⟨o.1, 0, [], [n, (part (adv s 1)).1]⟩).2
def rowP (part : PS → Int × PS) (ops : List (Nat × List UInt8)) (s : PS) : Int × PS := rowL l part ops (l.length - (part s).2.at_) (part s).1 (part s).2
def opsM : List (Nat × List UInt8) := [(4, [42])]
def opsA : List (Nat × List UInt8) := [(2, [43]), (3, [45])]
def sumP (jk : Bool) : Nat → PS → Int × PS
  | 0, s => failP s 3
  | k + 1, s => rowP l (rowP l (factorP nm l jk (sumP jk k)) opsM) opsA s

/-! ### What a reader keeps -/
structure Inv (s : PS) : Prop where
  lt : s.at_ < l.length
  le : s.out.length ≤ s.at_
  e0 : s.e = 0
  end0 : (tkAt l (l.length - 1)).1 = 0
/-- What a part of the reading comes to. -/
structure Good (s : PS) (r : Int × PS) : Prop where
  lt : r.2.at_ < l.length
  le : s.at_ ≤ r.2.at_
  out : r.2.out.length + s.at_ ≤ s.out.length + r.2.at_
  n0 : 0 ≤ r.1
  n1 : r.1 ≤ r.2.at_
  go : r.2.e = 0 → s.at_ < r.2.at_
  er : r.2.e = 0 ∨ r.2.e = 3 ∨ r.2.e = 21
def GoodF (f : PS → Int × PS) (m : Nat) : Prop := ∀ s, Inv l s → l.length - s.at_ ≤ m → Good l s (f s)
variable {nm l}
theorem tk_lt {i : Nat} (h0 : (tkAt l (l.length - 1)).1 = 0) (hi : i < l.length) (hk : (tkAt l i).1 ≠ 0) : i + 1 < l.length := by
  rcases Nat.lt_or_ge (i + 1) l.length with h | h
  · exact h
  · have : i = l.length - 1 := by omega
    rw [this] at hk; exact absurd h0 hk
theorem sgn_lt {s : PS} {x : List UInt8} (h0 : (tkAt l (l.length - 1)).1 = 0) (hi : s.at_ < l.length) (h : sgn l s x = true) : s.at_ + 1 < l.length := by
  simp only [sgn, Bool.and_eq_true, decide_eq_true_eq] at h
  exact tk_lt h0 hi (by omega)
theorem GoodF.mono {f : PS → Int × PS} {m k : Nat} (h : GoodF l f m) (hk : k ≤ m) : GoodF l f k := fun s hs hm => h s hs (by omega)
/-- Failing, where something was read. -/
theorem good_fail {s s1 : PS} {e : Int} (hl : s1.at_ < l.length) (h1 : s.at_ ≤ s1.at_) (h2 : s1.out.length + s.at_ ≤ s.out.length + s1.at_) (h0 : s1.e = 0) (he : e = 3 ∨ e = 21) : Good l s (failP s1 e) := by
  refine ⟨hl, h1, h2, Int.le_refl 0, by simp [failP], fun h => ?_, ?_⟩
  · simp only [failP, h0, if_true] at h; omega
  · simp only [failP, h0, if_true]; exact .inr he
theorem good_put {s s1 : PS} {n : Nd} (hl : s1.at_ < l.length) (h1 : s.at_ < s1.at_) (h2 : s1.out.length + s.at_ < s.out.length + s1.at_) (h3 : s.out.length ≤ s.at_) (he : s1.e = 0 ∨ s1.e = 3 ∨ s1.e = 21) : Good l s (putP s1 n) := by
  refine ⟨hl, by simp only [putP]; omega, by simp [putP]; omega, by simp [putP], by simp [putP]; omega, fun _ => by simpa [putP] using h1, he⟩
theorem callL_good {sum : PS → Int × PS} {op m : Nat} (hs : GoodF l sum m) (h0 : (tkAt l (l.length - 1)).1 = 0) : ∀ (k : Nat) (kids : List Int) (s0 s : PS), 0 < k → s0.at_ < s.at_ → s0.out.length ≤ s0.at_ → Inv l s → s.out.length + s0.at_ < s0.out.length + s.at_ → l.length - s.at_ ≤ m → Good l s0 (callL l sum op k kids s)
  | 0, _, _, _, h, _, _, _, _, _ => absurd h (by omega)
  | k + 1, kids, s0, s, _, hlt, h00, hI, ho, hm => by
    have hg := hs s hI hm
    have hgo := hg.out
    have hgl := hg.le
    unfold callL
    split
    · rename_i he
      exact ⟨hg.lt, by simp only; omega, by simp only; omega, Int.le_refl 0, by simp, fun h => absurd h he, hg.er⟩
    · rename_i he
      have he' : (sum s).2.e = 0 := by simpa using he
      have hgo2 := hg.go he'
      split
      · split
        · rename_i h1
          have := sgn_lt h0 hg.lt h1
          exact good_put (by simpa [adv] using this) (by simp [adv]; omega) (by simp [adv]; omega) h00 (.inl he')
        · exact good_fail hg.lt (by omega) (by omega) he' (.inl rfl)
      · split
        · rename_i hk h1
          have := sgn_lt h0 hg.lt h1
          exact callL_good hs h0 k _ s0 _ (by omega) (by simp [adv]; omega) h00 ⟨by simpa [adv] using this, by simp [adv]; omega, he', h0⟩ (by simp [adv]; omega) (by simp [adv]; omega)
        · exact good_fail hg.lt (by omega) (by omega) he' (.inl rfl)
theorem factor_good {jk : Bool} {sum : PS → Int × PS} {m : Nat} (hs : GoodF l sum m) : GoodF l (factorP nm l jk sum) (m + 1) := by
  intro s hI hm
  obtain ⟨hlt, hle, he, h0⟩ := hI
  unfold factorP
  split
  · rename_i h
    have := tk_lt h0 hlt (by omega)
    exact good_put (by simpa [adv] using this) (by simp [adv]) (by simp [adv]) hle (.inl he)
  · split
    · rename_i h
      have h1 := tk_lt h0 hlt (by omega)
      split
      · rename_i h2
        have h3 := sgn_lt (s := adv s 1) h0 (by simpa [adv] using h1) h2
        unfold callP
        split
        · exact good_fail hlt (Nat.le_refl _) (Nat.le_refl _) he (.inr rfl)
        · exact callL_good (hs.mono (k := m) (Nat.le_refl _)) h0 _ _ s _ (by unfold kidN; split <;> omega) (by simp [adv]) hle ⟨by simpa [adv] using h3, by simp [adv]; omega, he, h0⟩ (by simp [adv]) (by simp [adv]; omega)
      · exact good_put (by simpa [adv] using h1) (by simp [adv]) (by simp [adv]) hle (.inl he)
    · split
      · exact good_fail hlt (Nat.le_refl _) (Nat.le_refl _) he (.inl rfl)
      · rename_i h2
        have h3 := sgn_lt (s := s) (x := [40]) h0 hlt (by simpa using h2)
        have hg := hs (adv s 1) ⟨by simpa [adv] using h3, by simp [adv]; omega, he, h0⟩ (by simp [adv]; omega)
        have hle' : s.at_ + 1 ≤ (sum (adv s 1)).2.at_ := by simpa [adv] using hg.le
        have hoo : (sum (adv s 1)).2.out.length + (s.at_ + 1) ≤ s.out.length + (sum (adv s 1)).2.at_ := by simpa [adv] using hg.out
        split
        · rename_i he2
          refine ⟨hg.lt, by simp only; omega, by simp only; omega, ?_, ?_, fun h => absurd h he2, hg.er⟩
          · simp only; split
            · exact hg.n0
            · exact Int.le_refl 0
          · simp only; split
            · exact hg.n1
            · simp
        · rename_i he2
          have he' : (sum (adv s 1)).2.e = 0 := by simpa using he2
          split
          · rename_i h4
            have := sgn_lt h0 hg.lt h4
            have hn1 := hg.n1
            generalize sum (adv s 1) = r at *
            exact ⟨by simpa [adv] using this, by simp [adv]; omega, by simp [adv]; omega, hg.n0, by simp [adv]; omega, fun _ => by simp [adv]; omega, .inl he'⟩
          · exact good_fail hg.lt (by omega) (by omega) he' (.inl rfl)
theorem rowL_good {part : PS → Int × PS} {m : Nat} {ops : List (Nat × List UInt8)} (hp : GoodF l part m) (h0 : (tkAt l (l.length - 1)).1 = 0) (s0 : PS) (hl0 : s0.out.length ≤ s0.at_) (hm : l.length - s0.at_ ≤ m) : ∀ (k : Nat) (n : Int) (s : PS), Good l s0 (n, s) → Good l s0 (rowL l part ops k n s)
  | 0, n, s, h => h
  | k + 1, n, s, h => by
    unfold rowL
    split
    · exact h
    · rename_i he
      have he' : s.e = 0 := by simpa using he
      split
      · exact h
      · rename_i o ho
        have hs := List.find?_some ho
        have hlt := h.lt; have ho' := h.out; have hle := h.le; have hn0 := h.n0; have hn1 := h.n1; have hgo := h.go he'
        simp only at hlt ho' hle hgo
        have h1 := sgn_lt h0 hlt hs
        have hg := hp (adv s 1) ⟨by simpa [adv] using h1, by simp [adv]; omega, he', h0⟩ (by simp [adv]; omega)
        have hle2 : s.at_ + 1 ≤ (part (adv s 1)).2.at_ := by simpa [adv] using hg.le
        have hoo : (part (adv s 1)).2.out.length + (s.at_ + 1) ≤ s.out.length + (part (adv s 1)).2.at_ := by simpa [adv] using hg.out
        refine rowL_good hp h0 s0 hl0 hm k _ _ ?_
        generalize part (adv s 1) = r at *
        exact good_put (s := s0) hg.lt (by omega) (by omega) hl0 hg.er
theorem rowP_good {part : PS → Int × PS} {m : Nat} {ops : List (Nat × List UInt8)} (hp : GoodF l part m) : GoodF l (rowP l part ops) m := fun s hI hm =>
  rowL_good hp hI.end0 s hI.le hm _ _ _ (hp s hI hm)
theorem sumP_good {jk : Bool} : ∀ k, GoodF l (sumP nm l jk k) k
  | 0 => fun s hI hm => absurd hI.lt (by omega)
  | k + 1 => rowP_good (rowP_good (factor_good (sumP_good k)))
end
end Go.Proofs.YthekpjhffciakaaDoor

namespace Go.Proofs.YthekpjhffciakaaDoor
open Go PG Go.Proofs
set_option linter.unusedSimpArgs false
set_option linter.unusedVariables false
set_option maxRecDepth 100000
section
variable {nm : List UInt8 → Int} {l : List Tok}
/-! ### Kids stand ahead -/
/-- Each node's kids stand ahead of it. -/
def wfK : List Nd → Nat → Prop
  | [], _ => True
  | n :: ns, i => (∀ k ∈ n.kids, 0 ≤ k ∧ k < (i : Int)) ∧ wfK ns (i + 1)
theorem wfK_snoc {n : Nd} : ∀ {ns : List Nd} {i : Nat}, wfK ns i → (∀ k ∈ n.kids, 0 ≤ k ∧ k < ((i + ns.length : Nat) : Int)) → wfK (ns ++ [n]) i
  | [], i, _, h => ⟨by simpa using h, trivial⟩
  | m :: ns, i, hw, h => ⟨hw.1, wfK_snoc hw.2 (by
      intro k hk; have := h k hk; simp only [List.length_cons] at this; refine ⟨this.1, ?_⟩; have := this.2; omega)⟩
def WfR (s : PS) (r : Int × PS) : Prop := r.2.e = 0 → wfK r.2.out 0 ∧ 0 ≤ r.1 ∧ r.1 < r.2.out.length ∧ s.out.length ≤ r.2.out.length
def WfF (f : PS → Int × PS) : Prop := ∀ s, s.e = 0 → wfK s.out 0 → WfR s (f s)
theorem wf_put {s0 s : PS} {n : Nd} (hw : s.e = 0 → wfK s.out 0) (hl : s.e = 0 → s0.out.length ≤ s.out.length) (hk : s.e = 0 → ∀ k ∈ n.kids, 0 ≤ k ∧ k < (s.out.length : Int)) : WfR s0 (putP s n) := by
  intro he
  have he' : s.e = 0 := he
  refine ⟨wfK_snoc (hw he') (by simpa using hk he'), by simp [putP], by simp [putP]; omega, by have := hl he'; simp [putP]; omega⟩
theorem wf_fail {s0 s : PS} {e : Int} (he : s.e = 0) (h : e ≠ 0) : WfR s0 (failP s e) := by
  intro hh; simp [failP, he] at hh; exact absurd hh h
theorem callL_wf {f : PS → Int × PS} {op : Nat} (h : WfF f) (s0 : PS) : ∀ (k : Nat) (kids : List Int) (s : PS), 0 < k → s.e = 0 → wfK s.out 0 → s0.out.length ≤ s.out.length → (∀ x ∈ kids, 0 ≤ x ∧ x < (s.out.length : Int)) → WfR s0 (callL l f op k kids s)
  | 0, _, _, h, _, _, _, _ => absurd h (by omega)
  | k + 1, kids, s, _, he, hw, hl, hk => by
    have hg := h s he hw
    unfold callL
    split
    · rename_i h1; exact fun h => absurd h h1
    · rename_i h1
      have h1' : (f s).2.e = 0 := by simpa using h1
      obtain ⟨g1, g2, g3, g4⟩ := hg h1'
      have hk2 : ∀ x ∈ kids ++ [(f s).1], 0 ≤ x ∧ x < ((f s).2.out.length : Int) := fun x hx => by
        rcases List.mem_append.1 hx with hx | hx
        · have := hk x hx; omega
        · rw [List.mem_singleton.1 hx]; exact ⟨g2, g3⟩
      split
      · split
        · exact wf_put (fun _ => g1) (fun _ => by simp only [adv]; omega) (fun _ => hk2)
        · exact wf_fail h1' (by omega)
      · split
        · exact callL_wf h s0 k _ _ (by omega) h1' g1 (by simp only [adv]; omega) hk2
        · exact wf_fail h1' (by omega)
theorem factor_wf {jk : Bool} {f : PS → Int × PS} (h : WfF f) : WfF (factorP nm l jk f) := by
  intro s he hw
  unfold factorP
  split
  · exact wf_put (fun _ => hw) (fun _ => Nat.le_refl _) (fun _ => by simp)
  · split
    · split
      · unfold callP
        split
        · exact wf_fail he (by omega)
        · exact callL_wf h s _ _ _ (by unfold kidN; split <;> omega) he hw (Nat.le_refl _) (by simp)
      · exact wf_put (fun _ => hw) (fun _ => Nat.le_refl _) (fun _ => by simp)
    · split
      · exact wf_fail he (by omega)
      · have hg := h (adv s 1) he hw
        split
        · rename_i h1; exact fun h => absurd h h1
        · rename_i h1
          have h1' : (f (adv s 1)).2.e = 0 := by simpa using h1
          split
          · exact fun _ => hg h1'
          · exact wf_fail h1' (by omega)
theorem rowL_wf {f : PS → Int × PS} {ops : List (Nat × List UInt8)} (h : WfF f) (s0 : PS) : ∀ (k : Nat) (n : Int) (s : PS), WfR s0 (n, s) → WfR s0 (rowL l f ops k n s)
  | 0, n, s, hr => hr
  | k + 1, n, s, hr => by
    unfold rowL
    split
    · exact hr
    · rename_i he
      have he' : s.e = 0 := by simpa using he
      split
      · exact hr
      · rename_i o ho
        obtain ⟨g1, g2, g3, g4⟩ := hr he'
        simp only at g1 g2 g3 g4
        have hg := h (adv s 1) he' g1
        refine rowL_wf h s0 k _ _ (wf_put (fun h1 => (hg h1).1) (fun h1 => by have : s.out.length ≤ (f (adv s 1)).2.out.length := (hg h1).2.2.2; omega) (fun h1 x hx => ?_))
        obtain ⟨k1, k2, k3, k4⟩ := hg h1
        have k5 : s.out.length ≤ (f (adv s 1)).2.out.length := k4
        simp only [List.mem_cons, List.not_mem_nil, or_false] at hx
        rcases hx with rfl | rfl
        · exact ⟨g2, by omega⟩
        · exact ⟨k2, k3⟩
theorem rowP_wf {f : PS → Int × PS} {ops : List (Nat × List UInt8)} (h : WfF f) : WfF (rowP l f ops) := fun s he hw => rowL_wf h s _ _ _ (h s he hw)
theorem sumP_wf {jk : Bool} : ∀ k, WfF (sumP nm l jk k)
  | 0 => fun s he hw => wf_fail he (by omega)
  | k + 1 => rowP_wf (rowP_wf (factor_wf (sumP_wf k)))
end
end Go.Proofs.YthekpjhffciakaaDoor

namespace Go.Proofs.YthekpjhffciakaaDoor
open Go PG Go.Proofs
set_option linter.unusedSimpArgs false
set_option linter.unusedVariables false
set_option maxRecDepth 100000
def kidsMax (acc : List Int) : List Int → Int → Int
  | [], m => m
  | k :: ks, m => kidsMax acc ks (max m (acc.getD k.toNat 0))
def depthsM : List Nd → List Int → List Int
  | [], acc => acc
  | n :: ns, acc => depthsM ns (acc ++ [kidsMax acc n.kids 0 + 1])
def depthM (l : List Nd) : Int := (depthsM l []).getD (l.length - 1) 0
theorem depthsM_len : ∀ (l : List Nd) (acc : List Int), (depthsM l acc).length = acc.length + l.length
  | [], acc => by simp [depthsM]
  | n :: ns, acc => by rw [depthsM, depthsM_len ns]; simp; omega
/-- A row that is filled from the front. -/
def rowV (acc : List Int) (N : Nat) : List PV := acc.map (PV.int .i64) ++ List.replicate (N - acc.length) (.int .i64 0)
def rowM (acc : List Int) (m : Int) (N : Nat) : List PV := acc.map (PV.int .i64) ++ .int .i64 m :: List.replicate (N - acc.length - 1) (.int .i64 0)
theorem rowV_M {acc : List Int} {N : Nat} (h : acc.length < N) : rowV acc N = rowM acc 0 N := by
  obtain ⟨d, hd⟩ : ∃ d, N - acc.length = d + 1 := ⟨N - acc.length - 1, by omega⟩
  simp [rowV, rowM, hd, List.replicate_succ]
theorem rowM_len {acc : List Int} {m : Int} {N : Nat} (h : acc.length < N) : (rowM acc m N).length = N := by simp [rowM]; omega
theorem rowV_len {acc : List Int} {N : Nat} (h : acc.length ≤ N) : (rowV acc N).length = N := by simp [rowV]; omega
theorem rowM_at (acc : List Int) (m : Int) (N : Nat) : (rowM acc m N)[acc.length]? = some (.int .i64 m) := by simp [rowM]
theorem rowM_lt {acc : List Int} (m : Int) (N : Nat) {k : Nat} (h : k < acc.length) : (rowM acc m N)[k]? = some (.int .i64 (acc.getD k 0)) := by
  simp [rowM, List.getElem?_append_left, h, List.getD]
theorem rowV_lt {acc : List Int} (N : Nat) {k : Nat} (h : k < acc.length) : (rowV acc N)[k]? = some (.int .i64 (acc.getD k 0)) := by
  simp [rowV, List.getElem?_append_left, h, List.getD]
theorem rowM_set (acc : List Int) (m m' : Int) (N : Nat) : (rowM acc m N).set acc.length (.int .i64 m') = rowM acc m' N := by simp [rowM]
theorem rowM_V {acc : List Int} {m : Int} {N : Nat} : rowM acc m N = rowV (acc ++ [m]) N := by
  simp only [rowM, rowV, List.map_append, List.map_cons, List.map_nil, List.append_assoc, List.length_append, List.length_cons, List.length_nil]
  rw [Nat.sub_add_eq]; rfl
theorem getD_bnd {acc : List Int} {B : Int} (hB : ∀ x ∈ acc, 0 ≤ x ∧ x ≤ B) (h0 : 0 ≤ B) (k : Nat) : 0 ≤ acc.getD k 0 ∧ acc.getD k 0 ≤ B := by
  rw [List.getD_eq_getElem?_getD]
  cases hk : acc[k]? with
  | none => simpa using h0
  | some x => simpa using hB x (List.mem_of_getElem? hk)
/-- What a formula's tokens come to: nodes, or a place and an error. -/
def parseR (nm : List UInt8 → Int) (l : List Tok) (jk : Bool) : Except (Nat × Int) (List Nd) :=
  let r := (sumP nm l jk l.length ⟨0, 0, []⟩).2
  if r.e ≠ 0 then .error ((tkAt l r.at_).2.2, r.e)
  else if (tkAt l r.at_).1 ≠ 0 then .error ((tkAt l r.at_).2.2, 3)
  else if 256 < r.out.length then .error (0, 5)
  else if 16 < depthM r.out then .error (0, 14)
  else .ok r.out
end Go.Proofs.YthekpjhffciakaaDoor

namespace Go.Proofs.YthekpjhffciakaaDoor
open Go PG Go.Proofs
set_option linter.unusedSimpArgs false
set_option linter.unusedVariables false
set_option maxHeartbeats 4000000
set_option maxRecDepth 100000
def kidsP (l : List Int) : PV := .list none (l.map (PV.int .i64))
def ndC (n : Nd) : List PV := [.int .i64 n.op, .int .i64 n.num, .str n.name, kidsP n.kids]
def ndP (n : Nd) : PV := .agg (ndC n)
def treeP (l : List Nd) : PV := .agg [.list (some 4) (l.map ndP)]
def kidsTab : List Int := [0, 0, 2, 2, 2, 2, 2, 3, 2, 2]
def kidsTabP : PV := .agg (kidsTab.map (PV.int .i64))
def HasKids (G : Globs) : Prop := G 1 = some (some 10, kidsTabP)
theorem e60 : Ent Tryd.prog 60 := ⟨Tryd.f60, Tryd.func60, by kernel_rfl, by kernel_rfl⟩
theorem e61 : Ent Tryd.prog 61 := ⟨Tryd.f61, Tryd.func61, by kernel_rfl, by kernel_rfl⟩
theorem e89 : Ent Tryd.prog 89 := ⟨Tryd.f89, Tryd.func89, by kernel_rfl, by kernel_rfl⟩
theorem e42 : Ent Tryd.prog 42 := ⟨Tryd.f42, Tryd.func42, by kernel_rfl, by kernel_rfl⟩
theorem e29 : Ent Tryd.prog 29 := ⟨Tryd.f29, Tryd.func29, by kernel_rfl, by kernel_rfl⟩
def formE (n : Nd) : Int := if n.op < 0 ∨ 9 < n.op then 11 else if (n.kids.length : Int) ≠ kidsTab.getD n.op.toNat 0 then 3 else 0
def restE (n : Nd) : Int :=
  if n.op < 0 ∨ 9 < n.op then 0
  else if (n.op = 0 ∧ (n.num < 0 ∨ 1000000000000000000 < n.num ∨ n.num.tmod 100 ≠ 0)) ∨ (n.op ≠ 0 ∧ n.num ≠ 0) then 2
  else if (n.op = 1 ∧ isName n.name = false) ∨ (n.op ≠ 1 ∧ n.name ≠ []) then 12 else 0
variable {G : Globs}
theorem kidsTab_get {op : Int} (h0 : 0 ≤ op) (h9 : op ≤ 9) : (List.map (PV.int IntKind.i64) kidsTab).getD (0 + op.toNat * 1) PV.junk = .int .i64 (kidsTab.getD op.toNat 0) ∧ op.toNat < 10 := by
  obtain ⟨k, rfl⟩ : ∃ k : Nat, op = k := ⟨op.toNat, by omega⟩
  have hk : k < 10 := by omega
  have e : ((k : Int)).toNat = k := by omega
  rw [e]
  refine ⟨?_, hk⟩
  have : 0 + k * 1 = k := by omega
  rw [this]
  have hl : kidsTab.length = 10 := rfl
  simp [List.getD, hl, hk]
theorem v60 (hG : HasKids G) (n : Nd) (hs : n.name.length ≤ 9223372036854775807) : VCalls Tryd.prog G 60 [ndP n] (.tup [.int .i64 (formE n), .int .i64 (restE n)]) := by
  refine VCalls.of_PW Tryd.func60 k60 mix (by simp [c60]) ?_
  unfold HasKids at hG
  simp only [c60, L60, CC, argE, ndP, ndC, kidsP]
  by_cases ho : n.op < 0 ∨ 9 < n.op
  · have h1 : (decide (n.op < 0) || decide (9 < n.op)) = true := by simpa using ho
    have h2 : formE n = 11 := by rw [formE, if_pos ho]
    have h3 : restE n = 0 := by rw [restE, if_pos ho]
    rw [h2, h3]
    repeat' (first | refine PW.seq ?_ | refine PW.block ?_ | refine PW.regionA ?_ | exact schedW_stop_i | ((first | refine PW.region ?_ | refine PW.regionQ ?_ | refine PW.exit ?_ | refine PW.ret ?_ | refine PW.skip ?_ | refine schedW_alt_i ?_ ?_ | refine schedW_done_i ?_); focus (simp only [h1, SA, Nat.reduceAdd, reduceIte, Nat.reduceEqDiff, Nat.reduceBEq, reduceCtorEq]; (try go_unwrap; try simp only [h1, RR, reduceCtorEq]))) | (refine PW.cond rfl ?_ ?_ <;> intro hcond <;> (try contradiction) <;> try simp only [DD] at hcond) | refine And.intro ?_ ?_ | exact Or.inr ⟨rfl, Nat.le_refl _⟩ | exact (fun h => Bool.noConfusion h) | omega | (simp only [DD, LL] <;> omega) | (go_unwrap; omega))
    all_goals (first | rfl | simp)
  · have h1 : (decide (n.op < 0) || decide (9 < n.op)) = false := by
      simp only [not_or] at ho
      simp only [Bool.or_eq_false_iff, decide_eq_false_iff_not]; exact ho
    obtain ⟨hget, hlt⟩ := kidsTab_get (op := n.op) (by omega) (by omega)
    have hi1 : (0 ≤ n.op ∧ n.op < ((10 : Nat) : Int)) := by omega
    have hi2 : (0 + n.op.toNat * 1 ≤ 10) := by omega
    have hi3 : (0 + n.op.toNat * 1 + 1 ≤ (List.map (PV.int IntKind.i64) kidsTab).length) := by
      have : (List.map (PV.int IntKind.i64) kidsTab).length = 10 := rfl
      omega
    have h2 : formE n = if (n.kids.length : Int) ≠ kidsTab.getD n.op.toNat 0 then 3 else 0 := by rw [formE, if_neg ho]
    have h3 : restE n = if (n.op = 0 ∧ (n.num < 0 ∨ 1000000000000000000 < n.num ∨ n.num.tmod 100 ≠ 0)) ∨ (n.op ≠ 0 ∧ n.num ≠ 0) then 2
      else if (n.op = 1 ∧ isName n.name = false) ∨ (n.op ≠ 1 ∧ n.name ≠ []) then 12 else 0 := by rw [restE, if_neg ho]
    repeat' (first | refine PW.seq ?_ | refine PW.block ?_ | refine PW.regionA ?_ | exact schedW_stop_i | ((first | refine PW.region ?_ | refine PW.regionQ ?_ | refine PW.exit ?_ | refine PW.ret ?_ | refine PW.skip ?_ | refine schedW_alt_i ?_ ?_ | refine schedW_done_i ?_); focus (simp only [h1, hG, evalO, kidsTabP, hget, hi2, hi3, hi1.1, hi1.2, SA, Nat.reduceAdd, reduceIte, Nat.reduceEqDiff, Nat.reduceBEq, reduceCtorEq]; (try go_unwrap; try simp only [h1, hG, evalO, kidsTabP, hget, hi2, hi3, hi1.1, hi1.2, RR, reduceCtorEq]))) | (refine PW.cond rfl ?_ ?_ <;> intro hcond <;> (try contradiction) <;> try simp only [DD] at hcond) | (apply goCallG_V e53; (case hV => (intro hg; simp only [hg, h1, hG, evalO, kidsTabP, hget, hi2, hi3, hi1.1, hi1.2, SA, Nat.reduceAdd, reduceIte, Nat.reduceEqDiff, Nat.reduceBEq, reduceCtorEq]; (try go_unwrap; try simp only [h1, hG, evalO, kidsTabP, hget, hi2, hi3, hi1.1, hi1.2, RR, reduceCtorEq]); exact v53 _ hs)); (case hok => (intro hg; first | (simp only [hg, h1, hG, evalO, kidsTabP, hget, hi2, hi3, hi1.1, hi1.2, SA, Nat.reduceAdd, reduceIte, Nat.reduceEqDiff, Nat.reduceBEq, reduceCtorEq]; done) | (simp_all [okAll, PV.okUnder]; done))); (case hs => (intro hg; simp only [hg, h1, hG, evalO, kidsTabP, hget, hi2, hi3, hi1.1, hi1.2, SA, Nat.reduceAdd, reduceIte, Nat.reduceEqDiff, Nat.reduceBEq, reduceCtorEq])); (case hf => first | rfl | simp only [h1, hG, evalO, kidsTabP, hget, hi2, hi3, hi1.1, hi1.2, SA, Nat.reduceAdd, reduceIte, Nat.reduceEqDiff, Nat.reduceBEq, reduceCtorEq]); (simp only [h1, hG, evalO, kidsTabP, hget, hi2, hi3, hi1.1, hi1.2, SA, Nat.reduceAdd, reduceIte, Nat.reduceEqDiff, Nat.reduceBEq, reduceCtorEq]; (try go_unwrap; try simp only [h1, hG, evalO, kidsTabP, hget, hi2, hi3, hi1.1, hi1.2, RR, reduceCtorEq]))) | refine And.intro ?_ ?_ | exact Or.inr ⟨rfl, Nat.le_refl _⟩ | exact (fun h => Bool.noConfusion h) | omega | (simp only [DD, LL] <;> omega) | (go_unwrap; omega))
    all_goals (clear hG hget)
    all_goals (first | (simp_all; done) | grind)
end Go.Proofs.YthekpjhffciakaaDoor

namespace Go.Proofs.YthekpjhffciakaaDoor
open Go PG Go.Proofs
set_option linter.unusedSimpArgs false
set_option linter.unusedVariables false
set_option maxHeartbeats 4000000
set_option maxRecDepth 100000
variable {G : Globs}
/-- The next element of a list, and how its print is read. -/
theorem drop_at {α : Type} {l : List α} {i : Nat} (h : i < l.length) : ∃ n, l.drop i = n :: l.drop (i + 1) ∧ l[i]? = some n ∧ (∀ f : α → PV, (l.map f).getD i .junk = f n ∧ (l.map f)[i]? = some (f n)) := by
  refine ⟨l[i], List.drop_eq_getElem_cons h, List.getElem?_eq_getElem h, fun f => ?_⟩
  simp [List.getD, h]
def idxB (v : Bool) : List Bool → Int → Int
  | [], _ => -1
  | b :: l, i => if v = b then i else idxB v l (i + 1)
theorem idxB_ge (v : Bool) : ∀ (l : List Bool) (i : Int), 0 ≤ i → (0 ≤ idxB v l i ↔ l.contains v = true)
  | [], i, _ => by simp [idxB]
  | b :: l, i, h => by
    have := idxB_ge v l (i + 1) (by omega)
    unfold idxB
    by_cases hb : v = b
    · simp [hb, h]
    · rw [if_neg hb, this]; simp [hb]
theorem v89 (l : List Bool) (v : Bool) (hl : l.length ≤ 9223372036854775806) : VCalls Tryd.prog G 89 [.list none (l.map PV.bool), .bool v] (.int .i64 (idxB v l 0)) := by
  refine VCalls.of_PW Tryd.func89 k89 mix (by simp [c89]) ?_
  simp only [c89, L89, CC, argE]
  repeat' (first | refine PW.seq ?_ | refine PW.block ?_ | refine PW.regionA ?_ | exact schedW_stop_i | ((first | refine PW.region ?_ | refine PW.regionQ ?_ | refine PW.exit ?_ | refine PW.ret ?_ | refine PW.skip ?_ | refine schedW_alt_i ?_ ?_ | refine schedW_done_i ?_); focus (simp only [SA, Nat.reduceAdd, reduceIte, Nat.reduceEqDiff, Nat.reduceBEq, reduceCtorEq]; (try go_unwrap; try simp only [RR, reduceCtorEq]))) | (refine PW.cond rfl ?_ ?_ <;> intro hcond <;> (try contradiction) <;> try simp only [DD] at hcond) | refine And.intro ?_ ?_ | exact Or.inr ⟨rfl, Nat.le_refl _⟩ | exact (fun h => Bool.noConfusion h) | omega | (simp only [DD, LL] <;> omega) | (go_unwrap; omega))
  refine PW.loop (σ := Nat) [0, 1, 7, 8] (fun j => [.list none (l.map PV.bool), .bool v, .int .i64 l.length, .int .i64 j]) (fun _ => []) (fun j => j ≤ l.length ∧ idxB v l 0 = idxB v (l.drop j) j) (fun j => l.length - j) 0 ?_ rfl ⟨by omega, by simp⟩ ?_
  · simp only [SA, Nat.reduceAdd, reduceIte, Nat.reduceEqDiff, Nat.reduceBEq, reduceCtorEq, List.length_map]; rfl
  rintro j ⟨hj, hr⟩
  simp only [List.zip_cons_cons, List.zip_nil_left]
  rcases Nat.lt_or_ge j l.length with h | h
  · obtain ⟨b, hd, -, hg⟩ := drop_at h
    rw [hd, idxB] at hr
    have hd' : decide ((j : Int) < l.length) = true := by simp only [decide_eq_true_eq]; omega
    repeat' (first | refine PW.seq ?_ | refine PW.block ?_ | refine PW.regionA ?_ | exact schedW_stop_i | ((first | refine PW.region ?_ | refine PW.regionQ ?_ | refine PW.exit ?_ | refine PW.ret ?_ | refine PW.skip ?_ | refine schedW_alt_i ?_ ?_ | refine schedW_done_i ?_); focus (simp only [hd', (hg PV.bool).1, List.length_map, SA, Nat.reduceAdd, reduceIte, Nat.reduceEqDiff, Nat.reduceBEq, reduceCtorEq]; (try go_unwrap; try simp only [hd', (hg PV.bool).1, List.length_map, RR, reduceCtorEq]))) | (refine PW.cond rfl ?_ ?_ <;> intro hcond <;> (try contradiction) <;> try simp only [DD] at hcond) | refine And.intro ?_ ?_ | exact Or.inr ⟨rfl, Nat.le_refl _⟩ | exact (fun h => Bool.noConfusion h) | omega | (simp only [DD, LL] <;> omega) | (go_unwrap; omega))
    · rw [hr, if_pos hcond]
    · rw [if_neg hcond] at hr
      exact ⟨j + 1, rfl, ⟨h, hr⟩, by omega⟩
  · have hd' : decide ((j : Int) < l.length) = false := by simp only [decide_eq_false_iff_not]; omega
    rw [List.drop_eq_nil_of_le h, idxB] at hr
    repeat' (first | refine PW.seq ?_ | refine PW.block ?_ | refine PW.regionA ?_ | exact schedW_stop_i | ((first | refine PW.region ?_ | refine PW.regionQ ?_ | refine PW.exit ?_ | refine PW.ret ?_ | refine PW.skip ?_ | refine schedW_alt_i ?_ ?_ | refine schedW_done_i ?_); focus (simp only [hd', SA, Nat.reduceAdd, reduceIte, Nat.reduceEqDiff, Nat.reduceBEq, reduceCtorEq]; (try go_unwrap; try simp only [hd', RR, reduceCtorEq]))) | (refine PW.cond rfl ?_ ?_ <;> intro hcond <;> (try contradiction) <;> try simp only [DD] at hcond) | refine And.intro ?_ ?_ | exact Or.inr ⟨rfl, Nat.le_refl _⟩ | exact (fun h => Bool.noConfusion h) | omega | (simp only [DD, LL] <;> omega) | (go_unwrap; omega))
    rw [hr]
theorem v61 (l : List Bool) (v : Bool) (hl : l.length ≤ 9223372036854775806) : VCalls Tryd.prog G 61 [.list none (l.map PV.bool), .bool v] (.bool (l.contains v)) := by
  refine VCalls.of_PW Tryd.func61 k61 mix (by simp [c61]) ?_
  simp only [c61, L61, CC, argE]
  have h := idxB_ge v l 0 (by omega)
  repeat' (first | refine PW.seq ?_ | refine PW.block ?_ | refine PW.regionA ?_ | exact schedW_stop_i | ((first | refine PW.region ?_ | refine PW.regionQ ?_ | refine PW.exit ?_ | refine PW.ret ?_ | refine PW.skip ?_ | refine schedW_alt_i ?_ ?_ | refine schedW_done_i ?_); focus (simp only [SA, Nat.reduceAdd, reduceIte, Nat.reduceEqDiff, Nat.reduceBEq, reduceCtorEq]; (try go_unwrap; try simp only [RR, reduceCtorEq]))) | (refine PW.cond rfl ?_ ?_ <;> intro hcond <;> (try contradiction) <;> try simp only [DD] at hcond) | (apply goCall_V e89; (case hV => (simp only [SA, Nat.reduceAdd, reduceIte, Nat.reduceEqDiff, Nat.reduceBEq, reduceCtorEq]; (try go_unwrap; try simp only [RR, reduceCtorEq]); exact v89 _ _ hl)); (try (case hs => rfl)); (try (case hf => first | exact Or.inl rfl | exact Or.inr ⟨rfl, rfl⟩ | (refine Or.inl ?_; simp only [SA, Nat.reduceAdd, reduceIte, Nat.reduceEqDiff, Nat.reduceBEq, reduceCtorEq]; done) | (refine Or.inr ⟨rfl, ?_⟩; simp only [SA, Nat.reduceAdd, reduceIte, Nat.reduceEqDiff, Nat.reduceBEq, reduceCtorEq]; done))); all_goals (simp only [SA, Nat.reduceAdd, reduceIte, Nat.reduceEqDiff, Nat.reduceBEq, reduceCtorEq]; (try go_unwrap; try simp only [RR, reduceCtorEq]))) | refine And.intro ?_ ?_ | exact Or.inr ⟨rfl, Nat.le_refl _⟩ | exact (fun h => Bool.noConfusion h) | omega | (simp only [DD, LL] <;> omega) | (go_unwrap; omega))
  congr 1
  rw [Bool.eq_iff_iff, decide_eq_true_eq]; exact h
end Go.Proofs.YthekpjhffciakaaDoor

namespace Go.Proofs.YthekpjhffciakaaDoor
open Go PG Go.Proofs
set_option linter.unusedSimpArgs false
set_option linter.unusedVariables false
set_option maxHeartbeats 4000000
set_option maxRecDepth 100000
variable {G : Globs}
theorem ndP1 (n : Nd) : ndP n = .agg [.int .i64 n.op, .int .i64 n.num, .str n.name, .list none (n.kids.map (PV.int .i64))] := rfl
theorem v42 (l : List Nd) (hl : l.length ≤ 256) (hne : l ≠ []) (hw : wfK l 0) (hkl : ∀ n ∈ l, n.kids.length ≤ 256) : VCalls Tryd.prog G 42 [treeP l] (.int .i64 (depthM l)) := by
  refine VCalls.of_PW Tryd.func42 k42 mix (by simp [c42]) ?_
  simp only [c42, L42, CC, argE, treeP]
  have hl0 : 0 < l.length := List.length_pos_iff.2 hne
  have hm1 : ((8 : Nat) : Int) * (l.length : Int) ≤ 281474976710656 := by omega
  have hm2 : (l.length : Int) ≤ 9223372036854775807 := by omega
  have hm3 : 0 ≤ (l.length : Int) := by omega
  repeat' (first | refine PW.seq ?_ | refine PW.block ?_ | refine PW.regionA ?_ | exact schedW_stop_i | ((first | refine PW.region ?_ | refine PW.regionQ ?_ | refine PW.exit ?_ | refine PW.ret ?_ | refine PW.skip ?_ | refine schedW_alt_i ?_ ?_ | refine schedW_done_i ?_); focus (simp only [List.length_map, hm1, hm2, hm3, Int.le_refl, SA, Nat.reduceAdd, reduceIte, Nat.reduceEqDiff, Nat.reduceBEq, reduceCtorEq]; (try go_unwrap; try simp only [List.length_map, hm1, hm2, hm3, Int.le_refl, RR, reduceCtorEq]))) | (refine PW.cond rfl ?_ ?_ <;> intro hcond <;> (try contradiction) <;> try simp only [DD] at hcond) | refine And.intro ?_ ?_ | exact Or.inr ⟨rfl, Nat.le_refl _⟩ | exact (fun h => Bool.noConfusion h) | omega | (simp only [DD, LL] <;> omega) | (go_unwrap; omega))
  refine PW.loopG (σ := Nat × List Int) 2 (fun _ _ => rfl) [3, 13, 14, 15] (fun s => [.sl none 1 l.length, .list (some 4) (l.map ndP), .int .i64 l.length, .int .i64 s.1])
    (fun s => [some (.var (some 1) (.agg [.list (some 4) (l.map ndP)])), some (.row none (rowV s.2 l.length))])
    (fun s => s.1 ≤ l.length ∧ s.2.length = s.1 ∧ (∀ x ∈ s.2, 0 ≤ x ∧ x ≤ s.1) ∧ wfK (l.drop s.1) s.1 ∧ depthsM l [] = depthsM (l.drop s.1) s.2) (fun s => l.length - s.1) (0, []) ?_ ?_ ⟨by simp, by simp, by simp, by simpa using hw, by simp⟩ ?_
  · simp only [SA, Nat.reduceAdd, reduceIte, Nat.reduceEqDiff, Nat.reduceBEq, reduceCtorEq, List.length_map, Int.toNat_natCast]; rfl
  · simp [rowV]
  rintro ⟨i, acc⟩ ⟨hi, hal, hb, hwf, hr⟩
  simp only at hi hal hb hwf hr
  simp only [List.zip_cons_cons, List.zip_nil_left]
  rcases Nat.lt_or_ge i l.length with h | h
  · obtain ⟨n, hd, hn, hg⟩ := drop_at h
    rw [hd] at hr hwf
    rw [depthsM] at hr
    obtain ⟨hwk, hwf⟩ := hwf
    have hd' : decide ((i : Int) < l.length) = true := by simp only [decide_eq_true_eq]; omega
    rw [rowV_M (by omega)]
    have hgn := ((hg ndP).1).trans (ndP1 n)
    have hkn := hkl n (List.mem_of_getElem? hn)
    repeat' (first | refine PW.seq ?_ | refine PW.block ?_ | refine PW.regionA ?_ | exact schedW_stop_i | ((first | refine PW.region ?_ | refine PW.regionQ ?_ | refine PW.exit ?_ | refine PW.ret ?_ | refine PW.skip ?_ | refine schedW_alt_i ?_ ?_ | refine schedW_done_i ?_); focus (simp only [hd', hgn, List.length_map, SA, Nat.reduceAdd, reduceIte, Nat.reduceEqDiff, Nat.reduceBEq, reduceCtorEq]; (try go_unwrap; try simp only [hd', hgn, List.length_map, RR, reduceCtorEq]))) | (refine PW.cond rfl ?_ ?_ <;> intro hcond <;> (try contradiction) <;> try simp only [DD] at hcond) | refine And.intro ?_ ?_ | exact Or.inr ⟨rfl, Nat.le_refl _⟩ | exact (fun h => Bool.noConfusion h) | omega | (simp only [DD, LL] <;> omega) | (go_unwrap; omega))
    refine PW.loop (σ := Nat × Int) [3, 4, 13, 14, 15, 21, 22, 23] (fun s => [.sl none 1 l.length, .int .i64 i, .list (some 4) (l.map ndP), .int .i64 l.length, .int .i64 i, .list none (n.kids.map (PV.int .i64)), .int .i64 n.kids.length, .int .i64 s.1])
      (fun s => [some (.var (some 1) (.agg [.list (some 4) (l.map ndP)])), some (.row none (rowM acc s.2 l.length)), some (.var (some 4) (.agg [.int .i64 n.op, .int .i64 n.num, .str n.name, .list none (n.kids.map (PV.int .i64))]))])
      (fun s => s.1 ≤ n.kids.length ∧ 0 ≤ s.2 ∧ s.2 ≤ i ∧ kidsMax acc n.kids 0 = kidsMax acc (n.kids.drop s.1) s.2) (fun s => n.kids.length - s.1) (0, 0) ?_ rfl ⟨by simp, by simp, by simp, by simp⟩ ?_
    · simp only [SA, Nat.reduceAdd, reduceIte, Nat.reduceEqDiff, Nat.reduceBEq, reduceCtorEq, List.length_map]; rfl
    rintro ⟨j, m⟩ ⟨hj, hm0, hmi, hk⟩
    simp only at hj hm0 hmi hk
    simp only [List.zip_cons_cons, List.zip_nil_left]
    rcases Nat.lt_or_ge j n.kids.length with h' | h'
    · obtain ⟨k, hkd, hkn', hkg⟩ := drop_at h'
      rw [hkd, kidsMax] at hk
      have hd2 : decide ((j : Int) < n.kids.length) = true := by simp only [decide_eq_true_eq]; omega
      obtain ⟨hk0, hki⟩ := hwk k (List.mem_of_getElem? hkn')
      have hkt : k.toNat < acc.length := by omega
      have ha := rowM_at acc m l.length
      rw [hal] at ha
      have hb' := rowM_lt m l.length hkt
      have hlen := rowM_len (m := m) (show acc.length < l.length by omega)
      have hset := rowM_set acc m (max m (acc.getD k.toNat 0)) l.length
      rw [hal] at hset
      have hgb := getD_bnd hb (by omega) k.toNat
      repeat' (first | refine PW.seq ?_ | refine PW.block ?_ | refine PW.regionA ?_ | exact schedW_stop_i | ((first | refine PW.region ?_ | refine PW.regionQ ?_ | refine PW.exit ?_ | refine PW.ret ?_ | refine PW.skip ?_ | refine schedW_alt_i ?_ ?_ | refine schedW_done_i ?_); focus (simp only [hd2, (hkg (PV.int .i64)).1, List.length_map, ha, hb', hlen, hset, SA, Nat.reduceAdd, reduceIte, Nat.reduceEqDiff, Nat.reduceBEq, reduceCtorEq]; (try go_unwrap; try simp only [hd2, (hkg (PV.int .i64)).1, List.length_map, ha, hb', hlen, hset, RR, reduceCtorEq]))) | (refine PW.cond rfl ?_ ?_ <;> intro hcond <;> (try contradiction) <;> try simp only [DD] at hcond) | refine And.intro ?_ ?_ | exact Or.inr ⟨rfl, Nat.le_refl _⟩ | exact (fun h => Bool.noConfusion h) | omega | (simp only [DD, LL] <;> omega) | (go_unwrap; omega))
      all_goals exact ⟨(j + 1, max m (acc.getD k.toNat 0)), rfl, rfl, ⟨h', by simp only; omega, by simp only; omega, hk⟩, by simp only; omega⟩
    · have hd2 : decide ((j : Int) < n.kids.length) = false := by simp only [decide_eq_false_iff_not]; omega
      rw [List.drop_eq_nil_of_le h', kidsMax] at hk
      have ha := rowM_at acc m l.length
      rw [hal] at ha
      have hlen := rowM_len (m := m) (show acc.length < l.length by omega)
      have hset := rowM_set acc m (m + 1) l.length
      rw [hal] at hset
      repeat' (first | refine PW.seq ?_ | refine PW.block ?_ | refine PW.regionA ?_ | exact schedW_stop_i | ((first | refine PW.region ?_ | refine PW.regionQ ?_ | refine PW.exit ?_ | refine PW.ret ?_ | refine PW.skip ?_ | refine schedW_alt_i ?_ ?_ | refine schedW_done_i ?_); focus (simp only [hd2, ha, hlen, hset, SA, Nat.reduceAdd, reduceIte, Nat.reduceEqDiff, Nat.reduceBEq, reduceCtorEq]; (try go_unwrap; try simp only [hd2, ha, hlen, hset, RR, reduceCtorEq]))) | (refine PW.cond rfl ?_ ?_ <;> intro hcond <;> (try contradiction) <;> try simp only [DD] at hcond) | refine And.intro ?_ ?_ | exact Or.inr ⟨rfl, Nat.le_refl _⟩ | exact (fun h => Bool.noConfusion h) | omega | (simp only [DD, LL] <;> omega) | (go_unwrap; omega))
      refine ⟨(i + 1, acc ++ [m + 1]), (by first | rfl | (simp only [TT, MObj.kill, PV.kill, Nat.reduceLeDiff, reduceIte, Nat.le_refl, Nat.zero_le, Nat.not_le, Nat.lt_irrefl]; done) | (simp [trimE, trimM, MObj.kill, PV.kill]; done)), ?_, ⟨h, by simp [hal], ?_, hwf, by rw [hr, hk]⟩, by simp only; omega⟩
      · rw [← rowM_V]; exact (by first | rfl | (simp only [TT, MObj.kill, PV.kill, Nat.reduceLeDiff, reduceIte, Nat.le_refl, Nat.zero_le, Nat.not_le, Nat.lt_irrefl]; done) | (simp [trimE, trimM, MObj.kill, PV.kill]; done))
      · intro x hx
        rcases List.mem_append.1 hx with hx | hx
        · have := hb x hx; simp only; omega
        · simp at hx; subst hx; simp only; omega
  · have hd' : decide ((i : Int) < l.length) = false := by simp only [decide_eq_false_iff_not]; omega
    rw [List.drop_eq_nil_of_le h, depthsM] at hr
    have hlast : (rowV acc l.length)[l.length - 1]? = some (.int .i64 (acc.getD (l.length - 1) 0)) := rowV_lt _ (by omega)
    have hti : ((l.length : Int) - 1).toNat = l.length - 1 := by omega
    repeat' (first | refine PW.seq ?_ | refine PW.block ?_ | refine PW.regionA ?_ | exact schedW_stop_i | ((first | refine PW.region ?_ | refine PW.regionQ ?_ | refine PW.exit ?_ | refine PW.ret ?_ | refine PW.skip ?_ | refine schedW_alt_i ?_ ?_ | refine schedW_done_i ?_); focus (simp only [hd', hti, hlast, List.length_map, SA, Nat.reduceAdd, reduceIte, Nat.reduceEqDiff, Nat.reduceBEq, reduceCtorEq]; (try go_unwrap; try simp only [hd', hti, hlast, List.length_map, RR, reduceCtorEq]))) | (refine PW.cond rfl ?_ ?_ <;> intro hcond <;> (try contradiction) <;> try simp only [DD] at hcond) | refine And.intro ?_ ?_ | exact Or.inr ⟨rfl, Nat.le_refl _⟩ | exact (fun h => Bool.noConfusion h) | omega | (simp only [DD, LL] <;> omega) | (go_unwrap; omega))
    · exact .inl ⟨rfl, rfl⟩
    · rw [depthM, hr]
end Go.Proofs.YthekpjhffciakaaDoor

