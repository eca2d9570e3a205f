import Derived.Handy
import Derived.Shelf.Strings.Search1
import Derived.Shelf.Strings.Count
import Derived.Test.YthekpjhffciakaaDoorP4
import Derived.Test.YthekpjhffciakaaDoorQ5
namespace Go.Proofs.YthekpjhffciakaaDoor
open Go PG Go.Proofs
set_option linter.unusedSimpArgs false
set_option linter.unusedVariables false
set_option maxRecDepth 100000
/-- A node of a tree. -/
structure Nd where
  op : Int
  num : Int
  name : List UInt8
  kids : List Int
  deriving DecidableEq, Inhabited
/-- A token: its kind, its text, its place. -/
abbrev Tok := Nat × List UInt8 × Nat
/-- How far a reader has come. -/
structure PS where
  at_ : Nat
  e : Int
  out : List Nd
def tkAt (l : List Tok) (i : Nat) : Tok := l.getD i (0, [], 0)
def sgn (l : List Tok) (s : PS) (x : List UInt8) : Bool := decide ((tkAt l s.at_).1 = 3) && decide ((tkAt l s.at_).2.1 = x)
def failP (s : PS) (e : Int) : Int × PS := (0, ⟨s.at_, if s.e = 0 then e else s.e, s.out⟩)
def putP (s : PS) (n : Nd) : Int × PS := (s.out.length, ⟨s.at_, s.e, s.out ++ [n]⟩)
def adv (s : PS) (k : Nat) : PS := ⟨s.at_ + k, s.e, s.out⟩
def callWords : List (List UInt8) := [[108, 101, 97, 115, 116], [109, 111, 115, 116], [105, 102], [108, 101, 115, 115], [101, 113, 117, 97, 108]]
def callNo (x : List UInt8) : Option Nat := callWords.idxOf? x
def kidN (op : Nat) : Nat := if op = 7 then 3 else 2
section
variable (nm : List UInt8 → Int) (l : List Tok)
def callL (sum : PS → Int × PS) (op : Nat) : Nat → List Int → PS → Int × PS
  | 0, _, s => (0, s)
  | k + 1, kids, s =>
    if (sum s).2.e ≠ 0 then (0, (sum s).2)
    else if k = 0 then (if sgn l (sum s).2 [41] then putP (adv (sum s).2 1) ⟨op, 0, [], kids ++ [(sum s).1]⟩ else failP (sum s).2 3)
    else if sgn l (sum s).2 [44] then callL sum op k (kids ++ [(sum s).1]) (adv (sum s).2 1) else failP (sum s).2 3
def callP (sum : PS → Int × PS) (s : PS) : Int × PS :=
  match callNo (tkAt l s.at_).2.1 with
  | none => failP s 21
  | some i => callL l sum (i + 5) (kidN (i + 5)) [] (adv s 2)
def factorP (jk : Bool) (sum : PS → Int × PS) (s : PS) : Int × PS :=
  if (tkAt l s.at_).1 = 2 then putP (adv s 1) ⟨0, nm (tkAt l s.at_).2.1, [], []⟩
  else if (tkAt l s.at_).1 = 1 then (if sgn l (adv s 1) [40] then callP l sum s else putP (adv s 1) ⟨1, 0, (tkAt l s.at_).2.1, []⟩)
  else if sgn l s [40] = false then failP s 3
  else if (sum (adv s 1)).2.e ≠ 0 then (if jk then (sum (adv s 1)).1 else 0, (sum (adv s 1)).2)
  else if sgn l (sum (adv s 1)).2 [41] then ((sum (adv s 1)).1, adv (sum (adv s 1)).2 1)
  else failP (sum (adv s 1)).2 3
def rowL (part : PS → Int × PS) (ops : List (Nat × List UInt8)) : Nat → Int → PS → Int × PS
  | 0, n, s => (n, s)
  | k + 1, n, s =>
    if s.e ≠ 0 then (n, s)
    else match ops.find? (fun o => sgn l s o.2) with
      | none => (n, s)
      | some o => rowL part ops k (putP (part (adv s 1)).2 ⟨o.1, 0, [], [n, (part (adv s 1)).1]⟩).1 (putP (part (adv s 1)).2 ⟨o.1, 0, [], [n, (part (adv s 1)).1]⟩).2
def rowP (part : PS → Int × PS) (ops : List (Nat × List UInt8)) (s : PS) : Int × PS := rowL l part ops (l.length - (part s).2.at_) (part s).1 (part s).2
def opsM : List (Nat × List UInt8) := [(4, [42])]
def opsA : List (Nat × List UInt8) := [(2, [43]), (3, [45])]
def sumP (jk : Bool) : Nat → PS → Int × PS
  | 0, s => failP s 3
  | k + 1, s => rowP l (rowP l (factorP nm l jk (sumP jk k)) opsM) opsA s

/-! ### What a reader keeps -/
structure Inv (s : PS) : Prop where
  lt : s.at_ < l.length
  le : s.out.length ≤ s.at_
  e0 : s.e = 0
  end0 : (tkAt l (l.length - 1)).1 = 0
/-- What a part of the reading comes to. -/
structure Good (s : PS) (r : Int × PS) : Prop where
  lt : r.2.at_ < l.length
  le : s.at_ ≤ r.2.at_
  out : r.2.out.length + s.at_ ≤ s.out.length + r.2.at_
  n0 : 0 ≤ r.1
  n1 : r.1 ≤ r.2.at_
  go : r.2.e = 0 → s.at_ < r.2.at_
  er : r.2.e = 0 ∨ r.2.e = 3 ∨ r.2.e = 21
def GoodF (f : PS → Int × PS) (m : Nat) : Prop := ∀ s, Inv l s → l.length - s.at_ ≤ m → Good l s (f s)
variable {nm l}
theorem tk_lt {i : Nat} (h0 : (tkAt l (l.length - 1)).1 = 0) (hi : i < l.length) (hk : (tkAt l i).1 ≠ 0) : i + 1 < l.length := by
  rcases Nat.lt_or_ge (i + 1) l.length with h | h
  · exact h
  · have : i = l.length - 1 := by omega
    rw [this] at hk; exact absurd h0 hk
theorem sgn_lt {s : PS} {x : List UInt8} (h0 : (tkAt l (l.length - 1)).1 = 0) (hi : s.at_ < l.length) (h : sgn l s x = true) : s.at_ + 1 < l.length := by
  simp only [sgn, Bool.and_eq_true, decide_eq_true_eq] at h
  exact tk_lt h0 hi (by omega)
theorem GoodF.mono {f : PS → Int × PS} {m k : Nat} (h : GoodF l f m) (hk : k ≤ m) : GoodF l f k := fun s hs hm => h s hs (by omega)
/-- Failing, where something was read. -/
theorem good_fail {s s1 : PS} {e : Int} (hl : s1.at_ < l.length) (h1 : s.at_ ≤ s1.at_) (h2 : s1.out.length + s.at_ ≤ s.out.length + s1.at_) (h0 : s1.e = 0) (he : e = 3 ∨ e = 21) : Good l s (failP s1 e) := by
  refine ⟨hl, h1, h2, Int.le_refl 0, by simp [failP], fun h => ?_, ?_⟩
  · simp only [failP, h0, if_true] at h; omega
  · simp only [failP, h0, if_true]; exact .inr he
theorem good_put {s s1 : PS} {n : Nd} (hl : s1.at_ < l.length) (h1 : s.at_ < s1.at_) (h2 : s1.out.length + s.at_ < s.out.length + s1.at_) (h3 : s.out.length ≤ s.at_) (he : s1.e = 0 ∨ s1.e = 3 ∨ s1.e = 21) : Good l s (putP s1 n) := by
  refine ⟨hl, by simp only [putP]; omega, by simp [putP]; omega, by simp [putP], by simp [putP]; omega, fun _ => by simpa [putP] using h1, he⟩
theorem callL_good {sum : PS → Int × PS} {op m : Nat} (hs : GoodF l sum m) (h0 : (tkAt l (l.length - 1)).1 = 0) : ∀ (k : Nat) (kids : List Int) (s0 s : PS), 0 < k → s0.at_ < s.at_ → s0.out.length ≤ s0.at_ → Inv l s → s.out.length + s0.at_ < s0.out.length + s.at_ → l.length - s.at_ ≤ m → Good l s0 (callL l sum op k kids s)
  | 0, _, _, _, h, _, _, _, _, _ => absurd h (by omega)
  | k + 1, kids, s0, s, _, hlt, h00, hI, ho, hm => by
    have hg := hs s hI hm
    have hgo := hg.out
    have hgl := hg.le
    unfold callL
    split
    · rename_i he
      exact ⟨hg.lt, by simp only; omega, by simp only; omega, Int.le_refl 0, by simp, fun h => absurd h he, hg.er⟩
    · rename_i he
      have he' : (sum s).2.e = 0 := by simpa using he
      have hgo2 := hg.go he'
      split
      · split
        · rename_i h1
          have := sgn_lt h0 hg.lt h1
          exact good_put (by simpa [adv] using this) (by simp [adv]; omega) (by simp [adv]; omega) h00 (.inl he')
        · exact good_fail hg.lt (by omega) (by omega) he' (.inl rfl)
      · split
        · rename_i hk h1
          have := sgn_lt h0 hg.lt h1
          exact callL_good hs h0 k _ s0 _ (by omega) (by simp [adv]; omega) h00 ⟨by simpa [adv] using this, by simp [adv]; omega, he', h0⟩ (by simp [adv]; omega) (by simp [adv]; omega)
        · exact good_fail hg.lt (by omega) (by omega) he' (.inl rfl)
theorem factor_good {jk : Bool} {sum : PS → Int × PS} {m : Nat} (hs : GoodF l sum m) : GoodF l (factorP nm l jk sum) (m + 1) := by
  intro s hI hm
  obtain ⟨hlt, hle, he, h0⟩ := hI
  unfold factorP
  split
  · rename_i h
    have := tk_lt h0 hlt (by omega)
    exact good_put (by simpa [adv] using this) (by simp [adv]) (by simp [adv]) hle (.inl he)
  · split
    · rename_i h
      have h1 := tk_lt h0 hlt (by omega)
      split
      · rename_i h2
        have h3 := sgn_lt (s := adv s 1) h0 (by simpa [adv] using h1) h2
        unfold callP
        split
        · exact good_fail hlt (Nat.le_refl _) (Nat.le_refl _) he (.inr rfl)
        · exact callL_good (hs.mono (k := m) (Nat.le_refl _)) h0 _ _ s _ (by unfold kidN; split <;> omega) (by simp [adv]) hle ⟨by simpa [adv] using h3, by simp [adv]; omega, he, h0⟩ (by simp [adv]) (by simp [adv]; omega)
      · exact good_put (by simpa [adv] using h1) (by simp [adv]) (by simp [adv]) hle (.inl he)
    · split
      · exact good_fail hlt (Nat.le_refl _) (Nat.le_refl _) he (.inl rfl)
      · rename_i h2
        have h3 := sgn_lt (s := s) (x := [40]) h0 hlt (by simpa using h2)
        have hg := hs (adv s 1) ⟨by simpa [adv] using h3, by simp [adv]; omega, he, h0⟩ (by simp [adv]; omega)
        have hle' : s.at_ + 1 ≤ (sum (adv s 1)).2.at_ := by simpa [adv] using hg.le
        have hoo : (sum (adv s 1)).2.out.length + (s.at_ + 1) ≤ s.out.length + (sum (adv s 1)).2.at_ := by simpa [adv] using hg.out
        split
        · rename_i he2
          refine ⟨hg.lt, by simp only; omega, by simp only; omega, ?_, ?_, fun h => absurd h he2, hg.er⟩
          · simp only; split
            · exact hg.n0
            · exact Int.le_refl 0
          · simp only; split
            · exact hg.n1
            · simp
        · rename_i he2
          have he' : (sum (adv s 1)).2.e = 0 := by simpa using he2
          split
          · rename_i h4
            have := sgn_lt h0 hg.lt h4
            have hn1 := hg.n1
            generalize sum (adv s 1) = r at *
            exact ⟨by simpa [adv] using this, by simp [adv]; omega, by simp [adv]; omega, hg.n0, by simp [adv]; omega, fun _ => by simp [adv]; omega, .inl he'⟩
          · exact good_fail hg.lt (by omega) (by omega) he' (.inl rfl)
theorem rowL_good {part : PS → Int × PS} {m : Nat} {ops : List (Nat × List UInt8)} (hp : GoodF l part m) (h0 : (tkAt l (l.length - 1)).1 = 0) (s0 : PS) (hl0 : s0.out.length ≤ s0.at_) (hm : l.length - s0.at_ ≤ m) : ∀ (k : Nat) (n : Int) (s : PS), Good l s0 (n, s) → Good l s0 (rowL l part ops k n s)
  | 0, n, s, h => h
  | k + 1, n, s, h => by
    unfold rowL
    split
    · exact h
    · rename_i he
      have he' : s.e = 0 := by simpa using he
      split
      · exact h
      · rename_i o ho
        have hs := List.find?_some ho
        have hlt := h.lt; have ho' := h.out; have hle := h.le; have hn0 := h.n0; have hn1 := h.n1; have hgo := h.go he'
        simp only at hlt ho' hle hgo
        have h1 := sgn_lt h0 hlt hs
        have hg := hp (adv s 1) ⟨by simpa [adv] using h1, by simp [adv]; omega, he', h0⟩ (by simp [adv]; omega)
        have hle2 : s.at_ + 1 ≤ (part (adv s 1)).2.at_ := by simpa [adv] using hg.le
        have hoo : (part (adv s 1)).2.out.length + (s.at_ + 1) ≤ s.out.length + (part (adv s 1)).2.at_ := by simpa [adv] using hg.out
        refine rowL_good hp h0 s0 hl0 hm k _ _ ?_
        generalize part (adv s 1) = r at *
        exact good_put (s := s0) hg.lt (by omega) (by omega) hl0 hg.er
theorem rowP_good {part : PS → Int × PS} {m : Nat} {ops : List (Nat × List UInt8)} (hp : GoodF l part m) : GoodF l (rowP l part ops) m := fun s hI hm =>
  rowL_good hp hI.end0 s hI.le hm _ _ _ (hp s hI hm)
theorem sumP_good {jk : Bool} : ∀ k, GoodF l (sumP nm l jk k) k
  | 0 => fun s hI hm => absurd hI.lt (by omega)
  | k + 1 => rowP_good (rowP_good (factor_good (sumP_good k)))
end
end Go.Proofs.YthekpjhffciakaaDoor

namespace Go.Proofs.YthekpjhffciakaaDoor
open Go PG Go.Proofs
set_option linter.unusedSimpArgs false
set_option linter.unusedVariables false
set_option maxRecDepth 100000
section
variable {nm : List UInt8 → Int} {l : List Tok}
/-! ### Kids stand ahead -/
/-- Each node's kids stand ahead of it. -/
def wfK : List Nd → Nat → Prop
  | [], _ => True
  | n :: ns, i => (∀ k ∈ n.kids, 0 ≤ k ∧ k < (i : Int)) ∧ wfK ns (i + 1)
theorem wfK_snoc {n : Nd} : ∀ {ns : List Nd} {i : Nat}, wfK ns i → (∀ k ∈ n.kids, 0 ≤ k ∧ k < ((i + ns.length : Nat) : Int)) → wfK (ns ++ [n]) i
  | [], i, _, h => ⟨by simpa using h, trivial⟩
  | m :: ns, i, hw, h => ⟨hw.1, wfK_snoc hw.2 (by
      intro k hk; have := h k hk; simp only [List.length_cons] at this; refine ⟨this.1, ?_⟩; have := this.2; omega)⟩
def WfR (s : PS) (r : Int × PS) : Prop := r.2.e = 0 → wfK r.2.out 0 ∧ 0 ≤ r.1 ∧ r.1 < r.2.out.length ∧ s.out.length ≤ r.2.out.length
def WfF (f : PS → Int × PS) : Prop := ∀ s, s.e = 0 → wfK s.out 0 → WfR s (f s)
theorem wf_put {s0 s : PS} {n : Nd} (hw : s.e = 0 → wfK s.out 0) (hl : s.e = 0 → s0.out.length ≤ s.out.length) (hk : s.e = 0 → ∀ k ∈ n.kids, 0 ≤ k ∧ k < (s.out.length : Int)) : WfR s0 (putP s n) := by
  intro he
  have he' : s.e = 0 := he
  refine ⟨wfK_snoc (hw he') (by simpa using hk he'), by simp [putP], by simp [putP]; omega, by have := hl he'; simp [putP]; omega⟩
theorem wf_fail {s0 s : PS} {e : Int} (he : s.e = 0) (h : e ≠ 0) : WfR s0 (failP s e) := by
  intro hh; simp [failP, he] at hh; exact absurd hh h
theorem callL_wf {f : PS → Int × PS} {op : Nat} (h : WfF f) (s0 : PS) : ∀ (k : Nat) (kids : List Int) (s : PS), 0 < k → s.e = 0 → wfK s.out 0 → s0.out.length ≤ s.out.length → (∀ x ∈ kids, 0 ≤ x ∧ x < (s.out.length : Int)) → WfR s0 (callL l f op k kids s)
  | 0, _, _, h, _, _, _, _ => absurd h (by omega)
  | k + 1, kids, s, _, he, hw, hl, hk => by
    have hg := h s he hw
    unfold callL
    split
    · rename_i h1; exact fun h => absurd h h1
    · rename_i h1
      have h1' : (f s).2.e = 0 := by simpa using h1
      obtain ⟨g1, g2, g3, g4⟩ := hg h1'
      have hk2 : ∀ x ∈ kids ++ [(f s).1], 0 ≤ x ∧ x < ((f s).2.out.length : Int) := fun x hx => by
        rcases List.mem_append.1 hx with hx | hx
        · have := hk x hx; omega
        · rw [List.mem_singleton.1 hx]; exact ⟨g2, g3⟩
      split
      · split
        · exact wf_put (fun _ => g1) (fun _ => by simp only [adv]; omega) (fun _ => hk2)
        · exact wf_fail h1' (by omega)
      · split
        · exact callL_wf h s0 k _ _ (by omega) h1' g1 (by simp only [adv]; omega) hk2
        · exact wf_fail h1' (by omega)
theorem factor_wf {jk : Bool} {f : PS → Int × PS} (h : WfF f) : WfF (factorP nm l jk f) := by
  intro s he hw
  unfold factorP
  split
  · exact wf_put (fun _ => hw) (fun _ => Nat.le_refl _) (fun _ => by simp)
  · split
    · split
      · unfold callP
        split
        · exact wf_fail he (by omega)
        · exact callL_wf h s _ _ _ (by unfold kidN; split <;> omega) he hw (Nat.le_refl _) (by simp)
      · exact wf_put (fun _ => hw) (fun _ => Nat.le_refl _) (fun _ => by simp)
    · split
      · exact wf_fail he (by omega)
      · have hg := h (adv s 1) he hw
        split
        · rename_i h1; exact fun h => absurd h h1
        · rename_i h1
          have h1' : (f (adv s 1)).2.e = 0 := by simpa using h1
          split
          · exact fun _ => hg h1'
          · exact wf_fail h1' (by omega)
theorem rowL_wf {f : PS → Int × PS} {ops : List (Nat × List UInt8)} (h : WfF f) (s0 : PS) : ∀ (k : Nat) (n : Int) (s : PS), WfR s0 (n, s) → WfR s0 (rowL l f ops k n s)
  | 0, n, s, hr => hr
  | k + 1, n, s, hr => by
    unfold rowL
    split
    · exact hr
    · rename_i he
      have he' : s.e = 0 := by simpa using he
      split
      · exact hr
      · rename_i o ho
        obtain ⟨g1, g2, g3, g4⟩ := hr he'
        simp only at g1 g2 g3 g4
        have hg := h (adv s 1) he' g1
        refine rowL_wf h s0 k _ _ (wf_put (fun h1 => (hg h1).1) (fun h1 => by have : s.out.length ≤ (f (adv s 1)).2.out.length := (hg h1).2.2.2; omega) (fun h1 x hx => ?_))
        obtain ⟨k1, k2, k3, k4⟩ := hg h1
        have k5 : s.out.length ≤ (f (adv s 1)).2.out.length := k4
        simp only [List.mem_cons, List.not_mem_nil, or_false] at hx
        rcases hx with rfl | rfl
        · exact ⟨g2, by omega⟩
        · exact ⟨k2, k3⟩
theorem rowP_wf {f : PS → Int × PS} {ops : List (Nat × List UInt8)} (h : WfF f) : WfF (rowP l f ops) := fun s he hw => rowL_wf h s _ _ _ (h s he hw)
theorem sumP_wf {jk : Bool} : ∀ k, WfF (sumP nm l jk k)
  | 0 => fun s he hw => wf_fail he (by omega)
  | k + 1 => rowP_wf (rowP_wf (factor_wf (sumP_wf k)))
end
end Go.Proofs.YthekpjhffciakaaDoor

namespace Go.Proofs.YthekpjhffciakaaDoor
open Go PG Go.Proofs
set_option linter.unusedSimpArgs false
set_option linter.unusedVariables false
set_option maxRecDepth 100000
def kidsMax (acc : List Int) : List Int → Int → Int
  | [], m => m
  | k :: ks, m => kidsMax acc ks (max m (acc.getD k.toNat 0))
def depthsM : List Nd → List Int → List Int
  | [], acc => acc
  | n :: ns, acc => depthsM ns (acc ++ [kidsMax acc n.kids 0 + 1])
def depthM (l : List Nd) : Int := (depthsM l []).getD (l.length - 1) 0
/-- A row that is filled from the front. -/
def rowV (acc : List Int) (N : Nat) : List PV := acc.map (PV.int .i64) ++ List.replicate (N - acc.length) (.int .i64 0)
def rowM (acc : List Int) (m : Int) (N : Nat) : List PV := acc.map (PV.int .i64) ++ .int .i64 m :: List.replicate (N - acc.length - 1) (.int .i64 0)
theorem rowV_M {acc : List Int} {N : Nat} (h : acc.length < N) : rowV acc N = rowM acc 0 N := by
  obtain ⟨d, hd⟩ : ∃ d, N - acc.length = d + 1 := ⟨N - acc.length - 1, by omega⟩
  simp [rowV, rowM, hd, List.replicate_succ]
theorem rowM_len {acc : List Int} {m : Int} {N : Nat} (h : acc.length < N) : (rowM acc m N).length = N := by simp [rowM]; omega
theorem rowM_at (acc : List Int) (m : Int) (N : Nat) : (rowM acc m N)[acc.length]? = some (.int .i64 m) := by simp [rowM]
theorem rowM_lt {acc : List Int} (m : Int) (N : Nat) {k : Nat} (h : k < acc.length) : (rowM acc m N)[k]? = some (.int .i64 (acc.getD k 0)) := by
  simp [rowM, List.getElem?_append_left, h, List.getD]
theorem rowV_lt {acc : List Int} (N : Nat) {k : Nat} (h : k < acc.length) : (rowV acc N)[k]? = some (.int .i64 (acc.getD k 0)) := by
  simp [rowV, List.getElem?_append_left, h, List.getD]
theorem rowM_set (acc : List Int) (m m' : Int) (N : Nat) : (rowM acc m N).set acc.length (.int .i64 m') = rowM acc m' N := by simp [rowM]
theorem rowM_V {acc : List Int} {m : Int} {N : Nat} : rowM acc m N = rowV (acc ++ [m]) N := by
  simp only [rowM, rowV, List.map_append, List.map_cons, List.map_nil, List.append_assoc, List.length_append, List.length_cons, List.length_nil]
  rw [Nat.sub_add_eq]; rfl
theorem getD_bnd {acc : List Int} {B : Int} (hB : ∀ x ∈ acc, 0 ≤ x ∧ x ≤ B) (h0 : 0 ≤ B) (k : Nat) : 0 ≤ acc.getD k 0 ∧ acc.getD k 0 ≤ B := by
  rw [List.getD_eq_getElem?_getD]
  cases hk : acc[k]? with
  | none => simpa using h0
  | some x => simpa using hB x (List.mem_of_getElem? hk)
/-- What a formula's tokens come to: nodes, or a place and an error. -/
def parseR (nm : List UInt8 → Int) (l : List Tok) (jk : Bool) : Except (Nat × Int) (List Nd) :=
  let r := (sumP nm l jk l.length ⟨0, 0, []⟩).2
  if r.e ≠ 0 then .error ((tkAt l r.at_).2.2, r.e)
  else if (tkAt l r.at_).1 ≠ 0 then .error ((tkAt l r.at_).2.2, 3)
  else if 256 < r.out.length then .error (0, 5)
  else if 16 < depthM r.out then .error (0, 14)
  else .ok r.out
end Go.Proofs.YthekpjhffciakaaDoor

namespace Go.Proofs.YthekpjhffciakaaDoor
open Go PG Go.Proofs
set_option linter.unusedSimpArgs false
set_option linter.unusedVariables false
set_option maxHeartbeats 4000000
set_option maxRecDepth 100000
variable {G : Globs}
/-- A contract of the shelf's, as one by value. -/
theorem VCalls.shelf {P : Program} {G : Globs} {f : Nat} {as_ : List PV} {res : PV} {va : Array Value} {v : Value}
  (hva : ∀ w ex vs, RepCs w ex vs as_ → vs = va) (hv : ∀ w ex, RepC w ex v res) (h : ∀ w, Calls P f va w fun e w' => e = .returned v ∧ w' = w) : VCalls P G f as_ res := by
  intro w ex vs _ _ hr
  rw [hva w ex vs hr]
  refine (h w).mono ?_
  rintro e w' ⟨rfl, rfl⟩
  exact ⟨v, rfl, RowKit.Below.refl _ _, hv _ _⟩

theorem repCs_str_int {w ex vs} {s : List UInt8} {k : IntKind} {c : Int} (h : RepCs w ex vs [.str s, .int k c]) : vs = #[.string ⟨⟨s⟩⟩, .int k c] := by
  obtain ⟨hs, hr⟩ := h
  obtain ⟨l⟩ := vs
  match l, hs with
  | [x, y], _ =>
    have h0 := hr 0 x _ rfl rfl
    have h1 := hr 1 y _ rfl rfl
    cases h0; cases h1; rfl
theorem repCs_str_str {w ex vs} {s t : List UInt8} (h : RepCs w ex vs [.str s, .str t]) : vs = #[.string ⟨⟨s⟩⟩, .string ⟨⟨t⟩⟩] := by
  obtain ⟨hs, hr⟩ := h
  obtain ⟨l⟩ := vs
  match l, hs with
  | [x, y], _ =>
    have h0 := hr 0 x _ rfl rfl
    have h1 := hr 1 y _ rfl rfl
    cases h0; cases h1; rfl
theorem w101 (s : ByteArray) (c : Int) (w : World) :
    Calls Tryd.prog 101 #[.string s, .int .u8 c] w fun e w' => e = .returned (.int .i64 (Lib.indexByte s.data.toList c.toNat.toUInt8)) ∧ w' = w := by
  go_enter Tryd.func101, Tryd.ntmps101
  go_wp2
  rw [run_callFunc_extern Tryd.func127 (by kernel_rfl) (by kernel_rfl) (by kernel_rfl) (e := Extern.BytealgIndexByte.indexByte) (by kernel_rfl), Lib.run_indexByteString]
  simp only [Result.andThen]
  rw [Oper.upon_value]
  go_wp2
  go_ret
  exact ⟨rfl, rfl⟩
theorem w48 (s : ByteArray) (c : UInt8) (w : World) :
    Calls Tryd.prog 48 #[.string s, .string ⟨#[c]⟩] w fun e w' => e = .returned (.int .i64 (Lib.countByte s.data.toList c)) ∧ w' = w := by
  go_enter Tryd.func48, Tryd.ntmps48
  go_wp2
  rw [run_callFunc_extern Tryd.func78 (by kernel_rfl) (by kernel_rfl) (by kernel_rfl) (e := Extern.BytealgCount.count) (by kernel_rfl), Lib.run_countString]
  simp only [Result.andThen]
  rw [Oper.upon_value]
  go_wp2
  go_ret
  exact ⟨rfl, rfl⟩
theorem v101 (s : List UInt8) (b : UInt8) : VCalls Tryd.prog G 101 [.str s, .int .u8 b.toNat] (.int .i64 (Lib.indexByte s b)) := by
  refine VCalls.shelf (fun w ex vs h => repCs_str_int h) (fun w ex => .int _ _) (fun w => ?_)
  have h := w101 ⟨⟨s⟩⟩ (b.toNat : Int) w
  simpa using h
theorem v48 (s : List UInt8) (b : UInt8) : VCalls Tryd.prog G 48 [.str s, .str [b]] (.int .i64 (Lib.countByte s b)) := by
  exact VCalls.shelf (fun w ex vs h => repCs_str_str h) (fun w ex => .int _ _) (fun w => w48 ⟨⟨s⟩⟩ b w)
theorem e48 : Ent Tryd.prog 48 := ⟨Tryd.f48, Tryd.func48, by kernel_rfl, by kernel_rfl⟩
theorem e101 : Ent Tryd.prog 101 := ⟨Tryd.f101, Tryd.func101, by kernel_rfl, by kernel_rfl⟩
theorem e102 : Ent Tryd.prog 102 := ⟨Tryd.f102, Tryd.func102, by kernel_rfl, by kernel_rfl⟩
theorem e103 : Ent Tryd.prog 103 := ⟨Tryd.f103, Tryd.func103, by kernel_rfl, by kernel_rfl⟩
theorem e80 : Ent Tryd.prog 80 := ⟨Tryd.f80, Tryd.func80, by kernel_rfl, by kernel_rfl⟩
theorem e76 : Ent Tryd.prog 76 := ⟨Tryd.f76, Tryd.func76, by kernel_rfl, by kernel_rfl⟩

theorem len1 (b : UInt8) : (([b].length : Nat) : Int) = 1 := rfl
theorem d10 : decide ((1 : Int) = 0) = false := rfl
theorem d11 : decide ((1 : Int) = 1) = true := rfl
theorem zt : (0 : Int).toNat = 0 := rfl
theorem getD0 (b : UInt8) (l : List UInt8) : (b :: l).getD 0 0 = b := rfl
theorem v102 (s : List UInt8) (b : UInt8) : VCalls Tryd.prog G 102 [.str s, .str [b]] (.int .i64 (Lib.indexByte s b)) := by
  refine VCalls.of_PW Tryd.func102 k102 mix (by simp [c102]) ?_
  simp only [c102, L102, CC, argE]
  repeat' (first | refine PW.seq ?_ | refine PW.block ?_ | ((first | refine PW.region ?_ | refine PW.regionQ ?_ | refine PW.exit ?_ | refine PW.ret ?_ | refine PW.skip ?_); simp only [len1, d10, d11, zt, getD0, Bool.not_false, Bool.not_true, SA, Nat.reduceAdd, reduceIte, Nat.reduceEqDiff, Nat.reduceBEq, reduceCtorEq]; (try go_unwrap; try simp only [len1, d10, d11, zt, getD0, Bool.not_false, Bool.not_true, RR, reduceCtorEq])) | refine PW.regionA ?_ | exact schedW_stop_i | ((first | refine schedW_alt_i ?_ ?_ | refine schedW_done_i ?_); focus (simp only [len1, d10, d11, zt, getD0, Bool.not_false, Bool.not_true, SA, Nat.reduceAdd, reduceIte, Nat.reduceEqDiff, Nat.reduceBEq, reduceCtorEq]; (try go_unwrap; try simp only [len1, d10, d11, zt, getD0, Bool.not_false, Bool.not_true, RR, reduceCtorEq]))) | (refine PW.cond rfl ?_ ?_ <;> intro hcond <;> (try contradiction) <;> try simp only [DD] at hcond) | (apply goCall_V e101; (case hV => (simp only [len1, d10, d11, zt, getD0, Bool.not_false, Bool.not_true, SA, Nat.reduceAdd, reduceIte, Nat.reduceEqDiff, Nat.reduceBEq, reduceCtorEq]; (try go_unwrap; try simp only [len1, d10, d11, zt, getD0, Bool.not_false, Bool.not_true, RR, reduceCtorEq]); exact v101 _ _)); (try (case hs => rfl)); (try (case hf => first | exact Or.inl rfl | exact Or.inr ⟨rfl, rfl⟩ | (refine Or.inl ?_; simp only [len1, d10, d11, zt, getD0, Bool.not_false, Bool.not_true, SA, Nat.reduceAdd, reduceIte, Nat.reduceEqDiff, Nat.reduceBEq, reduceCtorEq]; done) | (refine Or.inr ⟨rfl, ?_⟩; simp only [len1, d10, d11, zt, getD0, Bool.not_false, Bool.not_true, SA, Nat.reduceAdd, reduceIte, Nat.reduceEqDiff, Nat.reduceBEq, reduceCtorEq]; done))); all_goals (simp only [len1, d10, d11, zt, getD0, Bool.not_false, Bool.not_true, SA, Nat.reduceAdd, reduceIte, Nat.reduceEqDiff, Nat.reduceBEq, reduceCtorEq]; (try go_unwrap; try simp only [len1, d10, d11, zt, getD0, Bool.not_false, Bool.not_true, RR, reduceCtorEq]))) | refine And.intro ?_ ?_ | exact Or.inr ⟨rfl, Nat.le_refl _⟩ | exact (fun h => Bool.noConfusion h) | omega | (simp only [decide_eq_true_eq, decide_eq_false_iff_not, List.length_cons, List.length_nil, List.length_append, List.length_map, Sh.size] <;> omega) | (go_unwrap; omega))
  · try simp only [Bool.false_or, decide_eq_true_eq] at hcond
    simp [← hcond, Lib.indexByte]
def cutS (s : List UInt8) (b : UInt8) : List UInt8 × List UInt8 × Bool :=
  if 0 ≤ Lib.indexByte s b then (s.take (Lib.indexByte s b).toNat, s.drop ((Lib.indexByte s b).toNat + 1), true) else (s, [], false)
theorem indexByte_lt (s : List UInt8) (b : UInt8) : Lib.indexByte s b < s.length := by
  induction s with
  | nil => simp [Lib.indexByte]
  | cons x l ih =>
    unfold Lib.indexByte
    simp only [List.length_cons]
    split
    · omega
    · split <;> omega
theorem v103 (s : List UInt8) (b : UInt8) (hs : s.length ≤ 9223372036854775806) : VCalls Tryd.prog G 103 [.str s, .str [b]] (.tup [.str (cutS s b).1, .str (cutS s b).2.1, .bool (cutS s b).2.2]) := by
  refine VCalls.of_PW Tryd.func103 k103 mix (by simp [c103]) ?_
  have h1 := indexByte_lt s b
  simp only [c103, L103, CC, argE]
  repeat' (first | refine PW.seq ?_ | refine PW.block ?_ | ((first | refine PW.region ?_ | refine PW.regionQ ?_ | refine PW.exit ?_ | refine PW.ret ?_ | refine PW.skip ?_); simp only [len1, SA, Nat.reduceAdd, reduceIte, Nat.reduceEqDiff, Nat.reduceBEq, reduceCtorEq]; (try go_unwrap; try simp only [len1, RR, reduceCtorEq])) | refine PW.regionA ?_ | exact schedW_stop_i | ((first | refine schedW_alt_i ?_ ?_ | refine schedW_done_i ?_); focus (simp only [len1, SA, Nat.reduceAdd, reduceIte, Nat.reduceEqDiff, Nat.reduceBEq, reduceCtorEq]; (try go_unwrap; try simp only [len1, RR, reduceCtorEq]))) | (refine PW.cond rfl ?_ ?_ <;> intro hcond <;> (try contradiction) <;> try simp only [DD] at hcond) | (apply goCall_V e102; (case hV => (simp only [len1, SA, Nat.reduceAdd, reduceIte, Nat.reduceEqDiff, Nat.reduceBEq, reduceCtorEq]; (try go_unwrap; try simp only [len1, RR, reduceCtorEq]); exact v102 _ _)); (try (case hs => rfl)); (try (case hf => first | exact Or.inl rfl | exact Or.inr ⟨rfl, rfl⟩ | (refine Or.inl ?_; simp only [len1, SA, Nat.reduceAdd, reduceIte, Nat.reduceEqDiff, Nat.reduceBEq, reduceCtorEq]; done) | (refine Or.inr ⟨rfl, ?_⟩; simp only [len1, SA, Nat.reduceAdd, reduceIte, Nat.reduceEqDiff, Nat.reduceBEq, reduceCtorEq]; done))); all_goals (simp only [len1, SA, Nat.reduceAdd, reduceIte, Nat.reduceEqDiff, Nat.reduceBEq, reduceCtorEq]; (try go_unwrap; try simp only [len1, RR, reduceCtorEq]))) | refine And.intro ?_ ?_ | exact Or.inr ⟨rfl, Nat.le_refl _⟩ | exact (fun h => Bool.noConfusion h) | omega | (simp only [decide_eq_true_eq, decide_eq_false_iff_not, List.length_cons, List.length_nil, List.length_append, List.length_map, Sh.size] <;> omega) | (go_unwrap; omega))
  all_goals (try simp only [decide_eq_true_eq, decide_eq_false_iff_not] at hcond)
  all_goals (try simp only [cutS, hcond, if_true, if_false])
  all_goals (try go_unwrap)
  all_goals try (go_unwrap; omega)
  rw [show (Lib.indexByte s b + 1).toNat = (Lib.indexByte s b).toNat + 1 by omega]

theorem v80 (s : List UInt8) (b : UInt8) (hs : s.length ≤ 9223372036854775806) : VCalls Tryd.prog G 80 [.str s, .str [b]] (.tup [.str (cutS s b).1, .str (cutS s b).2.1, .bool (cutS s b).2.2]) := by
  refine VCalls.of_PW Tryd.func80 k80 mix (by simp [c80]) ?_
  simp only [c80, L80, CC, argE]
  repeat' (first | refine PW.seq ?_ | refine PW.block ?_ | ((first | refine PW.region ?_ | refine PW.regionQ ?_ | refine PW.exit ?_ | refine PW.ret ?_ | refine PW.skip ?_); simp only [SA, Nat.reduceAdd, reduceIte, Nat.reduceEqDiff, Nat.reduceBEq, reduceCtorEq]; (try go_unwrap; try simp only [RR, reduceCtorEq])) | refine PW.regionA ?_ | exact schedW_stop_i | ((first | refine schedW_alt_i ?_ ?_ | refine schedW_done_i ?_); focus (simp only [SA, Nat.reduceAdd, reduceIte, Nat.reduceEqDiff, Nat.reduceBEq, reduceCtorEq]; (try go_unwrap; try simp only [RR, reduceCtorEq]))) | (refine PW.cond rfl ?_ ?_ <;> intro hcond <;> (try contradiction) <;> try simp only [DD] at hcond) | (apply goCall_V e103; (case hV => (simp only [SA, Nat.reduceAdd, reduceIte, Nat.reduceEqDiff, Nat.reduceBEq, reduceCtorEq]; (try go_unwrap; try simp only [RR, reduceCtorEq]); exact v103 _ _ hs)); (try (case hs => rfl)); (try (case hf => first | exact Or.inl rfl | exact Or.inr ⟨rfl, rfl⟩ | (refine Or.inl ?_; simp only [SA, Nat.reduceAdd, reduceIte, Nat.reduceEqDiff, Nat.reduceBEq, reduceCtorEq]; done) | (refine Or.inr ⟨rfl, ?_⟩; simp only [SA, Nat.reduceAdd, reduceIte, Nat.reduceEqDiff, Nat.reduceBEq, reduceCtorEq]; done))); all_goals (simp only [SA, Nat.reduceAdd, reduceIte, Nat.reduceEqDiff, Nat.reduceBEq, reduceCtorEq]; (try go_unwrap; try simp only [RR, reduceCtorEq]))) | refine And.intro ?_ ?_ | exact Or.inr ⟨rfl, Nat.le_refl _⟩ | exact (fun h => Bool.noConfusion h) | omega | (simp only [decide_eq_true_eq, decide_eq_false_iff_not, List.length_cons, List.length_nil, List.length_append, List.length_map, Sh.size] <;> omega) | (go_unwrap; omega))
theorem v76 (s : List UInt8) (b : UInt8) : VCalls Tryd.prog G 76 [.str s, .int .u8 b.toNat] (.int .i64 (Lib.indexByte s b)) := by
  refine VCalls.of_PW Tryd.func76 k76 mix (by simp [c76]) ?_
  simp only [c76, L76, CC, argE]
  repeat' (first | refine PW.seq ?_ | refine PW.block ?_ | ((first | refine PW.region ?_ | refine PW.regionQ ?_ | refine PW.exit ?_ | refine PW.ret ?_ | refine PW.skip ?_); simp only [SA, Nat.reduceAdd, reduceIte, Nat.reduceEqDiff, Nat.reduceBEq, reduceCtorEq]; (try go_unwrap; try simp only [RR, reduceCtorEq])) | refine PW.regionA ?_ | exact schedW_stop_i | ((first | refine schedW_alt_i ?_ ?_ | refine schedW_done_i ?_); focus (simp only [SA, Nat.reduceAdd, reduceIte, Nat.reduceEqDiff, Nat.reduceBEq, reduceCtorEq]; (try go_unwrap; try simp only [RR, reduceCtorEq]))) | (refine PW.cond rfl ?_ ?_ <;> intro hcond <;> (try contradiction) <;> try simp only [DD] at hcond) | (apply goCall_V e101; (case hV => (simp only [SA, Nat.reduceAdd, reduceIte, Nat.reduceEqDiff, Nat.reduceBEq, reduceCtorEq]; (try go_unwrap; try simp only [RR, reduceCtorEq]); exact v101 _ _)); (try (case hs => rfl)); (try (case hf => first | exact Or.inl rfl | exact Or.inr ⟨rfl, rfl⟩ | (refine Or.inl ?_; simp only [SA, Nat.reduceAdd, reduceIte, Nat.reduceEqDiff, Nat.reduceBEq, reduceCtorEq]; done) | (refine Or.inr ⟨rfl, ?_⟩; simp only [SA, Nat.reduceAdd, reduceIte, Nat.reduceEqDiff, Nat.reduceBEq, reduceCtorEq]; done))); all_goals (simp only [SA, Nat.reduceAdd, reduceIte, Nat.reduceEqDiff, Nat.reduceBEq, reduceCtorEq]; (try go_unwrap; try simp only [RR, reduceCtorEq]))) | refine And.intro ?_ ?_ | exact Or.inr ⟨rfl, Nat.le_refl _⟩ | exact (fun h => Bool.noConfusion h) | omega | (simp only [decide_eq_true_eq, decide_eq_false_iff_not, List.length_cons, List.length_nil, List.length_append, List.length_map, Sh.size] <;> omega) | (go_unwrap; omega))

def signs : List UInt8 := [43, 45, 42, 40, 41, 44, 60, 61]
def signB (b : UInt8) : Bool := signs.contains b
end Go.Proofs.YthekpjhffciakaaDoor

namespace Go.Proofs.YthekpjhffciakaaDoor
open Go PG Go.Proofs
set_option linter.unusedSimpArgs false
set_option linter.unusedVariables false
set_option maxHeartbeats 4000000
set_option maxRecDepth 100000
variable {G : Globs}
theorem e49 : Ent Tryd.prog 49 := ⟨Tryd.f49, Tryd.func49, by kernel_rfl, by kernel_rfl⟩
/-- The whole part, held at one more than the most. -/
def capV : Nat → List UInt8 → Nat
  | n, [] => n
  | n, b :: l => if 10 * n + (b - 48).toNat > 1000000000000 then capV 1000000000001 l else capV (10 * n + (b - 48).toNat) l
/-- The whole part, given up where it is more. -/
def lexV : Nat → List UInt8 → Option Nat
  | n, [] => some n
  | n, b :: l => if 10 * n + (b - 48).toNat > 1000000000000 then none else lexV (10 * n + (b - 48).toNat) l
/-- Behind the point. -/
def partV : Nat → List UInt8 → Nat
  | _, [] => 0
  | u, b :: l => u * (b - 48).toNat + partV (u / 10) l
theorem partV_le (u : Nat) (l : List UInt8) : partV u l ≤ 284 * u := by
  induction l generalizing u with
  | nil => simp [partV]
  | cons b l ih =>
    have h := ih (u / 10)
    have h1 : (b - 48).toNat ≤ 255 := by have := (b - 48).toNat_lt; omega
    have h2 : u * (b - 48).toNat ≤ u * 255 := Nat.mul_le_mul_left u h1
    simp only [partV]
    omega
theorem capV_over (l : List UInt8) : capV 1000000000001 l = 1000000000001 := by
  induction l with
  | nil => rfl
  | cons b l ih => simp only [capV]; rw [if_pos (by omega)]; exact ih
theorem lexV_capV {n : Nat} {l : List UInt8} (h : n ≤ 1000000000000) : (lexV n l = none ∧ capV n l = 1000000000001) ∨ (∃ m, lexV n l = some m ∧ capV n l = m ∧ m ≤ 1000000000000) := by
  induction l generalizing n with
  | nil => exact .inr ⟨n, rfl, rfl, h⟩
  | cons b l ih =>
    simp only [lexV, capV]
    split
    · exact .inl ⟨rfl, capV_over l⟩
    · exact ih (by omega)
def milV (w r : List UInt8) : Nat := capV 0 w * 1000000 + partV 100000 r
def valV (s : List UInt8) : PV :=
  match lexV 0 (cutS s 46).1 with
  | none => .tup [.int .i64 0, .bool false]
  | some n => if n = 1000000000000 ∧ 0 < partV 100000 (cutS s 46).2.1 then .tup [.int .i64 0, .bool false] else .tup [.int .i64 (n * 1000000 + partV 100000 (cutS s 46).2.1 : Nat), .bool true]
theorem drop_cons {s : List UInt8} {i : Nat} (h : i < s.length) : s.drop i = s.getD i 0 :: s.drop (i + 1) := by
  rw [List.drop_eq_getElem_cons h]
  simp [List.getD, h]

theorem v49 (s : List UInt8) (hs : s.length ≤ 9223372036854775806) : VCalls Tryd.prog G 49 [.str s] (valV s) := by
  refine VCalls.of_PW Tryd.func49 k49 mix (by simp [c49]) ?_
  have hcut : (cutS s 46).1.length ≤ s.length ∧ (cutS s 46).2.1.length ≤ s.length := by
    unfold cutS
    split
    · simp; omega
    · simp
  have hv : ∀ x y, (cutS s 46).1 = x → (cutS s 46).2.1 = y → valV s = (match lexV 0 x with
      | none => .tup [.int .i64 0, .bool false]
      | some n => if n = 1000000000000 ∧ 0 < partV 100000 y then .tup [.int .i64 0, .bool false] else .tup [.int .i64 (n * 1000000 + partV 100000 y : Nat), .bool true]) := by
    rintro x y rfl rfl; rfl
  have hcall := v80 (G := G) s 46 hs
  generalize (cutS s 46).1 = w at *
  generalize (cutS s 46).2.1 = r at *
  generalize (cutS s 46).2.2 = fd at *
  rw [hv w r rfl rfl]
  simp only [c49, L49, CC, argE]
  repeat' (first | refine PW.seq ?_ | refine PW.block ?_ | ((first | refine PW.region ?_ | refine PW.regionQ ?_ | refine PW.exit ?_ | refine PW.ret ?_ | refine PW.skip ?_); simp only [SA, Nat.reduceAdd, reduceIte, Nat.reduceEqDiff, Nat.reduceBEq, reduceCtorEq]; (try go_unwrap; try simp only [RR, reduceCtorEq])) | refine PW.regionA ?_ | exact schedW_stop_i | ((first | refine schedW_alt_i ?_ ?_ | refine schedW_done_i ?_); focus (simp only [SA, Nat.reduceAdd, reduceIte, Nat.reduceEqDiff, Nat.reduceBEq, reduceCtorEq]; (try go_unwrap; try simp only [RR, reduceCtorEq]))) | (refine PW.cond rfl ?_ ?_ <;> intro hcond <;> (try contradiction) <;> try simp only [DD] at hcond) | (apply goCall_V e80; (case hV => (simp only [SA, Nat.reduceAdd, reduceIte, Nat.reduceEqDiff, Nat.reduceBEq, reduceCtorEq]; (try go_unwrap; try simp only [RR, reduceCtorEq]); exact hcall)); (try (case hs => rfl)); (try (case hf => first | exact Or.inl rfl | exact Or.inr ⟨rfl, rfl⟩ | (refine Or.inl ?_; simp only [SA, Nat.reduceAdd, reduceIte, Nat.reduceEqDiff, Nat.reduceBEq, reduceCtorEq]; done) | (refine Or.inr ⟨rfl, ?_⟩; simp only [SA, Nat.reduceAdd, reduceIte, Nat.reduceEqDiff, Nat.reduceBEq, reduceCtorEq]; done))); all_goals (simp only [SA, Nat.reduceAdd, reduceIte, Nat.reduceEqDiff, Nat.reduceBEq, reduceCtorEq]; (try go_unwrap; try simp only [RR, reduceCtorEq]))) | refine And.intro ?_ ?_ | exact Or.inr ⟨rfl, Nat.le_refl _⟩ | exact (fun h => Bool.noConfusion h) | omega | (simp only [decide_eq_true_eq, decide_eq_false_iff_not, List.length_cons, List.length_nil, List.length_append, List.length_map, Sh.size] <;> omega) | (go_unwrap; omega))
  refine PW.loop (σ := Nat × Nat) [5, 7, 20, 21, 22] (fun j => [.str r, .int .i64 j.2, .list none (u8s w), .int .i64 w.length, .int .i64 j.1]) (fun _ => []) (fun j => j.1 ≤ w.length ∧ j.2 ≤ 1000000000000 ∧ lexV 0 w = lexV j.2 (w.drop j.1)) (fun j => w.length - j.1) (0, 0) ?_ rfl ⟨by simp, by simp, by simp⟩ ?_
  · simp only [SA, Nat.reduceAdd, reduceIte, Nat.reduceEqDiff, Nat.reduceBEq, reduceCtorEq]; rfl
  rintro ⟨j, n⟩ ⟨hj, hn, hc⟩
  simp only at hj hn hc
  simp only [List.zip_cons_cons, List.zip_nil_left]
  rcases Nat.lt_or_ge j w.length with hlt | hlt
  · have hd : decide ((j : Int) < w.length) = true := by simp only [decide_eq_true_eq]; omega
    have hb : (w.getD j 0 - 48).toNat < 256 := UInt8.toNat_lt _
    have hx := u8s_getD w j hlt
    rw [drop_cons hlt, lexV] at hc
    repeat' (first | refine PW.seq ?_ | refine PW.block ?_ | ((first | refine PW.region ?_ | refine PW.regionQ ?_ | refine PW.exit ?_ | refine PW.ret ?_ | refine PW.skip ?_); simp only [hd, hx, SA, Nat.reduceAdd, reduceIte, Nat.reduceEqDiff, Nat.reduceBEq, reduceCtorEq]; (try go_unwrap; try simp only [hd, hx, RR, reduceCtorEq])) | refine PW.regionA ?_ | exact schedW_stop_i | ((first | refine schedW_alt_i ?_ ?_ | refine schedW_done_i ?_); focus (simp only [hd, hx, SA, Nat.reduceAdd, reduceIte, Nat.reduceEqDiff, Nat.reduceBEq, reduceCtorEq]; (try go_unwrap; try simp only [hd, hx, RR, reduceCtorEq]))) | (refine PW.cond rfl ?_ ?_ <;> intro hcond <;> (try contradiction) <;> try simp only [DD] at hcond) | refine And.intro ?_ ?_ | exact Or.inr ⟨rfl, Nat.le_refl _⟩ | exact (fun h => Bool.noConfusion h) | omega | (simp only [decide_eq_true_eq, decide_eq_false_iff_not, List.length_cons, List.length_nil, List.length_append, List.length_map, Sh.size] <;> omega) | (go_unwrap; omega))
    · rw [if_pos (by omega)] at hc
      rw [hc]
    · rw [if_neg (by omega)] at hc
      exact ⟨(j + 1, 10 * n + (w.getD j 0 - 48).toNat), rfl, ⟨hlt, by simp only; omega, hc⟩, by simp only; omega⟩
  · have hd : decide ((j : Int) < w.length) = false := by simp only [decide_eq_false_iff_not]; omega
    rw [List.drop_eq_nil_of_le hlt, lexV] at hc
    rw [hc]
    repeat' (first | refine PW.seq ?_ | refine PW.block ?_ | ((first | refine PW.region ?_ | refine PW.regionQ ?_ | refine PW.exit ?_ | refine PW.ret ?_ | refine PW.skip ?_); simp only [hd, SA, Nat.reduceAdd, reduceIte, Nat.reduceEqDiff, Nat.reduceBEq, reduceCtorEq]; (try go_unwrap; try simp only [hd, RR, reduceCtorEq])) | refine PW.regionA ?_ | exact schedW_stop_i | ((first | refine schedW_alt_i ?_ ?_ | refine schedW_done_i ?_); focus (simp only [hd, SA, Nat.reduceAdd, reduceIte, Nat.reduceEqDiff, Nat.reduceBEq, reduceCtorEq]; (try go_unwrap; try simp only [hd, RR, reduceCtorEq]))) | (refine PW.cond rfl ?_ ?_ <;> intro hcond <;> (try contradiction) <;> try simp only [DD] at hcond) | refine And.intro ?_ ?_ | exact Or.inr ⟨rfl, Nat.le_refl _⟩ | exact (fun h => Bool.noConfusion h) | omega | (simp only [decide_eq_true_eq, decide_eq_false_iff_not, List.length_cons, List.length_nil, List.length_append, List.length_map, Sh.size] <;> omega) | (go_unwrap; omega))
    have hp := partV_le 100000 r
    refine PW.loop (σ := Nat × Nat × Nat) [5, 7, 10, 11, 12] (fun j => [.str r, .int .i64 n, .int .i64 j.2.1, .int .i64 j.1, .int .i64 j.2.2]) (fun _ => []) (fun j => j.1 ≤ r.length ∧ j.2.2 ≤ 100000 ∧ j.2.1 + partV j.2.2 (r.drop j.1) = partV 100000 r) (fun j => r.length - j.1) (0, 0, 100000) ?_ rfl ⟨by simp, by simp, by simp⟩ ?_
    · simp only [SA, Nat.reduceAdd, reduceIte, Nat.reduceEqDiff, Nat.reduceBEq, reduceCtorEq]; rfl
    rintro ⟨i, m, u⟩ ⟨hi, hu, hm⟩
    simp only at hi hu hm
    simp only [List.zip_cons_cons, List.zip_nil_left]
    rcases Nat.lt_or_ge i r.length with hlt' | hlt'
    · have hd' : decide ((i : Int) < r.length) = true := by simp only [decide_eq_true_eq]; omega
      rw [drop_cons hlt', partV] at hm
      have h0 : ((u : Int) * ((r.getD i 0 - 48).toNat : Int)) = ((u * (r.getD i 0 - 48).toNat : Nat) : Int) := by rw [Int.natCast_mul]
      have h1 : u * (r.getD i 0 - 48).toNat ≤ 28400000 := by omega
      generalize hz : u * (r.getD i 0 - 48).toNat = z at *
      repeat' (first | refine PW.seq ?_ | refine PW.block ?_ | ((first | refine PW.region ?_ | refine PW.regionQ ?_ | refine PW.exit ?_ | refine PW.ret ?_ | refine PW.skip ?_); simp only [hd', h0, tdiv10, SA, Nat.reduceAdd, reduceIte, Nat.reduceEqDiff, Nat.reduceBEq, reduceCtorEq]; (try go_unwrap; try simp only [hd', h0, tdiv10, RR, reduceCtorEq])) | refine PW.regionA ?_ | exact schedW_stop_i | ((first | refine schedW_alt_i ?_ ?_ | refine schedW_done_i ?_); focus (simp only [hd', h0, tdiv10, SA, Nat.reduceAdd, reduceIte, Nat.reduceEqDiff, Nat.reduceBEq, reduceCtorEq]; (try go_unwrap; try simp only [hd', h0, tdiv10, RR, reduceCtorEq]))) | (refine PW.cond rfl ?_ ?_ <;> intro hcond <;> (try contradiction) <;> try simp only [DD] at hcond) | refine And.intro ?_ ?_ | exact Or.inr ⟨rfl, Nat.le_refl _⟩ | exact (fun h => Bool.noConfusion h) | omega | (simp only [decide_eq_true_eq, decide_eq_false_iff_not, List.length_cons, List.length_nil, List.length_append, List.length_map, Sh.size] <;> omega) | (go_unwrap; omega))
      exact ⟨(i + 1, m + z, u / 10), rfl, ⟨hlt', by simp only; omega, by simp only; omega⟩, by simp only; omega⟩
    · have hd' : decide ((i : Int) < r.length) = false := by simp only [decide_eq_false_iff_not]; omega
      rw [List.drop_eq_nil_of_le hlt', partV] at hm
      repeat' (first | refine PW.seq ?_ | refine PW.block ?_ | ((first | refine PW.region ?_ | refine PW.regionQ ?_ | refine PW.exit ?_ | refine PW.ret ?_ | refine PW.skip ?_); simp only [hd', SA, Nat.reduceAdd, reduceIte, Nat.reduceEqDiff, Nat.reduceBEq, reduceCtorEq]; (try go_unwrap; try simp only [hd', RR, reduceCtorEq])) | refine PW.regionA ?_ | exact schedW_stop_i | ((first | refine schedW_alt_i ?_ ?_ | refine schedW_done_i ?_); focus (simp only [hd', SA, Nat.reduceAdd, reduceIte, Nat.reduceEqDiff, Nat.reduceBEq, reduceCtorEq]; (try go_unwrap; try simp only [hd', RR, reduceCtorEq]))) | (refine PW.cond rfl ?_ ?_ <;> intro hcond <;> (try contradiction) <;> try simp only [DD] at hcond) | refine And.intro ?_ ?_ | exact Or.inr ⟨rfl, Nat.le_refl _⟩ | exact (fun h => Bool.noConfusion h) | omega | (simp only [decide_eq_true_eq, decide_eq_false_iff_not, List.length_cons, List.length_nil, List.length_append, List.length_map, Sh.size] <;> omega) | (go_unwrap; omega))
      · simp only [Bool.and_eq_true, decide_eq_true_eq] at hcond
        rw [if_pos ⟨by omega, by omega⟩]
      · simp only [Bool.and_eq_false_iff, decide_eq_false_iff_not] at hcond
        rw [if_neg (by omega)]
        rw [← hm]; rfl
end Go.Proofs.YthekpjhffciakaaDoor

