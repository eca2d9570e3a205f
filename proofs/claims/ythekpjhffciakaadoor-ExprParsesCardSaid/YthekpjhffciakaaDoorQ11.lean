import Derived.Test.YthekpjhffciakaaDoorQ10
namespace Go.Proofs.YthekpjhffciakaaDoor
open Go PG Go.Proofs
set_option linter.unusedSimpArgs false
set_option linter.unusedVariables false
set_option maxHeartbeats 4000000
set_option maxRecDepth 100000
variable {G : Globs}
theorem scanA_len : ∀ (n : Nat) (l : List UInt8) (acc : List Tok) (a : Nat) (t : List Tok), l.length ≤ n → scanA acc a l = .ok t → t.length ≤ acc.length + l.length + 1 := by
  intro n
  induction n with
  | zero =>
    intro l acc a t hl h
    have : l = [] := List.length_eq_zero_iff.1 (by omega)
    subst this
    rw [scanA] at h
    cases h
    simp
  | succ n ih =>
    intro l acc a t hl h
    cases l with
    | nil => rw [scanA] at h; cases h; simp
    | cons b r =>
      rw [scanA] at h
      simp only [List.length_cons] at hl ⊢
      split at h
      · have := ih _ _ _ _ (by omega) h
        omega
      · split at h
        · cases h
        · rename_i k m ht
          have := ih _ _ _ _ (by rw [List.length_drop]; omega) h
          simp only [List.length_append, List.length_cons, List.length_nil, List.length_drop] at this
          omega
theorem allE_len {s : List UInt8} {t : List Tok} (h : allE s = .ok t) : t.length ≤ s.length + 1 ∧ s.length ≤ 4096 := by
  unfold allE at h
  split at h
  · cases h
  · have := scanA_len s.length s [] 0 t (Nat.le_refl _) h
    simp only [List.length_nil] at this
    omega
theorem runL_take (p : UInt8 → Bool) : ∀ (l : List UInt8) (j : Nat), runL p (l.take j) = Nat.min j (runL p l)
  | [], j => by simp [runL]
  | b :: l, 0 => by simp [runL]
  | b :: l, j + 1 => by
    simp only [List.take_succ_cons, runL, runL_take p l j]
    split
    · simp only [Nat.min_def]; split <;> split <;> omega
    · simp
theorem getD_take {l : List UInt8} {i j : Nat} (h : i < j) : (l.take j).getD i 0 = l.getD i 0 := by simp [List.getD, h]
theorem numL_self {l : List UInt8} {n v : Nat} (h : numL l = .ok (n, v)) : numL (l.take n) = .ok (n, v) := by
  have hle := (numL_ok h).1
  have h2 : runL digitB l ≤ l.length := runL_le _ _
  unfold numL at h
  split at h
  · rename_i hp
    have hq : runL digitB (l.drop (runL digitB l + 1)) ≤ (l.drop (runL digitB l + 1)).length := runL_le _ _
    split at h
    · cases h
    · rename_i h3
      split at h
      · cases h
      · rename_i h4
        split at h
        · rename_i h5
          simp only [Except.ok.injEq, Prod.mk.injEq] at h
          obtain ⟨hn, hv⟩ := h
          generalize hk : runL digitB (l.drop (runL digitB l + 1)) = k at *
          generalize hm : runL digitB l = m at *
          have e1 : runL digitB (l.take n) = m := by rw [runL_take, hm]; simp only [Nat.min_def]; split <;> omega
          have e2 : (l.take n).drop (m + 1) = (l.drop (m + 1)).take k := by rw [List.drop_take]; congr 1; omega
          have e3 : runL digitB ((l.drop (m + 1)).take k) = k := by rw [runL_take, hk]; simp [Nat.min_def]
          have e4 : (l.take n).take m = l.take m := by rw [List.take_take]; congr 1; simp only [Nat.min_def]; split <;> omega
          unfold numL
          rw [e1, e2, e3, e4, if_pos ⟨by rw [List.length_take]; simp only [Nat.min_def]; split <;> omega, by rw [getD_take (by omega)]; exact hp.2⟩, if_neg h3, if_neg h4, List.take_take]
          simp only [Nat.min_self]
          rw [if_pos h5, hn, hv]
        · cases h
  · split at h
    · rename_i hp h5
      simp only [Except.ok.injEq, Prod.mk.injEq] at h
      obtain ⟨hn, hv⟩ := h
      subst hn
      have e1 : runL digitB (l.take (runL digitB l)) = runL digitB l := by rw [runL_take]; simp [Nat.min_def]
      unfold numL
      rw [e1, if_neg (by rw [List.length_take]; simp only [Nat.min_def]; split <;> omega), List.take_take]
      simp only [Nat.min_self]
      rw [if_pos h5, hv]
    · cases h
/-- A token's text by itself is that token. -/
theorem tokE_self (a a' : Nat) {l : List UInt8} {k n : Nat} (hl : l ≠ []) (h : tokE a l = .ok (k, n)) : tokE a' (l.take n) = .ok (k, n) ∧ 1 ≤ n ∧ n ≤ l.length := by
  obtain ⟨h1, h2, -⟩ := tokE_ok (List.length_pos_iff.2 hl) h
  refine ⟨?_, h1, h2⟩
  have h0 : (l.take n).getD 0 0 = l.getD 0 0 := getD_take (by omega)
  unfold tokE at h ⊢
  rw [h0]
  split at h
  · rename_i hc
    rw [if_pos hc]
    split at h
    · rename_i h3
      simp only [Except.ok.injEq, Prod.mk.injEq] at h
      obtain ⟨rfl, rfl⟩ := h
      have e : runL innerB (l.take (runL innerB l)) = runL innerB l := by rw [runL_take]; simp [Nat.min_def]
      rw [e, if_pos h3]
    · cases h
  · rename_i hc
    rw [if_neg hc]
    split at h
    · rename_i hd
      rw [if_pos hd]
      cases hn : numL l with
      | error p => rw [hn] at h; cases h
      | ok p =>
        obtain ⟨m, v⟩ := p
        rw [hn] at h
        simp only [Except.ok.injEq, Prod.mk.injEq] at h
        obtain ⟨rfl, rfl⟩ := h
        rw [numL_self hn]
    · rename_i hd
      rw [if_neg hd]
      split at h
      · rename_i hs
        rw [if_pos hs]; exact h
      · cases h
/-- What a token by itself says of its text. -/
theorem self_name {a k : Nat} {x : List UInt8} (hx : x ≠ []) (h : tokE a x = .ok (k, x.length)) : isName x = decide (k = 1) ∧ ((numOf x).2 = 0 ↔ k = 2) ∧ k ≠ 0 := by
  unfold tokE at h
  unfold isName numOf
  rw [if_neg hx]
  split at h
  · rename_i hc
    split at h
    · rename_i h3
      simp only [Except.ok.injEq, Prod.mk.injEq] at h
      obtain ⟨rfl, hn⟩ := h
      have hd : digitB (x.getD 0 0) = false := by
        unfold letterB at hc; unfold digitB
        simp only [Bool.and_eq_true, decide_eq_true_eq] at hc
        simp only [Bool.and_eq_false_iff, decide_eq_false_iff_not]; omega
      rw [hd, hc, hn]
      simp [hx]
      omega
    · cases h
  · rename_i hc
    split at h
    · rename_i hd
      cases hn : numL x with
      | error p => rw [hn] at h; cases h
      | ok p =>
        obtain ⟨m, v⟩ := p
        rw [hn] at h
        simp only [Except.ok.injEq, Prod.mk.injEq] at h
        obtain ⟨rfl, rfl⟩ := h
        have hl0 : letterB (x.getD 0 0) = false := by simpa using hc
        rw [hl0, hd]
        simp
    · rename_i hd
      split at h
      · simp only [Except.ok.injEq, Prod.mk.injEq] at h
        obtain ⟨rfl, hn⟩ := h
        have hl0 : letterB (x.getD 0 0) = false := by simpa using hc
        have hd0 : digitB (x.getD 0 0) = false := by simpa using hd
        rw [hl0, hd0]
        simp
      · cases h

/-- The tokens from a place on stand where they say, blanks alone between them. -/
def Tiles (s : List UInt8) : Nat → List Tok → Prop
  | b, [] => b = s.length
  | b, (k, x, a) :: l => b ≤ a ∧ a + x.length ≤ s.length ∧ (s.drop a).take x.length = x ∧ (∀ j, b ≤ j → j < a → s.getD j 0 = 32) ∧ (l = [] ↔ k = 0) ∧ (l = [] → x = []) ∧ (l ≠ [] → x ≠ [] ∧ tokE 0 x = .ok (k, x.length)) ∧ Tiles s (a + x.length) l
theorem scan_tiles {s : List UInt8} : ∀ (n a b : Nat) (acc l : List Tok), s.length - a ≤ n → a ≤ s.length → b ≤ a → (∀ j, b ≤ j → j < a → s.getD j 0 = 32) → scanA acc a (s.drop a) = .ok l → ∃ l', l = acc ++ l' ∧ l' ≠ [] ∧ Tiles s b l' := by
  intro n
  induction n with
  | zero =>
    intro a b acc l hn ha hb hbl h
    have : a = s.length := by omega
    subst this
    rw [scan_nil (Nat.le_refl _)] at h
    cases h
    exact ⟨_, rfl, by simp, hb, by simp, by simp, hbl, by simp, by simp, by simp, by simp [Tiles]⟩
  | succ n ih =>
    intro a b acc l hn ha hb hbl h
    rcases Nat.lt_or_ge a s.length with hlt | hge
    · by_cases hc : s.getD a 0 = 32
      · rw [scan_blank hlt hc] at h
        refine ih (a + 1) b acc l (by omega) hlt (by omega) (fun j h1 h2 => ?_) h
        rcases Nat.lt_or_ge j a with h3 | h3
        · exact hbl j h1 h3
        · rw [show j = a by omega]; exact hc
      · cases ht : tokE a (s.drop a) with
        | error e => rw [scan_err hlt hc ht] at h; cases h
        | ok p =>
          obtain ⟨k, m⟩ := p
          have hne : s.drop a ≠ [] := by
            intro h0
            have := congrArg List.length h0
            simp at this; omega
          obtain ⟨h1, h2, h3⟩ := tokE_self a 0 hne ht
          rw [List.length_drop] at h3
          rw [scan_tok hlt hc ht h2] at h
          obtain ⟨l', e1, e2, e3⟩ := ih (a + m) (a + m) _ l (by omega) (by omega) (Nat.le_refl _) (fun j h4 h5 => absurd h4 (by omega)) h
          have hxl : ((s.drop a).take m).length = m := by simp; omega
          have hx : (s.drop a).take m ≠ [] := List.length_pos_iff.1 (by omega)
          rw [← hxl] at h1
          have hk := (self_name (k := k) hx (by rw [hxl] at h1 ⊢; exact h1)).2.2
          refine ⟨(k, (s.drop a).take m, a) :: l', by rw [e1]; simp, by simp, hb, by rw [hxl]; omega, by rw [hxl], hbl, ⟨fun h => absurd h e2, fun h => absurd h hk⟩, fun h => absurd h e2, fun _ => ⟨hx, by rw [hxl] at h1 ⊢; exact h1⟩, by rw [hxl]; exact e3⟩
    · have : a = s.length := by omega
      subst this
      rw [scan_nil (Nat.le_refl _)] at h
      cases h
      exact ⟨_, rfl, by simp, hb, by simp, by simp, hbl, by simp, by simp, by simp, by simp [Tiles]⟩
theorem all_tiles {s : List UInt8} {l : List Tok} (h : allE s = .ok l) : l ≠ [] ∧ Tiles s 0 l ∧ s.length ≤ 4096 := by
  unfold allE at h
  split at h
  · cases h
  · obtain ⟨l', e1, e2, e3⟩ := scan_tiles (s := s) s.length 0 0 [] l (by omega) (by omega) (Nat.le_refl _) (fun j _ h => absurd h (by omega)) (by simpa using h)
    simp at e1; subst e1
    exact ⟨e2, e3, by omega⟩
theorem scan_errs {s : List UInt8} : ∀ (n a : Nat) (acc : List Tok) (o e : Nat), s.length - a ≤ n → a ≤ s.length → scanA acc a (s.drop a) = .error (o, e) → o ≤ s.length ∧ e ≠ 0 := by
  intro n
  induction n with
  | zero =>
    intro a acc o e hn ha h
    rw [scan_nil (by omega)] at h; cases h
  | succ n ih =>
    intro a acc o e hn ha h
    rcases Nat.lt_or_ge a s.length with hlt | hge
    · by_cases hc : s.getD a 0 = 32
      · rw [scan_blank hlt hc] at h
        exact ih (a + 1) acc o e (by omega) hlt h
      · cases ht : tokE a (s.drop a) with
        | error p =>
          obtain ⟨o', e'⟩ := p
          rw [scan_err hlt hc ht] at h
          simp only [Except.error.injEq, Prod.mk.injEq] at h
          obtain ⟨rfl, rfl⟩ := h
          obtain ⟨h1, h2, h3, -⟩ := tokE_err ht
          rw [List.length_drop] at h3
          exact ⟨by omega, by omega⟩
        | ok p =>
          obtain ⟨k, m⟩ := p
          obtain ⟨h2, h3, -⟩ := tokE_ok (by simp; omega) ht
          rw [List.length_drop] at h3
          rw [scan_tok hlt hc ht h2] at h
          exact ih (a + m) _ o e (by omega) (by omega) h
    · rw [scan_nil hge] at h; cases h
theorem all_errs {s : List UInt8} {o e : Nat} (h : allE s = .error (o, e)) : o ≤ s.length ∧ e ≠ 0 := by
  unfold allE at h
  split at h
  · simp only [Except.error.injEq, Prod.mk.injEq] at h
    obtain ⟨rfl, rfl⟩ := h
    exact ⟨by omega, by omega⟩
  · exact scan_errs s.length 0 [] o e (by omega) (by omega) (by simpa using h)
end Go.Proofs.YthekpjhffciakaaDoor

namespace Go.Proofs.YthekpjhffciakaaDoor
open Go PG Go.Proofs
set_option linter.unusedSimpArgs false
set_option linter.unusedVariables false
set_option maxRecDepth 100000
theorem tiles_end {s : List UInt8} : ∀ (l : List Tok) (b : Nat), l ≠ [] → Tiles s b l → ∃ l', l = l' ++ [(0, [], s.length)] ∧ ∀ t ∈ l', t.1 ≠ 0 ∧ t.2.1 ≠ [] ∧ tokE 0 t.2.1 = .ok (t.1, t.2.1.length) ∧ t.2.1.length ≤ s.length
  | [], _, h, _ => absurd rfl h
  | [(k, x, a)], b, _, h => by
    unfold Tiles at h
    obtain ⟨h1, h2, h3, h4, h5, h6, h7, h8⟩ := h
    have hk := h5.1 rfl
    have hx := h6 rfl
    subst hk hx
    unfold Tiles at h8
    simp at h8
    exact ⟨[], by simp [h8], by simp⟩
  | (k, x, a) :: t :: l, b, _, h => by
    unfold Tiles at h
    obtain ⟨h1, h2, h3, h4, h5, h6, h7, h8⟩ := h
    obtain ⟨l', e, h9⟩ := tiles_end (t :: l) (a + x.length) (by simp) h8
    obtain ⟨h10, h11⟩ := h7 (by simp)
    refine ⟨(k, x, a) :: l', by rw [e]; rfl, fun u hu => ?_⟩
    rcases List.mem_cons.1 hu with rfl | hu
    · exact ⟨fun h => by have := h5.2 h; simp at this, h10, h11, by simp only; omega⟩
    · exact h9 u hu
/-- What a formula's tokens are. -/
theorem toks_of {s : List UInt8} {l : List Tok} (h : allE s = .ok l) : ∃ l', l = l' ++ [(0, [], s.length)] ∧ l.length ≤ 4097 ∧ s.length ≤ 4096 ∧ ∀ t ∈ l', t.1 ≠ 0 ∧ t.2.1 ≠ [] ∧ tokE 0 t.2.1 = .ok (t.1, t.2.1.length) ∧ t.2.1.length ≤ 4096 := by
  obtain ⟨h1, h2, h3⟩ := all_tiles h
  obtain ⟨l', e, h4⟩ := tiles_end l 0 h1 h2
  have := (allE_len h).1
  exact ⟨l', e, by omega, h3, fun t ht => ⟨(h4 t ht).1, (h4 t ht).2.1, (h4 t ht).2.2.1, by have := (h4 t ht).2.2.2; omega⟩⟩
theorem tk_end (l' : List Tok) (n : Nat) : (tkAt (l' ++ [(0, [], n)]) ((l' ++ [(0, [], n)]).length - 1)).1 = 0 := by
  simp [tkAt, List.getD]
theorem inv_start {s : List UInt8} {l : List Tok} (h : allE s = .ok l) : Inv l ⟨0, 0, []⟩ := by
  obtain ⟨l', rfl, -, -, -⟩ := toks_of h
  exact ⟨by simp, by simp, rfl, tk_end _ _⟩
theorem tx_le {s : List UInt8} {l : List Tok} (h : allE s = .ok l) (i : Nat) : (tkAt l i).2.1.length ≤ 100000 := by
  obtain ⟨l', rfl, -, -, h4⟩ := toks_of h
  unfold tkAt
  rw [List.getD_eq_getElem?_getD]
  cases hi : (l' ++ [((0 : Nat), ([] : List UInt8), s.length)])[i]? with
  | none => simp
  | some t =>
    rcases List.mem_append.1 (List.mem_of_getElem? hi) with hm | hm
    · have := (h4 t hm).2.2.2; simp only [Option.getD_some]; omega
    · rw [List.mem_singleton.1 hm]; simp
end Go.Proofs.YthekpjhffciakaaDoor

namespace Go.Proofs.YthekpjhffciakaaDoor
open Go PG Go.Proofs
set_option linter.unusedSimpArgs false
set_option linter.unusedVariables false
set_option maxHeartbeats 4000000
set_option maxRecDepth 100000
/-! The document's reader: its leaves -/
theorem e50 : Ent Tryd.prog 50 := ⟨Tryd.f50, Tryd.func50, by kernel_rfl, by kernel_rfl⟩
theorem e51 : Ent Tryd.prog 51 := ⟨Tryd.f51, Tryd.func51, by kernel_rfl, by kernel_rfl⟩
theorem e81 : Ent Tryd.prog 81 := ⟨Tryd.f81, Tryd.func81, by kernel_rfl, by kernel_rfl⟩
theorem e82 : Ent Tryd.prog 82 := ⟨Tryd.f82, Tryd.func82, by kernel_rfl, by kernel_rfl⟩
theorem e83 : Ent Tryd.prog 83 := ⟨Tryd.f83, Tryd.func83, by kernel_rfl, by kernel_rfl⟩
theorem e85 : Ent Tryd.prog 85 := ⟨Tryd.f85, Tryd.func85, by kernel_rfl, by kernel_rfl⟩
theorem e104 : Ent Tryd.prog 104 := ⟨Tryd.f104, Tryd.func104, by kernel_rfl, by kernel_rfl⟩
theorem e131 : Ent Tryd.prog 131 := ⟨Tryd.f131, Tryd.func131, by kernel_rfl, by kernel_rfl⟩
abbrev nmQ (t : List UInt8) : Int := (numOf t).1
abbrev wE (d : List Tok) (n : Nat) : List Tok := d ++ [(0, [], n)]
def dtP (t : Tok) : PV := .agg [.int .i64 t.1, .str t.2.1, .int .i64 (if t.1 = 2 then nmQ t.2.1 else 0), .int .i64 t.2.2]
abbrev dtsP (d : List Tok) : PV := .list (some 4) (d.map dtP)
def badP (d : List Tok) (n : Nat) (s : PS) : Int := if s.e = 0 then 0 else (tkAt (wE d n) s.at_).2.2
def rqP (d : List Tok) (n : Nat) (s : PS) : MObj := .var (some 6) (.agg [dtsP d, .int .i64 s.at_, .int .i64 n, .sl (some 4) 1 s.out.length, .int .i64 s.e, .int .i64 (badP d n s)])
def RqC (d : List Tok) (n : Nat) (f : Nat) (as_ : List PV) (ν : Mem) (s : PS) (r : Int × PS) : Prop :=
  PCalls Tryd.prog G0 f as_ (some (rqP d n s) :: some (rowO s) :: ν) (killTag 1) (fun p μ' => p = .int .i64 r.1 ∧ μ' = some (rqP d n r.2) :: some (rowO r.2) :: ν)
theorem RqC.frame {d : List Tok} {n : Nat} {f : Nat} {as_ : List PV} {s : PS} {r : Int × PS} (h : RqC d n f as_ [] s r) (ν : Mem) (hν : ν.map (Option.map (MObj.kill (killTag 1))) = ν) (ha : as_.map (PV.kill fun t => decide (2 ≤ t)) = as_) : RqC d n f as_ ν s r := by
  have := PCalls.frame h ν (by rintro p μ' ⟨-, rfl⟩; rfl) ha (by simp [rqP, rowO, MObj.kill, PV.kill]) hν
  intro w κ vs hS hG hr
  refine (this w κ vs hS hG hr).mono ?_
  rintro e w' ⟨v, p, μ', κ', rfl, ⟨μ1, ⟨rfl, rfl⟩, rfl⟩, hS', hv, hg⟩
  exact ⟨v, _, _, κ', rfl, ⟨rfl, rfl⟩, hS', hv, hg⟩
theorem dt_get (d : List Tok) (n j : Nat) (h : j < d.length) : (d.map dtP).getD j .junk = .agg [.int .i64 (tkAt (wE d n) j).1, .str (tkAt (wE d n) j).2.1, .int .i64 (if (tkAt (wE d n) j).1 = 2 then nmQ (tkAt (wE d n) j).2.1 else 0), .int .i64 (tkAt (wE d n) j).2.2] := by
  simp [List.getD, tkAt, h, dtP, List.getElem?_append_left h]
theorem dt_len (d : List Tok) : ((d.map dtP).length : Nat) = d.length := by simp
theorem tk_last (d : List Tok) (n j : Nat) (h : d.length ≤ j) (h2 : j < (wE d n).length) : tkAt (wE d n) j = (0, [], n) := by
  have : j = d.length := by simp at h2; omega
  subst this
  simp [tkAt, List.getD]
theorem r1 (a b c d e f : PV) (k : IntKind) (v : Int) : putPart (some 6) none (.agg [a, b, c, d, e, f]) 1 (.int k v) = .agg [a, .int k v, c, d, e, f] := rfl
theorem r3 (a b c d e f : PV) (sh : Sh) (t n : Nat) : putPart (some 6) none (.agg [a, b, c, d, e, f]) 3 (.sl sh t n) = .agg [a, b, c, .sl sh t n, e, f] := rfl
theorem r4 (a b c d e f : PV) (k : IntKind) (v : Int) : putPart (some 6) none (.agg [a, b, c, d, e, f]) 4 (.int k v) = .agg [a, b, c, d, .int k v, f] := rfl
theorem r5 (a b c d e f : PV) (k : IntKind) (v : Int) : putPart (some 6) none (.agg [a, b, c, d, e, f]) 5 (.int k v) = .agg [a, b, c, d, e, .int k v] := rfl
theorem v82 (d : List Tok) (n : Nat) (s : PS) (x : List UInt8) (hlt : s.at_ < (wE d n).length) (hl : d.length ≤ 100000) (bad : Int) :
    VCalls Tryd.prog G0 82 [.cptr (some 6) (.agg [dtsP d, .int .i64 s.at_, .int .i64 n, .list (some 4) (s.out.map ndP), .int .i64 s.e, .int .i64 bad]) 0, .str x] (.bool (decide (s.e = 0) && sgn (wE d n) s x)) := by
  refine VCalls.of_PW Tryd.func82 k82 mix (by simp [c82]) ?_
  simp only [c82, L82, CC, argE]
  have hlen := dt_len d
  rcases Nat.lt_or_ge s.at_ d.length with h | h
  · have hg := dt_get d n s.at_ h
    have d1 : decide ((s.at_ : Int) < d.length) = true := by simp only [decide_eq_true_eq]; omega
    have hk : decide (((tkAt (wE d n) s.at_).1 : Int) = 3) = decide ((tkAt (wE d n) s.at_).1 = 3) := by rw [Bool.eq_iff_iff, decide_eq_true_eq, decide_eq_true_eq]; omega
    repeat' (first | exact True.intro | (refine PW.seqK ?_; intro K hK) | refine pwB ?_ | refine pwS ?_ | refine pwL ?_ | refine pwE ?_ | refine pwR ?_ | refine pwK ?_ | refine seqK_n ‹_› ?_ | refine seqK_r ‹_› ?_ | refine seqK_e ‹_› ?_ | refine PW.regionA ?_ | exact schedW_stop_i | refine schK_n ‹_› ?_ | (refine schedW_alt_k ?_ ?_; focus (intro K hK; simp only [hg, hlen, d1, SA, Nat.reduceAdd, reduceIte, Nat.reduceEqDiff, Nat.reduceBEq, reduceCtorEq]; (try go_unwrap; try simp only [hg, hlen, d1, RR, reduceCtorEq]))) | (refine PW.cond rfl ?_ ?_ <;> intro hcond <;> (try contradiction) <;> try simp only [DD] at hcond) | (refine gd_i ?_; intro hg; try simp only [hg]) | ((first | show (_ : Nat) ≤ _ | show (_ : Nat) < _ | show (_ : Int) ≤ _ | show (_ : Int) < _ | show (_ : Nat) = _ | show (_ : Int) = _ | show (_ : Bool) = _ | show _ ∨ _ | show ¬ _); first | omega | (simp only [DD, LL] <;> omega) | (go_unwrap; omega)) | ((first | refine PW.region ?_ | refine PW.regionQ ?_ | refine schedW_done_i ?_ | show (_ : Post) _ _ _ | show @Eq (List PV) _ _ | show @Eq Bool _ _ | show opsW _ _ _ _ _ _ _ _ | show okAll _ | show @Eq Bool _ _ ∨ _); focus (simp only [hg, hlen, d1, SA, Nat.reduceAdd, reduceIte, Nat.reduceEqDiff, Nat.reduceBEq, reduceCtorEq]; (try go_unwrap; try simp only [hg, hlen, d1, RR, reduceCtorEq]))) | refine And.intro ?_ ?_ | exact Or.inr ⟨rfl, Nat.le_refl _⟩ | exact (fun h => Bool.noConfusion h))
    simp only [sgn, hk, Bool.and_assoc]
  · have d1 : decide ((s.at_ : Int) < d.length) = false := by simp only [decide_eq_false_iff_not]; omega
    have hs : sgn (wE d n) s x = false := by rw [sgn, tk_last d n s.at_ h hlt]; simp
    repeat' (first | exact True.intro | (refine PW.seqK ?_; intro K hK) | refine pwB ?_ | refine pwS ?_ | refine pwL ?_ | refine pwE ?_ | refine pwR ?_ | refine pwK ?_ | refine seqK_n ‹_› ?_ | refine seqK_r ‹_› ?_ | refine seqK_e ‹_› ?_ | refine PW.regionA ?_ | exact schedW_stop_i | refine schK_n ‹_› ?_ | (refine schedW_alt_k ?_ ?_; focus (intro K hK; simp only [hlen, d1, Bool.and_false, Bool.false_and, SA, Nat.reduceAdd, reduceIte, Nat.reduceEqDiff, Nat.reduceBEq, reduceCtorEq]; (try go_unwrap; try simp only [hlen, d1, Bool.and_false, Bool.false_and, RR, reduceCtorEq]))) | (refine PW.cond rfl ?_ ?_ <;> intro hcond <;> (try contradiction) <;> try simp only [DD] at hcond) | (refine gd_i ?_; intro hg; try simp only [hg]) | ((first | show (_ : Nat) ≤ _ | show (_ : Nat) < _ | show (_ : Int) ≤ _ | show (_ : Int) < _ | show (_ : Nat) = _ | show (_ : Int) = _ | show (_ : Bool) = _ | show _ ∨ _ | show ¬ _); first | omega | (simp only [DD, LL] <;> omega) | (go_unwrap; omega)) | ((first | refine PW.region ?_ | refine PW.regionQ ?_ | refine schedW_done_i ?_ | show (_ : Post) _ _ _ | show @Eq (List PV) _ _ | show @Eq Bool _ _ | show opsW _ _ _ _ _ _ _ _ | show okAll _ | show @Eq Bool _ _ ∨ _); focus (simp only [hlen, d1, Bool.and_false, Bool.false_and, SA, Nat.reduceAdd, reduceIte, Nat.reduceEqDiff, Nat.reduceBEq, reduceCtorEq]; (try go_unwrap; try simp only [hlen, d1, Bool.and_false, Bool.false_and, RR, reduceCtorEq]))) | refine And.intro ?_ ?_ | exact Or.inr ⟨rfl, Nat.le_refl _⟩ | exact (fun h => Bool.noConfusion h))
    rw [hs, Bool.and_false]
theorem v51 (d : List Tok) (n : Nat) (s : PS) (e : Int) (hlt : s.at_ < (wE d n).length) (hl : d.length ≤ 100000) (he0 : s.e = 0) (he : e ≠ 0) : RqC d n 51 [.ref 0 0, .int .i64 e] [] s (failP s e) := by
  refine PCalls.moves (mv := fun t => t == 1 || decide (2 ≤ t)) (fun t ht h => ?_) ?_
  · simp only [List.length_cons, List.length_nil] at ht
    simp only [Bool.or_eq_true, beq_iff_eq, decide_eq_true_eq] at h
    simp only [killTag, beq_iff_eq]; omega
  refine PCalls.of_PW Tryd.func51 k51 mix (by simp [c51]) ?_
  simp only [c51, L51, CC, argE, rqP, rowO]
  have hlen := dt_len d
  have d0 : decide (s.e = 0) = true := by simp only [decide_eq_true_eq]; exact he0
  have hF : failP s e = (0, ⟨s.at_, e, s.out⟩) := by simp [failP, he0]
  rw [hF]
  have hb : badP d n ⟨s.at_, e, s.out⟩ = (tkAt (wE d n) s.at_).2.2 := by simp [badP, he]
  simp only [hb]
  rcases Nat.lt_or_ge s.at_ d.length with h | h
  · have hg := dt_get d n s.at_ h
    have d1 : decide ((s.at_ : Int) < d.length) = true := by simp only [decide_eq_true_eq]; omega
    repeat' (first | exact True.intro | (refine PW.seqA (E := ?_) (M := ?_) ?_ ?_; rotate_left 2) | exact mergeQ_mk _ _ | (exact Or.inr ⟨rfl, by decide⟩) | (refine PW.seqK ?_; intro K hK) | refine pwB ?_ | refine pwS ?_ | refine pwL ?_ | refine pwE ?_ | refine pwR ?_ | refine pwK ?_ | refine seqK_n ‹_› ?_ | refine seqK_r ‹_› ?_ | refine seqK_e ‹_› ?_ | refine PW.regionA ?_ | exact schedW_stop_i | refine schK_n ‹_› ?_ | (refine schedW_alt_k ?_ ?_; focus (intro K hK; simp only [hg, hlen, d0, d1, r4, r5, SA, Nat.reduceAdd, reduceIte, Nat.reduceEqDiff, Nat.reduceBEq, reduceCtorEq]; (try go_unwrap; try simp only [hg, hlen, d0, d1, r4, r5, RR, reduceCtorEq]))) | (refine PW.cond rfl ?_ ?_ <;> intro hcond <;> (try contradiction) <;> try simp only [DD] at hcond) | (refine gd_i ?_; intro hg; try simp only [hg]) | ((first | show (_ : Nat) ≤ _ | show (_ : Nat) < _ | show (_ : Int) ≤ _ | show (_ : Int) < _ | show (_ : Nat) = _ | show (_ : Int) = _ | show (_ : Bool) = _ | show _ ∨ _ | show ¬ _); first | omega | (simp only [DD, LL] <;> omega) | (go_unwrap; omega)) | ((first | refine PW.region ?_ | refine PW.regionQ ?_ | refine schedW_done_i ?_ | show (_ : Post) _ _ _ | show @Eq (List PV) _ _ | show @Eq Bool _ _ | show opsW _ _ _ _ _ _ _ _ | show okAll _ | show @Eq Bool _ _ ∨ _); focus (simp only [hg, hlen, d0, d1, r4, r5, SA, Nat.reduceAdd, reduceIte, Nat.reduceEqDiff, Nat.reduceBEq, reduceCtorEq]; (try go_unwrap; try simp only [hg, hlen, d0, d1, r4, r5, RR, reduceCtorEq]))) | refine And.intro ?_ ?_ | exact Or.inr ⟨rfl, Nat.le_refl _⟩ | exact (fun h => Bool.noConfusion h))
  · have d1 : decide ((s.at_ : Int) < d.length) = false := by simp only [decide_eq_false_iff_not]; omega
    have ht := tk_last d n s.at_ h hlt
    rw [ht]
    repeat' (first | exact True.intro | (exact Or.inr ⟨rfl, by decide⟩) | (refine PW.seqK ?_; intro K hK) | refine pwB ?_ | refine pwS ?_ | refine pwL ?_ | refine pwE ?_ | refine pwR ?_ | refine pwK ?_ | refine seqK_n ‹_› ?_ | refine seqK_r ‹_› ?_ | refine seqK_e ‹_› ?_ | refine PW.regionA ?_ | exact schedW_stop_i | refine schK_n ‹_› ?_ | (refine schedW_alt_k ?_ ?_; focus (intro K hK; simp only [hlen, d0, d1, r4, r5, SA, Nat.reduceAdd, reduceIte, Nat.reduceEqDiff, Nat.reduceBEq, reduceCtorEq]; (try go_unwrap; try simp only [hlen, d0, d1, r4, r5, RR, reduceCtorEq]))) | (refine PW.cond rfl ?_ ?_ <;> intro hcond <;> (try contradiction) <;> try simp only [DD] at hcond) | (refine gd_i ?_; intro hg; try simp only [hg]) | ((first | show (_ : Nat) ≤ _ | show (_ : Nat) < _ | show (_ : Int) ≤ _ | show (_ : Int) < _ | show (_ : Nat) = _ | show (_ : Int) = _ | show (_ : Bool) = _ | show _ ∨ _ | show ¬ _); first | omega | (simp only [DD, LL] <;> omega) | (go_unwrap; omega)) | ((first | refine PW.region ?_ | refine PW.regionQ ?_ | refine schedW_done_i ?_ | show (_ : Post) _ _ _ | show @Eq (List PV) _ _ | show @Eq Bool _ _ | show opsW _ _ _ _ _ _ _ _ | show okAll _ | show @Eq Bool _ _ ∨ _); focus (simp only [hlen, d0, d1, r4, r5, SA, Nat.reduceAdd, reduceIte, Nat.reduceEqDiff, Nat.reduceBEq, reduceCtorEq]; (try go_unwrap; try simp only [hlen, d0, d1, r4, r5, RR, reduceCtorEq]))) | refine And.intro ?_ ?_ | exact Or.inr ⟨rfl, Nat.le_refl _⟩ | exact (fun h => Bool.noConfusion h))
theorem v83 (d : List Tok) (n : Nat) (s : PS) (nd : Nd) (hs : s.out.length ≤ 100000) : RqC d n 83 [.ref 0 0, ndP nd] [] s (putP s nd) := by
  refine PCalls.moves (mv := fun t => t == 1 || decide (2 ≤ t)) (fun t ht h => ?_) ?_
  · simp only [List.length_cons, List.length_nil] at ht
    simp only [Bool.or_eq_true, beq_iff_eq, decide_eq_true_eq] at h
    simp only [killTag, beq_iff_eq]; omega
  refine PCalls.of_PW Tryd.func83 k83 mix (by simp [c83]) ?_
  simp only [c83, L83, CC, argE, rqP, rowO]
  have hlen := nd_len s.out
  have htk : (s.out.map ndP).take s.out.length = s.out.map ndP := List.take_of_length_le (by simp)
  have b1 : (s.out.length + 1) * 56 ≤ 140737488355328 := by omega
  rw [ndP1]
  repeat' (first | exact True.intro | (refine PW.seqA (E := ?_) (M := ?_) ?_ ?_; rotate_left 2) | exact mergeQ_mk _ _ | (exact Or.inr ⟨rfl, by decide⟩) | (refine PW.stop (x := .ret) ?_) | (refine PW.seqK ?_; intro K hK) | refine pwB ?_ | refine pwS ?_ | refine pwL ?_ | refine pwE ?_ | refine pwR ?_ | refine pwK ?_ | refine seqK_n ‹_› ?_ | refine seqK_r ‹_› ?_ | refine seqK_e ‹_› ?_ | refine PW.regionA ?_ | exact schedW_stop_i | refine schK_n ‹_› ?_ | (refine schedW_alt_k ?_ ?_; focus (intro K hK; simp only [hlen, htk, r3, List.length_cons, List.length_nil, Nat.zero_add, SA, Nat.reduceAdd, reduceIte, Nat.reduceEqDiff, Nat.reduceBEq, reduceCtorEq]; (try go_unwrap; try simp only [hlen, htk, r3, List.length_cons, List.length_nil, Nat.zero_add, RR, reduceCtorEq]))) | (refine PW.cond rfl ?_ ?_ <;> intro hcond <;> (try contradiction) <;> try simp only [DD] at hcond) | (refine gd_i ?_; intro hg; try simp only [hg]) | ((first | show (_ : Nat) ≤ _ | show (_ : Nat) < _ | show (_ : Int) ≤ _ | show (_ : Int) < _ | show (_ : Nat) = _ | show (_ : Int) = _ | show (_ : Bool) = _ | show _ ∨ _ | show ¬ _); first | omega | (simp only [DD, LL] <;> omega) | (go_unwrap; omega)) | ((first | refine PW.region ?_ | refine PW.regionQ ?_ | refine schedW_done_i ?_ | show (_ : Post) _ _ _ | show @Eq (List PV) _ _ | show @Eq Bool _ _ | show opsW _ _ _ _ _ _ _ _ | show okAll _ | show @Eq Bool _ _ ∨ _); focus (simp only [hlen, htk, r3, List.length_cons, List.length_nil, Nat.zero_add, SA, Nat.reduceAdd, reduceIte, Nat.reduceEqDiff, Nat.reduceBEq, reduceCtorEq]; (try go_unwrap; try simp only [hlen, htk, r3, List.length_cons, List.length_nil, Nat.zero_add, RR, reduceCtorEq]))) | refine And.intro ?_ ?_ | exact Or.inr ⟨rfl, Nat.le_refl _⟩ | exact (fun h => Bool.noConfusion h))
  refine ⟨?_⟩
  refine PW.trim 2 (fun t h => by simp [h]) ?_
  simp only [trimE, trimM, List.take_succ_cons, List.take_zero, List.map_cons, List.map_nil, Option.map_some, Option.map_none, MObj.kill, PV.kill, Nat.reduceLeDiff, decide_true, decide_false, dec_true, dec_false, Bool.false_eq_true, if_false, if_true, reduceIte]
  repeat' (first | exact True.intro | (refine PW.seqK ?_; intro K hK) | refine pwB ?_ | refine pwS ?_ | refine pwL ?_ | refine pwE ?_ | refine pwR ?_ | refine pwK ?_ | refine seqK_n ‹_› ?_ | refine seqK_r ‹_› ?_ | refine seqK_e ‹_› ?_ | refine PW.regionA ?_ | exact schedW_stop_i | refine schK_n ‹_› ?_ | (refine schedW_alt_k ?_ ?_; focus (intro K hK; simp only [SA, Nat.reduceAdd, reduceIte, Nat.reduceEqDiff, Nat.reduceBEq, reduceCtorEq]; (try go_unwrap; try simp only [RR, reduceCtorEq]))) | (refine PW.cond rfl ?_ ?_ <;> intro hcond <;> (try contradiction) <;> try simp only [DD] at hcond) | (refine gd_i ?_; intro hg; try simp only [hg]) | ((first | show (_ : Nat) ≤ _ | show (_ : Nat) < _ | show (_ : Int) ≤ _ | show (_ : Int) < _ | show (_ : Nat) = _ | show (_ : Int) = _ | show (_ : Bool) = _ | show _ ∨ _ | show ¬ _); first | omega | (simp only [DD, LL] <;> omega) | (go_unwrap; omega)) | ((first | refine PW.region ?_ | refine PW.regionQ ?_ | refine schedW_done_i ?_ | show (_ : Post) _ _ _ | show @Eq (List PV) _ _ | show @Eq Bool _ _ | show opsW _ _ _ _ _ _ _ _ | show okAll _ | show @Eq Bool _ _ ∨ _); focus (simp only [SA, Nat.reduceAdd, reduceIte, Nat.reduceEqDiff, Nat.reduceBEq, reduceCtorEq]; (try go_unwrap; try simp only [RR, reduceCtorEq]))) | refine And.intro ?_ ?_ | exact Or.inr ⟨rfl, Nat.le_refl _⟩ | exact (fun h => Bool.noConfusion h))
  · simp [putP]
  · simp [putP, ndP, ndC, kidsP, badP]
    try rfl
end Go.Proofs.YthekpjhffciakaaDoor

namespace Go.Proofs.YthekpjhffciakaaDoor
open Go PG Go.Proofs
set_option linter.unusedSimpArgs false
set_option linter.unusedVariables false
set_option maxHeartbeats 4000000
set_option maxRecDepth 100000
theorem sgn_ne {l : List Tok} {s : PS} {x y : List UInt8} (h : sgn l s x = true) (hxy : x ≠ y) : sgn l s y = false := by
  simp only [sgn, Bool.and_eq_true, decide_eq_true_eq] at h
  simp only [sgn, h.2, Bool.and_eq_false_iff, decide_eq_false_iff_not]
  exact .inr hxy
theorem v81 (d : List Tok) (n : Nat) (hl : d.length ≤ 100000) (part : PS → Int × PS) (m : Nat) (hpart : ∀ s, Inv (wE d n) s → (wE d n).length - s.at_ ≤ m → RqC d n 104 [.ref 0 0] [] s (part s)) (hgood : GoodF (wE d n) part m) (s0 : PS) (hI : Inv (wE d n) s0) (hm : (wE d n).length - s0.at_ ≤ m) :
    RqC d n 81 [.ref 0 0] [] s0 (rowP (wE d n) part opsM s0) := by
  refine PCalls.of_PW Tryd.func81 k81 mix (by simp [c81]) ?_
  simp only [c81, L81, CC, argE]
  have hwl : (wE d n).length = d.length + 1 := by simp
  have hp := hpart s0 hI hm
  have hg0 := hgood s0 hI hm
  have h0 := hI.end0
  unfold rowP
  have hkk : ∃ k, (wE d n).length - (part s0).2.at_ ≤ k ∧ rowL (wE d n) part opsM ((wE d n).length - (part s0).2.at_) (part s0).1 (part s0).2 = rowL (wE d n) part opsM k (part s0).1 (part s0).2 := ⟨_, Nat.le_refl _, rfl⟩
  generalize rowL (wE d n) part opsM ((wE d n).length - (part s0).2.at_) (part s0).1 (part s0).2 = R at hkk
  generalize part s0 = r0 at hp hg0 hkk
  obtain ⟨n0, s1⟩ := r0
  repeat' (first | exact True.intro | (refine PW.seqK ?_; intro K hK) | refine pwB ?_ | refine pwS ?_ | refine pwL ?_ | refine pwE ?_ | refine pwR ?_ | refine pwK ?_ | refine seqK_n ‹_› ?_ | refine seqK_r ‹_› ?_ | refine seqK_e ‹_› ?_ | refine PW.regionA ?_ | exact schedW_stop_i | refine schK_n ‹_› ?_ | (refine schedW_alt_k ?_ ?_; focus (intro K hK; simp only [SA, Nat.reduceAdd, reduceIte, Nat.reduceEqDiff, Nat.reduceBEq, reduceCtorEq]; (try go_unwrap; try simp only [RR, reduceCtorEq]))) | (refine PW.cond rfl ?_ ?_ <;> intro hcond <;> (try contradiction) <;> try simp only [DD] at hcond) | (refine goCall_K 1 e104 hp rfl ?_; rintro p μ' ⟨rfl, rfl⟩; simp only [SA, Nat.reduceAdd, reduceIte, Nat.reduceEqDiff, Nat.reduceBEq, reduceCtorEq]) | (refine gd_i ?_; intro hg; try simp only [hg]) | ((first | show (_ : Nat) ≤ _ | show (_ : Nat) < _ | show (_ : Int) ≤ _ | show (_ : Int) < _ | show (_ : Nat) = _ | show (_ : Int) = _ | show (_ : Bool) = _ | show _ ∨ _ | show ¬ _); first | omega | (simp only [DD, LL] <;> omega) | (go_unwrap; omega)) | ((first | refine PW.region ?_ | refine PW.regionQ ?_ | refine schedW_done_i ?_ | show (_ : Post) _ _ _ | show @Eq (List PV) _ _ | show @Eq Bool _ _ | show opsW _ _ _ _ _ _ _ _ | show okAll _ | show @Eq Bool _ _ ∨ _); focus (simp only [SA, Nat.reduceAdd, reduceIte, Nat.reduceEqDiff, Nat.reduceBEq, reduceCtorEq]; (try go_unwrap; try simp only [RR, reduceCtorEq]))) | refine And.intro ?_ ?_ | exact Or.inr ⟨rfl, Nat.le_refl _⟩ | exact (fun h => Bool.noConfusion h))
  refine PW.loop (σ := Int × PS) [0, 3] (fun q => [.ref 0 0, .int .i64 q.1]) (fun q => [some (rqP d n q.2), some (rowO q.2)])
    (fun q => Good (wE d n) s0 q ∧ ∃ k, (wE d n).length - q.2.at_ ≤ k ∧ R = rowL (wE d n) part opsM k q.1 q.2) (fun q => (wE d n).length - q.2.at_) (n0, s1) ?_ rfl ⟨hg0, hkk⟩ ?_
  · simp only [SA, Nat.reduceAdd, reduceIte, Nat.reduceEqDiff, Nat.reduceBEq, reduceCtorEq]; rfl
  clear hp hkk hg0
  rintro ⟨v, s⟩ ⟨hg, k, hk, hR⟩
  simp only at hk hR
  simp only [List.zip_cons_cons, List.zip_nil_left]
  simp only [rqP, rowO]
  have hg' := hg
  obtain ⟨hlt, hle, hout, hn0, hn1, hgo, -⟩ := hg
  simp only at hlt hle hout hn0 hn1 hgo
  have htk : (s.out.map ndP).take s.out.length = s.out.map ndP := List.take_of_length_le (by simp)
  have wa : IntKind.i64.wrap ((s.at_ : Int) + 1) = ((s.at_ + 1 : Nat) : Int) := by rw [IntWalk.i64_in _ (by omega)]; simp
  have hbd : ∀ (a : Nat), s.e = 0 → badP d n ⟨a, s.e, s.out⟩ = badP d n s := fun a h => by simp [badP, h]
  have hv := v82 d n s [42] hlt hl (badP d n s)
  by_cases hc : (decide (s.e = 0) && sgn (wE d n) s [42]) = true
  · rw [hc] at hv
    simp only [Bool.and_eq_true, decide_eq_true_eq] at hc
    have d0 : decide (s.e = 0) = true := decide_eq_true hc.1
    have he : s.e = 0 := hc.1
    have h1 := sgn_lt h0 hlt (hc.2)
    obtain ⟨k', rfl⟩ : ∃ k', k = k' + 1 := ⟨k - 1, by omega⟩
    have hIa : Inv (wE d n) (adv s 1) := ⟨by simpa [adv] using h1, by have := hI.le; simp [adv]; omega, he, h0⟩
    have hpa := hpart (adv s 1) hIa (by simp only [adv]; omega)
    have hga := hgood (adv s 1) hIa (by simp only [adv]; omega)
    have hRn : R = rowL (wE d n) part opsM k' (putP (part (adv s 1)).2 ⟨4, 0, [], [v, (part (adv s 1)).1]⟩).1 (putP (part (adv s 1)).2 ⟨4, 0, [], [v, (part (adv s 1)).1]⟩).2 := by
      rw [hR]; simp [rowL, he, opsM, hc.2]
    have hle2 : s.at_ + 1 ≤ (part (adv s 1)).2.at_ := hga.le
    have hoo : (part (adv s 1)).2.out.length + (s.at_ + 1) ≤ s.out.length + (part (adv s 1)).2.at_ := hga.out
    generalize part (adv s 1) = r at hpa hga hRn hle2 hoo
    obtain ⟨rn, rs⟩ := r
    simp only at hRn hle2 hoo
    have hga2 := hga.lt
    simp only at hga2
    have hgood2 : Good (wE d n) s0 (putP rs ⟨4, 0, [], [v, rn]⟩) := good_put (s := s0) hga.lt (by omega) (by omega) hI.le hga.er
    have hpt := v83 d n rs ⟨4, 0, [], [v, rn]⟩ (by have := hI.le; omega)
    simp only [ndP, ndC, kidsP, List.map_cons, List.map_nil] at hpt
    simp only [RqC, rqP, rowO, adv, hbd _ he] at hpa hpt
    repeat' (first | exact True.intro | (exact Or.inr ⟨rfl, by decide⟩) | (refine PW.seqK ?_; intro K hK) | refine pwB ?_ | refine pwS ?_ | refine pwL ?_ | refine pwE ?_ | refine pwR ?_ | refine pwK ?_ | refine seqK_n ‹_› ?_ | refine seqK_r ‹_› ?_ | refine seqK_e ‹_› ?_ | refine PW.regionA ?_ | exact schedW_stop_i | refine schK_n ‹_› ?_ | (refine schedW_alt_k ?_ ?_; focus (intro K hK; simp only [wa, r1, d0, SA, Nat.reduceAdd, reduceIte, Nat.reduceEqDiff, Nat.reduceBEq, reduceCtorEq]; (try go_unwrap; try simp only [wa, r1, d0, RR, reduceCtorEq]))) | (refine PW.cond rfl ?_ ?_ <;> intro hcond <;> (try contradiction) <;> try simp only [DD] at hcond) | (refine goCall_L 1 e82 hv ?_ ?_ ?_ ?_; (focus (simp [PV.lend, PV.view, Mem.get, htk, hbd]; done)); (focus (simp [PV.lends, PV.lend, PV.view, PV.seen, fitB, PV.scalar, Mem.get, Sh.size, htk]; done)); (focus (simp [PV.flat]; done)); simp only [wa, r1, d0, SA, Nat.reduceAdd, reduceIte, Nat.reduceEqDiff, Nat.reduceBEq, reduceCtorEq]) | (refine goCall_K 1 e104 hpa rfl ?_; rintro p μ' ⟨rfl, rfl⟩; simp only [wa, r1, d0, SA, Nat.reduceAdd, reduceIte, Nat.reduceEqDiff, Nat.reduceBEq, reduceCtorEq]) | (refine goCall_K 1 e83 hpt rfl ?_; rintro p μ' ⟨rfl, rfl⟩; simp only [wa, r1, d0, SA, Nat.reduceAdd, reduceIte, Nat.reduceEqDiff, Nat.reduceBEq, reduceCtorEq]) | (refine gd_i ?_; intro hg; try simp only [hg]) | ((first | show (_ : Nat) ≤ _ | show (_ : Nat) < _ | show (_ : Int) ≤ _ | show (_ : Int) < _ | show (_ : Nat) = _ | show (_ : Int) = _ | show (_ : Bool) = _ | show _ ∨ _ | show ¬ _); first | omega | (simp only [DD, LL] <;> omega) | (go_unwrap; omega)) | ((first | refine PW.region ?_ | refine PW.regionQ ?_ | refine schedW_done_i ?_ | show (_ : Post) _ _ _ | show @Eq (List PV) _ _ | show @Eq Bool _ _ | show opsW _ _ _ _ _ _ _ _ | show okAll _ | show @Eq Bool _ _ ∨ _); focus (simp only [wa, r1, d0, SA, Nat.reduceAdd, reduceIte, Nat.reduceEqDiff, Nat.reduceBEq, reduceCtorEq]; (try go_unwrap; try simp only [wa, r1, d0, RR, reduceCtorEq]))) | refine And.intro ?_ ?_ | exact Or.inr ⟨rfl, Nat.le_refl _⟩ | exact (fun h => Bool.noConfusion h))
    all_goals exact ⟨putP rs ⟨4, 0, [], [v, rn]⟩, rfl, rfl, ⟨hgood2, k', by simp only [putP]; omega, hRn⟩, by simp only [putP]; omega⟩
  · have hc' : (decide (s.e = 0) && sgn (wE d n) s [42]) = false := by simpa using hc
    rw [hc'] at hv
    have hRR : R = (v, s) := by
      rw [hR]
      cases k with
      | zero => rfl
      | succ k =>
        unfold rowL
        by_cases he : s.e = 0
        · have hs : sgn (wE d n) s [42] = false := by simpa [he] using hc'
          simp [he, opsM, hs]
        · simp [he]
    subst hRR
    repeat' (first | exact True.intro | (refine PW.seqK ?_; intro K hK) | refine pwB ?_ | refine pwS ?_ | refine pwL ?_ | refine pwE ?_ | refine pwR ?_ | refine pwK ?_ | refine seqK_n ‹_› ?_ | refine seqK_r ‹_› ?_ | refine seqK_e ‹_› ?_ | refine PW.regionA ?_ | exact schedW_stop_i | refine schK_n ‹_› ?_ | (refine schedW_alt_k ?_ ?_; focus (intro K hK; simp only [SA, Nat.reduceAdd, reduceIte, Nat.reduceEqDiff, Nat.reduceBEq, reduceCtorEq]; (try go_unwrap; try simp only [RR, reduceCtorEq]))) | (refine PW.cond rfl ?_ ?_ <;> intro hcond <;> (try contradiction) <;> try simp only [DD] at hcond) | (refine goCall_L 1 e82 hv ?_ ?_ ?_ ?_; (focus (simp [PV.lend, PV.view, Mem.get, htk, hbd]; done)); (focus (simp [PV.lends, PV.lend, PV.view, PV.seen, fitB, PV.scalar, Mem.get, Sh.size, htk]; done)); (focus (simp [PV.flat]; done)); simp only [SA, Nat.reduceAdd, reduceIte, Nat.reduceEqDiff, Nat.reduceBEq, reduceCtorEq]) | (refine gd_i ?_; intro hg; try simp only [hg]) | ((first | show (_ : Nat) ≤ _ | show (_ : Nat) < _ | show (_ : Int) ≤ _ | show (_ : Int) < _ | show (_ : Nat) = _ | show (_ : Int) = _ | show (_ : Bool) = _ | show _ ∨ _ | show ¬ _); first | omega | (simp only [DD, LL] <;> omega) | (go_unwrap; omega)) | ((first | refine PW.region ?_ | refine PW.regionQ ?_ | refine schedW_done_i ?_ | show (_ : Post) _ _ _ | show @Eq (List PV) _ _ | show @Eq Bool _ _ | show opsW _ _ _ _ _ _ _ _ | show okAll _ | show @Eq Bool _ _ ∨ _); focus (simp only [SA, Nat.reduceAdd, reduceIte, Nat.reduceEqDiff, Nat.reduceBEq, reduceCtorEq]; (try go_unwrap; try simp only [RR, reduceCtorEq]))) | refine And.intro ?_ ?_ | exact Or.inr ⟨rfl, Nat.le_refl _⟩ | exact (fun h => Bool.noConfusion h))
    all_goals rfl
theorem v50 (d : List Tok) (n : Nat) (hl : d.length ≤ 100000) (part : PS → Int × PS) (m : Nat) (hpart : ∀ s, Inv (wE d n) s → (wE d n).length - s.at_ ≤ m → RqC d n 81 [.ref 0 0] [] s (part s)) (hgood : GoodF (wE d n) part m) (s0 : PS) (hI : Inv (wE d n) s0) (hm : (wE d n).length - s0.at_ ≤ m) :
    RqC d n 50 [.ref 0 0] [] s0 (rowP (wE d n) part opsA s0) := by
  refine PCalls.of_PW Tryd.func50 k50 mix (by simp [c50]) ?_
  simp only [c50, L50, CC, argE]
  have hwl : (wE d n).length = d.length + 1 := by simp
  have hp := hpart s0 hI hm
  have hg0 := hgood s0 hI hm
  have h0 := hI.end0
  unfold rowP
  have hkk : ∃ k, (wE d n).length - (part s0).2.at_ ≤ k ∧ rowL (wE d n) part opsA ((wE d n).length - (part s0).2.at_) (part s0).1 (part s0).2 = rowL (wE d n) part opsA k (part s0).1 (part s0).2 := ⟨_, Nat.le_refl _, rfl⟩
  generalize rowL (wE d n) part opsA ((wE d n).length - (part s0).2.at_) (part s0).1 (part s0).2 = R at hkk
  generalize part s0 = r0 at hp hg0 hkk
  obtain ⟨n0, s1⟩ := r0
  repeat' (first | exact True.intro | (refine PW.seqK ?_; intro K hK) | refine pwB ?_ | refine pwS ?_ | refine pwL ?_ | refine pwE ?_ | refine pwR ?_ | refine pwK ?_ | refine seqK_n ‹_› ?_ | refine seqK_r ‹_› ?_ | refine seqK_e ‹_› ?_ | refine PW.regionA ?_ | exact schedW_stop_i | refine schK_n ‹_› ?_ | (refine schedW_alt_k ?_ ?_; focus (intro K hK; simp only [SA, Nat.reduceAdd, reduceIte, Nat.reduceEqDiff, Nat.reduceBEq, reduceCtorEq]; (try go_unwrap; try simp only [RR, reduceCtorEq]))) | (refine PW.cond rfl ?_ ?_ <;> intro hcond <;> (try contradiction) <;> try simp only [DD] at hcond) | (refine goCall_K 1 e81 hp rfl ?_; rintro p μ' ⟨rfl, rfl⟩; simp only [SA, Nat.reduceAdd, reduceIte, Nat.reduceEqDiff, Nat.reduceBEq, reduceCtorEq]) | (refine gd_i ?_; intro hg; try simp only [hg]) | ((first | show (_ : Nat) ≤ _ | show (_ : Nat) < _ | show (_ : Int) ≤ _ | show (_ : Int) < _ | show (_ : Nat) = _ | show (_ : Int) = _ | show (_ : Bool) = _ | show _ ∨ _ | show ¬ _); first | omega | (simp only [DD, LL] <;> omega) | (go_unwrap; omega)) | ((first | refine PW.region ?_ | refine PW.regionQ ?_ | refine schedW_done_i ?_ | show (_ : Post) _ _ _ | show @Eq (List PV) _ _ | show @Eq Bool _ _ | show opsW _ _ _ _ _ _ _ _ | show okAll _ | show @Eq Bool _ _ ∨ _); focus (simp only [SA, Nat.reduceAdd, reduceIte, Nat.reduceEqDiff, Nat.reduceBEq, reduceCtorEq]; (try go_unwrap; try simp only [RR, reduceCtorEq]))) | refine And.intro ?_ ?_ | exact Or.inr ⟨rfl, Nat.le_refl _⟩ | exact (fun h => Bool.noConfusion h))
  refine PW.loop (σ := Int × PS) [0, 3] (fun q => [.ref 0 0, .int .i64 q.1]) (fun q => [some (rqP d n q.2), some (rowO q.2)])
    (fun q => Good (wE d n) s0 q ∧ ∃ k, (wE d n).length - q.2.at_ ≤ k ∧ R = rowL (wE d n) part opsA k q.1 q.2) (fun q => (wE d n).length - q.2.at_) (n0, s1) ?_ rfl ⟨hg0, hkk⟩ ?_
  · simp only [SA, Nat.reduceAdd, reduceIte, Nat.reduceEqDiff, Nat.reduceBEq, reduceCtorEq]; rfl
  clear hp hkk hg0
  rintro ⟨v, s⟩ ⟨hg, k, hk, hR⟩
  simp only at hk hR
  simp only [List.zip_cons_cons, List.zip_nil_left]
  simp only [rqP, rowO]
  have hg' := hg
  obtain ⟨hlt, hle, hout, hn0, hn1, hgo, -⟩ := hg
  simp only at hlt hle hout hn0 hn1 hgo
  have htk : (s.out.map ndP).take s.out.length = s.out.map ndP := List.take_of_length_le (by simp)
  have wa : IntKind.i64.wrap ((s.at_ : Int) + 1) = ((s.at_ + 1 : Nat) : Int) := by rw [IntWalk.i64_in _ (by omega)]; simp
  have hbd : ∀ (a : Nat), s.e = 0 → badP d n ⟨a, s.e, s.out⟩ = badP d n s := fun a h => by simp [badP, h]
  have hv := v82 d n s [43] hlt hl (badP d n s)
  have hw := v82 d n s [45] hlt hl (badP d n s)
  by_cases hc : (decide (s.e = 0) && sgn (wE d n) s [43]) = true
  · have hc2 := hc
    simp only [Bool.and_eq_true, decide_eq_true_eq] at hc2
    have hno : (decide (s.e = 0) && sgn (wE d n) s [45]) = false := by
      rw [sgn_ne hc2.2 (by decide), Bool.and_false]
    rw [hc] at hv
    rw [hno] at hw
    have d0 : decide (s.e = 0) = true := decide_eq_true hc2.1
    have he : s.e = 0 := hc2.1
    have h1 := sgn_lt h0 hlt (hc2.2)
    obtain ⟨k', rfl⟩ : ∃ k', k = k' + 1 := ⟨k - 1, by omega⟩
    have hIa : Inv (wE d n) (adv s 1) := ⟨by simpa [adv] using h1, by have := hI.le; simp [adv]; omega, he, h0⟩
    have hpa := hpart (adv s 1) hIa (by simp only [adv]; omega)
    have hga := hgood (adv s 1) hIa (by simp only [adv]; omega)
    have hRn : R = rowL (wE d n) part opsA k' (putP (part (adv s 1)).2 ⟨2, 0, [], [v, (part (adv s 1)).1]⟩).1 (putP (part (adv s 1)).2 ⟨2, 0, [], [v, (part (adv s 1)).1]⟩).2 := by
      rw [hR]; simp [rowL, he, opsA, hc2.2]
    have hle2 : s.at_ + 1 ≤ (part (adv s 1)).2.at_ := hga.le
    have hoo : (part (adv s 1)).2.out.length + (s.at_ + 1) ≤ s.out.length + (part (adv s 1)).2.at_ := hga.out
    generalize part (adv s 1) = r at hpa hga hRn hle2 hoo
    obtain ⟨rn, rs⟩ := r
    simp only at hRn hle2 hoo
    have hga2 := hga.lt
    simp only at hga2
    have hgood2 : Good (wE d n) s0 (putP rs ⟨2, 0, [], [v, rn]⟩) := good_put (s := s0) hga.lt (by omega) (by omega) hI.le hga.er
    have hpt := v83 d n rs ⟨2, 0, [], [v, rn]⟩ (by have := hI.le; omega)
    simp only [ndP, ndC, kidsP, List.map_cons, List.map_nil] at hpt
    simp only [RqC, rqP, rowO, adv, hbd _ he] at hpa hpt
    repeat' (first | exact True.intro | (exact Or.inr ⟨rfl, by decide⟩) | (refine PW.seqK ?_; intro K hK) | refine pwB ?_ | refine pwS ?_ | refine pwL ?_ | refine pwE ?_ | refine pwR ?_ | refine pwK ?_ | refine seqK_n ‹_› ?_ | refine seqK_r ‹_› ?_ | refine seqK_e ‹_› ?_ | refine PW.regionA ?_ | exact schedW_stop_i | refine schK_n ‹_› ?_ | (refine schedW_alt_k ?_ ?_; focus (intro K hK; simp only [wa, r1, d0, SA, Nat.reduceAdd, reduceIte, Nat.reduceEqDiff, Nat.reduceBEq, reduceCtorEq]; (try go_unwrap; try simp only [wa, r1, d0, RR, reduceCtorEq]))) | (refine PW.cond rfl ?_ ?_ <;> intro hcond <;> (try contradiction) <;> try simp only [DD] at hcond) | (refine goCall_L 1 e82 hv ?_ ?_ ?_ ?_; (focus (simp [PV.lend, PV.view, Mem.get, htk, hbd]; done)); (focus (simp [PV.lends, PV.lend, PV.view, PV.seen, fitB, PV.scalar, Mem.get, Sh.size, htk]; done)); (focus (simp [PV.flat]; done)); simp only [wa, r1, d0, SA, Nat.reduceAdd, reduceIte, Nat.reduceEqDiff, Nat.reduceBEq, reduceCtorEq]) | (refine goCall_L 1 e82 hw ?_ ?_ ?_ ?_; (focus (simp [PV.lend, PV.view, Mem.get, htk, hbd]; done)); (focus (simp [PV.lends, PV.lend, PV.view, PV.seen, fitB, PV.scalar, Mem.get, Sh.size, htk]; done)); (focus (simp [PV.flat]; done)); simp only [wa, r1, d0, SA, Nat.reduceAdd, reduceIte, Nat.reduceEqDiff, Nat.reduceBEq, reduceCtorEq]) | (refine goCallG_skip rfl ?_; simp only [wa, r1, d0, SA, Nat.reduceAdd, reduceIte, Nat.reduceEqDiff, Nat.reduceBEq, reduceCtorEq]; (try go_unwrap; try simp only [wa, r1, d0, RR, reduceCtorEq])) | (refine goCall_K 1 e81 hpa rfl ?_; rintro p μ' ⟨rfl, rfl⟩; simp only [wa, r1, d0, SA, Nat.reduceAdd, reduceIte, Nat.reduceEqDiff, Nat.reduceBEq, reduceCtorEq]) | (refine goCall_K 1 e83 hpt rfl ?_; rintro p μ' ⟨rfl, rfl⟩; simp only [wa, r1, d0, SA, Nat.reduceAdd, reduceIte, Nat.reduceEqDiff, Nat.reduceBEq, reduceCtorEq]) | (refine gd_i ?_; intro hg; try simp only [hg]) | ((first | show (_ : Nat) ≤ _ | show (_ : Nat) < _ | show (_ : Int) ≤ _ | show (_ : Int) < _ | show (_ : Nat) = _ | show (_ : Int) = _ | show (_ : Bool) = _ | show _ ∨ _ | show ¬ _); first | omega | (simp only [DD, LL] <;> omega) | (go_unwrap; omega)) | ((first | refine PW.region ?_ | refine PW.regionQ ?_ | refine schedW_done_i ?_ | show (_ : Post) _ _ _ | show @Eq (List PV) _ _ | show @Eq Bool _ _ | show opsW _ _ _ _ _ _ _ _ | show okAll _ | show @Eq Bool _ _ ∨ _); focus (simp only [wa, r1, d0, SA, Nat.reduceAdd, reduceIte, Nat.reduceEqDiff, Nat.reduceBEq, reduceCtorEq]; (try go_unwrap; try simp only [wa, r1, d0, RR, reduceCtorEq]))) | refine And.intro ?_ ?_ | exact Or.inr ⟨rfl, Nat.le_refl _⟩ | exact (fun h => Bool.noConfusion h))
    all_goals exact ⟨putP rs ⟨2, 0, [], [v, rn]⟩, rfl, rfl, ⟨hgood2, k', by simp only [putP]; omega, hRn⟩, by simp only [putP]; omega⟩
  have hc' : (decide (s.e = 0) && sgn (wE d n) s [43]) = false := by simpa using hc
  rw [hc'] at hv
  by_cases hb : (decide (s.e = 0) && sgn (wE d n) s [45]) = true
  · have hb2 := hb
    simp only [Bool.and_eq_true, decide_eq_true_eq] at hb2
    have hn43 : sgn (wE d n) s [43] = false := by simpa [hb2.1] using hc'
    rw [hb] at hw
    have d0 : decide (s.e = 0) = true := decide_eq_true hb2.1
    have he : s.e = 0 := hb2.1
    have h1 := sgn_lt h0 hlt (hb2.2)
    obtain ⟨k', rfl⟩ : ∃ k', k = k' + 1 := ⟨k - 1, by omega⟩
    have hIa : Inv (wE d n) (adv s 1) := ⟨by simpa [adv] using h1, by have := hI.le; simp [adv]; omega, he, h0⟩
    have hpa := hpart (adv s 1) hIa (by simp only [adv]; omega)
    have hga := hgood (adv s 1) hIa (by simp only [adv]; omega)
    have hRn : R = rowL (wE d n) part opsA k' (putP (part (adv s 1)).2 ⟨3, 0, [], [v, (part (adv s 1)).1]⟩).1 (putP (part (adv s 1)).2 ⟨3, 0, [], [v, (part (adv s 1)).1]⟩).2 := by
      rw [hR]; simp [rowL, he, opsA, hn43, hb2.2]
    have hle2 : s.at_ + 1 ≤ (part (adv s 1)).2.at_ := hga.le
    have hoo : (part (adv s 1)).2.out.length + (s.at_ + 1) ≤ s.out.length + (part (adv s 1)).2.at_ := hga.out
    generalize part (adv s 1) = r at hpa hga hRn hle2 hoo
    obtain ⟨rn, rs⟩ := r
    simp only at hRn hle2 hoo
    have hga2 := hga.lt
    simp only at hga2
    have hgood2 : Good (wE d n) s0 (putP rs ⟨3, 0, [], [v, rn]⟩) := good_put (s := s0) hga.lt (by omega) (by omega) hI.le hga.er
    have hpt := v83 d n rs ⟨3, 0, [], [v, rn]⟩ (by have := hI.le; omega)
    simp only [ndP, ndC, kidsP, List.map_cons, List.map_nil] at hpt
    simp only [RqC, rqP, rowO, adv, hbd _ he] at hpa hpt
    repeat' (first | exact True.intro | (exact Or.inr ⟨rfl, by decide⟩) | (refine PW.seqK ?_; intro K hK) | refine pwB ?_ | refine pwS ?_ | refine pwL ?_ | refine pwE ?_ | refine pwR ?_ | refine pwK ?_ | refine seqK_n ‹_› ?_ | refine seqK_r ‹_› ?_ | refine seqK_e ‹_› ?_ | refine PW.regionA ?_ | exact schedW_stop_i | refine schK_n ‹_› ?_ | (refine schedW_alt_k ?_ ?_; focus (intro K hK; simp only [wa, r1, d0, SA, Nat.reduceAdd, reduceIte, Nat.reduceEqDiff, Nat.reduceBEq, reduceCtorEq]; (try go_unwrap; try simp only [wa, r1, d0, RR, reduceCtorEq]))) | (refine PW.cond rfl ?_ ?_ <;> intro hcond <;> (try contradiction) <;> try simp only [DD] at hcond) | (refine goCall_L 1 e82 hv ?_ ?_ ?_ ?_; (focus (simp [PV.lend, PV.view, Mem.get, htk, hbd]; done)); (focus (simp [PV.lends, PV.lend, PV.view, PV.seen, fitB, PV.scalar, Mem.get, Sh.size, htk]; done)); (focus (simp [PV.flat]; done)); simp only [wa, r1, d0, SA, Nat.reduceAdd, reduceIte, Nat.reduceEqDiff, Nat.reduceBEq, reduceCtorEq]) | (refine goCall_L 1 e82 hw ?_ ?_ ?_ ?_; (focus (simp [PV.lend, PV.view, Mem.get, htk, hbd]; done)); (focus (simp [PV.lends, PV.lend, PV.view, PV.seen, fitB, PV.scalar, Mem.get, Sh.size, htk]; done)); (focus (simp [PV.flat]; done)); simp only [wa, r1, d0, SA, Nat.reduceAdd, reduceIte, Nat.reduceEqDiff, Nat.reduceBEq, reduceCtorEq]) | (refine goCallG_L 1 e82 hw ?_ ?_ ?_ ?_ ?_; (focus (simp [okAll, PV.okUnder]; done)); (focus (simp [PV.under, PV.lend, PV.view, Mem.get, htk]; done)); (focus (simp [PV.under, PV.lends, PV.lend, PV.view, PV.seen, fitB, PV.scalar, Mem.get, Sh.size, htk]; done)); (focus (simp [PV.flat]; done)); simp only [wa, r1, d0, SA, Nat.reduceAdd, reduceIte, Nat.reduceEqDiff, Nat.reduceBEq, reduceCtorEq]) | (refine goCall_K 1 e81 hpa rfl ?_; rintro p μ' ⟨rfl, rfl⟩; simp only [wa, r1, d0, SA, Nat.reduceAdd, reduceIte, Nat.reduceEqDiff, Nat.reduceBEq, reduceCtorEq]) | (refine goCall_K 1 e83 hpt rfl ?_; rintro p μ' ⟨rfl, rfl⟩; simp only [wa, r1, d0, SA, Nat.reduceAdd, reduceIte, Nat.reduceEqDiff, Nat.reduceBEq, reduceCtorEq]) | (refine gd_i ?_; intro hg; try simp only [hg]) | ((first | show (_ : Nat) ≤ _ | show (_ : Nat) < _ | show (_ : Int) ≤ _ | show (_ : Int) < _ | show (_ : Nat) = _ | show (_ : Int) = _ | show (_ : Bool) = _ | show _ ∨ _ | show ¬ _); first | omega | (simp only [DD, LL] <;> omega) | (go_unwrap; omega)) | ((first | refine PW.region ?_ | refine PW.regionQ ?_ | refine schedW_done_i ?_ | show (_ : Post) _ _ _ | show @Eq (List PV) _ _ | show @Eq Bool _ _ | show opsW _ _ _ _ _ _ _ _ | show okAll _ | show @Eq Bool _ _ ∨ _); focus (simp only [wa, r1, d0, SA, Nat.reduceAdd, reduceIte, Nat.reduceEqDiff, Nat.reduceBEq, reduceCtorEq]; (try go_unwrap; try simp only [wa, r1, d0, RR, reduceCtorEq]))) | refine And.intro ?_ ?_ | exact Or.inr ⟨rfl, Nat.le_refl _⟩ | exact (fun h => Bool.noConfusion h))
    all_goals exact ⟨putP rs ⟨3, 0, [], [v, rn]⟩, rfl, rfl, ⟨hgood2, k', by simp only [putP]; omega, hRn⟩, by simp only [putP]; omega⟩
  · have hb' : (decide (s.e = 0) && sgn (wE d n) s [45]) = false := by simpa using hb
    rw [hb'] at hw
    have hRR : R = (v, s) := by
      rw [hR]
      cases k with
      | zero => rfl
      | succ k =>
        unfold rowL
        by_cases he : s.e = 0
        · have hs : sgn (wE d n) s [43] = false := by simpa [he] using hc'
          have hs2 : sgn (wE d n) s [45] = false := by simpa [he] using hb'
          simp [he, opsA, hs, hs2]
        · simp [he]
    subst hRR
    repeat' (first | exact True.intro | (refine PW.seqK ?_; intro K hK) | refine pwB ?_ | refine pwS ?_ | refine pwL ?_ | refine pwE ?_ | refine pwR ?_ | refine pwK ?_ | refine seqK_n ‹_› ?_ | refine seqK_r ‹_› ?_ | refine seqK_e ‹_› ?_ | refine PW.regionA ?_ | exact schedW_stop_i | refine schK_n ‹_› ?_ | (refine schedW_alt_k ?_ ?_; focus (intro K hK; simp only [SA, Nat.reduceAdd, reduceIte, Nat.reduceEqDiff, Nat.reduceBEq, reduceCtorEq]; (try go_unwrap; try simp only [RR, reduceCtorEq]))) | (refine PW.cond rfl ?_ ?_ <;> intro hcond <;> (try contradiction) <;> try simp only [DD] at hcond) | (refine goCall_L 1 e82 hv ?_ ?_ ?_ ?_; (focus (simp [PV.lend, PV.view, Mem.get, htk, hbd]; done)); (focus (simp [PV.lends, PV.lend, PV.view, PV.seen, fitB, PV.scalar, Mem.get, Sh.size, htk]; done)); (focus (simp [PV.flat]; done)); simp only [SA, Nat.reduceAdd, reduceIte, Nat.reduceEqDiff, Nat.reduceBEq, reduceCtorEq]) | (refine goCallG_L 1 e82 hw ?_ ?_ ?_ ?_ ?_; (focus (simp [okAll, PV.okUnder]; done)); (focus (simp [PV.under, PV.lend, PV.view, Mem.get, htk]; done)); (focus (simp [PV.under, PV.lends, PV.lend, PV.view, PV.seen, fitB, PV.scalar, Mem.get, Sh.size, htk]; done)); (focus (simp [PV.flat]; done)); simp only [SA, Nat.reduceAdd, reduceIte, Nat.reduceEqDiff, Nat.reduceBEq, reduceCtorEq]) | (refine gd_i ?_; intro hg; try simp only [hg]) | ((first | show (_ : Nat) ≤ _ | show (_ : Nat) < _ | show (_ : Int) ≤ _ | show (_ : Int) < _ | show (_ : Nat) = _ | show (_ : Int) = _ | show (_ : Bool) = _ | show _ ∨ _ | show ¬ _); first | omega | (simp only [DD, LL] <;> omega) | (go_unwrap; omega)) | ((first | refine PW.region ?_ | refine PW.regionQ ?_ | refine schedW_done_i ?_ | show (_ : Post) _ _ _ | show @Eq (List PV) _ _ | show @Eq Bool _ _ | show opsW _ _ _ _ _ _ _ _ | show okAll _ | show @Eq Bool _ _ ∨ _); focus (simp only [SA, Nat.reduceAdd, reduceIte, Nat.reduceEqDiff, Nat.reduceBEq, reduceCtorEq]; (try go_unwrap; try simp only [RR, reduceCtorEq]))) | refine And.intro ?_ ?_ | exact Or.inr ⟨rfl, Nat.le_refl _⟩ | exact (fun h => Bool.noConfusion h))
    all_goals rfl
end Go.Proofs.YthekpjhffciakaaDoor

