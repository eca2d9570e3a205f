import Derived.Test.YtbbfjkjgboljkaaY9
namespace Go.Proofs.Ytbbfjkjgboljkaa
open Go PG Go.Proofs
set_option linter.unusedSimpArgs false
set_option linter.unusedVariables false
theorem runL_take (p : UInt8 → Bool) : ∀ (l : List UInt8) (j : Nat), runL p (l.take j) = Nat.min j (runL p l)
  | [], j => by simp [runL]
  | b :: l, 0 => by simp [runL]
  | b :: l, j + 1 => by
    simp only [List.take_succ_cons, runL, runL_take p l j]
    split
    · simp only [Nat.min_def]; split <;> split <;> omega
    · simp
theorem runL_stop_app {p : UInt8 → Bool} {b : UInt8} (hb : p b = false) (r : List UInt8) : ∀ l : List UInt8, runL p (l ++ b :: r) = runL p l
  | [] => by simp [runL, hb]
  | c :: l => by simp only [List.cons_append, runL, runL_stop_app hb r l]
theorem inner32 : innerB 32 = false := by decide
theorem digit32 : digitB 32 = false := by decide
theorem digit46 : digitB 46 = false := by decide
theorem getD_app {l r : List UInt8} {i : Nat} (h : i < l.length) : (l ++ r).getD i 0 = l.getD i 0 := by simp [List.getD, List.getElem?_append_left h]
theorem getD_take {l : List UInt8} {i j : Nat} (h : i < j) : (l.take j).getD i 0 = l.getD i 0 := by simp [List.getD, h]
theorem numL_blank (l r : List UInt8) : numL (l ++ 32 :: r) = numL l := by
  have h1 := runL_stop_app digit32 r l
  have h2 : runL digitB l ≤ l.length := runL_le _ _
  unfold numL
  rw [h1]
  by_cases hp : runL digitB l < l.length ∧ l.getD (runL digitB l) 0 = 46
  · have hp' : runL digitB l < (l ++ 32 :: r).length ∧ (l ++ 32 :: r).getD (runL digitB l) 0 = 46 := ⟨by simp; omega, by rw [getD_app hp.1]; exact hp.2⟩
    have hd : (l ++ 32 :: r).drop (runL digitB l + 1) = l.drop (runL digitB l + 1) ++ 32 :: r := by rw [List.drop_append_of_le_length (by omega)]
    have ht : (l ++ 32 :: r).take (runL digitB l) = l.take (runL digitB l) := by rw [List.take_append_of_le_length h2]
    have hq : runL digitB (l.drop (runL digitB l + 1)) ≤ (l.drop (runL digitB l + 1)).length := runL_le _ _
    rw [if_pos hp, if_pos hp', hd, ht, runL_stop_app digit32 r, List.take_append_of_le_length hq]
  · have hp' : ¬(runL digitB l < (l ++ 32 :: r).length ∧ (l ++ 32 :: r).getD (runL digitB l) 0 = 46) := by
      rintro ⟨h3, h4⟩
      rcases Nat.lt_or_ge (runL digitB l) l.length with h | h
      · rw [getD_app h] at h4; exact hp ⟨h, h4⟩
      · have : runL digitB l = l.length := by omega
        rw [this] at h4
        simp at h4
    have ht : (l ++ 32 :: r).take (runL digitB l) = l.take (runL digitB l) := by rw [List.take_append_of_le_length h2]
    rw [if_neg hp, if_neg hp', ht]
/-- What follows a blank plays no part in the token ahead of it. -/
theorem tokE_blank (a : Nat) {l : List UInt8} (r : List UInt8) (hl : l ≠ []) : tokE a (l ++ 32 :: r) = tokE a l := by
  have h0 : (l ++ 32 :: r).getD 0 0 = l.getD 0 0 := getD_app (List.length_pos_iff.2 hl)
  unfold tokE
  rw [h0, runL_stop_app inner32, numL_blank]
theorem numL_self {l : List UInt8} {n v : Nat} (h : numL l = .ok (n, v)) : numL (l.take n) = .ok (n, v) := by
  have hle := (numL_ok h).1
  have h2 : runL digitB l ≤ l.length := runL_le _ _
  unfold numL at h
  split at h
  · rename_i hp
    have hq : runL digitB (l.drop (runL digitB l + 1)) ≤ (l.drop (runL digitB l + 1)).length := runL_le _ _
    split at h
    · cases h
    · rename_i h3
      split at h
      · cases h
      · rename_i h4
        split at h
        · rename_i h5
          simp only [Except.ok.injEq, Prod.mk.injEq] at h
          obtain ⟨hn, hv⟩ := h
          generalize hk : runL digitB (l.drop (runL digitB l + 1)) = k at *
          generalize hm : runL digitB l = m at *
          have e1 : runL digitB (l.take n) = m := by rw [runL_take, hm]; simp only [Nat.min_def]; split <;> omega
          have e2 : (l.take n).drop (m + 1) = (l.drop (m + 1)).take k := by rw [List.drop_take]; congr 1; omega
          have e3 : runL digitB ((l.drop (m + 1)).take k) = k := by rw [runL_take, hk]; simp [Nat.min_def]
          have e4 : (l.take n).take m = l.take m := by rw [List.take_take]; congr 1; simp only [Nat.min_def]; split <;> omega
          unfold numL
          rw [e1, e2, e3, e4, if_pos ⟨by rw [List.length_take]; simp only [Nat.min_def]; split <;> omega, by rw [getD_take (by omega)]; exact hp.2⟩, if_neg h3, if_neg h4, List.take_take]
          simp only [Nat.min_self]
          rw [if_pos h5, hn, hv]
        · cases h
  · split at h
    · rename_i hp h5
      simp only [Except.ok.injEq, Prod.mk.injEq] at h
      obtain ⟨hn, hv⟩ := h
      subst hn
      have e1 : runL digitB (l.take (runL digitB l)) = runL digitB l := by rw [runL_take]; simp [Nat.min_def]
      unfold numL
      rw [e1, if_neg (by rw [List.length_take]; simp only [Nat.min_def]; split <;> omega), List.take_take]
      simp only [Nat.min_self]
      rw [if_pos h5, hv]
    · cases h
/-- A token's text by itself is that token. -/
theorem tokE_self (a a' : Nat) {l : List UInt8} {k n : Nat} (hl : l ≠ []) (h : tokE a l = .ok (k, n)) : tokE a' (l.take n) = .ok (k, n) ∧ 1 ≤ n ∧ n ≤ l.length := by
  obtain ⟨h1, h2, -⟩ := tokE_ok (List.length_pos_iff.2 hl) h
  refine ⟨?_, h1, h2⟩
  have h0 : (l.take n).getD 0 0 = l.getD 0 0 := getD_take (by omega)
  unfold tokE at h ⊢
  rw [h0]
  split at h
  · rename_i hc
    rw [if_pos hc]
    split at h
    · rename_i h3
      simp only [Except.ok.injEq, Prod.mk.injEq] at h
      obtain ⟨rfl, rfl⟩ := h
      have e : runL innerB (l.take (runL innerB l)) = runL innerB l := by rw [runL_take]; simp [Nat.min_def]
      rw [e, if_pos h3]
    · cases h
  · rename_i hc
    rw [if_neg hc]
    split at h
    · rename_i hd
      rw [if_pos hd]
      cases hn : numL l with
      | error p => rw [hn] at h; cases h
      | ok p =>
        obtain ⟨m, v⟩ := p
        rw [hn] at h
        simp only [Except.ok.injEq, Prod.mk.injEq] at h
        obtain ⟨rfl, rfl⟩ := h
        rw [numL_self hn]
    · rename_i hd
      rw [if_neg hd]
      split at h
      · rename_i hs
        rw [if_pos hs]; exact h
      · cases h
/-- What a token by itself says of its text. -/
theorem self_name {a k : Nat} {x : List UInt8} (hx : x ≠ []) (h : tokE a x = .ok (k, x.length)) : isName x = decide (k = 1) ∧ ((numOf x).2 = 0 ↔ k = 2) ∧ k ≠ 0 := by
  unfold tokE at h
  unfold isName numOf
  rw [if_neg hx]
  split at h
  · rename_i hc
    split at h
    · rename_i h3
      simp only [Except.ok.injEq, Prod.mk.injEq] at h
      obtain ⟨rfl, hn⟩ := h
      have hd : digitB (x.getD 0 0) = false := by
        unfold letterB at hc; unfold digitB
        simp only [Bool.and_eq_true, decide_eq_true_eq] at hc
        simp only [Bool.and_eq_false_iff, decide_eq_false_iff_not]; omega
      rw [hd, hc, hn]
      simp [hx]
      omega
    · cases h
  · rename_i hc
    split at h
    · rename_i hd
      cases hn : numL x with
      | error p => rw [hn] at h; cases h
      | ok p =>
        obtain ⟨m, v⟩ := p
        rw [hn] at h
        simp only [Except.ok.injEq, Prod.mk.injEq] at h
        obtain ⟨rfl, rfl⟩ := h
        have hl0 : letterB (x.getD 0 0) = false := by simpa using hc
        rw [hl0, hd]
        simp
    · rename_i hd
      split at h
      · simp only [Except.ok.injEq, Prod.mk.injEq] at h
        obtain ⟨rfl, hn⟩ := h
        have hl0 : letterB (x.getD 0 0) = false := by simpa using hc
        have hd0 : digitB (x.getD 0 0) = false := by simpa using hd
        rw [hl0, hd0]
        simp
      · cases h

/-- The tokens from a place on stand where they say, blanks alone between them. -/
def Tiles (s : List UInt8) : Nat → List Tok → Prop
  | b, [] => b = s.length
  | b, (k, x, a) :: l => b ≤ a ∧ a + x.length ≤ s.length ∧ (s.drop a).take x.length = x ∧ (∀ j, b ≤ j → j < a → s.getD j 0 = 32) ∧ (l = [] ↔ k = 0) ∧ (l = [] → x = []) ∧ (l ≠ [] → x ≠ [] ∧ tokE 0 x = .ok (k, x.length)) ∧ Tiles s (a + x.length) l
theorem scan_tiles {s : List UInt8} : ∀ (n a b : Nat) (acc l : List Tok), s.length - a ≤ n → a ≤ s.length → b ≤ a → (∀ j, b ≤ j → j < a → s.getD j 0 = 32) → scanA acc a (s.drop a) = .ok l → ∃ l', l = acc ++ l' ∧ l' ≠ [] ∧ Tiles s b l' := by
  intro n
  induction n with
  | zero =>
    intro a b acc l hn ha hb hbl h
    have : a = s.length := by omega
    subst this
    rw [scan_nil (Nat.le_refl _)] at h
    cases h
    exact ⟨_, rfl, by simp, hb, by simp, by simp, hbl, by simp, by simp, by simp, by simp [Tiles]⟩
  | succ n ih =>
    intro a b acc l hn ha hb hbl h
    rcases Nat.lt_or_ge a s.length with hlt | hge
    · by_cases hc : s.getD a 0 = 32
      · rw [scan_blank hlt hc] at h
        refine ih (a + 1) b acc l (by omega) hlt (by omega) (fun j h1 h2 => ?_) h
        rcases Nat.lt_or_ge j a with h3 | h3
        · exact hbl j h1 h3
        · rw [show j = a by omega]; exact hc
      · cases ht : tokE a (s.drop a) with
        | error e => rw [scan_err hlt hc ht] at h; cases h
        | ok p =>
          obtain ⟨k, m⟩ := p
          have hne : s.drop a ≠ [] := by
            intro h0
            have := congrArg List.length h0
            simp at this; omega
          obtain ⟨h1, h2, h3⟩ := tokE_self a 0 hne ht
          rw [List.length_drop] at h3
          rw [scan_tok hlt hc ht h2] at h
          obtain ⟨l', e1, e2, e3⟩ := ih (a + m) (a + m) _ l (by omega) (by omega) (Nat.le_refl _) (fun j h4 h5 => absurd h4 (by omega)) h
          have hxl : ((s.drop a).take m).length = m := by simp; omega
          have hx : (s.drop a).take m ≠ [] := List.length_pos_iff.1 (by omega)
          rw [← hxl] at h1
          have hk := (self_name (k := k) hx (by rw [hxl] at h1 ⊢; exact h1)).2.2
          refine ⟨(k, (s.drop a).take m, a) :: l', by rw [e1]; simp, by simp, hb, by rw [hxl]; omega, by rw [hxl], hbl, ⟨fun h => absurd h e2, fun h => absurd h hk⟩, fun h => absurd h e2, fun _ => ⟨hx, by rw [hxl] at h1 ⊢; exact h1⟩, by rw [hxl]; exact e3⟩
    · have : a = s.length := by omega
      subst this
      rw [scan_nil (Nat.le_refl _)] at h
      cases h
      exact ⟨_, rfl, by simp, hb, by simp, by simp, hbl, by simp, by simp, by simp, by simp [Tiles]⟩
theorem all_tiles {s : List UInt8} {l : List Tok} (h : allE s = .ok l) : l ≠ [] ∧ Tiles s 0 l ∧ s.length ≤ 4096 := by
  unfold allE at h
  split at h
  · cases h
  · obtain ⟨l', e1, e2, e3⟩ := scan_tiles (s := s) s.length 0 0 [] l (by omega) (by omega) (Nat.le_refl _) (fun j _ h => absurd h (by omega)) (by simpa using h)
    simp at e1; subst e1
    exact ⟨e2, e3, by omega⟩
theorem scan_errs {s : List UInt8} : ∀ (n a : Nat) (acc : List Tok) (o e : Nat), s.length - a ≤ n → a ≤ s.length → scanA acc a (s.drop a) = .error (o, e) → o ≤ s.length ∧ e ≠ 0 := by
  intro n
  induction n with
  | zero =>
    intro a acc o e hn ha h
    rw [scan_nil (by omega)] at h; cases h
  | succ n ih =>
    intro a acc o e hn ha h
    rcases Nat.lt_or_ge a s.length with hlt | hge
    · by_cases hc : s.getD a 0 = 32
      · rw [scan_blank hlt hc] at h
        exact ih (a + 1) acc o e (by omega) hlt h
      · cases ht : tokE a (s.drop a) with
        | error p =>
          obtain ⟨o', e'⟩ := p
          rw [scan_err hlt hc ht] at h
          simp only [Except.error.injEq, Prod.mk.injEq] at h
          obtain ⟨rfl, rfl⟩ := h
          obtain ⟨h1, h2, h3, -⟩ := tokE_err ht
          rw [List.length_drop] at h3
          exact ⟨by omega, by omega⟩
        | ok p =>
          obtain ⟨k, m⟩ := p
          obtain ⟨h2, h3, -⟩ := tokE_ok (by simp; omega) ht
          rw [List.length_drop] at h3
          rw [scan_tok hlt hc ht h2] at h
          exact ih (a + m) _ o e (by omega) (by omega) h
    · rw [scan_nil hge] at h; cases h
theorem all_errs {s : List UInt8} {o e : Nat} (h : allE s = .error (o, e)) : o ≤ s.length ∧ e ≠ 0 := by
  unfold allE at h
  split at h
  · simp only [Except.error.injEq, Prod.mk.injEq] at h
    obtain ⟨rfl, rfl⟩ := h
    exact ⟨by omega, by omega⟩
  · exact scan_errs s.length 0 [] o e (by omega) (by omega) (by simpa using h)
end Go.Proofs.Ytbbfjkjgboljkaa
