import Derived.Test.YtjcoenideicmbaaProg
import Derived.KernelRfl
import Derived.Test.YtjcoenideicmbaaP3
import Derived.Test.YtjcoenideicmbaaQ18
import Derived.Test.YtjcoenideicmbaaQ17
import Derived.Test.YtjcoenideicmbaaQ13
namespace Go.Proofs.Ytjcoenideicmbaa
open PG Go.Proofs
-- wagebook/wagebooklaw11.BookRight
end Go.Proofs.Ytjcoenideicmbaa

namespace Go.Proofs.Ytjcoenideicmbaa
open Go PG Go.Proofs
set_option linter.unusedSimpArgs false
set_option linter.unusedVariables false
set_option maxHeartbeats 4000000
set_option maxRecDepth 100000
theorem sh_codes {l : List Kn} (h : shM l = true) : l.length ≤ 40 ∧ ∀ k ∈ l, k.code.length ≤ 300 ∧ k.text.length ≤ 300 := by
  unfold shM at h
  simp only [Bool.and_eq_true, decide_eq_true_eq] at h
  refine ⟨h.2, fun k hk => ?_⟩
  rw [List.take_of_length_le h.2] at h
  have := List.all_eq_true.1 h.1 k hk
  simp only [shrB, Bool.and_eq_true, decide_eq_true_eq] at this
  exact this
end Go.Proofs.Ytjcoenideicmbaa

namespace Go.Proofs.Ytjcoenideicmbaa
open Go PG Go.Proofs
set_option linter.unusedSimpArgs false
set_option linter.unusedVariables false
end Go.Proofs.Ytjcoenideicmbaa

namespace Go.Proofs.Ytjcoenideicmbaa
open Go PG Go.Proofs
set_option linter.unusedSimpArgs false
set_option linter.unusedVariables false
end Go.Proofs.Ytjcoenideicmbaa

namespace Go.Proofs.Ytjcoenideicmbaa
open PG Go.Proofs
/-- Days of change, from a on, so many. -/
def chU (f : Int → Int) (a : Int) : Nat → List Int
  | 0 => []
  | i + 1 => if f (a + 1 + i) = f (a + i) then chU f a i else chU f a i ++ [a + 1 + i]
def chT (f : Int → Int) : Nat → Int → List Int
  | 0, _ => []
  | n + 1, d => if f d = f (d - 1) then chT f n (d + 1) else d :: chT f n (d + 1)
theorem chT_snoc (f : Int → Int) : ∀ (n : Nat) (d : Int), chT f (n + 1) d = if f (d + n) = f (d + n - 1) then chT f n d else chT f n d ++ [d + n]
  | 0, d => by simp [chT]
  | n + 1, d => by
    rw [chT, chT_snoc f n (d + 1)]
    have h1 : d + 1 + (n : Int) = d + ((n + 1 : Nat) : Int) := by omega
    rw [h1]
    conv => rhs; rw [show chT f (n + 1) d = if f d = f (d - 1) then chT f n (d + 1) else d :: chT f n (d + 1) from rfl]
    split <;> split <;> simp
theorem chU_eq (f : Int → Int) (a : Int) : ∀ n : Nat, chU f a n = chT f n (a + 1)
  | 0 => rfl
  | n + 1 => by
    rw [chT_snoc, chU, chU_eq f a n]
    rw [show a + 1 + (n : Int) - 1 = a + n by omega]
theorem chS_day (f : Int → Int) (b a0 : Int) : ∀ (n : Nat) (a d : Int), a0 < d → f (d - 1) = f a → chS a0 (dayM f b n a d) = (if a0 < a then [a] else []) ++ chT f n d
  | 0, a, d, h1, h2 => by
    unfold dayM chT chS
    by_cases h : a0 < a <;> simp [h]
  | n + 1, a, d, h1, h2 => by
    unfold dayM chT
    rw [h2]
    split
    · rename_i he
      rw [chS_day f b a0 n a (d + 1) (by omega) (by rw [show d + 1 - 1 = d by omega]; exact he)]
    · have hx := chS_day f b a0 n d (d + 1) (by omega) (by rw [show d + 1 - 1 = d by omega])
      rw [if_pos h1] at hx
      have hc : chS a0 ((a, d, f a) :: dayM f b n d (d + 1)) = (if a0 < a then [a] else []) ++ chS a0 (dayM f b n d (d + 1)) := by
        unfold chS
        by_cases h : a0 < a <;> simp [h]
      rw [hc, hx]; simp
theorem full_day (l : List Kn) {a b : Int} (h : a < b) : fullM l a b = dayM (placeM l) b (b - a - 1).toNat a (a + 1) :=
  (full_runs l h).uniq (dayM_runs _ a (a + 1) (by omega) (by omega) fun x h1 h2 => by rw [show x = a by omega])
theorem chS_eq (l : List Kn) {a b : Int} (h : a < b) : chS a (fullM l a b) = chU (placeM l) a (b - a - 1).toNat := by
  rw [full_day l h, chS_day _ _ _ _ _ _ (by omega) (by rw [show a + 1 - 1 = a by omega]), chU_eq]
  simp
theorem full_none (l : List Kn) {a b : Int} (h : b ≤ a) : fullM l a b = [] := by unfold fullM; rw [if_pos h]
end Go.Proofs.Ytjcoenideicmbaa

namespace Go.Proofs.Ytjcoenideicmbaa
open Go PG Go.Proofs
set_option linter.unusedSimpArgs false
set_option linter.unusedVariables false
/-! BookChanges: days that rise -/
theorem placeN_sp6 (l : List Kn) (d : Int) : ∀ i : Nat, (placeN l d i < 0 → ∀ j < i, covB (l.getD j default) d = false) ∧
    (0 ≤ placeN l d i → covB (l.getD (placeN l d i).toNat default) d = true ∧ ∀ j < i, covB (l.getD j default) d = true → (l.getD j default).n ≤ (l.getD (placeN l d i).toNat default).n)
  | 0 => ⟨fun _ j h => by omega, fun h => by simp [placeN] at h⟩
  | i + 1 => by
    obtain ⟨h1, h2⟩ := placeN_sp6 l d i
    have lt : ∀ {j}, j < i + 1 → j < i ∨ j = i := fun h => by omega
    unfold placeN
    by_cases hc : covB (l.getD i default) d = true
    · by_cases hn : placeN l d i < 0
      · rw [if_pos (by rw [hc, decide_eq_true hn]; rfl)]
        refine ⟨fun h => by omega, fun _ => ⟨hc, fun j hj hcj => ?_⟩⟩
        rcases lt hj with hj | rfl
        · rw [h1 hn j hj] at hcj; cases hcj
        · simp
      · by_cases hm : (l.getD (placeN l d i).toNat default).n < (l.getD i default).n
        · rw [if_pos (by rw [hc, decide_eq_true hm]; simp)]
          refine ⟨fun h => by omega, fun _ => ⟨hc, fun j hj hcj => ?_⟩⟩
          rcases lt hj with hj | rfl
          · have := (h2 (by omega)).2 j hj hcj; simp only [Int.toNat_natCast]; omega
          · simp
        · rw [if_neg (by simp [hc]; simp at hm; omega)]
          refine ⟨fun h => absurd h hn, fun h => ⟨(h2 h).1, fun j hj hcj => ?_⟩⟩
          rcases lt hj with hj | rfl
          · exact (h2 h).2 j hj hcj
          · omega
    · rw [if_neg (by rw [Bool.and_eq_true]; exact fun h => hc h.1)]
      have hc : covB (l.getD i default) d = false := by simpa using hc
      refine ⟨fun h j hj => ?_, fun h => ⟨(h2 h).1, fun j hj hcj => ?_⟩⟩
      · rcases lt hj with hj | rfl
        · exact h1 h j hj
        · exact hc
      · rcases lt hj with hj | rfl
        · exact (h2 h).2 j hj hcj
        · rw [hc] at hcj; cases hcj

abbrev StI (L : List Int) : Prop := L.Pairwise (· < ·)
theorem stI_uniq {A B : List Int} (ha : StI A) (hb : StI B) (h : ∀ x, x ∈ A ↔ x ∈ B) : A = B := by
  refine List.Perm.eq_of_pairwise (le := (· < ·)) (fun x y _ _ h1 h2 => by omega) ha hb ?_
  have nd : ∀ {L : List Int}, StI L → L.Nodup := fun h => h.imp fun h e => by omega
  exact (List.perm_ext_iff_of_nodup (nd ha) (nd hb)).2 h
def atD (l : List Int) (d : Int) : Nat := (l.takeWhile fun x => decide (x < d)).length
def putD (l : List Int) (d : Int) : List Int := if l[atD l d]? = some d then l else l.take (atD l d) ++ d :: l.drop (atD l d)
theorem atD_le (l : List Int) (d : Int) : atD l d ≤ l.length := (List.takeWhile_sublist _).length_le
theorem atD_lt : ∀ (l : List Int) (s : Int) (i : Nat) (h : i < l.length), i < atD l s → l[i] < s
  | x :: l, s, i, h, hi => by
    unfold atD at hi
    rw [List.takeWhile_cons] at hi
    split at hi
    · rename_i hx
      cases i with
      | zero => simpa using hx
      | succ i => exact atD_lt l s i (by simpa using h) (by unfold atD; simpa using hi)
    · simp at hi
theorem atD_eq : ∀ (l : List Int) (s : Int) (h : atD l s < l.length), ¬ l[atD l s] < s
  | x :: l, s, h => by
    have hc : atD (x :: l) s = if x < s then atD l s + 1 else 0 := by
      unfold atD; rw [List.takeWhile_cons]; by_cases hx : x < s <;> simp [hx]
    by_cases hx : x < s
    · have e : atD (x :: l) s = atD l s + 1 := by rw [hc, if_pos hx]
      have := atD_eq l s (by simp at h; omega)
      simp only [e, List.getElem_cons_succ]
      exact this
    · have e : atD (x :: l) s = 0 := by rw [hc, if_neg hx]
      simp only [e, List.getElem_cons_zero]
      exact hx
theorem putD_len (l : List Int) (d : Int) : (putD l d).length ≤ l.length + 1 := by
  unfold putD; split
  · omega
  · have := atD_le l d; simp; omega
theorem putD_iff (l : List Int) (s x : Int) : x ∈ putD l s ↔ x ∈ l ∨ x = s := by
  unfold putD
  split
  · rename_i h
    have := List.mem_of_getElem? h
    exact ⟨.inl, fun h => h.elim id (fun e => by rw [e]; exact this)⟩
  · constructor
    · intro h
      rcases List.mem_append.1 h with h | h
      · exact .inl (List.mem_of_mem_take h)
      · rcases List.mem_cons.1 h with h | h
        · exact .inr h
        · exact .inl (List.mem_of_mem_drop h)
    · rintro (h | rfl)
      · rw [← List.take_append_drop (atD l s) l] at h
        rcases List.mem_append.1 h with h | h
        · exact List.mem_append.2 (.inl h)
        · exact List.mem_append.2 (.inr (List.mem_cons_of_mem _ h))
      · simp
theorem putD_st {l : List Int} (h : StI l) (s : Int) : StI (putD l s) := by
  unfold putD
  split
  · exact h
  · rename_i hne
    have hlt : ∀ x ∈ l.take (atD l s), x < s := by
      intro x hx
      obtain ⟨i, hi, rfl⟩ := List.getElem_of_mem hx
      simp only [List.length_take] at hi
      rw [List.getElem_take]
      exact atD_lt l s i (by omega) (by omega)
    have hgt : ∀ y ∈ l.drop (atD l s), s < y := by
      intro y hy
      obtain ⟨i, hi, rfl⟩ := List.getElem_of_mem hy
      simp only [List.length_drop] at hi
      have h0 : atD l s < l.length := by omega
      have h1 := atD_eq l s h0
      have h3 : l[atD l s] ≠ s := fun e => hne (by rw [List.getElem?_eq_getElem h0, e])
      have h2 : s < l[atD l s] := by omega
      rw [List.getElem_drop]
      rcases Nat.eq_zero_or_pos i with rfl | hp
      · exact h2
      · have := List.pairwise_iff_getElem.1 h _ (atD l s + i) h0 (by omega) (by omega)
        omega
    have hs : StI (l.take (atD l s)) := h.sublist (List.take_sublist _ _)
    have hd : StI (l.drop (atD l s)) := h.sublist (List.drop_sublist _ _)
    refine List.pairwise_append.2 ⟨hs, List.pairwise_cons.2 ⟨hgt, hd⟩, fun a ha b hb => ?_⟩
    rcases List.mem_cons.1 hb with rfl | hb
    · exact hlt a ha
    · have := hlt a ha; have := hgt b hb; omega
def dayOf (l : List Kn) (i : Nat) : Int := if i % 2 = 1 then (l.getD (i / 2) default).to else (l.getD (i / 2) default).fr
def daysN (l : List Kn) (a b : Int) : Nat → List Int
  | 0 => []
  | i + 1 => if inS a b (dayOf l i) = true then putD (daysN l a b i) (dayOf l i) else daysN l a b i
theorem daysN_len (l : List Kn) (a b : Int) : ∀ i, (daysN l a b i).length ≤ i
  | 0 => by simp [daysN]
  | i + 1 => by
    have := daysN_len l a b i
    unfold daysN; split
    · have := putD_len (daysN l a b i) (dayOf l i); omega
    · omega
theorem daysN_spec (l : List Kn) (a b : Int) : ∀ i, StI (daysN l a b i) ∧ ∀ x, x ∈ daysN l a b i ↔ inS a b x = true ∧ ∃ j, j < i ∧ dayOf l j = x
  | 0 => by simp [daysN]
  | i + 1 => by
    obtain ⟨h1, h2⟩ := daysN_spec l a b i
    unfold daysN
    split
    · rename_i hin
      refine ⟨putD_st h1 _, fun x => ?_⟩
      rw [putD_iff, h2 x]
      constructor
      · rintro (⟨h, j, hj, e⟩ | rfl)
        · exact ⟨h, j, by omega, e⟩
        · exact ⟨hin, i, by omega, rfl⟩
      · rintro ⟨h, j, hj, e⟩
        rcases Nat.lt_or_ge j i with h' | h'
        · exact .inl ⟨h, j, h', e⟩
        · have : j = i := by omega
          subst this; exact .inr e.symm
    · rename_i hin
      refine ⟨h1, fun x => ?_⟩
      rw [h2 x]
      constructor
      · rintro ⟨h, j, hj, e⟩; exact ⟨h, j, by omega, e⟩
      · rintro ⟨h, j, hj, e⟩
        rcases Nat.lt_or_ge j i with h' | h'
        · exact ⟨h, j, h', e⟩
        · have : j = i := by omega
          subst this; subst e; exact absurd h hin
theorem days_raw (l : List Kn) (a b x : Int) : x ∈ daysN l a b (2 * l.length) ↔ x ∈ rawC l a b := by
  rw [(daysN_spec l a b _).2 x]
  unfold rawC
  rw [List.mem_filter, List.mem_flatMap]
  constructor
  · rintro ⟨h, j, hj, e⟩
    refine ⟨⟨l[j / 2], List.getElem_mem (by omega), ?_⟩, h⟩
    have hg : l.getD (j / 2) default = l[j / 2] := by simp [List.getD, show j / 2 < l.length by omega]
    unfold dayOf at e
    rw [hg] at e
    split at e <;> simp [e]
  · rintro ⟨⟨k, hk, hx⟩, h⟩
    refine ⟨h, ?_⟩
    obtain ⟨i, hi, rfl⟩ := List.getElem_of_mem hk
    simp only [List.mem_cons, List.not_mem_nil, or_false] at hx
    have hg : l.getD i default = l[i] := by simp [List.getD, hi]
    rcases hx with rfl | rfl
    · refine ⟨2 * i, by omega, ?_⟩
      unfold dayOf
      rw [if_neg (by omega), show 2 * i / 2 = i by omega, hg]
    · refine ⟨2 * i + 1, by omega, ?_⟩
      unfold dayOf
      rw [if_pos (by omega), show (2 * i + 1) / 2 = i by omega, hg]
/-! A place is told by its element -/
theorem placeN_first (l : List Kn) (d : Int) : ∀ i : Nat, 0 ≤ placeN l d i → ∀ j : Nat, (j : Int) < placeN l d i → covB (l.getD j default) d = true → (l.getD j default).n < (l.getD (placeN l d i).toNat default).n
  | 0 => fun h => by simp [placeN] at h
  | i + 1 => by
    have ih := placeN_first l d i
    obtain ⟨h1, h2⟩ := placeN_sp6 l d i
    have hin := placeN_in l d i
    unfold placeN
    split
    · rename_i hc
      intro _ j hj hcj
      have hj : j < i := by omega
      simp only [Int.toNat_natCast]
      rw [Bool.and_eq_true, Bool.or_eq_true, decide_eq_true_eq, decide_eq_true_eq] at hc
      rcases hc.2 with hn | hm
      · rw [h1 hn j hj] at hcj; cases hcj
      · rcases Int.lt_or_le (placeN l d i) 0 with h0 | h0
        · rw [h1 h0 j hj] at hcj; cases hcj
        · have := (h2 h0).2 j hj hcj; omega
    · exact ih
theorem place_elt (l : List Kn) (d d' : Int) (h : bestK d l = bestK d' l) : placeM l d = placeM l d' := by
  rw [← place_best, ← place_best] at h
  have i1 := placeN_in l d l.length
  have i2 := placeN_in l d' l.length
  obtain ⟨a1, a2⟩ := placeN_sp6 l d l.length
  obtain ⟨b1, b2⟩ := placeN_sp6 l d' l.length
  have f1 := placeN_first l d l.length
  have f2 := placeN_first l d' l.length
  unfold placeM at h ⊢
  generalize placeN l d l.length = p at *
  generalize placeN l d' l.length = q at *
  rcases Int.lt_or_le p 0 with hp | hp
  · rw [eltK_neg hp] at h
    rcases Int.lt_or_le q 0 with hq | hq
    · omega
    · rw [eltK_pos hq i2.2] at h; cases h
  · rw [eltK_pos hp i1.2] at h
    rcases Int.lt_or_le q 0 with hq | hq
    · rw [eltK_neg hq] at h; cases h
    · rw [eltK_pos hq i2.2] at h
      have e := Option.some.inj h
      have c1 := (a2 hp).1
      have c2 := (b2 hq).1
      have hpn : (p.toNat : Int) = p := by omega
      have hqn : (q.toNat : Int) = q := by omega
      rcases Int.lt_trichotomy p q with hlt | heq | hgt
      · have := f2 hq p.toNat (by omega) (by rw [e]; exact c2)
        rw [e] at this; omega
      · exact heq
      · have := f1 hp q.toNat (by omega) (by rw [← e]; exact c1)
        rw [← e] at this; omega
theorem place_iff (l : List Kn) (d d' : Int) : placeM l d = placeM l d' ↔ bestK d l = bestK d' l :=
  ⟨fun h => by rw [← place_best, ← place_best, h], place_elt l d d'⟩
/-- What is no rule of that name covers no day. -/
def mkN (nm : List UInt8) (k : Kn) : Kn := if isR nm k = true then k else { k with fr := 1, to := 1 }
theorem mkN_n (nm : List UInt8) (k : Kn) : (mkN nm k).n = k.n := by unfold mkN; split <;> rfl
theorem mkN_cov (nm : List UInt8) (k : Kn) (d : Int) : covB (mkN nm k) d = hitB k nm d := by
  have hh : hitB k nm d = (isR nm k && covB k d) := by unfold hitB isR; rw [Bool.and_assoc]
  rw [hh]
  unfold mkN
  by_cases h : isR nm k = true
  · rw [if_pos h, h, Bool.true_and]
  · have h' : isR nm k = false := by simpa using h
    rw [if_neg h, h', Bool.false_and]
    unfold covB
    by_cases h1 : 1 ≤ d
    · simp [h1] <;> omega
    · simp [h1]
theorem plc_place (l : List Kn) (nm : List UInt8) (d : Int) : ∀ i, i ≤ l.length → plcN l nm d i = placeN (l.map (mkN nm)) d i
  | 0, _ => rfl
  | i + 1, h => by
    have ih := plc_place l nm d i (by omega)
    have hin := plcN_in l nm d i
    have hg : ∀ j, j < l.length → (l.map (mkN nm)).getD j default = mkN nm (l.getD j default) := fun j hj => by simp [List.getD, hj]
    unfold plcN placeN
    rw [← ih, hg i (by omega), mkN_cov, mkN_n]
    rcases Int.lt_or_le (plcN l nm d i) 0 with h0 | h0
    · simp [h0]
    · rw [hg _ (by omega), mkN_n]
theorem plc_iff (l : List Kn) (nm : List UInt8) (d d' : Int) : plcM l nm d = plcM l nm d' ↔ bestK d (fil nm l) = bestK d' (fil nm l) := by
  constructor
  · intro h; rw [← plc_best, ← plc_best, h]
  · intro h
    have e1 := plc_place l nm d l.length (Nat.le_refl _)
    have e2 := plc_place l nm d' l.length (Nat.le_refl _)
    have hl : (l.map (mkN nm)).length = l.length := by simp
    unfold plcM
    rw [e1, e2, ← hl]
    apply place_elt
    rw [← place_best, ← place_best]
    unfold placeM
    rw [hl, ← e1, ← e2]
    have i1 := plcN_in l nm d l.length
    have i2 := plcN_in l nm d' l.length
    rw [← plc_best, ← plc_best] at h
    unfold plcM at h
    have key : ∀ p : Int, p < l.length → eltK (l.map (mkN nm)) p = (eltK l p).map (mkN nm) := by
      intro p hp
      unfold eltK
      split
      · rfl
      · simp
    rw [key _ i1.2, key _ i2.2, h]
theorem chT_mem (f : Int → Int) : ∀ (n : Nat) (d x : Int), x ∈ chT f n d ↔ d ≤ x ∧ x < d + n ∧ f x ≠ f (x - 1)
  | 0, d, x => by simp [chT]; omega
  | n + 1, d, x => by
    unfold chT
    split
    · rename_i h
      rw [chT_mem f n (d + 1) x]
      constructor
      · rintro ⟨a, b, c⟩; exact ⟨by omega, by omega, c⟩
      · rintro ⟨a, b, c⟩
        have : x ≠ d := fun e => c (by rw [e]; exact h)
        exact ⟨by omega, by omega, c⟩
    · rename_i h
      rw [List.mem_cons, chT_mem f n (d + 1) x]
      constructor
      · rintro (rfl | ⟨a, b, c⟩)
        · exact ⟨by omega, by omega, h⟩
        · exact ⟨by omega, by omega, c⟩
      · rintro ⟨a, b, c⟩
        by_cases e : x = d
        · exact .inl e
        · exact .inr ⟨by omega, by omega, c⟩
theorem chT_st (f : Int → Int) : ∀ (n : Nat) (d : Int), StI (chT f n d)
  | 0, d => by simp [chT]
  | n + 1, d => by
    unfold chT
    split
    · exact chT_st f n (d + 1)
    · refine List.pairwise_cons.2 ⟨fun x hx => ?_, chT_st f n (d + 1)⟩
      have := (chT_mem f n (d + 1) x).1 hx; omega
def chgB (l : List Kn) (nm : List UInt8) (d : Int) : Bool := !decide (plcM l nm d = plcM l nm (d - 1))
def chgN (l : List Kn) (nm : List UInt8) (ds : List Int) (i : Nat) : List Int := (ds.take i).filter (chgB l nm)
theorem chgN_succ (l : List Kn) (nm : List UInt8) (ds : List Int) (i : Nat) (h : i < ds.length) : chgN l nm ds (i + 1) = if chgB l nm ds[i] = true then chgN l nm ds i ++ [ds[i]] else chgN l nm ds i := by
  unfold chgN
  rw [List.take_succ_eq_append_getElem h, List.filter_append, List.filter_cons, List.filter_nil]
  split <;> simp
theorem chgN_len (l : List Kn) (nm : List UInt8) (ds : List Int) (i : Nat) : (chgN l nm ds i).length ≤ i := by
  have := List.length_filter_le (chgB l nm) (ds.take i)
  rw [List.length_take] at this; unfold chgN; omega
theorem chg_iff (l : List Kn) (nm : List UInt8) (a b x : Int) : x ∈ chS a (fullM (fil nm l) a b) ↔ a < x ∧ x < b ∧ chgB l nm x = true := by
  rcases Int.lt_or_le a b with h | h
  · rw [chS_eq _ h, chU_eq, chT_mem]
    have e : (a + 1 : Int) + ((b - a - 1).toNat : Int) = b := by omega
    rw [e]
    unfold chgB
    rw [Bool.not_eq_true', decide_eq_false_iff_not, plc_iff, ← place_iff]
    constructor
    · rintro ⟨h1, h2, h3⟩; exact ⟨by omega, h2, h3⟩
    · rintro ⟨h1, h2, h3⟩; exact ⟨by omega, h2, h3⟩
  · rw [full_none _ h]
    constructor
    · intro hx; simp [chS] at hx
    · rintro ⟨h1, h2, -⟩; omega
theorem chg_all (l : List Kn) (nm : List UInt8) (a b : Int) : chgN l nm (daysN l a b (2 * l.length)) (daysN l a b (2 * l.length)).length = chS a (fullM (fil nm l) a b) := by
  refine stI_uniq ?_ ?_ fun x => ?_
  · unfold chgN; rw [List.take_length]
    exact ((daysN_spec l a b _).1).sublist List.filter_sublist
  · rcases Int.lt_or_le a b with h | h
    · rw [chS_eq _ h, chU_eq]; exact chT_st _ _ _
    · rw [full_none _ h]; simp [chS]
  · rw [chg_iff]
    unfold chgN
    rw [List.take_length, List.mem_filter, days_raw]
    constructor
    · rintro ⟨h1, h2⟩
      have := raw_in h1
      exact ⟨this.1, this.2, h2⟩
    · rintro ⟨h1, h2, h3⟩
      refine ⟨Classical.byContradiction fun hn => ?_, h3⟩
      have hn' : x ∉ rawC (fil nm l) a b := fun hx => hn (by
        unfold rawC at hx ⊢
        rw [List.mem_filter, List.mem_flatMap] at hx ⊢
        obtain ⟨⟨k, hk, hx⟩, hi⟩ := hx
        exact ⟨⟨k, (List.mem_filter.1 hk).1, hx⟩, hi⟩)
      have := placeM_step h1 h2 hn'
      rw [place_iff, ← plc_iff] at this
      unfold chgB at h3
      simp [this] at h3
theorem chg_same {l : List Kn} {nm : List UInt8} {a b d : Int} (h1 : a < d) (h2 : d < b) (h : d ∉ chS a (fullM (fil nm l) a b)) : bestK d (fil nm l) = bestK (d - 1) (fil nm l) := by
  rw [chg_iff] at h
  have : ¬ chgB l nm d = true := fun hc => h ⟨h1, h2, hc⟩
  unfold chgB at this
  rw [Bool.not_eq_true', decide_eq_false_iff_not, Classical.not_not, plc_iff] at this
  exact this
end Go.Proofs.Ytjcoenideicmbaa

