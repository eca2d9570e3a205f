import Derived.Test.YtjcoenideicmbaaQ11
import Derived.Test.YtjcoenideicmbaaQ9
namespace Go.Proofs.Ytjcoenideicmbaa
open Go PG Go.Proofs
set_option linter.unusedSimpArgs false
set_option linter.unusedVariables false
set_option maxHeartbeats 4000000
set_option maxRecDepth 100000
theorem valM_kn (l : List En) (p : Int) (h0 : 0 ≤ p) (h : p.toNat < l.length) : valM (l.map knOf) p = vlOf l[p.toNat] := by
  unfold valM
  rw [if_neg (by omega)]
  have : (l.map knOf).getD p.toNat default = knOf l[p.toNat] := by simp [List.getD, h]
  rw [this]; rfl
end Go.Proofs.Ytjcoenideicmbaa

namespace Go.Proofs.Ytjcoenideicmbaa
open PG Go.Proofs
/-- Days of change, from a on, so many. -/
def chU (f : Int → Int) (a : Int) : Nat → List Int
  | 0 => []
  | i + 1 => if f (a + 1 + i) = f (a + i) then chU f a i else chU f a i ++ [a + 1 + i]
theorem chU_len (f : Int → Int) (a : Int) : ∀ i, (chU f a i).length ≤ i
  | 0 => by simp [chU]
  | i + 1 => by
    have := chU_len f a i
    unfold chU; split
    · omega
    · simp; omega
def chT (f : Int → Int) : Nat → Int → List Int
  | 0, _ => []
  | n + 1, d => if f d = f (d - 1) then chT f n (d + 1) else d :: chT f n (d + 1)
theorem chT_snoc (f : Int → Int) : ∀ (n : Nat) (d : Int), chT f (n + 1) d = if f (d + n) = f (d + n - 1) then chT f n d else chT f n d ++ [d + n]
  | 0, d => by simp [chT]
  | n + 1, d => by
    rw [chT, chT_snoc f n (d + 1)]
    have h1 : d + 1 + (n : Int) = d + ((n + 1 : Nat) : Int) := by omega
    rw [h1]
    conv => rhs; rw [show chT f (n + 1) d = if f d = f (d - 1) then chT f n (d + 1) else d :: chT f n (d + 1) from rfl]
    split <;> split <;> simp
theorem chU_eq (f : Int → Int) (a : Int) : ∀ n : Nat, chU f a n = chT f n (a + 1)
  | 0 => rfl
  | n + 1 => by
    rw [chT_snoc, chU, chU_eq f a n]
    rw [show a + 1 + (n : Int) - 1 = a + n by omega]
theorem chS_day (f : Int → Int) (b a0 : Int) : ∀ (n : Nat) (a d : Int), a0 < d → f (d - 1) = f a → chS a0 (dayM f b n a d) = (if a0 < a then [a] else []) ++ chT f n d
  | 0, a, d, h1, h2 => by
    unfold dayM chT chS
    by_cases h : a0 < a <;> simp [h]
  | n + 1, a, d, h1, h2 => by
    unfold dayM chT
    rw [h2]
    split
    · rename_i he
      rw [chS_day f b a0 n a (d + 1) (by omega) (by rw [show d + 1 - 1 = d by omega]; exact he)]
    · have hx := chS_day f b a0 n d (d + 1) (by omega) (by rw [show d + 1 - 1 = d by omega])
      rw [if_pos h1] at hx
      have hc : chS a0 ((a, d, f a) :: dayM f b n d (d + 1)) = (if a0 < a then [a] else []) ++ chS a0 (dayM f b n d (d + 1)) := by
        unfold chS
        by_cases h : a0 < a <;> simp [h]
      rw [hc, hx]; simp
theorem full_day (l : List Kn) {a b : Int} (h : a < b) : fullM l a b = dayM (placeM l) b (b - a - 1).toNat a (a + 1) :=
  (full_runs l h).uniq (dayM_runs _ a (a + 1) (by omega) (by omega) fun x h1 h2 => by rw [show x = a by omega])
theorem chS_eq (l : List Kn) {a b : Int} (h : a < b) : chS a (fullM l a b) = chU (placeM l) a (b - a - 1).toNat := by
  rw [full_day l h, chS_day _ _ _ _ _ _ (by omega) (by rw [show a + 1 - 1 = a by omega]), chU_eq]
  simp
theorem full_none (l : List Kn) {a b : Int} (h : b ≤ a) : fullM l a b = [] := by unfold fullM; rw [if_pos h]
/-- The last stretch may be longer. -/
theorem runs_last {f : Int → Int} {b a : Int} {R : List (Int × Int × Int)} (h : IsRuns f b a R) : ∃ R0 c, R = R0 ++ [(c, b, f c)] ∧ a ≤ c ∧ c < b ∧ (∀ d, c ≤ d → d < b → f d = f c) ∧
    ∀ b', c < b' → (∀ d, c ≤ d → d < b' → f d = f c) → IsRuns f b' a (R0 ++ [(c, b', f c)]) := by
  induction h with
  | one a h hf => exact ⟨[], a, rfl, by omega, h, hf, fun b' h1 h2 => .one a h1 h2⟩
  | cons a c l h hf hn ht ih =>
    obtain ⟨R0, c', rfl, h0, h1, h2, h3⟩ := ih
    exact ⟨(a, c, f a) :: R0, c', rfl, by omega, h1, h2, fun b' e1 e2 => .cons a c _ h hf hn (h3 b' e1 e2)⟩
theorem pcs_app (l m : List St3) : pcs (l ++ m) = pcs l ++ pcs m := by simp [pcs]
theorem pcs_one (a b k : Int) : pcs [(a, b, k)] = if 0 ≤ k then [(a, b, k)] else [] := by
  unfold pcs; by_cases h : 0 ≤ k <;> simp [h]
/-- The pieces so far, day by day. -/
def lastF (f : Int → Int) (a : Int) : Nat → Int
  | 0 => -1
  | i + 1 => f (a + i)
def endL (l : List St3) (d : Int) : List St3 := l.set (l.length - 1) ((l.getD (l.length - 1) (0, 0, 0)).1, d, (l.getD (l.length - 1) (0, 0, 0)).2.2)
def ovU (f : Int → Int) (a : Int) : Nat → List St3
  | 0 => []
  | i + 1 => if 0 ≤ f (a + i) then (if f (a + i) = lastF f a i then endL (ovU f a i) (a + i + 1) else ovU f a i ++ [(a + i, a + i + 1, f (a + i))]) else ovU f a i
theorem endL_app (l : List St3) (x : St3) (d : Int) : endL (l ++ [x]) d = l ++ [(x.1, d, x.2.2)] := by
  unfold endL
  rw [show (l ++ [x]).length - 1 = l.length by simp]
  simp [List.getD]
theorem ovU_len (f : Int → Int) (a : Int) : ∀ i, (ovU f a i).length ≤ i
  | 0 => by simp [ovU]
  | i + 1 => by
    have := ovU_len f a i
    unfold ovU; split
    · split
      · simp [endL]; omega
      · simp; omega
    · omega
theorem ovU_runs (f : Int → Int) (a : Int) : ∀ i : Nat, ∃ R, IsRuns f (a + i + 1) a R ∧ pcs R = ovU f a (i + 1)
  | 0 => by
    refine ⟨[(a, a + (0 : Nat) + 1, f a)], .one a (by omega) (fun d h1 h2 => by rw [show d = a by omega]), ?_⟩
    rw [pcs_one]
    unfold ovU
    simp only [Int.ofNat_zero, Int.add_zero, ovU, lastF]
    split
    · rw [if_neg (by omega)]; rfl
    · rfl
  | i + 1 => by
    obtain ⟨R, h1, h2⟩ := ovU_runs f a i
    obtain ⟨R0, c, rfl, h0, h3, h4, h5⟩ := runs_last h1
    have hd : a + ((i + 1 : Nat) : Int) = a + i + 1 := by omega
    have hfc : f (a + i) = f c := h4 _ (by omega) (by omega)
    rw [pcs_app, pcs_one] at h2
    rw [show a + ((i + 1 : Nat) : Int) + 1 = a + i + 1 + 1 by omega]
    by_cases he : f (a + i + 1) = f (a + i)
    · refine ⟨_, h5 (a + i + 1 + 1) (by omega) (fun d e1 e2 => ?_), ?_⟩
      · rcases Int.lt_or_le d (a + i + 1) with e | e
        · exact h4 d e1 e
        · rw [show d = a + i + 1 by omega, he, hfc]
      · conv => rhs; unfold ovU
        rw [hd, lastF, he, pcs_app, pcs_one, ← h2, hfc]
        by_cases hz : 0 ≤ f c
        · simp only [if_pos hz, if_true]
          rw [endL_app]
        · simp only [if_neg hz]
    · refine ⟨_, IsRuns.append (h5 (a + i + 1) (by omega) h4) (.one (a + i + 1) (by omega : a + i + 1 < a + i + 1 + 1) fun d e1 e2 => by rw [show d = a + i + 1 by omega]) (by rw [show a + i + 1 - 1 = a + i by omega]; exact he) , ?_⟩
      conv => rhs; unfold ovU
      rw [hd, lastF, if_neg he, pcs_app, pcs_app, pcs_one, pcs_one, h2]
      split <;> simp
theorem ovU_eq (l : List Kn) {a b : Int} (h : a ≤ b) : ovU (placeM l) a (b - a).toNat = pcs (fullM l a b) := by
  rcases Int.lt_or_eq_of_le h with h | h
  · obtain ⟨R, h1, h2⟩ := ovU_runs (placeM l) a (b - a - 1).toNat
    rw [show a + ((b - a - 1).toNat : Int) + 1 = b by omega] at h1
    rw [show (b - a).toNat = (b - a - 1).toNat + 1 by omega, ← h2, h1.uniq (full_runs l h)]
  · subst h; rw [full_none l (by omega)]; simp [ovU, pcs]
theorem ovU_last (f : Int → Int) (a : Int) (i : Nat) (h : 0 ≤ lastF f a i) : ∃ A0 c, ovU f a i = A0 ++ [c] := by
  match i with
  | 0 => simp [lastF] at h
  | i + 1 =>
    obtain ⟨R, h1, h2⟩ := ovU_runs f a i
    obtain ⟨R0, c, rfl, h0, h3, h4, h5⟩ := runs_last h1
    have hfc : f (a + i) = f c := h4 _ (by omega) (by omega)
    rw [lastF, hfc] at h
    rw [← h2, pcs_app, pcs_one, if_pos h]
    exact ⟨_, _, rfl⟩
end Go.Proofs.Ytjcoenideicmbaa

