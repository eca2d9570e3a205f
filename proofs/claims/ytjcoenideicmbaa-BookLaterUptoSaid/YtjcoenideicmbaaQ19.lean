import Derived.Test.YtjcoenideicmbaaProg
import Derived.KernelRfl
import Derived.Test.YtjcoenideicmbaaP3
import Derived.Test.YtjcoenideicmbaaQ18
import Derived.Test.YtjcoenideicmbaaQ17
import Derived.Test.YtjcoenideicmbaaP4
namespace Go.Proofs.Ytjcoenideicmbaa
open PG Go.Proofs
-- wagebook/wagebooklaw11.BookRight
end Go.Proofs.Ytjcoenideicmbaa

namespace Go.Proofs.Ytjcoenideicmbaa
open Go PG Go.Proofs
set_option linter.unusedSimpArgs false
set_option linter.unusedVariables false
set_option maxHeartbeats 4000000
set_option maxRecDepth 100000
theorem sh_codes {l : List Kn} (h : shM l = true) : l.length ≤ 40 ∧ ∀ k ∈ l, k.code.length ≤ 300 ∧ k.text.length ≤ 300 := by
  unfold shM at h
  simp only [Bool.and_eq_true, decide_eq_true_eq] at h
  refine ⟨h.2, fun k hk => ?_⟩
  rw [List.take_of_length_le h.2] at h
  have := List.all_eq_true.1 h.1 k hk
  simp only [shrB, Bool.and_eq_true, decide_eq_true_eq] at this
  exact this
end Go.Proofs.Ytjcoenideicmbaa

namespace Go.Proofs.Ytjcoenideicmbaa
open Go PG Go.Proofs
set_option linter.unusedSimpArgs false
set_option linter.unusedVariables false
/-! The greatest number -/
theorem snoc_ind {α : Type} {P : List α → Prop} (h0 : P []) (h1 : ∀ L x, P L → P (L ++ [x])) (L : List α) : P L := by
  have key : ∀ R : List α, P R.reverse := by
    intro R
    induction R with
    | nil => exact h0
    | cons x R ih => rw [List.reverse_cons]; exact h1 _ _ ih
  have := key L.reverse
  rwa [List.reverse_reverse] at this
theorem best_spec (d : Int) : ∀ L : List Kn, (bestK d L = none → ∀ k ∈ L, covB k d = false) ∧ (∀ b, bestK d L = some b → b ∈ L ∧ covB b d = true ∧ ∀ k ∈ L, covB k d = true → k.n ≤ b.n) := by
  intro L
  refine snoc_ind (P := fun L => (bestK d L = none → ∀ k ∈ L, covB k d = false) ∧ (∀ b, bestK d L = some b → b ∈ L ∧ covB b d = true ∧ ∀ k ∈ L, covB k d = true → k.n ≤ b.n)) ?_ ?_ L
  · exact ⟨fun _ k h => (by cases h), fun b h => (by cases h)⟩
  · rintro L k ⟨i1, i2⟩
    rw [bestK_snoc]
    by_cases hc : covB k d = true
    · cases hb : bestK d L with
      | none =>
        simp only [hc, Bool.true_and, if_true]
        refine ⟨fun h => (by cases h), fun b h => ?_⟩
        cases h
        refine ⟨by simp, hc, fun k' hk' hk2 => ?_⟩
        rcases List.mem_append.1 hk' with h | h
        · rw [i1 hb k' h] at hk2; cases hk2
        · simp at h; subst h; exact Int.le_refl _
      | some a =>
        obtain ⟨a1, a2, a3⟩ := i2 a hb
        simp only [hc, Bool.true_and]
        by_cases hn : a.n < k.n
        · simp only [hn, decide_true, if_true]
          refine ⟨fun h => (by cases h), fun b h => ?_⟩
          cases h
          refine ⟨by simp, hc, fun k' hk' hk2 => ?_⟩
          rcases List.mem_append.1 hk' with h | h
          · have := a3 k' h hk2; omega
          · simp at h; subst h; exact Int.le_refl _
        · simp only [hn, decide_false, Bool.false_eq_true, if_false]
          refine ⟨fun h => (by cases h), fun b h => ?_⟩
          cases h
          refine ⟨by simp [a1], a2, fun k' hk' hk2 => ?_⟩
          rcases List.mem_append.1 hk' with h | h
          · exact a3 k' h hk2
          · simp at h; subst h; omega
    · have hc' : covB k d = false := by simpa using hc
      simp only [hc', Bool.false_and, Bool.false_eq_true, if_false]
      refine ⟨fun h k' hk' => ?_, fun b h => ?_⟩
      · rcases List.mem_append.1 hk' with h' | h'
        · exact i1 h k' h'
        · simp at h'; subst h'; exact hc'
      · obtain ⟨a1, a2, a3⟩ := i2 b h
        refine ⟨by simp [a1], a2, fun k' hk' hk2 => ?_⟩
        rcases List.mem_append.1 hk' with h' | h'
        · exact a3 k' h' hk2
        · simp at h'; subst h'; rw [hc'] at hk2; cases hk2
end Go.Proofs.Ytjcoenideicmbaa

namespace Go.Proofs.Ytjcoenideicmbaa
open Go PG Go.Proofs
set_option linter.unusedSimpArgs false
set_option linter.unusedVariables false
theorem best_app (d : Int) (L : List Kn) (k : Kn) (h : ∀ x ∈ L, x.n < k.n) : bestK d (L ++ [k]) = if covB k d = true then some k else bestK d L := by
  rw [bestK_snoc]
  by_cases hc : covB k d = true
  · cases hb : bestK d L with
    | none => simp [hc]
    | some a =>
      have := h a ((best_spec d L).2 a hb).1
      simp [hc, this]
  · simp [hc]
theorem best_cons_go (d : Int) (k : Kn) (hc : covB k d = true) : ∀ (L : List Kn), (∀ x ∈ L, x.n < k.n) → bestK d (k :: L) = some k := by
  intro L
  refine snoc_ind (P := fun L => (∀ x ∈ L, x.n < k.n) → bestK d (k :: L) = some k) ?_ ?_ L
  · intro _; simp [bestK, hc]
  · intro L x ih h
    rw [← List.cons_append, bestK_snoc, ih (fun y hy => h y (by simp [hy]))]
    have := h x (by simp)
    have hn : ¬ k.n < x.n := by omega
    simp [hn]
theorem best_cons_no (d : Int) (k : Kn) (hc : ¬ covB k d = true) (L : List Kn) : bestK d (k :: L) = bestK d L := by
  unfold bestK; rw [List.foldl_cons]; simp [hc]
theorem best_cons (d : Int) (L : List Kn) (k : Kn) (h : ∀ x ∈ L, x.n < k.n) : bestK d (k :: L) = if covB k d = true then some k else bestK d L := by
  by_cases hc : covB k d = true
  · rw [if_pos hc, best_cons_go d k hc L h]
  · rw [if_neg hc, best_cons_no d k hc L]
theorem later_app (l : List Kn) (k : Kn) (nm : List UInt8) (d : Int) (h : ∀ x ∈ l, x.n < k.n) : bestK d (fil nm (l ++ [k])) = if (isR nm k && covB k d) = true then some k else bestK d (fil nm l) := by
  rw [fil_snoc]
  have h' : ∀ x ∈ fil nm l, x.n < k.n := fun x hx => h x (List.mem_filter.1 hx).1
  by_cases hr : isR nm k = true
  · rw [if_pos hr, best_app d _ k h', hr, Bool.true_and]
  · have hr' : isR nm k = false := by simpa using hr
    rw [if_neg hr, List.append_nil, hr', Bool.false_and]; simp
theorem later_cons (l : List Kn) (k : Kn) (nm : List UInt8) (d : Int) (h : ∀ x ∈ l, x.n < k.n) : bestK d (fil nm (k :: l)) = if (isR nm k && covB k d) = true then some k else bestK d (fil nm l) := by
  have h' : ∀ x ∈ fil nm l, x.n < k.n := fun x hx => h x (List.mem_filter.1 hx).1
  unfold fil at h' ⊢
  rw [List.filter_cons]
  by_cases hr : isR nm k = true
  · rw [if_pos hr, best_cons d _ k h', hr, Bool.true_and]
  · have hr' : isR nm k = false := by simpa using hr
    rw [if_neg hr, hr', Bool.false_and]; simp
end Go.Proofs.Ytjcoenideicmbaa

namespace Go.Proofs.Ytjcoenideicmbaa
open PG Go.Proofs
def L14 : List Nat := [0, 1, 2, 3, 5, 8, 9, 10, 11, 12, 13, 14, 15, 16, 17, 19, 20, 22, 34, 38, 48, 84, 115]
def o14_2 : List CO := [⟨some 52, none, .rd .mov [.tmp 0]⟩,
  ⟨some 51, none, .eff (.lit (some 9) true) []⟩,
  ⟨some 53, none, .eff (.append (some 9) 80) [.tmp 51, .tmp 52]⟩,
  ⟨some 54, none, .rd (.load (some 9)) [.tmp 5]⟩,
  ⟨some 55, none, .eff (.lit (some 9) false) [.tmp 54]⟩,
  ⟨some 56, none, .eff (.append (some 9) 80) [.tmp 53, .tmp 55]⟩,
  ⟨some 57, none, .call (.pv (.fn 35 [] [])) [.tmp 56]⟩,
  ⟨some 11, none, .eff (.alloc (some 1) (.agg [.nilMap])) []⟩,
  ⟨none, none, .eff (.store (some 1)) [.tmp 11, .tmp 57]⟩]
def t14_2 : IS := (.alt [0] (.alt [1] (.alt [2] (.alt [3] (.alt [4] (.alt [5] (.alt [6, 7, 8] .done (.alt [7, 6, 8] .done .stop)) (.alt [7, 5, 6, 8] .done .stop)) (.alt [7, 4, 5, 6, 8] .done .stop)) (.alt [7, 3, 4, 5, 6, 8] .done .stop)) (.alt [3] (.alt [2] (.alt [4] (.alt [5] (.alt [6, 7, 8] .done (.alt [7, 6, 8] .done .stop)) (.alt [7, 5, 6, 8] .done .stop)) (.alt [7, 4, 5, 6, 8] .done .stop)) (.alt [4] (.alt [2] (.alt [5] (.alt [6, 7, 8] .done (.alt [7, 6, 8] .done .stop)) (.alt [7, 5, 6, 8] .done .stop)) (.alt [7, 2, 5, 6, 8] .done .stop)) (.alt [7] (.alt [2, 4, 5, 6, 8] .done (.alt [4, 2, 5, 6, 8] .done .stop)) .stop))) (.alt [7] (.alt [2, 3, 4, 5, 6, 8] .done (.alt [3] (.alt [2, 4, 5, 6, 8] .done (.alt [4, 2, 5, 6, 8] .done .stop)) .stop)) .stop))) (.alt [3] (.alt [1] (.alt [2] (.alt [4] (.alt [5] (.alt [6, 7, 8] .done (.alt [7, 6, 8] .done .stop)) (.alt [7, 5, 6, 8] .done .stop)) (.alt [7, 4, 5, 6, 8] .done .stop)) (.alt [4] (.alt [2] (.alt [5] (.alt [6, 7, 8] .done (.alt [7, 6, 8] .done .stop)) (.alt [7, 5, 6, 8] .done .stop)) (.alt [7, 2, 5, 6, 8] .done .stop)) (.alt [7] (.alt [2, 4, 5, 6, 8] .done (.alt [4, 2, 5, 6, 8] .done .stop)) .stop))) (.alt [4] (.alt [1] (.alt [2] (.alt [5] (.alt [6, 7, 8] .done (.alt [7, 6, 8] .done .stop)) (.alt [7, 5, 6, 8] .done .stop)) (.alt [7, 2, 5, 6, 8] .done .stop)) (.alt [7, 1, 2, 5, 6, 8] .done .stop)) (.alt [7] (.alt [1] (.alt [2, 4, 5, 6, 8] .done (.alt [4, 2, 5, 6, 8] .done .stop)) (.alt [4, 1, 2, 5, 6, 8] .done .stop)) .stop))) (.alt [7] (.alt [1] (.alt [2, 3, 4, 5, 6, 8] .done (.alt [3] (.alt [2, 4, 5, 6, 8] .done (.alt [4, 2, 5, 6, 8] .done .stop)) .stop)) (.alt [3] (.alt [1] (.alt [2, 4, 5, 6, 8] .done (.alt [4, 2, 5, 6, 8] .done .stop)) (.alt [4, 1, 2, 5, 6, 8] .done .stop)) .stop)) .stop))) .stop)
def c14d : CF := ⟨153,
  .seq (.region false [⟨some 5, none, .eff (.box (some 9)) [.tmp 1]⟩,
     ⟨some 8, none, .rd .mov [.pv (.bool false)]⟩] L14)
  (.seq (.seq (.region false [⟨some 21, none, .call (.pv (.fn 32 [] [])) []⟩,
      ⟨some 22, none, .rd (.un .not) [.tmp 21]⟩] L14)
   (.cond (.tmp 22)
    (.seq (.region false [⟨some 8, none, .rd .mov [.pv (.bool false)]⟩] L14)
     (.ret))
    (.skip)))
  (.seq (.seq (.region false [⟨some 23, none, .rd (.load (some 9)) [.tmp 5]⟩,
      ⟨some 24, none, .eff (.lit (some 9) true) [.tmp 23]⟩,
      ⟨some 25, none, .rd .mov [.tmp 0]⟩,
      ⟨some 26, none, .eff (.append (some 9) 80) [.tmp 24, .tmp 25]⟩,
      ⟨some 27, none, .call (.pv (.fn 34 [] [])) [.tmp 26]⟩,
      ⟨some 28, none, .call (.pv (.fn 33 [] [])) [.tmp 27]⟩,
      ⟨some 29, none, .rd (.un .not) [.tmp 28]⟩,
      ⟨some 30, none, .rd .mov [.tmp 29]⟩,
      ⟨some 31, some (30, false), .rd .mov [.tmp 2]⟩,
      ⟨some 32, some (30, false), .rd .lenS [.tmp 31]⟩,
      ⟨some 33, some (30, false), .rd (.bin .gtr) [.tmp 32, .pv (.int .i64 300)]⟩,
      ⟨some 34, none, .rd .pick [.tmp 30, .pv (.bool true), .tmp 33]⟩] L14)
   (.cond (.tmp 34)
    (.seq (.region false [⟨some 8, none, .rd .mov [.pv (.bool true)]⟩] L14)
     (.ret))
    (.skip)))
  (.seq (.seq (.region false [⟨some 9, none, .rd .mov [.pv (.int .i64 0)]⟩] L14)
   (.block 0
    (.loop
      (.seq (.seq (.region false [⟨some 35, none, .rd .mov [.tmp 9]⟩,
           ⟨some 36, none, .rd .mov [.tmp 0]⟩,
           ⟨some 37, none, .rd .lenL [.tmp 36]⟩,
           ⟨some 38, none, .rd (.bin .lss) [.tmp 35, .tmp 37]⟩] L14)
        (.cond (.tmp 38)
         (.skip)
         (.exit 0)))
       (.seq (.block 1
         (.seq (.regionA (.alt [⟨some 41, none, .rd .mov [.tmp 0]⟩,
              ⟨some 42, none, .rd .mov [.tmp 9]⟩,
              ⟨some 43, none, .rd (.idxAddr (some 9)) [.tmp 41, .tmp 42]⟩,
              ⟨some 44, none, .rd (.fldAddr 0) [.tmp 43]⟩,
              ⟨some 45, none, .rd .loadC [.tmp 44]⟩,
              ⟨some 46, none, .rd (.fldAddr 0) [.tmp 5]⟩,
              ⟨some 47, none, .rd .loadC [.tmp 46]⟩,
              ⟨some 48, none, .rd (.bin .geq) [.tmp 45, .tmp 47]⟩]
             .done
             .stop) L14)
          (.cond (.tmp 48)
           (.seq (.region false [⟨some 8, none, .rd .mov [.pv (.bool true)]⟩] L14)
            (.ret))
           (.skip))))
       (.region false [⟨some 39, none, .rd .mov [.tmp 9]⟩,
         ⟨some 40, none, .rd (.bin .add) [.tmp 39, .pv (.int .i64 1)]⟩,
         ⟨some 9, none, .rd .mov [.tmp 40]⟩] L14))))))
  (.seq (.region false [⟨some 49, none, .rd .mov [.tmp 0]⟩,
     ⟨some 50, none, .call (.pv (.fn 35 [] [])) [.tmp 49]⟩,
     ⟨some 10, none, .eff (.alloc (some 1) (.agg [.nilMap])) []⟩,
     ⟨none, none, .eff (.store (some 1)) [.tmp 10, .tmp 50]⟩] L14)
  (.seq (.regionA (IS.toS o14_2 t14_2) L14)
  (.seq (.region false [⟨some 58, none, .rd (.load (some 9)) [.tmp 5]⟩,
     ⟨some 59, none, .eff (.lit (some 9) true) [.tmp 58]⟩,
     ⟨some 60, none, .rd .mov [.tmp 0]⟩,
     ⟨some 61, none, .eff (.append (some 9) 80) [.tmp 59, .tmp 60]⟩,
     ⟨some 62, none, .call (.pv (.fn 35 [] [])) [.tmp 61]⟩,
     ⟨some 12, none, .eff (.alloc (some 1) (.agg [.nilMap])) []⟩,
     ⟨none, none, .eff (.store (some 1)) [.tmp 12, .tmp 62]⟩] L14)
  (.seq (.region false [⟨some 64, none, .rd (.load (some 1)) [.tmp 11]⟩,
     ⟨some 65, none, .rd .mov [.tmp 2]⟩,
     ⟨some 66, none, .rd .mov [.tmp 3]⟩,
     ⟨some 67, none, .call (.pv (.fn 37 [] [])) [.tmp 64, .tmp 65, .tmp 66]⟩,
     ⟨some 63, none, .rd .mov [.tmp 67]⟩,
     ⟨some 68, none, .rd (.ext 0) [.tmp 63]⟩,
     ⟨some 69, none, .rd (.ext 1) [.tmp 63]⟩,
     ⟨some 13, none, .rd .mov [.tmp 68]⟩,
     ⟨some 14, none, .rd .mov [.tmp 69]⟩] L14)
  (.seq (.region false [⟨some 71, none, .rd (.load (some 1)) [.tmp 12]⟩,
     ⟨some 72, none, .rd .mov [.tmp 2]⟩,
     ⟨some 73, none, .rd .mov [.tmp 3]⟩,
     ⟨some 74, none, .call (.pv (.fn 37 [] [])) [.tmp 71, .tmp 72, .tmp 73]⟩,
     ⟨some 70, none, .rd .mov [.tmp 74]⟩,
     ⟨some 75, none, .rd (.ext 0) [.tmp 70]⟩,
     ⟨some 76, none, .rd (.ext 1) [.tmp 70]⟩,
     ⟨some 15, none, .rd .mov [.tmp 75]⟩,
     ⟨some 16, none, .rd .mov [.tmp 76]⟩] L14)
  (.seq (.seq (.region false [⟨some 77, none, .rd .mov [.tmp 13]⟩,
      ⟨some 78, none, .rd .mov [.tmp 15]⟩,
      ⟨some 79, none, .rd (.bin .neq) [.tmp 77, .tmp 78]⟩,
      ⟨some 80, none, .rd .mov [.tmp 79]⟩,
      ⟨some 81, some (80, false), .rd .mov [.tmp 14]⟩,
      ⟨some 82, some (80, false), .rd .mov [.tmp 16]⟩,
      ⟨some 83, some (80, false), .rd (.eqB true) [.tmp 81, .tmp 82]⟩,
      ⟨some 84, none, .rd .pick [.tmp 80, .pv (.bool true), .tmp 83]⟩] L14)
   (.cond (.tmp 84)
    (.seq (.region false [⟨some 8, none, .rd .mov [.pv (.bool false)]⟩] L14)
     (.ret))
    (.skip)))
  (.seq (.seq (.region false [⟨some 85, none, .rd (.fldAddr 1) [.tmp 5]⟩,
      ⟨some 86, none, .rd (.fldAddr 2) [.tmp 85]⟩,
      ⟨some 87, none, .rd (.load none) [.tmp 86]⟩,
      ⟨some 88, none, .rd (.bin .eql) [.tmp 87, .pv (.int .i64 14)]⟩,
      ⟨some 89, none, .rd .mov [.tmp 88]⟩,
      ⟨some 90, some (89, true), .rd (.fldAddr 1) [.tmp 5]⟩,
      ⟨some 91, some (89, true), .rd (.fldAddr 5) [.tmp 90]⟩,
      ⟨some 92, some (89, true), .rd (.load none) [.tmp 91]⟩,
      ⟨some 93, some (89, true), .rd .mov [.tmp 2]⟩,
      ⟨some 94, some (89, true), .rd (.bin .eql) [.tmp 92, .tmp 93]⟩,
      ⟨some 95, none, .rd .pick [.tmp 89, .tmp 94, .pv (.bool false)]⟩,
      ⟨some 96, none, .rd .mov [.tmp 95]⟩,
      ⟨some 97, some (96, true), .rd (.fldAddr 1) [.tmp 5]⟩,
      ⟨some 98, some (96, true), .rd (.fldAddr 3) [.tmp 97]⟩,
      ⟨some 99, some (96, true), .rd (.load none) [.tmp 98]⟩,
      ⟨some 100, some (96, true), .rd .mov [.tmp 3]⟩,
      ⟨some 101, some (96, true), .rd (.bin .leq) [.tmp 99, .tmp 100]⟩,
      ⟨some 102, none, .rd .pick [.tmp 96, .tmp 101, .pv (.bool false)]⟩,
      ⟨some 103, none, .rd .mov [.tmp 102]⟩,
      ⟨some 104, some (103, true), .rd (.fldAddr 1) [.tmp 5]⟩,
      ⟨some 105, some (103, true), .rd (.fldAddr 4) [.tmp 104]⟩,
      ⟨some 106, some (103, true), .rd (.load none) [.tmp 105]⟩,
      ⟨some 107, some (103, true), .rd (.bin .eql) [.tmp 106, .pv (.int .i64 0)]⟩,
      ⟨some 108, some (103, true), .rd .mov [.tmp 107]⟩,
      ⟨some 109, some (108, false), .rd (.fldAddr 1) [.tmp 5]⟩,
      ⟨some 110, some (108, false), .rd (.fldAddr 4) [.tmp 109]⟩,
      ⟨some 111, some (108, false), .rd (.load none) [.tmp 110]⟩,
      ⟨some 112, some (108, false), .rd .mov [.tmp 3]⟩,
      ⟨some 113, some (108, false), .rd (.bin .gtr) [.tmp 111, .tmp 112]⟩,
      ⟨some 114, some (103, true), .rd .pick [.tmp 108, .pv (.bool true), .tmp 113]⟩,
      ⟨some 115, none, .rd .pick [.tmp 103, .tmp 114, .pv (.bool false)]⟩] L14)
   (.cond (.tmp 115)
    (.seq (.region false [⟨some 117, none, .rd (.load (some 1)) [.tmp 11]⟩,
        ⟨some 118, none, .rd .mov [.tmp 2]⟩,
        ⟨some 119, none, .rd .mov [.tmp 3]⟩,
        ⟨some 120, none, .call (.pv (.fn 40 [] [])) [.tmp 117, .tmp 118, .tmp 119]⟩,
        ⟨some 116, none, .rd .mov [.tmp 120]⟩,
        ⟨some 121, none, .rd (.ext 0) [.tmp 116]⟩,
        ⟨some 122, none, .rd (.ext 1) [.tmp 116]⟩,
        ⟨some 17, none, .rd .mov [.tmp 121]⟩,
        ⟨some 18, none, .rd .mov [.tmp 122]⟩] L14)
     (.seq (.region false [⟨some 123, none, .rd .mov [.tmp 14]⟩,
        ⟨some 124, none, .rd .mov [.tmp 123]⟩,
        ⟨some 125, some (124, true), .rd .mov [.tmp 13]⟩,
        ⟨some 126, some (124, true), .rd (.fldAddr 1) [.tmp 5]⟩,
        ⟨some 127, some (124, true), .rd (.fldAddr 6) [.tmp 126]⟩,
        ⟨some 128, some (124, true), .rd (.load none) [.tmp 127]⟩,
        ⟨some 129, some (124, true), .rd (.bin .eql) [.tmp 125, .tmp 128]⟩,
        ⟨some 130, none, .rd .pick [.tmp 124, .tmp 129, .pv (.bool false)]⟩,
        ⟨some 131, none, .rd .mov [.tmp 130]⟩,
        ⟨some 132, some (131, true), .rd .mov [.tmp 17]⟩,
        ⟨some 133, some (131, true), .rd (.fldAddr 1) [.tmp 5]⟩,
        ⟨some 134, some (131, true), .rd (.fldAddr 7) [.tmp 133]⟩,
        ⟨some 135, some (131, true), .rd (.load none) [.tmp 134]⟩,
        ⟨some 136, some (131, true), .rd (.bin .eql) [.tmp 132, .tmp 135]⟩,
        ⟨some 137, none, .rd .pick [.tmp 131, .tmp 136, .pv (.bool false)]⟩,
        ⟨some 8, none, .rd .mov [.tmp 137]⟩] L14)
     (.ret)))
    (.skip)))
  (.seq (.region false [⟨some 139, none, .rd (.load (some 1)) [.tmp 10]⟩,
     ⟨some 140, none, .rd .mov [.tmp 2]⟩,
     ⟨some 141, none, .rd .mov [.tmp 3]⟩,
     ⟨some 142, none, .call (.pv (.fn 37 [] [])) [.tmp 139, .tmp 140, .tmp 141]⟩,
     ⟨some 138, none, .rd .mov [.tmp 142]⟩,
     ⟨some 143, none, .rd (.ext 0) [.tmp 138]⟩,
     ⟨some 144, none, .rd (.ext 1) [.tmp 138]⟩,
     ⟨some 19, none, .rd .mov [.tmp 143]⟩,
     ⟨some 20, none, .rd .mov [.tmp 144]⟩] L14)
  (.seq (.region false [⟨some 145, none, .rd .mov [.tmp 13]⟩,
     ⟨some 146, none, .rd .mov [.tmp 19]⟩,
     ⟨some 147, none, .rd (.bin .eql) [.tmp 145, .tmp 146]⟩,
     ⟨some 148, none, .rd .mov [.tmp 147]⟩,
     ⟨some 149, some (148, true), .rd .mov [.tmp 14]⟩,
     ⟨some 150, some (148, true), .rd .mov [.tmp 20]⟩,
     ⟨some 151, some (148, true), .rd (.eqB false) [.tmp 149, .tmp 150]⟩,
     ⟨some 152, none, .rd .pick [.tmp 148, .tmp 151, .pv (.bool false)]⟩,
     ⟨some 8, none, .rd .mov [.tmp 152]⟩] L14)
  (.ret))))))))))))),
  [.tmp 8]⟩
theorem k14d : compileF Try.prog [999999, 888888, 24, 59] L14 Try.f14 = some c14d := by kernel_rfl
end Go.Proofs.Ytjcoenideicmbaa

