import Derived.Test.YtjcoenideicmbaaProg
import Derived.KernelRfl
import Derived.Test.YtjcoenideicmbaaP3
import Derived.Test.YtjcoenideicmbaaQ18
import Derived.Test.YtjcoenideicmbaaQ17
namespace Go.Proofs.Ytjcoenideicmbaa
open PG Go.Proofs
-- wagebook/wagebooklaw11.BookRight
end Go.Proofs.Ytjcoenideicmbaa

namespace Go.Proofs.Ytjcoenideicmbaa
open Go PG Go.Proofs
set_option linter.unusedSimpArgs false
set_option linter.unusedVariables false
set_option maxHeartbeats 4000000
set_option maxRecDepth 100000
theorem sh_codes {l : List Kn} (h : shM l = true) : l.length ≤ 40 ∧ ∀ k ∈ l, k.code.length ≤ 300 ∧ k.text.length ≤ 300 := by
  unfold shM at h
  simp only [Bool.and_eq_true, decide_eq_true_eq] at h
  refine ⟨h.2, fun k hk => ?_⟩
  rw [List.take_of_length_le h.2] at h
  have := List.all_eq_true.1 h.1 k hk
  simp only [shrB, Bool.and_eq_true, decide_eq_true_eq] at this
  exact this
end Go.Proofs.Ytjcoenideicmbaa

namespace Go.Proofs.Ytjcoenideicmbaa
open Go PG Go.Proofs
set_option linter.unusedSimpArgs false
set_option linter.unusedVariables false
/-! What two books tell alike -/
theorem nms_same {l l' : List Kn} {d : Int} (h : ∀ nm, bestK d (fil nm l) = bestK d (fil nm l')) : nmsM l d = nmsM l' d := by
  refine str_uniq (nms_spec l d).1 (nms_spec l' d).1 fun x => ?_
  rw [(nms_spec l d).2 x, (nms_spec l' d).2 x]
  unfold inF; rw [h]
/-- Without what is no rule. -/
def ruleF (l : List Kn) : List Kn := l.filter fun k => decide (k.kind = 14)
theorem rule_fil (l : List Kn) (nm : List UInt8) : fil nm (ruleF l) = fil nm l := by
  unfold fil ruleF
  rw [List.filter_filter]
  refine List.filter_congr fun k _ => ?_
  unfold isR
  cases decide (k.kind = 14) <;> cases decide (k.code = nm) <;> rfl
/-! The greatest number -/
theorem snoc_ind {α : Type} {P : List α → Prop} (h0 : P []) (h1 : ∀ L x, P L → P (L ++ [x])) (L : List α) : P L := by
  have key : ∀ R : List α, P R.reverse := by
    intro R
    induction R with
    | nil => exact h0
    | cons x R ih => rw [List.reverse_cons]; exact h1 _ _ ih
  have := key L.reverse
  rwa [List.reverse_reverse] at this
theorem best_spec (d : Int) : ∀ L : List Kn, (bestK d L = none → ∀ k ∈ L, covB k d = false) ∧ (∀ b, bestK d L = some b → b ∈ L ∧ covB b d = true ∧ ∀ k ∈ L, covB k d = true → k.n ≤ b.n) := by
  intro L
  refine snoc_ind (P := fun L => (bestK d L = none → ∀ k ∈ L, covB k d = false) ∧ (∀ b, bestK d L = some b → b ∈ L ∧ covB b d = true ∧ ∀ k ∈ L, covB k d = true → k.n ≤ b.n)) ?_ ?_ L
  · exact ⟨fun _ k h => (by cases h), fun b h => (by cases h)⟩
  · rintro L k ⟨i1, i2⟩
    rw [bestK_snoc]
    by_cases hc : covB k d = true
    · cases hb : bestK d L with
      | none =>
        simp only [hc, Bool.true_and, if_true]
        refine ⟨fun h => (by cases h), fun b h => ?_⟩
        cases h
        refine ⟨by simp, hc, fun k' hk' hk2 => ?_⟩
        rcases List.mem_append.1 hk' with h | h
        · rw [i1 hb k' h] at hk2; cases hk2
        · simp at h; subst h; exact Int.le_refl _
      | some a =>
        obtain ⟨a1, a2, a3⟩ := i2 a hb
        simp only [hc, Bool.true_and]
        by_cases hn : a.n < k.n
        · simp only [hn, decide_true, if_true]
          refine ⟨fun h => (by cases h), fun b h => ?_⟩
          cases h
          refine ⟨by simp, hc, fun k' hk' hk2 => ?_⟩
          rcases List.mem_append.1 hk' with h | h
          · have := a3 k' h hk2; omega
          · simp at h; subst h; exact Int.le_refl _
        · simp only [hn, decide_false, Bool.false_eq_true, if_false]
          refine ⟨fun h => (by cases h), fun b h => ?_⟩
          cases h
          refine ⟨by simp [a1], a2, fun k' hk' hk2 => ?_⟩
          rcases List.mem_append.1 hk' with h | h
          · exact a3 k' h hk2
          · simp at h; subst h; omega
    · have hc' : covB k d = false := by simpa using hc
      simp only [hc', Bool.false_and, Bool.false_eq_true, if_false]
      refine ⟨fun h k' hk' => ?_, fun b h => ?_⟩
      · rcases List.mem_append.1 hk' with h' | h'
        · exact i1 h k' h'
        · simp at h'; subst h'; exact hc'
      · obtain ⟨a1, a2, a3⟩ := i2 b h
        refine ⟨by simp [a1], a2, fun k' hk' hk2 => ?_⟩
        rcases List.mem_append.1 hk' with h' | h'
        · exact a3 k' h' hk2
        · simp at h'; subst h'; rw [hc'] at hk2; cases hk2
/-- In whatever order, where no two have one number. -/
theorem best_perm {d : Int} {L L' : List Kn} (hp : L.Perm L') (hu : (L.map (·.n)).Nodup) : bestK d L = bestK d L' := by
  obtain ⟨a1, a2⟩ := best_spec d L
  obtain ⟨b1, b2⟩ := best_spec d L'
  cases h1 : bestK d L with
  | none =>
    cases h2 : bestK d L' with
    | none => rfl
    | some b =>
      obtain ⟨m, c, -⟩ := b2 b h2
      rw [a1 h1 b (hp.mem_iff.2 m)] at c; cases c
  | some a =>
    obtain ⟨m, c, g⟩ := a2 a h1
    cases h2 : bestK d L' with
    | none => rw [b1 h2 a (hp.mem_iff.1 m)] at c; cases c
    | some b =>
      obtain ⟨m', c', g'⟩ := b2 b h2
      have : a.n = b.n := Int.le_antisymm (g' a (hp.mem_iff.1 m) c) (g b (hp.mem_iff.2 m') c')
      rw [nd_inj hu m (hp.mem_iff.2 m') this]
/-- Whether some rule is in force hangs on no order. -/
theorem best_some_perm {d : Int} {L L' : List Kn} (hp : L.Perm L') : (bestK d L).isSome = (bestK d L').isSome := by
  obtain ⟨a1, a2⟩ := best_spec d L
  obtain ⟨b1, b2⟩ := best_spec d L'
  cases h1 : bestK d L with
  | none =>
    cases h2 : bestK d L' with
    | none => rfl
    | some b =>
      obtain ⟨m, c, -⟩ := b2 b h2
      rw [a1 h1 b (hp.mem_iff.2 m)] at c; cases c
  | some a =>
    obtain ⟨m, c, g⟩ := a2 a h1
    cases h2 : bestK d L' with
    | none => rw [b1 h2 a (hp.mem_iff.1 m)] at c; cases c
    | some b => rfl
end Go.Proofs.Ytjcoenideicmbaa

namespace Go.Proofs.Ytjcoenideicmbaa
open PG Go.Proofs
-- wagebook/wagebooklaw11.BookPast
end Go.Proofs.Ytjcoenideicmbaa

namespace Go.Proofs.Ytjcoenideicmbaa
open Go PG Go.Proofs
set_option linter.unusedSimpArgs false
set_option linter.unusedVariables false
set_option maxHeartbeats 4000000
set_option maxRecDepth 100000
end Go.Proofs.Ytjcoenideicmbaa

namespace Go.Proofs.Ytjcoenideicmbaa
open Go PG Go.Proofs
set_option linter.unusedSimpArgs false
set_option linter.unusedVariables false
/-! BookOrder, BookLater -/
theorem nms_perm {l l' : List Kn} {d : Int} (h : l.Perm l') : nmsM l d = nmsM l' d := by
  refine str_uniq (nms_spec l d).1 (nms_spec l' d).1 fun x => ?_
  rw [(nms_spec l d).2 x, (nms_spec l' d).2 x]
  unfold inF
  have : (fil x l).Perm (fil x l') := h.filter _
  rw [best_some_perm this]
end Go.Proofs.Ytjcoenideicmbaa

namespace Go.Proofs.Ytjcoenideicmbaa
open PG Go.Proofs
-- wagebook/wagebooklaw11.BookOrder
def L11 : List Nat := [0, 1, 2, 6, 7, 8, 9, 10, 11, 12, 13, 14, 15, 16, 17, 18, 19, 20, 22, 31, 35, 40, 74, 136]
def c11 : CF := ⟨149,
  .seq (.region false [⟨some 6, none, .rd .mov [.pv (.bool false)]⟩] L11)
  (.seq (.seq (.region false [⟨some 21, none, .call (.pv (.fn 32 [] [])) []⟩,
      ⟨some 22, none, .rd (.un .not) [.tmp 21]⟩] L11)
   (.cond (.tmp 22)
    (.seq (.region false [⟨some 6, none, .rd .mov [.pv (.bool false)]⟩] L11)
     (.ret))
    (.skip)))
  (.seq (.seq (.region false [⟨some 23, none, .rd .mov [.tmp 0]⟩,
      ⟨some 24, none, .call (.pv (.fn 34 [] [])) [.tmp 23]⟩,
      ⟨some 25, none, .call (.pv (.fn 33 [] [])) [.tmp 24]⟩,
      ⟨some 26, none, .rd (.un .not) [.tmp 25]⟩,
      ⟨some 27, none, .rd .mov [.tmp 26]⟩,
      ⟨some 28, some (27, false), .rd .mov [.tmp 1]⟩,
      ⟨some 29, some (27, false), .rd .lenS [.tmp 28]⟩,
      ⟨some 30, some (27, false), .rd (.bin .gtr) [.tmp 29, .pv (.int .i64 300)]⟩,
      ⟨some 31, none, .rd .pick [.tmp 27, .pv (.bool true), .tmp 30]⟩] L11)
   (.cond (.tmp 31)
    (.seq (.region false [⟨some 6, none, .rd .mov [.pv (.bool true)]⟩] L11)
     (.ret))
    (.skip)))
  (.seq (.region false [⟨some 7, none, .rd .mov [.pv (.bool true)]⟩] L11)
  (.seq (.region false [⟨some 8, none, .rd .mov [.pv .nilSl]⟩,
     ⟨some 9, none, .rd .mov [.pv .nilSl]⟩] L11)
  (.seq (.seq (.region false [⟨some 10, none, .rd .mov [.pv (.int .i64 0)]⟩] L11)
   (.block 0
    (.loop
      (.seq (.seq (.region false [⟨some 32, none, .rd .mov [.tmp 10]⟩,
           ⟨some 33, none, .rd .mov [.tmp 0]⟩,
           ⟨some 34, none, .rd .lenL [.tmp 33]⟩,
           ⟨some 35, none, .rd (.bin .lss) [.tmp 32, .tmp 34]⟩] L11)
        (.cond (.tmp 35)
         (.skip)
         (.exit 0)))
       (.seq (.block 1
         (.seq (.seq (.region false [⟨some 11, none, .rd .mov [.pv (.int .i64 0)]⟩] L11)
           (.block 2
            (.loop
              (.seq (.seq (.region false [⟨some 38, none, .rd .mov [.tmp 11]⟩,
                   ⟨some 39, none, .rd .mov [.tmp 10]⟩,
                   ⟨some 40, none, .rd (.bin .lss) [.tmp 38, .tmp 39]⟩] L11)
                (.cond (.tmp 40)
                 (.skip)
                 (.exit 2)))
               (.seq (.block 3
                 (.regionA (.alt [⟨some 43, none, .rd .mov [.tmp 7]⟩,
                     ⟨some 44, none, .rd .mov [.tmp 43]⟩,
                     ⟨some 45, some (44, true), .rd .mov [.tmp 0]⟩,
                     ⟨some 46, some (44, true), .rd .mov [.tmp 11]⟩,
                     ⟨some 47, some (44, true), .rd (.idxAddr (some 9)) [.tmp 45, .tmp 46]⟩,
                     ⟨some 48, some (44, true), .rd (.fldAddr 0) [.tmp 47]⟩,
                     ⟨some 50, some (44, true), .rd .mov [.tmp 0]⟩,
                     ⟨some 51, some (44, true), .rd .mov [.tmp 10]⟩,
                     ⟨some 52, some (44, true), .rd (.idxAddr (some 9)) [.tmp 50, .tmp 51]⟩,
                     ⟨some 53, some (44, true), .rd (.fldAddr 0) [.tmp 52]⟩]
                    (.alt [⟨some 49, some (44, true), .rd (.load none) [.tmp 48]⟩,
                      ⟨some 54, some (44, true), .rd (.load none) [.tmp 53]⟩,
                      ⟨some 55, some (44, true), .rd (.bin .neq) [.tmp 49, .tmp 54]⟩,
                      ⟨some 56, none, .rd .pick [.tmp 44, .tmp 55, .pv (.bool false)]⟩,
                      ⟨some 7, none, .rd .mov [.tmp 56]⟩]
                     .done
                     (.alt [⟨some 54, some (44, true), .rd (.load none) [.tmp 53]⟩,
                       ⟨some 49, some (44, true), .rd (.load none) [.tmp 48]⟩,
                       ⟨some 55, some (44, true), .rd (.bin .neq) [.tmp 49, .tmp 54]⟩,
                       ⟨some 56, none, .rd .pick [.tmp 44, .tmp 55, .pv (.bool false)]⟩,
                       ⟨some 7, none, .rd .mov [.tmp 56]⟩]
                      .done
                      .stop))
                    .stop) L11))
               (.region false [⟨some 41, none, .rd .mov [.tmp 11]⟩,
                 ⟨some 42, none, .rd (.bin .add) [.tmp 41, .pv (.int .i64 1)]⟩,
                 ⟨some 11, none, .rd .mov [.tmp 42]⟩] L11))))))
          (.seq (.region false [⟨some 57, none, .rd .mov [.tmp 8]⟩,
             ⟨some 58, none, .rd .mov [.tmp 0]⟩,
             ⟨some 59, none, .rd .mov [.tmp 0]⟩,
             ⟨some 60, none, .rd .lenL [.tmp 59]⟩,
             ⟨some 61, none, .rd (.bin .sub) [.tmp 60, .pv (.int .i64 1)]⟩,
             ⟨some 62, none, .rd .mov [.tmp 10]⟩,
             ⟨some 63, none, .rd (.bin .sub) [.tmp 61, .tmp 62]⟩,
             ⟨some 64, none, .rd (.idxAddr (some 9)) [.tmp 58, .tmp 63]⟩,
             ⟨some 65, none, .rd (.load (some 9)) [.tmp 64]⟩,
             ⟨some 66, none, .eff (.lit (some 9) false) [.tmp 65]⟩,
             ⟨some 67, none, .eff (.append (some 9) 80) [.tmp 57, .tmp 66]⟩,
             ⟨some 8, none, .rd .mov [.tmp 67]⟩] L11)
          (.seq (.region false [⟨some 68, none, .rd .mov [.tmp 0]⟩,
             ⟨some 69, none, .rd .mov [.tmp 10]⟩,
             ⟨some 70, none, .rd (.idxAddr (some 9)) [.tmp 68, .tmp 69]⟩,
             ⟨some 71, none, .rd (.fldAddr 1) [.tmp 70]⟩,
             ⟨some 72, none, .rd (.fldAddr 2) [.tmp 71]⟩,
             ⟨some 73, none, .rd (.load none) [.tmp 72]⟩,
             ⟨some 74, none, .rd (.bin .eql) [.tmp 73, .pv (.int .i64 14)]⟩] L11)
          (.cond (.tmp 74)
           (.region false [⟨some 75, none, .rd .mov [.tmp 9]⟩,
              ⟨some 76, none, .rd .mov [.tmp 0]⟩,
              ⟨some 77, none, .rd .mov [.tmp 10]⟩,
              ⟨some 78, none, .rd (.idxAddr (some 9)) [.tmp 76, .tmp 77]⟩,
              ⟨some 79, none, .rd (.load (some 9)) [.tmp 78]⟩,
              ⟨some 80, none, .eff (.lit (some 9) false) [.tmp 79]⟩,
              ⟨some 81, none, .eff (.append (some 9) 80) [.tmp 75, .tmp 80]⟩,
              ⟨some 9, none, .rd .mov [.tmp 81]⟩] L11)
           (.skip))))))
       (.region false [⟨some 36, none, .rd .mov [.tmp 10]⟩,
         ⟨some 37, none, .rd (.bin .add) [.tmp 36, .pv (.int .i64 1)]⟩,
         ⟨some 10, none, .rd .mov [.tmp 37]⟩] L11))))))
  (.seq (.region false [⟨some 82, none, .rd .mov [.tmp 0]⟩,
     ⟨some 83, none, .call (.pv (.fn 35 [] [])) [.tmp 82]⟩,
     ⟨some 84, none, .rd .mov [.tmp 8]⟩,
     ⟨some 85, none, .call (.pv (.fn 35 [] [])) [.tmp 84]⟩,
     ⟨some 86, none, .rd .mov [.tmp 9]⟩,
     ⟨some 87, none, .call (.pv (.fn 35 [] [])) [.tmp 86]⟩,
     ⟨some 12, none, .eff (.alloc (some 1) (.agg [.nilMap])) []⟩,
     ⟨some 13, none, .eff (.alloc (some 1) (.agg [.nilMap])) []⟩,
     ⟨some 14, none, .eff (.alloc (some 1) (.agg [.nilMap])) []⟩,
     ⟨none, none, .eff (.store (some 1)) [.tmp 12, .tmp 83]⟩,
     ⟨none, none, .eff (.store (some 1)) [.tmp 13, .tmp 85]⟩,
     ⟨none, none, .eff (.store (some 1)) [.tmp 14, .tmp 87]⟩] L11)
  (.seq (.region false [⟨some 89, none, .rd (.load (some 1)) [.tmp 12]⟩,
     ⟨some 90, none, .rd .mov [.tmp 1]⟩,
     ⟨some 91, none, .rd .mov [.tmp 2]⟩,
     ⟨some 92, none, .call (.pv (.fn 37 [] [])) [.tmp 89, .tmp 90, .tmp 91]⟩,
     ⟨some 88, none, .rd .mov [.tmp 92]⟩,
     ⟨some 93, none, .rd (.ext 0) [.tmp 88]⟩,
     ⟨some 94, none, .rd (.ext 1) [.tmp 88]⟩,
     ⟨some 15, none, .rd .mov [.tmp 93]⟩,
     ⟨some 16, none, .rd .mov [.tmp 94]⟩] L11)
  (.seq (.region false [⟨some 96, none, .rd (.load (some 1)) [.tmp 13]⟩,
     ⟨some 97, none, .rd .mov [.tmp 1]⟩,
     ⟨some 98, none, .rd .mov [.tmp 2]⟩,
     ⟨some 99, none, .call (.pv (.fn 37 [] [])) [.tmp 96, .tmp 97, .tmp 98]⟩,
     ⟨some 95, none, .rd .mov [.tmp 99]⟩,
     ⟨some 100, none, .rd (.ext 0) [.tmp 95]⟩,
     ⟨some 101, none, .rd (.ext 1) [.tmp 95]⟩,
     ⟨some 17, none, .rd .mov [.tmp 100]⟩,
     ⟨some 18, none, .rd .mov [.tmp 101]⟩] L11)
  (.seq (.region false [⟨some 103, none, .rd (.load (some 1)) [.tmp 14]⟩,
     ⟨some 104, none, .rd .mov [.tmp 1]⟩,
     ⟨some 105, none, .rd .mov [.tmp 2]⟩,
     ⟨some 106, none, .call (.pv (.fn 37 [] [])) [.tmp 103, .tmp 104, .tmp 105]⟩,
     ⟨some 102, none, .rd .mov [.tmp 106]⟩,
     ⟨some 107, none, .rd (.ext 0) [.tmp 102]⟩,
     ⟨some 108, none, .rd (.ext 1) [.tmp 102]⟩,
     ⟨some 19, none, .rd .mov [.tmp 107]⟩,
     ⟨some 20, none, .rd .mov [.tmp 108]⟩] L11)
  (.seq (.seq (.regionA (.alt [⟨some 109, none, .rd .mov [.tmp 15]⟩,
       ⟨some 110, none, .rd .mov [.tmp 19]⟩,
       ⟨some 111, none, .rd (.bin .neq) [.tmp 109, .tmp 110]⟩,
       ⟨some 112, none, .rd .mov [.tmp 111]⟩,
       ⟨some 113, some (112, false), .rd .mov [.tmp 16]⟩,
       ⟨some 114, some (112, false), .rd .mov [.tmp 20]⟩,
       ⟨some 115, some (112, false), .rd (.eqB true) [.tmp 113, .tmp 114]⟩,
       ⟨some 116, none, .rd .pick [.tmp 112, .pv (.bool true), .tmp 115]⟩,
       ⟨some 117, none, .rd .mov [.tmp 116]⟩,
       ⟨some 119, some (117, false), .rd .mov [.tmp 2]⟩,
       ⟨some 122, some (117, false), .rd .mov [.tmp 2]⟩]
      (.alt [⟨some 118, some (117, false), .rd (.load (some 1)) [.tmp 12]⟩]
       (.alt [⟨some 120, some (117, false), .call (.pv (.fn 36 [] [])) [.tmp 118, .tmp 119]⟩,
         ⟨some 121, some (117, false), .rd (.load (some 1)) [.tmp 14]⟩,
         ⟨some 123, some (117, false), .call (.pv (.fn 36 [] [])) [.tmp 121, .tmp 122]⟩,
         ⟨some 124, some (117, false), .call (.pv (.fn 39 [] [])) [.tmp 120, .tmp 123]⟩,
         ⟨some 125, some (117, false), .rd (.un .not) [.tmp 124]⟩,
         ⟨some 126, none, .rd .pick [.tmp 117, .pv (.bool true), .tmp 125]⟩,
         ⟨some 127, none, .rd .mov [.tmp 126]⟩,
         ⟨some 129, some (127, false), .rd .mov [.tmp 2]⟩,
         ⟨some 132, some (127, false), .rd .mov [.tmp 2]⟩]
        (.alt [⟨some 128, some (127, false), .rd (.load (some 1)) [.tmp 12]⟩]
         (.alt [⟨some 130, some (127, false), .call (.pv (.fn 36 [] [])) [.tmp 128, .tmp 129]⟩,
           ⟨some 131, some (127, false), .rd (.load (some 1)) [.tmp 13]⟩,
           ⟨some 133, some (127, false), .call (.pv (.fn 36 [] [])) [.tmp 131, .tmp 132]⟩,
           ⟨some 134, some (127, false), .call (.pv (.fn 39 [] [])) [.tmp 130, .tmp 133]⟩,
           ⟨some 135, some (127, false), .rd (.un .not) [.tmp 134]⟩,
           ⟨some 136, none, .rd .pick [.tmp 127, .pv (.bool true), .tmp 135]⟩]
          .done
          (.alt [⟨some 131, some (127, false), .rd (.load (some 1)) [.tmp 13]⟩,
            ⟨some 130, some (127, false), .call (.pv (.fn 36 [] [])) [.tmp 128, .tmp 129]⟩,
            ⟨some 133, some (127, false), .call (.pv (.fn 36 [] [])) [.tmp 131, .tmp 132]⟩,
            ⟨some 134, some (127, false), .call (.pv (.fn 39 [] [])) [.tmp 130, .tmp 133]⟩,
            ⟨some 135, some (127, false), .rd (.un .not) [.tmp 134]⟩,
            ⟨some 136, none, .rd .pick [.tmp 127, .pv (.bool true), .tmp 135]⟩]
           .done
           .stop))
         (.alt [⟨some 131, some (127, false), .rd (.load (some 1)) [.tmp 13]⟩,
           ⟨some 128, some (127, false), .rd (.load (some 1)) [.tmp 12]⟩,
           ⟨some 130, some (127, false), .call (.pv (.fn 36 [] [])) [.tmp 128, .tmp 129]⟩,
           ⟨some 133, some (127, false), .call (.pv (.fn 36 [] [])) [.tmp 131, .tmp 132]⟩,
           ⟨some 134, some (127, false), .call (.pv (.fn 39 [] [])) [.tmp 130, .tmp 133]⟩,
           ⟨some 135, some (127, false), .rd (.un .not) [.tmp 134]⟩,
           ⟨some 136, none, .rd .pick [.tmp 127, .pv (.bool true), .tmp 135]⟩]
          .done
          .stop))
        (.alt [⟨some 121, some (117, false), .rd (.load (some 1)) [.tmp 14]⟩,
          ⟨some 120, some (117, false), .call (.pv (.fn 36 [] [])) [.tmp 118, .tmp 119]⟩,
          ⟨some 123, some (117, false), .call (.pv (.fn 36 [] [])) [.tmp 121, .tmp 122]⟩,
          ⟨some 124, some (117, false), .call (.pv (.fn 39 [] [])) [.tmp 120, .tmp 123]⟩,
          ⟨some 125, some (117, false), .rd (.un .not) [.tmp 124]⟩,
          ⟨some 126, none, .rd .pick [.tmp 117, .pv (.bool true), .tmp 125]⟩,
          ⟨some 127, none, .rd .mov [.tmp 126]⟩,
          ⟨some 129, some (127, false), .rd .mov [.tmp 2]⟩,
          ⟨some 132, some (127, false), .rd .mov [.tmp 2]⟩]
         (.alt [⟨some 128, some (127, false), .rd (.load (some 1)) [.tmp 12]⟩]
          (.alt [⟨some 130, some (127, false), .call (.pv (.fn 36 [] [])) [.tmp 128, .tmp 129]⟩,
            ⟨some 131, some (127, false), .rd (.load (some 1)) [.tmp 13]⟩,
            ⟨some 133, some (127, false), .call (.pv (.fn 36 [] [])) [.tmp 131, .tmp 132]⟩,
            ⟨some 134, some (127, false), .call (.pv (.fn 39 [] [])) [.tmp 130, .tmp 133]⟩,
            ⟨some 135, some (127, false), .rd (.un .not) [.tmp 134]⟩,
            ⟨some 136, none, .rd .pick [.tmp 127, .pv (.bool true), .tmp 135]⟩]
           .done
           (.alt [⟨some 131, some (127, false), .rd (.load (some 1)) [.tmp 13]⟩,
             ⟨some 130, some (127, false), .call (.pv (.fn 36 [] [])) [.tmp 128, .tmp 129]⟩,
             ⟨some 133, some (127, false), .call (.pv (.fn 36 [] [])) [.tmp 131, .tmp 132]⟩,
             ⟨some 134, some (127, false), .call (.pv (.fn 39 [] [])) [.tmp 130, .tmp 133]⟩,
             ⟨some 135, some (127, false), .rd (.un .not) [.tmp 134]⟩,
             ⟨some 136, none, .rd .pick [.tmp 127, .pv (.bool true), .tmp 135]⟩]
            .done
            .stop))
          (.alt [⟨some 131, some (127, false), .rd (.load (some 1)) [.tmp 13]⟩,
            ⟨some 128, some (127, false), .rd (.load (some 1)) [.tmp 12]⟩,
            ⟨some 130, some (127, false), .call (.pv (.fn 36 [] [])) [.tmp 128, .tmp 129]⟩,
            ⟨some 133, some (127, false), .call (.pv (.fn 36 [] [])) [.tmp 131, .tmp 132]⟩,
            ⟨some 134, some (127, false), .call (.pv (.fn 39 [] [])) [.tmp 130, .tmp 133]⟩,
            ⟨some 135, some (127, false), .rd (.un .not) [.tmp 134]⟩,
            ⟨some 136, none, .rd .pick [.tmp 127, .pv (.bool true), .tmp 135]⟩]
           .done
           .stop))
         .stop))
       (.alt [⟨some 121, some (117, false), .rd (.load (some 1)) [.tmp 14]⟩,
         ⟨some 118, some (117, false), .rd (.load (some 1)) [.tmp 12]⟩,
         ⟨some 120, some (117, false), .call (.pv (.fn 36 [] [])) [.tmp 118, .tmp 119]⟩,
         ⟨some 123, some (117, false), .call (.pv (.fn 36 [] [])) [.tmp 121, .tmp 122]⟩,
         ⟨some 124, some (117, false), .call (.pv (.fn 39 [] [])) [.tmp 120, .tmp 123]⟩,
         ⟨some 125, some (117, false), .rd (.un .not) [.tmp 124]⟩,
         ⟨some 126, none, .rd .pick [.tmp 117, .pv (.bool true), .tmp 125]⟩,
         ⟨some 127, none, .rd .mov [.tmp 126]⟩,
         ⟨some 129, some (127, false), .rd .mov [.tmp 2]⟩,
         ⟨some 132, some (127, false), .rd .mov [.tmp 2]⟩]
        (.alt [⟨some 128, some (127, false), .rd (.load (some 1)) [.tmp 12]⟩]
         (.alt [⟨some 130, some (127, false), .call (.pv (.fn 36 [] [])) [.tmp 128, .tmp 129]⟩,
           ⟨some 131, some (127, false), .rd (.load (some 1)) [.tmp 13]⟩,
           ⟨some 133, some (127, false), .call (.pv (.fn 36 [] [])) [.tmp 131, .tmp 132]⟩,
           ⟨some 134, some (127, false), .call (.pv (.fn 39 [] [])) [.tmp 130, .tmp 133]⟩,
           ⟨some 135, some (127, false), .rd (.un .not) [.tmp 134]⟩,
           ⟨some 136, none, .rd .pick [.tmp 127, .pv (.bool true), .tmp 135]⟩]
          .done
          (.alt [⟨some 131, some (127, false), .rd (.load (some 1)) [.tmp 13]⟩,
            ⟨some 130, some (127, false), .call (.pv (.fn 36 [] [])) [.tmp 128, .tmp 129]⟩,
            ⟨some 133, some (127, false), .call (.pv (.fn 36 [] [])) [.tmp 131, .tmp 132]⟩,
            ⟨some 134, some (127, false), .call (.pv (.fn 39 [] [])) [.tmp 130, .tmp 133]⟩,
            ⟨some 135, some (127, false), .rd (.un .not) [.tmp 134]⟩,
            ⟨some 136, none, .rd .pick [.tmp 127, .pv (.bool true), .tmp 135]⟩]
           .done
           .stop))
         (.alt [⟨some 131, some (127, false), .rd (.load (some 1)) [.tmp 13]⟩,
           ⟨some 128, some (127, false), .rd (.load (some 1)) [.tmp 12]⟩,
           ⟨some 130, some (127, false), .call (.pv (.fn 36 [] [])) [.tmp 128, .tmp 129]⟩,
           ⟨some 133, some (127, false), .call (.pv (.fn 36 [] [])) [.tmp 131, .tmp 132]⟩,
           ⟨some 134, some (127, false), .call (.pv (.fn 39 [] [])) [.tmp 130, .tmp 133]⟩,
           ⟨some 135, some (127, false), .rd (.un .not) [.tmp 134]⟩,
           ⟨some 136, none, .rd .pick [.tmp 127, .pv (.bool true), .tmp 135]⟩]
          .done
          .stop))
        .stop))
      .stop) L11)
   (.cond (.tmp 136)
    (.seq (.region false [⟨some 6, none, .rd .mov [.pv (.bool false)]⟩] L11)
     (.ret))
    (.skip)))
  (.seq (.region false [⟨some 137, none, .rd .mov [.tmp 7]⟩,
     ⟨some 138, none, .rd (.un .not) [.tmp 137]⟩,
     ⟨some 139, none, .rd .mov [.tmp 138]⟩,
     ⟨some 140, some (139, false), .rd .mov [.tmp 15]⟩,
     ⟨some 141, some (139, false), .rd .mov [.tmp 17]⟩,
     ⟨some 142, some (139, false), .rd (.bin .eql) [.tmp 140, .tmp 141]⟩,
     ⟨some 143, some (139, false), .rd .mov [.tmp 142]⟩,
     ⟨some 144, some (143, true), .rd .mov [.tmp 16]⟩,
     ⟨some 145, some (143, true), .rd .mov [.tmp 18]⟩,
     ⟨some 146, some (143, true), .rd (.eqB false) [.tmp 144, .tmp 145]⟩,
     ⟨some 147, some (139, false), .rd .pick [.tmp 143, .tmp 146, .pv (.bool false)]⟩,
     ⟨some 148, none, .rd .pick [.tmp 139, .pv (.bool true), .tmp 147]⟩,
     ⟨some 6, none, .rd .mov [.tmp 148]⟩] L11)
  (.ret)))))))))))),
  [.tmp 6]⟩
theorem k11 : compileF Try.prog [999999, 888888] L11 Try.f11 = some c11 := by kernel_rfl
end Go.Proofs.Ytjcoenideicmbaa

