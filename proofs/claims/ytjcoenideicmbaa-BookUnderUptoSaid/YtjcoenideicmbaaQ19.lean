import Derived.Test.YtjcoenideicmbaaProg
import Derived.KernelRfl
import Derived.Test.YtjcoenideicmbaaP3
import Derived.Test.YtjcoenideicmbaaQ18
import Derived.Test.YtjcoenideicmbaaQ17
namespace Go.Proofs.Ytjcoenideicmbaa
open PG Go.Proofs
-- wagebook/wagebooklaw11.BookRight
end Go.Proofs.Ytjcoenideicmbaa

namespace Go.Proofs.Ytjcoenideicmbaa
open Go PG Go.Proofs
set_option linter.unusedSimpArgs false
set_option linter.unusedVariables false
set_option maxHeartbeats 4000000
set_option maxRecDepth 100000
theorem sh_codes {l : List Kn} (h : shM l = true) : l.length ≤ 40 ∧ ∀ k ∈ l, k.code.length ≤ 300 ∧ k.text.length ≤ 300 := by
  unfold shM at h
  simp only [Bool.and_eq_true, decide_eq_true_eq] at h
  refine ⟨h.2, fun k hk => ?_⟩
  rw [List.take_of_length_le h.2] at h
  have := List.all_eq_true.1 h.1 k hk
  simp only [shrB, Bool.and_eq_true, decide_eq_true_eq] at this
  exact this
end Go.Proofs.Ytjcoenideicmbaa

namespace Go.Proofs.Ytjcoenideicmbaa
open Go PG Go.Proofs
set_option linter.unusedSimpArgs false
set_option linter.unusedVariables false
end Go.Proofs.Ytjcoenideicmbaa

namespace Go.Proofs.Ytjcoenideicmbaa
open Go PG Go.Proofs
set_option linter.unusedSimpArgs false
set_option linter.unusedVariables false
theorem str_at {L : List (List UInt8)} (h : Str L) (i j : Nat) (hij : i < j) (hj : j < L.length) : Op.bytesLess L[i] L[j] = true :=
  (bl_iff _ _).2 (List.pairwise_iff_getElem.1 h i j (by omega) hj hij)
/-- A text stands ahead of the end, or of a point. -/
def condB (h x : List UInt8) : Bool := decide (h.length ≤ x.length) && (decide (x.take h.length = h) && (decide (x.length = h.length) || decide (((x.getD h.length 0).toNat : Int) = 46)))
theorem getD_at (x : List UInt8) (n : Nat) (h : n < x.length) : x.getD n 0 = x[n] := by simp [List.getD, h]
theorem cond_part (s : List UInt8) : condB (partM s) s = true := by
  unfold condB
  have h1 := partM_le s
  rw [decide_eq_true h1, decide_eq_true (partM_take s), Bool.true_and, Bool.true_and, Bool.or_eq_true, decide_eq_true_eq, decide_eq_true_eq]
  rcases Nat.lt_or_ge (partM s).length s.length with h | h
  · right
    rw [getD_at s _ h, partM_end s h]; rfl
  · left; omega
theorem tw_all (p : UInt8 → Bool) : ∀ (s : List UInt8) (c : UInt8), c ∈ s.takeWhile p → p c = true
  | [], c, h => by cases h
  | x :: s, c, h => by
    rw [List.takeWhile_cons] at h
    by_cases hx : p x = true
    · rw [if_pos hx] at h
      rcases List.mem_cons.1 h with rfl | h
      · exact hx
      · exact tw_all p s c h
    · rw [if_neg hx] at h; cases h
theorem und_cond {l : List Kn} {d : Int} {p h : List UInt8} (hm : h ∈ undM l p d) : h ≠ [] ∧ (∀ c ∈ h, c ≠ 46) ∧ ∃ x ∈ nmsM l d, condB (p ++ h) x = true := by
  obtain ⟨s, h1, h2⟩ := ((undM_spec l p d).2 h).1 hm
  unfold undF at h2
  split at h2
  · rename_i hp
    split at h2
    · cases h2
    · rename_i hne
      cases h2
      refine ⟨hne, fun c hc => ?_, s, ((nms_spec l d).2 s).2 h1, ?_⟩
      · have := tw_all (fun c => decide (c ≠ 46)) _ _ hc
        simpa using this
      · have hp' : s.take p.length = p := by simpa [hasP] using hp
        have hs : s = p ++ s.drop p.length := by
          conv => lhs; rw [← List.take_append_drop p.length s, hp']
        have hc := cond_part (s.drop p.length)
        generalize s.drop p.length = t at hs hc
        subst hs
        unfold condB at hc ⊢
        simp only [Bool.and_eq_true, Bool.or_eq_true, decide_eq_true_eq] at hc ⊢
        obtain ⟨c1, c2, c3⟩ := hc
        refine ⟨by simp; exact c1, ?_, ?_⟩
        · rw [List.length_append, List.take_append]
          simp only [List.take_of_length_le (show p.length ≤ p.length + (partM t).length by omega), Nat.add_sub_cancel_left]
          rw [c2]
        · rcases c3 with c3 | c3
          · left; simp; omega
          · right
            rw [← c3]
            congr 2
            simp [List.getD, List.getElem?_append_right]
  · cases h2
def fndN (h : List UInt8) (names : List (List UInt8)) (k : Nat) : Bool := (names.take k).any (condB h)
theorem fndN_succ (h : List UInt8) (names : List (List UInt8)) (k : Nat) (hk : k < names.length) : fndN h names (k + 1) = (fndN h names k || condB h names[k]) := by
  unfold fndN; rw [List.take_succ_eq_append_getElem hk, List.any_append]; simp
theorem fnd_all {l : List Kn} {d : Int} {p h : List UInt8} (hm : h ∈ undM l p d) : fndN (p ++ h) (nmsM l d) (nmsM l d).length = true := by
  unfold fndN
  rw [List.take_length, List.any_eq_true]
  exact (und_cond hm).2.2
/-! BookUnder -/
def deepB (w x : List UInt8) : Bool := condB w x && (decide (w.length + 1 < x.length) && !decide (((x.getD (w.length + 1) 0).toNat : Int) = 46))
def deepN (w : List UInt8) (names : List (List UInt8)) (k : Nat) : Bool := (names.take k).any (deepB w)
theorem deepN_succ (w : List UInt8) (names : List (List UInt8)) (k : Nat) (hk : k < names.length) : deepN w names (k + 1) = (deepN w names k || deepB w names[k]) := by
  unfold deepN; rw [List.take_succ_eq_append_getElem hk, List.any_append]; simp
theorem u8_46 (a : UInt8) : ((a.toNat : Int) = 46) ↔ a = 46 := by
  have := u8_eq a 46 (by decide)
  simpa using this
theorem deep_iff (w x : List UInt8) : deepB w x = true ↔ (undF (w ++ [46]) x).isSome = true := by
  unfold deepB condB undF hasP
  simp only [Bool.and_eq_true, Bool.or_eq_true, decide_eq_true_eq, Bool.not_eq_true', decide_eq_false_iff_not, u8_46, List.length_append, List.length_cons, List.length_nil]
  have hpart : ∀ t : List UInt8, partM t = [] ↔ ∀ c r, t = c :: r → c = 46 := by
    intro t
    cases t with
    | nil => simp [partM]
    | cons c r =>
      unfold partM
      rw [List.takeWhile_cons]
      by_cases h : c = 46 <;> simp [h]
  constructor
  · rintro ⟨⟨h1, h2, h3⟩, h4, h5⟩
    have h3' : x.getD w.length 0 = 46 := by rcases h3 with h | h; omega; exact h
    rw [getD_at x _ (by omega)] at h3'
    rw [getD_at x _ h4] at h5
    have ht : x.take (w.length + 1) = w ++ [46] := by
      rw [List.take_succ_eq_append_getElem (by omega), h2, h3']
    rw [if_pos (by simpa using ht), if_neg]
    · rfl
    · rw [hpart]
      intro hh
      refine h5 (hh _ (x.drop (w.length + 1 + 1)) ?_)
      rw [Nat.zero_add]
      exact List.drop_eq_getElem_cons h4
  · intro h
    split at h
    · rename_i ht
      simp only [Nat.zero_add] at ht h
      split at h
      · cases h
      · rename_i hne
        rw [hpart] at hne
        have hlt : w.length + 1 < x.length := by
          rcases Nat.lt_or_ge (w.length + 1) x.length with h' | h'
          · exact h'
          · exact absurd (fun c r e => by rw [List.drop_eq_nil_of_le h'] at e; cases e) hne
        rw [List.take_succ_eq_append_getElem (by omega)] at ht
        have h2 := List.append_inj ht (by simp; omega)
        have h3 : x[w.length] = 46 := by simpa using h2.2
        refine ⟨⟨by omega, h2.1, .inr ?_⟩, hlt, fun h46 => hne fun c r e => ?_⟩
        · rw [getD_at x _ (by omega)]; exact h3
        · rw [getD_at x _ hlt] at h46
          rw [List.drop_eq_getElem_cons hlt] at e
          have := (List.cons.inj e).1
          rw [← this]; exact h46
    · cases h
theorem deep_all (l : List Kn) (d : Int) (w : List UInt8) : deepN w (nmsM l d) (nmsM l d).length = decide (0 < (undM l (w ++ [46]) d).length) := by
  unfold deepN
  rw [List.take_length, Bool.eq_iff_iff, List.any_eq_true, decide_eq_true_eq, List.length_pos_iff_exists_mem]
  constructor
  · rintro ⟨x, h1, h2⟩
    rw [deep_iff, Option.isSome_iff_exists] at h2
    obtain ⟨t, ht⟩ := h2
    exact ⟨t, ((undM_spec l _ d).2 t).2 ⟨x, ((nms_spec l d).2 x).1 h1, ht⟩⟩
  · rintro ⟨t, ht⟩
    obtain ⟨s, h1, h2⟩ := ((undM_spec l _ d).2 t).1 ht
    exact ⟨s, ((nms_spec l d).2 s).2 h1, by rw [deep_iff, h2]; rfl⟩
end Go.Proofs.Ytjcoenideicmbaa

namespace Go.Proofs.Ytjcoenideicmbaa
open PG Go.Proofs
-- wagebook/wagebooklaw11.BookUnder
def L12 : List Nat := [0, 1, 2, 6, 7, 8, 9, 10, 11, 12, 13, 14, 15, 16, 18, 27, 40, 69, 76, 85, 89, 128, 162]
def c12 : CF := ⟨163,
  .seq (.region false [⟨some 6, none, .rd .mov [.pv (.bool false)]⟩] L12)
  (.seq (.seq (.region false [⟨some 17, none, .call (.pv (.fn 32 [] [])) []⟩,
      ⟨some 18, none, .rd (.un .not) [.tmp 17]⟩] L12)
   (.cond (.tmp 18)
    (.seq (.region false [⟨some 6, none, .rd .mov [.pv (.bool false)]⟩] L12)
     (.ret))
    (.skip)))
  (.seq (.seq (.region false [⟨some 19, none, .rd .mov [.tmp 0]⟩,
      ⟨some 20, none, .call (.pv (.fn 34 [] [])) [.tmp 19]⟩,
      ⟨some 21, none, .call (.pv (.fn 33 [] [])) [.tmp 20]⟩,
      ⟨some 22, none, .rd (.un .not) [.tmp 21]⟩,
      ⟨some 23, none, .rd .mov [.tmp 22]⟩,
      ⟨some 24, some (23, false), .rd .mov [.tmp 1]⟩,
      ⟨some 25, some (23, false), .rd .lenS [.tmp 24]⟩,
      ⟨some 26, some (23, false), .rd (.bin .gtr) [.tmp 25, .pv (.int .i64 300)]⟩,
      ⟨some 27, none, .rd .pick [.tmp 23, .pv (.bool true), .tmp 26]⟩] L12)
   (.cond (.tmp 27)
    (.seq (.region false [⟨some 6, none, .rd .mov [.pv (.bool true)]⟩] L12)
     (.ret))
    (.skip)))
  (.seq (.region false [⟨some 28, none, .rd .mov [.tmp 0]⟩,
     ⟨some 29, none, .call (.pv (.fn 35 [] [])) [.tmp 28]⟩,
     ⟨some 7, none, .eff (.alloc (some 1) (.agg [.nilMap])) []⟩,
     ⟨none, none, .eff (.store (some 1)) [.tmp 7, .tmp 29]⟩] L12)
  (.seq (.region false [⟨some 30, none, .rd (.load (some 1)) [.tmp 7]⟩,
     ⟨some 31, none, .rd .mov [.tmp 2]⟩,
     ⟨some 32, none, .call (.pv (.fn 36 [] [])) [.tmp 30, .tmp 31]⟩,
     ⟨some 8, none, .rd .mov [.tmp 32]⟩] L12)
  (.seq (.region false [⟨some 33, none, .rd (.load (some 1)) [.tmp 7]⟩,
     ⟨some 34, none, .rd .mov [.tmp 1]⟩,
     ⟨some 35, none, .rd .mov [.tmp 2]⟩,
     ⟨some 36, none, .call (.pv (.fn 38 [] [])) [.tmp 33, .tmp 34, .tmp 35]⟩,
     ⟨some 9, none, .rd .mov [.tmp 36]⟩] L12)
  (.seq (.seq (.region false [⟨some 10, none, .rd .mov [.pv (.int .i64 0)]⟩] L12)
   (.block 0
    (.loop
      (.seq (.seq (.region false [⟨some 37, none, .rd .mov [.tmp 10]⟩,
           ⟨some 38, none, .rd .mov [.tmp 9]⟩,
           ⟨some 39, none, .rd .lenL [.tmp 38]⟩,
           ⟨some 40, none, .rd (.bin .lss) [.tmp 37, .tmp 39]⟩] L12)
        (.cond (.tmp 40)
         (.skip)
         (.exit 0)))
       (.seq (.block 1
         (.seq (.region false [⟨some 43, none, .rd .mov [.tmp 1]⟩,
             ⟨some 44, none, .rd .mov [.tmp 9]⟩,
             ⟨some 45, none, .rd .mov [.tmp 10]⟩,
             ⟨some 46, none, .rd (.idxAddr none) [.tmp 44, .tmp 45]⟩,
             ⟨some 47, none, .rd (.load none) [.tmp 46]⟩,
             ⟨some 48, none, .rd (.bin .add) [.tmp 43, .tmp 47]⟩,
             ⟨some 11, none, .rd .mov [.tmp 48]⟩] L12)
          (.seq (.seq (.regionA (.alt [⟨some 49, none, .rd .mov [.tmp 9]⟩,
               ⟨some 50, none, .rd .mov [.tmp 10]⟩,
               ⟨some 51, none, .rd (.idxAddr none) [.tmp 49, .tmp 50]⟩,
               ⟨some 52, none, .rd .loadC [.tmp 51]⟩,
               ⟨some 53, none, .rd (.bin .eql) [.tmp 52, .pv (.str [])]⟩,
               ⟨some 54, none, .rd .mov [.tmp 53]⟩,
               ⟨some 55, some (54, false), .rd .mov [.tmp 10]⟩,
               ⟨some 56, some (54, false), .rd (.bin .gtr) [.tmp 55, .pv (.int .i64 0)]⟩,
               ⟨some 57, some (54, false), .rd .mov [.tmp 56]⟩,
               ⟨some 58, some (57, true), .rd .mov [.tmp 9]⟩,
               ⟨some 59, some (57, true), .rd .mov [.tmp 10]⟩,
               ⟨some 60, some (57, true), .rd (.bin .sub) [.tmp 59, .pv (.int .i64 1)]⟩,
               ⟨some 61, some (57, true), .rd (.idxAddr none) [.tmp 58, .tmp 60]⟩,
               ⟨some 63, some (57, true), .rd .mov [.tmp 9]⟩,
               ⟨some 64, some (57, true), .rd .mov [.tmp 10]⟩,
               ⟨some 65, some (57, true), .rd (.idxAddr none) [.tmp 63, .tmp 64]⟩]
              (.alt [⟨some 62, some (57, true), .rd (.load none) [.tmp 61]⟩,
                ⟨some 66, some (57, true), .rd (.load none) [.tmp 65]⟩,
                ⟨some 67, some (57, true), .rd (.bin .geq) [.tmp 62, .tmp 66]⟩,
                ⟨some 68, some (54, false), .rd .pick [.tmp 57, .tmp 67, .pv (.bool false)]⟩,
                ⟨some 69, none, .rd .pick [.tmp 54, .pv (.bool true), .tmp 68]⟩]
               .done
               (.alt [⟨some 66, some (57, true), .rd (.load none) [.tmp 65]⟩,
                 ⟨some 62, some (57, true), .rd (.load none) [.tmp 61]⟩,
                 ⟨some 67, some (57, true), .rd (.bin .geq) [.tmp 62, .tmp 66]⟩,
                 ⟨some 68, some (54, false), .rd .pick [.tmp 57, .tmp 67, .pv (.bool false)]⟩,
                 ⟨some 69, none, .rd .pick [.tmp 54, .pv (.bool true), .tmp 68]⟩]
                .done
                .stop))
              .stop) L12)
           (.cond (.tmp 69)
            (.seq (.region false [⟨some 6, none, .rd .mov [.pv (.bool false)]⟩] L12)
             (.ret))
            (.skip)))
          (.seq (.seq (.region false [⟨some 12, none, .rd .mov [.pv (.int .i64 0)]⟩] L12)
           (.block 2
            (.loop
              (.seq (.seq (.region false [⟨some 70, none, .rd .mov [.tmp 12]⟩,
                   ⟨some 71, none, .rd .mov [.tmp 9]⟩,
                   ⟨some 72, none, .rd .mov [.tmp 10]⟩,
                   ⟨some 73, none, .rd (.idxAddr none) [.tmp 71, .tmp 72]⟩,
                   ⟨some 74, none, .rd (.load none) [.tmp 73]⟩,
                   ⟨some 75, none, .rd .lenS [.tmp 74]⟩,
                   ⟨some 76, none, .rd (.bin .lss) [.tmp 70, .tmp 75]⟩] L12)
                (.cond (.tmp 76)
                 (.skip)
                 (.exit 2)))
               (.seq (.block 3
                 (.seq (.region false [⟨some 79, none, .rd .mov [.tmp 9]⟩,
                     ⟨some 80, none, .rd .mov [.tmp 10]⟩,
                     ⟨some 81, none, .rd (.idxAddr none) [.tmp 79, .tmp 80]⟩,
                     ⟨some 82, none, .rd (.load none) [.tmp 81]⟩,
                     ⟨some 83, none, .rd .mov [.tmp 12]⟩,
                     ⟨some 84, none, .rd .idxS [.tmp 82, .tmp 83]⟩,
                     ⟨some 85, none, .rd (.bin .eql) [.tmp 84, .pv (.int .u8 46)]⟩] L12)
                  (.cond (.tmp 85)
                   (.seq (.region false [⟨some 6, none, .rd .mov [.pv (.bool false)]⟩] L12)
                    (.ret))
                   (.skip))))
               (.region false [⟨some 77, none, .rd .mov [.tmp 12]⟩,
                 ⟨some 78, none, .rd (.bin .add) [.tmp 77, .pv (.int .i64 1)]⟩,
                 ⟨some 12, none, .rd .mov [.tmp 78]⟩] L12))))))
          (.seq (.region false [⟨some 13, none, .rd .mov [.pv (.bool false)]⟩,
             ⟨some 14, none, .rd .mov [.pv (.bool false)]⟩] L12)
          (.seq (.seq (.region false [⟨some 15, none, .rd .mov [.pv (.int .i64 0)]⟩] L12)
           (.block 4
            (.loop
              (.seq (.seq (.region false [⟨some 86, none, .rd .mov [.tmp 15]⟩,
                   ⟨some 87, none, .rd .mov [.tmp 8]⟩,
                   ⟨some 88, none, .rd .lenL [.tmp 87]⟩,
                   ⟨some 89, none, .rd (.bin .lss) [.tmp 86, .tmp 88]⟩] L12)
                (.cond (.tmp 89)
                 (.skip)
                 (.exit 4)))
               (.seq (.block 5
                 (.seq (.region false [⟨some 92, none, .rd .mov [.tmp 11]⟩,
                     ⟨some 93, none, .rd .lenS [.tmp 92]⟩,
                     ⟨some 16, none, .rd .mov [.tmp 93]⟩] L12)
                  (.seq (.region false [⟨some 94, none, .rd .mov [.tmp 8]⟩,
                     ⟨some 95, none, .rd .mov [.tmp 15]⟩,
                     ⟨some 96, none, .rd (.idxAddr none) [.tmp 94, .tmp 95]⟩,
                     ⟨some 97, none, .rd (.load none) [.tmp 96]⟩,
                     ⟨some 98, none, .rd .lenS [.tmp 97]⟩,
                     ⟨some 99, none, .rd .mov [.tmp 16]⟩,
                     ⟨some 100, none, .rd (.bin .geq) [.tmp 98, .tmp 99]⟩,
                     ⟨some 101, none, .rd .mov [.tmp 100]⟩,
                     ⟨some 102, some (101, true), .rd .mov [.tmp 8]⟩,
                     ⟨some 103, some (101, true), .rd .mov [.tmp 15]⟩,
                     ⟨some 104, some (101, true), .rd (.idxAddr none) [.tmp 102, .tmp 103]⟩,
                     ⟨some 105, some (101, true), .rd (.load none) [.tmp 104]⟩,
                     ⟨some 106, some (101, true), .rd .mov [.tmp 16]⟩,
                     ⟨some 107, some (101, true), .rd (.slcS false true) [.tmp 105, .tmp 106]⟩,
                     ⟨some 108, some (101, true), .rd .mov [.tmp 11]⟩,
                     ⟨some 109, some (101, true), .rd (.bin .eql) [.tmp 107, .tmp 108]⟩,
                     ⟨some 110, none, .rd .pick [.tmp 101, .tmp 109, .pv (.bool false)]⟩,
                     ⟨some 111, none, .rd .mov [.tmp 110]⟩,
                     ⟨some 112, some (111, true), .rd .mov [.tmp 8]⟩,
                     ⟨some 113, some (111, true), .rd .mov [.tmp 15]⟩,
                     ⟨some 114, some (111, true), .rd (.idxAddr none) [.tmp 112, .tmp 113]⟩,
                     ⟨some 115, some (111, true), .rd (.load none) [.tmp 114]⟩,
                     ⟨some 116, some (111, true), .rd .lenS [.tmp 115]⟩,
                     ⟨some 117, some (111, true), .rd .mov [.tmp 16]⟩,
                     ⟨some 118, some (111, true), .rd (.bin .eql) [.tmp 116, .tmp 117]⟩,
                     ⟨some 119, some (111, true), .rd .mov [.tmp 118]⟩,
                     ⟨some 120, some (119, false), .rd .mov [.tmp 8]⟩,
                     ⟨some 121, some (119, false), .rd .mov [.tmp 15]⟩,
                     ⟨some 122, some (119, false), .rd (.idxAddr none) [.tmp 120, .tmp 121]⟩,
                     ⟨some 123, some (119, false), .rd (.load none) [.tmp 122]⟩,
                     ⟨some 124, some (119, false), .rd .mov [.tmp 16]⟩,
                     ⟨some 125, some (119, false), .rd .idxS [.tmp 123, .tmp 124]⟩,
                     ⟨some 126, some (119, false), .rd (.bin .eql) [.tmp 125, .pv (.int .u8 46)]⟩,
                     ⟨some 127, some (111, true), .rd .pick [.tmp 119, .pv (.bool true), .tmp 126]⟩,
                     ⟨some 128, none, .rd .pick [.tmp 111, .tmp 127, .pv (.bool false)]⟩] L12)
                  (.cond (.tmp 128)
                   (.seq (.region false [⟨some 13, none, .rd .mov [.pv (.bool true)]⟩] L12)
                    (.region false [⟨some 129, none, .rd .mov [.tmp 14]⟩,
                      ⟨some 130, none, .rd .mov [.tmp 129]⟩,
                      ⟨some 131, some (130, false), .rd .mov [.tmp 8]⟩,
                      ⟨some 132, some (130, false), .rd .mov [.tmp 15]⟩,
                      ⟨some 133, some (130, false), .rd (.idxAddr none) [.tmp 131, .tmp 132]⟩,
                      ⟨some 134, some (130, false), .rd (.load none) [.tmp 133]⟩,
                      ⟨some 135, some (130, false), .rd .lenS [.tmp 134]⟩,
                      ⟨some 136, some (130, false), .rd .mov [.tmp 16]⟩,
                      ⟨some 137, some (130, false), .rd (.bin .add) [.tmp 136, .pv (.int .i64 1)]⟩,
                      ⟨some 138, some (130, false), .rd (.bin .gtr) [.tmp 135, .tmp 137]⟩,
                      ⟨some 139, some (130, false), .rd .mov [.tmp 138]⟩,
                      ⟨some 140, some (139, true), .rd .mov [.tmp 8]⟩,
                      ⟨some 141, some (139, true), .rd .mov [.tmp 15]⟩,
                      ⟨some 142, some (139, true), .rd (.idxAddr none) [.tmp 140, .tmp 141]⟩,
                      ⟨some 143, some (139, true), .rd (.load none) [.tmp 142]⟩,
                      ⟨some 144, some (139, true), .rd .mov [.tmp 16]⟩,
                      ⟨some 145, some (139, true), .rd (.bin .add) [.tmp 144, .pv (.int .i64 1)]⟩,
                      ⟨some 146, some (139, true), .rd .idxS [.tmp 143, .tmp 145]⟩,
                      ⟨some 147, some (139, true), .rd (.bin .neq) [.tmp 146, .pv (.int .u8 46)]⟩,
                      ⟨some 148, some (130, false), .rd .pick [.tmp 139, .tmp 147, .pv (.bool false)]⟩,
                      ⟨some 149, none, .rd .pick [.tmp 130, .pv (.bool true), .tmp 148]⟩,
                      ⟨some 14, none, .rd .mov [.tmp 149]⟩] L12))
                   (.skip)))))
               (.region false [⟨some 90, none, .rd .mov [.tmp 15]⟩,
                 ⟨some 91, none, .rd (.bin .add) [.tmp 90, .pv (.int .i64 1)]⟩,
                 ⟨some 15, none, .rd .mov [.tmp 91]⟩] L12))))))
          (.seq (.region false [⟨some 150, none, .rd .mov [.tmp 13]⟩,
             ⟨some 151, none, .rd (.un .not) [.tmp 150]⟩,
             ⟨some 152, none, .rd .mov [.tmp 151]⟩,
             ⟨some 153, some (152, false), .rd .mov [.tmp 14]⟩,
             ⟨some 154, some (152, false), .rd (.load (some 1)) [.tmp 7]⟩,
             ⟨some 155, some (152, false), .rd .mov [.tmp 11]⟩,
             ⟨some 156, some (152, false), .rd (.bin .add) [.tmp 155, .pv (.str [46])]⟩,
             ⟨some 157, some (152, false), .rd .mov [.tmp 2]⟩,
             ⟨some 158, some (152, false), .call (.pv (.fn 38 [] [])) [.tmp 154, .tmp 156, .tmp 157]⟩,
             ⟨some 159, some (152, false), .rd .lenL [.tmp 158]⟩,
             ⟨some 160, some (152, false), .rd (.bin .gtr) [.tmp 159, .pv (.int .i64 0)]⟩,
             ⟨some 161, some (152, false), .rd (.eqB true) [.tmp 153, .tmp 160]⟩,
             ⟨some 162, none, .rd .pick [.tmp 152, .pv (.bool true), .tmp 161]⟩] L12)
          (.cond (.tmp 162)
           (.seq (.region false [⟨some 6, none, .rd .mov [.pv (.bool false)]⟩] L12)
            (.ret))
           (.skip)))))))))
       (.region false [⟨some 41, none, .rd .mov [.tmp 10]⟩,
         ⟨some 42, none, .rd (.bin .add) [.tmp 41, .pv (.int .i64 1)]⟩,
         ⟨some 10, none, .rd .mov [.tmp 42]⟩] L12))))))
  (.seq (.region false [⟨some 6, none, .rd .mov [.pv (.bool true)]⟩] L12)
  (.ret)))))))),
  [.tmp 6]⟩
theorem k12 : compileF Try.prog [999999, 888888] L12 Try.f12 = some c12 := by kernel_rfl
end Go.Proofs.Ytjcoenideicmbaa

