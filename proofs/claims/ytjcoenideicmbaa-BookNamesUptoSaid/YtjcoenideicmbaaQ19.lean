import Derived.Test.YtjcoenideicmbaaProg
import Derived.KernelRfl
import Derived.Test.YtjcoenideicmbaaP3
import Derived.Test.YtjcoenideicmbaaQ18
import Derived.Test.YtjcoenideicmbaaQ17
namespace Go.Proofs.Ytjcoenideicmbaa
open PG Go.Proofs
-- wagebook/wagebooklaw11.BookRight
end Go.Proofs.Ytjcoenideicmbaa

namespace Go.Proofs.Ytjcoenideicmbaa
open Go PG Go.Proofs
set_option linter.unusedSimpArgs false
set_option linter.unusedVariables false
set_option maxHeartbeats 4000000
set_option maxRecDepth 100000
theorem sh_codes {l : List Kn} (h : shM l = true) : l.length ≤ 40 ∧ ∀ k ∈ l, k.code.length ≤ 300 ∧ k.text.length ≤ 300 := by
  unfold shM at h
  simp only [Bool.and_eq_true, decide_eq_true_eq] at h
  refine ⟨h.2, fun k hk => ?_⟩
  rw [List.take_of_length_le h.2] at h
  have := List.all_eq_true.1 h.1 k hk
  simp only [shrB, Bool.and_eq_true, decide_eq_true_eq] at this
  exact this
end Go.Proofs.Ytjcoenideicmbaa

namespace Go.Proofs.Ytjcoenideicmbaa
open Go PG Go.Proofs
set_option linter.unusedSimpArgs false
set_option linter.unusedVariables false
end Go.Proofs.Ytjcoenideicmbaa

namespace Go.Proofs.Ytjcoenideicmbaa
open Go PG Go.Proofs
set_option linter.unusedSimpArgs false
set_option linter.unusedVariables false
/-! BookNames -/
theorem nms_in (l : List Kn) (d : Int) (j : Nat) (h : j < (nmsM l d).length) : (bestK d (fil (nmsM l d)[j] l)).isSome = true :=
  ((nms_spec l d).2 _).1 (List.getElem_mem h)
theorem str_at {L : List (List UInt8)} (h : Str L) (i j : Nat) (hij : i < j) (hj : j < L.length) : Op.bytesLess L[i] L[j] = true :=
  (bl_iff _ _).2 (List.pairwise_iff_getElem.1 h i j (by omega) hj hij)
theorem ok_mem (l : List Kn) (d : Int) (nm : List UInt8) : (bestK d (fil nm l)).isSome = decide (nm ∈ nmsM l d) := by
  rw [Bool.eq_iff_iff, decide_eq_true_eq, (nms_spec l d).2 nm]; rfl
/-- A text stands ahead of the end, or of a point. -/
def condB (h x : List UInt8) : Bool := decide (h.length ≤ x.length) && (decide (x.take h.length = h) && (decide (x.length = h.length) || decide (((x.getD h.length 0).toNat : Int) = 46)))
theorem getD_at (x : List UInt8) (n : Nat) (h : n < x.length) : x.getD n 0 = x[n] := by simp [List.getD, h]
theorem cond_part (s : List UInt8) : condB (partM s) s = true := by
  unfold condB
  have h1 := partM_le s
  rw [decide_eq_true h1, decide_eq_true (partM_take s), Bool.true_and, Bool.true_and, Bool.or_eq_true, decide_eq_true_eq, decide_eq_true_eq]
  rcases Nat.lt_or_ge (partM s).length s.length with h | h
  · right
    rw [getD_at s _ h, partM_end s h]; rfl
  · left; omega
theorem tw_all (p : UInt8 → Bool) : ∀ (s : List UInt8) (c : UInt8), c ∈ s.takeWhile p → p c = true
  | [], c, h => by cases h
  | x :: s, c, h => by
    rw [List.takeWhile_cons] at h
    by_cases hx : p x = true
    · rw [if_pos hx] at h
      rcases List.mem_cons.1 h with rfl | h
      · exact hx
      · exact tw_all p s c h
    · rw [if_neg hx] at h; cases h
theorem und_cond {l : List Kn} {d : Int} {p h : List UInt8} (hm : h ∈ undM l p d) : h ≠ [] ∧ (∀ c ∈ h, c ≠ 46) ∧ ∃ x ∈ nmsM l d, condB (p ++ h) x = true := by
  obtain ⟨s, h1, h2⟩ := ((undM_spec l p d).2 h).1 hm
  unfold undF at h2
  split at h2
  · rename_i hp
    split at h2
    · cases h2
    · rename_i hne
      cases h2
      refine ⟨hne, fun c hc => ?_, s, ((nms_spec l d).2 s).2 h1, ?_⟩
      · have := tw_all (fun c => decide (c ≠ 46)) _ _ hc
        simpa using this
      · have hp' : s.take p.length = p := by simpa [hasP] using hp
        have hs : s = p ++ s.drop p.length := by
          conv => lhs; rw [← List.take_append_drop p.length s, hp']
        have hc := cond_part (s.drop p.length)
        generalize s.drop p.length = t at hs hc
        subst hs
        unfold condB at hc ⊢
        simp only [Bool.and_eq_true, Bool.or_eq_true, decide_eq_true_eq] at hc ⊢
        obtain ⟨c1, c2, c3⟩ := hc
        refine ⟨by simp; exact c1, ?_, ?_⟩
        · rw [List.length_append, List.take_append]
          simp only [List.take_of_length_le (show p.length ≤ p.length + (partM t).length by omega), Nat.add_sub_cancel_left]
          rw [c2]
        · rcases c3 with c3 | c3
          · left; simp; omega
          · right
            rw [← c3]
            congr 2
            simp [List.getD, List.getElem?_append_right]
  · cases h2
def fndN (h : List UInt8) (names : List (List UInt8)) (k : Nat) : Bool := (names.take k).any (condB h)
theorem fndN_succ (h : List UInt8) (names : List (List UInt8)) (k : Nat) (hk : k < names.length) : fndN h names (k + 1) = (fndN h names k || condB h names[k]) := by
  unfold fndN; rw [List.take_succ_eq_append_getElem hk, List.any_append]; simp
theorem fnd_all {l : List Kn} {d : Int} {p h : List UInt8} (hm : h ∈ undM l p d) : fndN (p ++ h) (nmsM l d) (nmsM l d).length = true := by
  unfold fndN
  rw [List.take_length, List.any_eq_true]
  exact (und_cond hm).2.2
def hasN (nm : List UInt8) (names : List (List UInt8)) (k : Nat) : Bool := (names.take k).any fun x => decide (x = nm)
theorem hasN_succ (nm : List UInt8) (names : List (List UInt8)) (k : Nat) (hk : k < names.length) : hasN nm names (k + 1) = (hasN nm names k || decide (names[k] = nm)) := by
  unfold hasN; rw [List.take_succ_eq_append_getElem hk, List.any_append]; simp
theorem has_all (l : List Kn) (d : Int) (nm : List UInt8) : hasN nm (nmsM l d) (nmsM l d).length = (bestK d (fil nm l)).isSome := by
  unfold hasN
  rw [ok_mem, List.take_length, Bool.eq_iff_iff, List.any_eq_true, decide_eq_true_eq]
  constructor
  · rintro ⟨x, h1, h2⟩; simp at h2; subst h2; exact h1
  · intro h; exact ⟨nm, h, by simp⟩
end Go.Proofs.Ytjcoenideicmbaa

namespace Go.Proofs.Ytjcoenideicmbaa
open PG Go.Proofs
-- wagebook/wagebooklaw11.BookNames
def L10 : List Nat := [0, 1, 2, 6, 7, 8, 9, 10, 12, 14, 15, 16, 17, 18, 19, 21, 30, 39, 69, 92, 98, 171]
def c10 : CF := ⟨175,
  .seq (.region false [⟨some 6, none, .rd .mov [.pv (.bool false)]⟩] L10)
  (.seq (.seq (.region false [⟨some 20, none, .call (.pv (.fn 32 [] [])) []⟩,
      ⟨some 21, none, .rd (.un .not) [.tmp 20]⟩] L10)
   (.cond (.tmp 21)
    (.seq (.region false [⟨some 6, none, .rd .mov [.pv (.bool false)]⟩] L10)
     (.ret))
    (.skip)))
  (.seq (.seq (.region false [⟨some 22, none, .rd .mov [.tmp 0]⟩,
      ⟨some 23, none, .call (.pv (.fn 34 [] [])) [.tmp 22]⟩,
      ⟨some 24, none, .call (.pv (.fn 33 [] [])) [.tmp 23]⟩,
      ⟨some 25, none, .rd (.un .not) [.tmp 24]⟩,
      ⟨some 26, none, .rd .mov [.tmp 25]⟩,
      ⟨some 27, some (26, false), .rd .mov [.tmp 1]⟩,
      ⟨some 28, some (26, false), .rd .lenS [.tmp 27]⟩,
      ⟨some 29, some (26, false), .rd (.bin .gtr) [.tmp 28, .pv (.int .i64 300)]⟩,
      ⟨some 30, none, .rd .pick [.tmp 26, .pv (.bool true), .tmp 29]⟩] L10)
   (.cond (.tmp 30)
    (.seq (.region false [⟨some 6, none, .rd .mov [.pv (.bool true)]⟩] L10)
     (.ret))
    (.skip)))
  (.seq (.region false [⟨some 31, none, .rd .mov [.tmp 0]⟩,
     ⟨some 32, none, .call (.pv (.fn 35 [] [])) [.tmp 31]⟩,
     ⟨some 7, none, .eff (.alloc (some 1) (.agg [.nilMap])) []⟩,
     ⟨none, none, .eff (.store (some 1)) [.tmp 7, .tmp 32]⟩] L10)
  (.seq (.region false [⟨some 33, none, .rd (.load (some 1)) [.tmp 7]⟩,
     ⟨some 34, none, .rd .mov [.tmp 2]⟩,
     ⟨some 35, none, .call (.pv (.fn 36 [] [])) [.tmp 33, .tmp 34]⟩,
     ⟨some 8, none, .rd .mov [.tmp 35]⟩] L10)
  (.seq (.region false [⟨some 9, none, .rd .mov [.pv (.bool false)]⟩] L10)
  (.seq (.seq (.region false [⟨some 10, none, .rd .mov [.pv (.int .i64 0)]⟩] L10)
   (.block 0
    (.loop
      (.seq (.seq (.region false [⟨some 36, none, .rd .mov [.tmp 10]⟩,
           ⟨some 37, none, .rd .mov [.tmp 8]⟩,
           ⟨some 38, none, .rd .lenL [.tmp 37]⟩,
           ⟨some 39, none, .rd (.bin .lss) [.tmp 36, .tmp 38]⟩] L10)
        (.cond (.tmp 39)
         (.skip)
         (.exit 0)))
       (.seq (.block 1
         (.seq (.regionA (.alt [⟨some 44, none, .rd .mov [.tmp 8]⟩,
              ⟨some 45, none, .rd .mov [.tmp 10]⟩,
              ⟨some 46, none, .rd (.idxAddr none) [.tmp 44, .tmp 45]⟩,
              ⟨some 47, none, .rd .loadC [.tmp 46]⟩,
              ⟨some 48, none, .rd .mov [.tmp 2]⟩,
              ⟨some 43, none, .rd (.load (some 1)) [.tmp 7]⟩,
              ⟨some 49, none, .call (.pv (.fn 37 [] [])) [.tmp 43, .tmp 47, .tmp 48]⟩,
              ⟨some 42, none, .rd .mov [.tmp 49]⟩,
              ⟨some 50, none, .rd (.ext 0) [.tmp 42]⟩,
              ⟨some 51, none, .rd (.ext 1) [.tmp 42]⟩,
              ⟨some 11, none, .rd .mov [.tmp 50]⟩,
              ⟨some 12, none, .rd .mov [.tmp 51]⟩]
             .done
             .stop) L10)
          (.seq (.seq (.regionA (.alt [⟨some 52, none, .rd .mov [.tmp 12]⟩,
               ⟨some 53, none, .rd (.un .not) [.tmp 52]⟩,
               ⟨some 54, none, .rd .mov [.tmp 53]⟩,
               ⟨some 55, some (54, false), .rd .mov [.tmp 10]⟩,
               ⟨some 56, some (54, false), .rd (.bin .gtr) [.tmp 55, .pv (.int .i64 0)]⟩,
               ⟨some 57, some (54, false), .rd .mov [.tmp 56]⟩,
               ⟨some 58, some (57, true), .rd .mov [.tmp 8]⟩,
               ⟨some 59, some (57, true), .rd .mov [.tmp 10]⟩,
               ⟨some 60, some (57, true), .rd (.bin .sub) [.tmp 59, .pv (.int .i64 1)]⟩,
               ⟨some 61, some (57, true), .rd (.idxAddr none) [.tmp 58, .tmp 60]⟩,
               ⟨some 63, some (57, true), .rd .mov [.tmp 8]⟩,
               ⟨some 64, some (57, true), .rd .mov [.tmp 10]⟩,
               ⟨some 65, some (57, true), .rd (.idxAddr none) [.tmp 63, .tmp 64]⟩]
              (.alt [⟨some 62, some (57, true), .rd (.load none) [.tmp 61]⟩,
                ⟨some 66, some (57, true), .rd (.load none) [.tmp 65]⟩,
                ⟨some 67, some (57, true), .rd (.bin .geq) [.tmp 62, .tmp 66]⟩,
                ⟨some 68, some (54, false), .rd .pick [.tmp 57, .tmp 67, .pv (.bool false)]⟩,
                ⟨some 69, none, .rd .pick [.tmp 54, .pv (.bool true), .tmp 68]⟩]
               .done
               (.alt [⟨some 66, some (57, true), .rd (.load none) [.tmp 65]⟩,
                 ⟨some 62, some (57, true), .rd (.load none) [.tmp 61]⟩,
                 ⟨some 67, some (57, true), .rd (.bin .geq) [.tmp 62, .tmp 66]⟩,
                 ⟨some 68, some (54, false), .rd .pick [.tmp 57, .tmp 67, .pv (.bool false)]⟩,
                 ⟨some 69, none, .rd .pick [.tmp 54, .pv (.bool true), .tmp 68]⟩]
                .done
                .stop))
              .stop) L10)
           (.cond (.tmp 69)
            (.seq (.region false [⟨some 6, none, .rd .mov [.pv (.bool false)]⟩] L10)
             (.ret))
            (.skip)))
          (.region false [⟨some 70, none, .rd .mov [.tmp 9]⟩,
            ⟨some 71, none, .rd .mov [.tmp 70]⟩,
            ⟨some 72, some (71, false), .rd .mov [.tmp 8]⟩,
            ⟨some 73, some (71, false), .rd .mov [.tmp 10]⟩,
            ⟨some 74, some (71, false), .rd (.idxAddr none) [.tmp 72, .tmp 73]⟩,
            ⟨some 75, some (71, false), .rd (.load none) [.tmp 74]⟩,
            ⟨some 76, some (71, false), .rd .mov [.tmp 1]⟩,
            ⟨some 77, some (71, false), .rd (.bin .eql) [.tmp 75, .tmp 76]⟩,
            ⟨some 78, none, .rd .pick [.tmp 71, .pv (.bool true), .tmp 77]⟩,
            ⟨some 9, none, .rd .mov [.tmp 78]⟩] L10))))
       (.region false [⟨some 40, none, .rd .mov [.tmp 10]⟩,
         ⟨some 41, none, .rd (.bin .add) [.tmp 40, .pv (.int .i64 1)]⟩,
         ⟨some 10, none, .rd .mov [.tmp 41]⟩] L10))))))
  (.seq (.region false [⟨some 80, none, .rd (.load (some 1)) [.tmp 7]⟩,
     ⟨some 81, none, .rd .mov [.tmp 1]⟩,
     ⟨some 82, none, .rd .mov [.tmp 2]⟩,
     ⟨some 83, none, .call (.pv (.fn 37 [] [])) [.tmp 80, .tmp 81, .tmp 82]⟩,
     ⟨some 79, none, .rd .mov [.tmp 83]⟩,
     ⟨some 84, none, .rd (.ext 0) [.tmp 79]⟩,
     ⟨some 85, none, .rd (.ext 1) [.tmp 79]⟩,
     ⟨some 13, none, .rd .mov [.tmp 84]⟩,
     ⟨some 14, none, .rd .mov [.tmp 85]⟩] L10)
  (.seq (.region false [⟨some 86, none, .rd (.load (some 1)) [.tmp 7]⟩,
     ⟨some 87, none, .rd .mov [.tmp 2]⟩,
     ⟨some 88, none, .call (.pv (.fn 38 [] [])) [.tmp 86, .pv (.str []), .tmp 87]⟩,
     ⟨some 15, none, .rd .mov [.tmp 88]⟩] L10)
  (.seq (.seq (.region false [⟨some 16, none, .rd .mov [.pv (.int .i64 0)]⟩] L10)
   (.block 2
    (.loop
      (.seq (.seq (.region false [⟨some 89, none, .rd .mov [.tmp 16]⟩,
           ⟨some 90, none, .rd .mov [.tmp 15]⟩,
           ⟨some 91, none, .rd .lenL [.tmp 90]⟩,
           ⟨some 92, none, .rd (.bin .lss) [.tmp 89, .tmp 91]⟩] L10)
        (.cond (.tmp 92)
         (.skip)
         (.exit 2)))
       (.seq (.block 3
         (.seq (.region false [⟨some 17, none, .rd .mov [.pv (.bool false)]⟩] L10)
          (.seq (.seq (.region false [⟨some 18, none, .rd .mov [.pv (.int .i64 0)]⟩] L10)
           (.block 4
            (.loop
              (.seq (.seq (.region false [⟨some 95, none, .rd .mov [.tmp 18]⟩,
                   ⟨some 96, none, .rd .mov [.tmp 8]⟩,
                   ⟨some 97, none, .rd .lenL [.tmp 96]⟩,
                   ⟨some 98, none, .rd (.bin .lss) [.tmp 95, .tmp 97]⟩] L10)
                (.cond (.tmp 98)
                 (.skip)
                 (.exit 4)))
               (.seq (.block 5
                 (.seq (.region false [⟨some 101, none, .rd .mov [.tmp 15]⟩,
                     ⟨some 102, none, .rd .mov [.tmp 16]⟩,
                     ⟨some 103, none, .rd (.idxAddr none) [.tmp 101, .tmp 102]⟩,
                     ⟨some 104, none, .rd (.load none) [.tmp 103]⟩,
                     ⟨some 105, none, .rd .lenS [.tmp 104]⟩,
                     ⟨some 19, none, .rd .mov [.tmp 105]⟩] L10)
                  (.regionA (.alt [⟨some 106, none, .rd .mov [.tmp 17]⟩,
                     ⟨some 107, none, .rd .mov [.tmp 106]⟩,
                     ⟨some 108, some (107, false), .rd .mov [.tmp 8]⟩,
                     ⟨some 109, some (107, false), .rd .mov [.tmp 18]⟩,
                     ⟨some 110, some (107, false), .rd (.idxAddr none) [.tmp 108, .tmp 109]⟩,
                     ⟨some 113, some (107, false), .rd .mov [.tmp 19]⟩,
                     ⟨some 111, some (107, false), .rd (.load none) [.tmp 110]⟩,
                     ⟨some 112, some (107, false), .rd .lenS [.tmp 111]⟩,
                     ⟨some 114, some (107, false), .rd (.bin .geq) [.tmp 112, .tmp 113]⟩,
                     ⟨some 115, some (107, false), .rd .mov [.tmp 114]⟩,
                     ⟨some 116, some (115, true), .rd .mov [.tmp 8]⟩,
                     ⟨some 117, some (115, true), .rd .mov [.tmp 18]⟩,
                     ⟨some 118, some (115, true), .rd (.idxAddr none) [.tmp 116, .tmp 117]⟩,
                     ⟨some 120, some (115, true), .rd .mov [.tmp 19]⟩,
                     ⟨some 122, some (115, true), .rd .mov [.tmp 15]⟩,
                     ⟨some 123, some (115, true), .rd .mov [.tmp 16]⟩,
                     ⟨some 124, some (115, true), .rd (.idxAddr none) [.tmp 122, .tmp 123]⟩]
                    (.alt [⟨some 119, some (115, true), .rd (.load none) [.tmp 118]⟩,
                      ⟨some 121, some (115, true), .rd (.slcS false true) [.tmp 119, .tmp 120]⟩,
                      ⟨some 125, some (115, true), .rd (.load none) [.tmp 124]⟩,
                      ⟨some 126, some (115, true), .rd (.bin .eql) [.tmp 121, .tmp 125]⟩,
                      ⟨some 127, some (107, false), .rd .pick [.tmp 115, .tmp 126, .pv (.bool false)]⟩,
                      ⟨some 128, some (107, false), .rd .mov [.tmp 127]⟩,
                      ⟨some 129, some (128, true), .rd .mov [.tmp 8]⟩,
                      ⟨some 130, some (128, true), .rd .mov [.tmp 18]⟩,
                      ⟨some 131, some (128, true), .rd (.idxAddr none) [.tmp 129, .tmp 130]⟩,
                      ⟨some 134, some (128, true), .rd .mov [.tmp 19]⟩,
                      ⟨some 132, some (128, true), .rd (.load none) [.tmp 131]⟩,
                      ⟨some 133, some (128, true), .rd .lenS [.tmp 132]⟩,
                      ⟨some 135, some (128, true), .rd (.bin .eql) [.tmp 133, .tmp 134]⟩,
                      ⟨some 136, some (128, true), .rd .mov [.tmp 135]⟩,
                      ⟨some 137, some (136, false), .rd .mov [.tmp 8]⟩,
                      ⟨some 138, some (136, false), .rd .mov [.tmp 18]⟩,
                      ⟨some 139, some (136, false), .rd (.idxAddr none) [.tmp 137, .tmp 138]⟩,
                      ⟨some 141, some (136, false), .rd .mov [.tmp 19]⟩,
                      ⟨some 140, some (136, false), .rd (.load none) [.tmp 139]⟩,
                      ⟨some 142, some (136, false), .rd .idxS [.tmp 140, .tmp 141]⟩,
                      ⟨some 143, some (136, false), .rd (.bin .eql) [.tmp 142, .pv (.int .u8 46)]⟩,
                      ⟨some 144, some (128, true), .rd .pick [.tmp 136, .pv (.bool true), .tmp 143]⟩,
                      ⟨some 145, some (107, false), .rd .pick [.tmp 128, .tmp 144, .pv (.bool false)]⟩,
                      ⟨some 146, none, .rd .pick [.tmp 107, .pv (.bool true), .tmp 145]⟩,
                      ⟨some 17, none, .rd .mov [.tmp 146]⟩]
                     .done
                     (.alt [⟨some 125, some (115, true), .rd (.load none) [.tmp 124]⟩,
                       ⟨some 119, some (115, true), .rd (.load none) [.tmp 118]⟩,
                       ⟨some 121, some (115, true), .rd (.slcS false true) [.tmp 119, .tmp 120]⟩,
                       ⟨some 126, some (115, true), .rd (.bin .eql) [.tmp 121, .tmp 125]⟩,
                       ⟨some 127, some (107, false), .rd .pick [.tmp 115, .tmp 126, .pv (.bool false)]⟩,
                       ⟨some 128, some (107, false), .rd .mov [.tmp 127]⟩,
                       ⟨some 129, some (128, true), .rd .mov [.tmp 8]⟩,
                       ⟨some 130, some (128, true), .rd .mov [.tmp 18]⟩,
                       ⟨some 131, some (128, true), .rd (.idxAddr none) [.tmp 129, .tmp 130]⟩,
                       ⟨some 134, some (128, true), .rd .mov [.tmp 19]⟩,
                       ⟨some 132, some (128, true), .rd (.load none) [.tmp 131]⟩,
                       ⟨some 133, some (128, true), .rd .lenS [.tmp 132]⟩,
                       ⟨some 135, some (128, true), .rd (.bin .eql) [.tmp 133, .tmp 134]⟩,
                       ⟨some 136, some (128, true), .rd .mov [.tmp 135]⟩,
                       ⟨some 137, some (136, false), .rd .mov [.tmp 8]⟩,
                       ⟨some 138, some (136, false), .rd .mov [.tmp 18]⟩,
                       ⟨some 139, some (136, false), .rd (.idxAddr none) [.tmp 137, .tmp 138]⟩,
                       ⟨some 141, some (136, false), .rd .mov [.tmp 19]⟩,
                       ⟨some 140, some (136, false), .rd (.load none) [.tmp 139]⟩,
                       ⟨some 142, some (136, false), .rd .idxS [.tmp 140, .tmp 141]⟩,
                       ⟨some 143, some (136, false), .rd (.bin .eql) [.tmp 142, .pv (.int .u8 46)]⟩,
                       ⟨some 144, some (128, true), .rd .pick [.tmp 136, .pv (.bool true), .tmp 143]⟩,
                       ⟨some 145, some (107, false), .rd .pick [.tmp 128, .tmp 144, .pv (.bool false)]⟩,
                       ⟨some 146, none, .rd .pick [.tmp 107, .pv (.bool true), .tmp 145]⟩,
                       ⟨some 17, none, .rd .mov [.tmp 146]⟩]
                      .done
                      .stop))
                    .stop) L10)))
               (.region false [⟨some 99, none, .rd .mov [.tmp 18]⟩,
                 ⟨some 100, none, .rd (.bin .add) [.tmp 99, .pv (.int .i64 1)]⟩,
                 ⟨some 18, none, .rd .mov [.tmp 100]⟩] L10))))))
          (.seq (.regionA (.alt [⟨some 147, none, .rd .mov [.tmp 17]⟩,
              ⟨some 148, none, .rd (.un .not) [.tmp 147]⟩,
              ⟨some 149, none, .rd .mov [.tmp 148]⟩,
              ⟨some 150, some (149, false), .rd .mov [.tmp 15]⟩,
              ⟨some 151, some (149, false), .rd .mov [.tmp 16]⟩,
              ⟨some 152, some (149, false), .rd (.idxAddr none) [.tmp 150, .tmp 151]⟩,
              ⟨some 153, some (149, false), .rd (.load none) [.tmp 152]⟩,
              ⟨some 154, some (149, false), .rd (.bin .eql) [.tmp 153, .pv (.str [])]⟩,
              ⟨some 155, none, .rd .pick [.tmp 149, .pv (.bool true), .tmp 154]⟩,
              ⟨some 156, none, .rd .mov [.tmp 155]⟩,
              ⟨some 157, some (156, false), .rd .mov [.tmp 16]⟩,
              ⟨some 158, some (156, false), .rd (.bin .gtr) [.tmp 157, .pv (.int .i64 0)]⟩,
              ⟨some 159, some (156, false), .rd .mov [.tmp 158]⟩,
              ⟨some 160, some (159, true), .rd .mov [.tmp 15]⟩,
              ⟨some 161, some (159, true), .rd .mov [.tmp 16]⟩,
              ⟨some 162, some (159, true), .rd (.bin .sub) [.tmp 161, .pv (.int .i64 1)]⟩,
              ⟨some 163, some (159, true), .rd (.idxAddr none) [.tmp 160, .tmp 162]⟩,
              ⟨some 165, some (159, true), .rd .mov [.tmp 15]⟩,
              ⟨some 166, some (159, true), .rd .mov [.tmp 16]⟩,
              ⟨some 167, some (159, true), .rd (.idxAddr none) [.tmp 165, .tmp 166]⟩]
             (.alt [⟨some 164, some (159, true), .rd (.load none) [.tmp 163]⟩,
               ⟨some 168, some (159, true), .rd (.load none) [.tmp 167]⟩,
               ⟨some 169, some (159, true), .rd (.bin .geq) [.tmp 164, .tmp 168]⟩,
               ⟨some 170, some (156, false), .rd .pick [.tmp 159, .tmp 169, .pv (.bool false)]⟩,
               ⟨some 171, none, .rd .pick [.tmp 156, .pv (.bool true), .tmp 170]⟩]
              .done
              (.alt [⟨some 168, some (159, true), .rd (.load none) [.tmp 167]⟩,
                ⟨some 164, some (159, true), .rd (.load none) [.tmp 163]⟩,
                ⟨some 169, some (159, true), .rd (.bin .geq) [.tmp 164, .tmp 168]⟩,
                ⟨some 170, some (156, false), .rd .pick [.tmp 159, .tmp 169, .pv (.bool false)]⟩,
                ⟨some 171, none, .rd .pick [.tmp 156, .pv (.bool true), .tmp 170]⟩]
               .done
               .stop))
             .stop) L10)
          (.cond (.tmp 171)
           (.seq (.region false [⟨some 6, none, .rd .mov [.pv (.bool false)]⟩] L10)
            (.ret))
           (.skip))))))
       (.region false [⟨some 93, none, .rd .mov [.tmp 16]⟩,
         ⟨some 94, none, .rd (.bin .add) [.tmp 93, .pv (.int .i64 1)]⟩,
         ⟨some 16, none, .rd .mov [.tmp 94]⟩] L10))))))
  (.seq (.region false [⟨some 172, none, .rd .mov [.tmp 14]⟩,
     ⟨some 173, none, .rd .mov [.tmp 9]⟩,
     ⟨some 174, none, .rd (.eqB false) [.tmp 172, .tmp 173]⟩,
     ⟨some 6, none, .rd .mov [.tmp 174]⟩] L10)
  (.ret))))))))))),
  [.tmp 6]⟩
theorem k10 : compileF Try.prog [999999, 888888] L10 Try.f10 = some c10 := by kernel_rfl
end Go.Proofs.Ytjcoenideicmbaa

