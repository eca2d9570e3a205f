/-
  OrderRing: the least ring of any edges is what the document says. Condition: what is read is of bulk at most 1048576 (the second form).
-/
import Derived.Test.YtdiokmmjdpbdbaaP1
import Derived.Test.YtdiokmmjdpbdbaaP2
import Derived.Test.YtdiokmmjdpbdbaaP3
import Derived.Test.YtdiokmmjdpbdbaaP4
import Derived.Test.YtdiokmmjdpbdbaaQ10
import Derived.Test.YtdiokmmjdpbdbaaQ11
import Derived.Test.YtdiokmmjdpbdbaaQ12
import Derived.Test.YtdiokmmjdpbdbaaQ13
import Derived.Test.YtdiokmmjdpbdbaaQ14
import Derived.Test.YtdiokmmjdpbdbaaQ15
import Derived.Test.YtdiokmmjdpbdbaaQ16
import Derived.Test.YtdiokmmjdpbdbaaQ17
import Derived.Test.YtdiokmmjdpbdbaaQ18
import Derived.Test.YtdiokmmjdpbdbaaQ20
import Derived.Test.YtdiokmmjdpbdbaaQ5
import Derived.Test.YtdiokmmjdpbdbaaQ6
import Derived.Test.YtdiokmmjdpbdbaaQ7
import Derived.Test.YtdiokmmjdpbdbaaQ8
import Derived.Test.YtdiokmmjdpbdbaaQ9
import Derived.Test.YtdiokmmjdpbdbaaRows
namespace Go.Proofs.Ytdiokmmjdpbdbaa
open Go PG Go.Proofs
set_option linter.unusedSimpArgs false
set_option linter.unusedVariables false
set_option linter.unusedSectionVars false
set_option maxHeartbeats 4000000
set_option maxRecDepth 100000
theorem exists_min : ∀ (L : List St), L ≠ [] → ∃ m ∈ L, ∀ y ∈ L, ¬ y < m
  | [], h => absurd rfl h
  | [x], _ => ⟨x, by simp, fun y hy => by simp at hy; subst hy; exact lt_irr _⟩
  | x :: y :: L, _ => by
    obtain ⟨m, hm, hl⟩ := exists_min (y :: L) (by simp)
    by_cases h : x < m
    · refine ⟨x, by simp, fun z hz => ?_⟩
      rcases List.mem_cons.1 hz with rfl | hz
      · exact lt_irr _
      · exact fun hzx => hl z hz (lt_tr hzx h)
    · refine ⟨m, by simp only [List.mem_cons] at hm ⊢; exact .inr hm, fun z hz => ?_⟩
      rcases List.mem_cons.1 hz with rfl | hz
      · exact h
      · exact hl z hz
theorem least_nat {P : Nat → Prop} (h : ∃ n, P n) : ∃ n, P n ∧ ∀ k, k < n → ¬ P k := by
  obtain ⟨n, hn⟩ := h
  induction n using Nat.strongRecOn with
  | _ n ih =>
    by_cases hk : ∃ k, k < n ∧ P k
    · obtain ⟨k, hk, hp⟩ := hk; exact ih k hk hp
    · exact ⟨n, hn, fun k hk' hp => hk ⟨k, hk', hp⟩⟩
section
variable (N : List St) (nd : St → List St)
variable {N nd}
theorem far_compl {to : St} {k : Nat} {s : St} (h : Rw N nd to k s) : ∀ n, k ≤ n → 0 < farD N nd to n s ∧ farD N nd to n s ≤ k := by
  induction h with
  | one s h hl hx =>
    intro n hn
    have h1 : farD N nd to 1 s = 1 := by
      unfold farD
      rw [if_pos ⟨h, farC_iff.2 ⟨⟨rfl, hl⟩, to, hx, .inl ⟨rfl, rfl⟩⟩⟩]
    have := far_mono' (n := 1) (s := s) (by rw [h1]; omega) n hn
    rw [this, h1]; omega
  | more k s x h hl hx hge hne hr ih =>
    intro n hn
    obtain ⟨h1, h2⟩ := ih (k + 1) (Nat.le_refl _)
    obtain ⟨j, hj⟩ : ∃ j, farD N nd to (k + 1) x = j := ⟨_, rfl⟩
    rw [hj] at h1 h2
    have hjx := far_at hj h1
    have h3 : 0 < farD N nd to (j + 1) s ∧ farD N nd to (j + 1) s ≤ j + 1 := by
      refine ⟨?_, far_le _ _ _⟩
      rcases Nat.eq_zero_or_pos (farD N nd to j s) with h0 | h0
      · unfold farD
        rw [if_pos ⟨h, farC_iff.2 ⟨⟨h0, hl⟩, x, hx, .inr ⟨by omega, hge, hne, by rw [hjx]; omega⟩⟩⟩]; omega
      · rw [far_mono h0]; exact h0
    have := far_mono' h3.1 n (by omega)
    rw [this]; omega
end
def L34 : List Nat := [0, 1, 4, 5, 9, 20]
def c34 : CF := ⟨30,
  .seq (.region false [⟨some 4, none, .rd .mov [.pv (.bool false)]⟩] L34)
  (.seq (.seq (.region false [⟨some 5, none, .rd .mov [.pv (.int .i64 0)]⟩] L34)
   (.block 0
    (.loop
      (.seq (.seq (.region false [⟨some 6, none, .rd .mov [.tmp 5]⟩,
           ⟨some 7, none, .rd .mov [.tmp 0]⟩,
           ⟨some 8, none, .rd .lenL [.tmp 7]⟩,
           ⟨some 9, none, .rd (.bin .lss) [.tmp 6, .tmp 8]⟩] L34)
        (.cond (.tmp 9)
         (.skip)
         (.exit 0)))
       (.seq (.block 1
         (.seq (.region true [⟨some 12, none, .rd .mov [.tmp 0]⟩,
             ⟨some 13, none, .rd .mov [.tmp 5]⟩,
             ⟨some 14, none, .rd (.idxAddr none) [.tmp 12, .tmp 13]⟩,
             ⟨some 15, none, .rd (.load none) [.tmp 14]⟩,
             ⟨some 16, none, .rd .mov [.tmp 1]⟩,
             ⟨some 17, none, .rd .mov [.tmp 5]⟩,
             ⟨some 18, none, .rd (.idxAddr none) [.tmp 16, .tmp 17]⟩,
             ⟨some 19, none, .rd (.load none) [.tmp 18]⟩,
             ⟨some 20, none, .rd (.bin .neq) [.tmp 15, .tmp 19]⟩] L34)
          (.cond (.tmp 20)
           (.seq (.region true [⟨some 21, none, .rd .mov [.tmp 0]⟩,
               ⟨some 22, none, .rd .mov [.tmp 5]⟩,
               ⟨some 23, none, .rd (.idxAddr none) [.tmp 21, .tmp 22]⟩,
               ⟨some 24, none, .rd (.load none) [.tmp 23]⟩,
               ⟨some 25, none, .rd .mov [.tmp 1]⟩,
               ⟨some 26, none, .rd .mov [.tmp 5]⟩,
               ⟨some 27, none, .rd (.idxAddr none) [.tmp 25, .tmp 26]⟩,
               ⟨some 28, none, .rd (.load none) [.tmp 27]⟩,
               ⟨some 29, none, .rd (.bin .lss) [.tmp 24, .tmp 28]⟩,
               ⟨some 4, none, .rd .mov [.tmp 29]⟩] L34)
            (.ret))
           (.skip))))
       (.region false [⟨some 10, none, .rd .mov [.tmp 5]⟩,
         ⟨some 11, none, .rd (.bin .add) [.tmp 10, .pv (.int .i64 1)]⟩,
         ⟨some 5, none, .rd .mov [.tmp 11]⟩] L34))))))
  (.seq (.region false [⟨some 4, none, .rd .mov [.pv (.bool false)]⟩] L34)
  (.ret))),
  [.tmp 4]⟩

-- wagebook/wagebookref14.Place
theorem k34 : compileF Try.prog [] L34 Try.f34 = some c34 := by kernel_rfl
theorem e14 : Ent Try.prog 14 := ⟨Try.f14, Try.func14, by kernel_rfl, by kernel_rfl⟩
theorem e33 : Ent Try.prog 33 := ⟨Try.f33, Try.func33, by kernel_rfl, by kernel_rfl⟩
theorem e34 : Ent Try.prog 34 := ⟨Try.f34, Try.func34, by kernel_rfl, by kernel_rfl⟩
theorem e52 : Ent Try.prog 52 := ⟨Try.f52, Try.func52, by kernel_rfl, by kernel_rfl⟩
def L14 : List Nat := [0, 2, 3, 4, 5, 8, 12, 44]
def c14 : CF := ⟨47,
  .seq (.region false [⟨some 2, none, .rd .mov [.pv .nilSl]⟩] L14)
  (.seq (.seq (.region false [⟨some 6, none, .rd .mov [.tmp 0]⟩,
      ⟨some 7, none, .call (.pv (.fn 32 [] [])) [.tmp 6]⟩,
      ⟨some 8, none, .rd (.bin .neq) [.tmp 7, .pv (.int .i64 0)]⟩] L14)
   (.cond (.tmp 8)
    (.seq (.region false [⟨some 2, none, .rd .mov [.pv .nilSl]⟩] L14)
     (.ret))
    (.skip)))
  (.seq (.region false [⟨some 3, none, .rd .mov [.pv .nilSl]⟩] L14)
  (.seq (.seq (.region false [⟨some 4, none, .rd .mov [.pv (.int .i64 0)]⟩] L14)
   (.block 0
    (.loop
      (.seq (.seq (.region false [⟨some 9, none, .rd .mov [.tmp 4]⟩,
           ⟨some 10, none, .rd .mov [.tmp 0]⟩,
           ⟨some 11, none, .rd .lenL [.tmp 10]⟩,
           ⟨some 12, none, .rd (.bin .lss) [.tmp 9, .tmp 11]⟩] L14)
        (.cond (.tmp 12)
         (.skip)
         (.exit 0)))
       (.seq (.block 1
         (.seq (.region false [⟨some 15, none, .rd .mov [.tmp 0]⟩,
             ⟨some 16, none, .rd .mov [.tmp 4]⟩,
             ⟨some 17, none, .call (.pv (.fn 33 [] [])) [.tmp 15, .tmp 16]⟩,
             ⟨some 5, none, .rd .mov [.tmp 17]⟩] L14)
          (.seq (.region false [⟨some 18, none, .rd .mov [.tmp 5]⟩,
             ⟨some 19, none, .rd .lenL [.tmp 18]⟩,
             ⟨some 20, none, .rd (.bin .gtr) [.tmp 19, .pv (.int .i64 0)]⟩,
             ⟨some 21, none, .rd .mov [.tmp 20]⟩,
             ⟨some 22, some (21, true), .rd .mov [.tmp 3]⟩,
             ⟨some 23, some (21, true), .rd .lenL [.tmp 22]⟩,
             ⟨some 24, some (21, true), .rd (.bin .eql) [.tmp 23, .pv (.int .i64 0)]⟩,
             ⟨some 25, some (21, true), .rd .mov [.tmp 24]⟩,
             ⟨some 26, some (25, false), .rd .mov [.tmp 5]⟩,
             ⟨some 27, some (25, false), .rd .lenL [.tmp 26]⟩,
             ⟨some 28, some (25, false), .rd .mov [.tmp 3]⟩,
             ⟨some 29, some (25, false), .rd .lenL [.tmp 28]⟩,
             ⟨some 30, some (25, false), .rd (.bin .lss) [.tmp 27, .tmp 29]⟩,
             ⟨some 31, some (21, true), .rd .pick [.tmp 25, .pv (.bool true), .tmp 30]⟩,
             ⟨some 32, some (21, true), .rd .mov [.tmp 31]⟩,
             ⟨some 33, some (32, false), .rd .mov [.tmp 5]⟩,
             ⟨some 34, some (32, false), .rd .lenL [.tmp 33]⟩,
             ⟨some 35, some (32, false), .rd .mov [.tmp 3]⟩,
             ⟨some 36, some (32, false), .rd .lenL [.tmp 35]⟩,
             ⟨some 37, some (32, false), .rd (.bin .eql) [.tmp 34, .tmp 36]⟩,
             ⟨some 38, some (32, false), .rd .mov [.tmp 37]⟩,
             ⟨some 39, some (38, true), .rd .mov [.tmp 5]⟩,
             ⟨some 40, some (38, true), .rd .mov [.tmp 3]⟩,
             ⟨some 41, some (38, true), .call (.pv (.fn 34 [] [])) [.tmp 39, .tmp 40]⟩,
             ⟨some 42, some (32, false), .rd .pick [.tmp 38, .tmp 41, .pv (.bool false)]⟩,
             ⟨some 43, some (21, true), .rd .pick [.tmp 32, .pv (.bool true), .tmp 42]⟩,
             ⟨some 44, none, .rd .pick [.tmp 21, .tmp 43, .pv (.bool false)]⟩] L14)
          (.cond (.tmp 44)
           (.region false [⟨some 45, none, .rd .mov [.tmp 5]⟩,
              ⟨some 3, none, .rd .mov [.tmp 45]⟩] L14)
           (.skip)))))
       (.region false [⟨some 13, none, .rd .mov [.tmp 4]⟩,
         ⟨some 14, none, .rd (.bin .add) [.tmp 13, .pv (.int .i64 1)]⟩,
         ⟨some 4, none, .rd .mov [.tmp 14]⟩] L14))))))
  (.seq (.region false [⟨some 46, none, .rd .mov [.tmp 3]⟩,
     ⟨some 2, none, .rd .mov [.tmp 46]⟩] L14)
  (.ret))))),
  [.tmp 2]⟩

-- wagebook/wagebookref14.Below
def L33 : List Nat := [0, 1, 4, 5, 6, 7, 8, 9, 10, 11, 12, 13, 14, 25, 58, 64, 74, 84, 123]
def c33 : CF := ⟨135,
  .seq (.region false [⟨some 4, none, .rd .mov [.pv .nilSl]⟩] L33)
  (.seq (.region false [⟨some 15, none, .rd .mov [.tmp 0]⟩,
     ⟨some 16, none, .rd .mov [.tmp 1]⟩,
     ⟨some 17, none, .call (.pv (.fn 52 [] [])) [.tmp 15, .tmp 16]⟩,
     ⟨some 5, none, .rd .mov [.tmp 17]⟩] L33)
  (.seq (.region false [⟨some 6, none, .rd .mov [.pv (.int .i64 (-1))]⟩] L33)
  (.seq (.seq (.region false [⟨some 7, none, .rd .mov [.pv (.int .i64 0)]⟩] L33)
   (.block 0
    (.loop
      (.seq (.seq (.region false [⟨some 18, none, .rd .mov [.tmp 7]⟩,
           ⟨some 19, none, .rd .mov [.tmp 0]⟩,
           ⟨some 20, none, .rd .mov [.tmp 1]⟩,
           ⟨some 21, none, .rd (.idxAddr (some 2)) [.tmp 19, .tmp 20]⟩,
           ⟨some 22, none, .rd (.fldAddr 1) [.tmp 21]⟩,
           ⟨some 23, none, .rd (.load none) [.tmp 22]⟩,
           ⟨some 24, none, .rd .lenL [.tmp 23]⟩,
           ⟨some 25, none, .rd (.bin .lss) [.tmp 18, .tmp 24]⟩] L33)
        (.cond (.tmp 25)
         (.skip)
         (.exit 0)))
       (.seq (.block 1
         (.seq (.region false [⟨some 28, none, .rd .mov [.tmp 0]⟩,
             ⟨some 29, none, .rd .mov [.tmp 0]⟩,
             ⟨some 30, none, .rd .mov [.tmp 1]⟩,
             ⟨some 31, none, .rd (.idxAddr (some 2)) [.tmp 29, .tmp 30]⟩,
             ⟨some 32, none, .rd (.fldAddr 1) [.tmp 31]⟩,
             ⟨some 33, none, .rd (.load none) [.tmp 32]⟩,
             ⟨some 34, none, .rd .mov [.tmp 7]⟩,
             ⟨some 35, none, .rd (.idxAddr none) [.tmp 33, .tmp 34]⟩,
             ⟨some 36, none, .rd (.load none) [.tmp 35]⟩,
             ⟨some 37, none, .call (.pv (.fn 37 [] [])) [.tmp 28, .tmp 36]⟩,
             ⟨some 8, none, .rd .mov [.tmp 37]⟩] L33)
          (.seq (.region false [⟨some 38, none, .rd .mov [.tmp 8]⟩,
             ⟨some 39, none, .rd (.bin .geq) [.tmp 38, .pv (.int .i64 0)]⟩,
             ⟨some 40, none, .rd .mov [.tmp 39]⟩,
             ⟨some 41, some (40, true), .rd .mov [.tmp 5]⟩,
             ⟨some 42, some (40, true), .rd .mov [.tmp 8]⟩,
             ⟨some 43, some (40, true), .rd (.idxAddr none) [.tmp 41, .tmp 42]⟩,
             ⟨some 44, some (40, true), .rd (.load none) [.tmp 43]⟩,
             ⟨some 45, some (40, true), .rd (.bin .geq) [.tmp 44, .pv (.int .i64 0)]⟩,
             ⟨some 46, none, .rd .pick [.tmp 40, .tmp 45, .pv (.bool false)]⟩,
             ⟨some 47, none, .rd .mov [.tmp 46]⟩,
             ⟨some 48, some (47, true), .rd .mov [.tmp 6]⟩,
             ⟨some 49, some (47, true), .rd (.bin .lss) [.tmp 48, .pv (.int .i64 0)]⟩,
             ⟨some 50, some (47, true), .rd .mov [.tmp 49]⟩,
             ⟨some 51, some (50, false), .rd .mov [.tmp 5]⟩,
             ⟨some 52, some (50, false), .rd .mov [.tmp 8]⟩,
             ⟨some 53, some (50, false), .rd (.idxAddr none) [.tmp 51, .tmp 52]⟩,
             ⟨some 54, some (50, false), .rd (.load none) [.tmp 53]⟩,
             ⟨some 55, some (50, false), .rd .mov [.tmp 6]⟩,
             ⟨some 56, some (50, false), .rd (.bin .lss) [.tmp 54, .tmp 55]⟩,
             ⟨some 57, some (47, true), .rd .pick [.tmp 50, .pv (.bool true), .tmp 56]⟩,
             ⟨some 58, none, .rd .pick [.tmp 47, .tmp 57, .pv (.bool false)]⟩] L33)
          (.cond (.tmp 58)
           (.region false [⟨some 59, none, .rd .mov [.tmp 5]⟩,
              ⟨some 60, none, .rd .mov [.tmp 8]⟩,
              ⟨some 61, none, .rd (.idxAddr none) [.tmp 59, .tmp 60]⟩,
              ⟨some 62, none, .rd (.load none) [.tmp 61]⟩,
              ⟨some 6, none, .rd .mov [.tmp 62]⟩] L33)
           (.skip)))))
       (.region false [⟨some 26, none, .rd .mov [.tmp 7]⟩,
         ⟨some 27, none, .rd (.bin .add) [.tmp 26, .pv (.int .i64 1)]⟩,
         ⟨some 7, none, .rd .mov [.tmp 27]⟩] L33))))))
  (.seq (.seq (.region false [⟨some 63, none, .rd .mov [.tmp 6]⟩,
      ⟨some 64, none, .rd (.bin .lss) [.tmp 63, .pv (.int .i64 0)]⟩] L33)
   (.cond (.tmp 64)
    (.seq (.region false [⟨some 4, none, .rd .mov [.pv .nilSl]⟩] L33)
     (.ret))
    (.skip)))
  (.seq (.region false [⟨some 65, none, .rd .mov [.tmp 0]⟩,
     ⟨some 66, none, .rd .mov [.tmp 1]⟩,
     ⟨some 67, none, .rd (.idxAddr (some 2)) [.tmp 65, .tmp 66]⟩,
     ⟨some 68, none, .rd (.fldAddr 0) [.tmp 67]⟩,
     ⟨some 69, none, .rd (.load none) [.tmp 68]⟩,
     ⟨some 70, none, .eff (.lit none true) [.tmp 69]⟩,
     ⟨some 9, none, .rd .mov [.tmp 70]⟩] L33)
  (.seq (.region false [⟨some 71, none, .rd .mov [.tmp 1]⟩,
     ⟨some 10, none, .rd .mov [.tmp 71]⟩] L33)
  (.seq (.seq (.region false [⟨some 72, none, .rd .mov [.tmp 6]⟩,
      ⟨some 11, none, .rd .mov [.tmp 72]⟩] L33)
   (.block 2
    (.loop
      (.seq (.seq (.region false [⟨some 73, none, .rd .mov [.tmp 11]⟩,
           ⟨some 74, none, .rd (.bin .gtr) [.tmp 73, .pv (.int .i64 0)]⟩] L33)
        (.cond (.tmp 74)
         (.skip)
         (.exit 2)))
       (.seq (.block 3
         (.seq (.region false [⟨some 12, none, .rd .mov [.pv (.int .i64 (-1))]⟩] L33)
          (.seq (.seq (.region false [⟨some 13, none, .rd .mov [.pv (.int .i64 0)]⟩] L33)
           (.block 4
            (.loop
              (.seq (.seq (.region false [⟨some 77, none, .rd .mov [.tmp 13]⟩,
                   ⟨some 78, none, .rd .mov [.tmp 0]⟩,
                   ⟨some 79, none, .rd .mov [.tmp 10]⟩,
                   ⟨some 80, none, .rd (.idxAddr (some 2)) [.tmp 78, .tmp 79]⟩,
                   ⟨some 81, none, .rd (.fldAddr 1) [.tmp 80]⟩,
                   ⟨some 82, none, .rd (.load none) [.tmp 81]⟩,
                   ⟨some 83, none, .rd .lenL [.tmp 82]⟩,
                   ⟨some 84, none, .rd (.bin .lss) [.tmp 77, .tmp 83]⟩] L33)
                (.cond (.tmp 84)
                 (.skip)
                 (.exit 4)))
               (.seq (.block 5
                 (.seq (.region false [⟨some 87, none, .rd .mov [.tmp 0]⟩,
                     ⟨some 88, none, .rd .mov [.tmp 0]⟩,
                     ⟨some 89, none, .rd .mov [.tmp 10]⟩,
                     ⟨some 90, none, .rd (.idxAddr (some 2)) [.tmp 88, .tmp 89]⟩,
                     ⟨some 91, none, .rd (.fldAddr 1) [.tmp 90]⟩,
                     ⟨some 92, none, .rd (.load none) [.tmp 91]⟩,
                     ⟨some 93, none, .rd .mov [.tmp 13]⟩,
                     ⟨some 94, none, .rd (.idxAddr none) [.tmp 92, .tmp 93]⟩,
                     ⟨some 95, none, .rd (.load none) [.tmp 94]⟩,
                     ⟨some 96, none, .call (.pv (.fn 37 [] [])) [.tmp 87, .tmp 95]⟩,
                     ⟨some 14, none, .rd .mov [.tmp 96]⟩] L33)
                  (.seq (.region true [⟨some 97, none, .rd .mov [.tmp 14]⟩,
                     ⟨some 98, none, .rd (.bin .geq) [.tmp 97, .pv (.int .i64 0)]⟩,
                     ⟨some 99, none, .rd .mov [.tmp 98]⟩,
                     ⟨some 100, some (99, true), .rd .mov [.tmp 5]⟩,
                     ⟨some 101, some (99, true), .rd .mov [.tmp 14]⟩,
                     ⟨some 102, some (99, true), .rd (.idxAddr none) [.tmp 100, .tmp 101]⟩,
                     ⟨some 103, some (99, true), .rd (.load none) [.tmp 102]⟩,
                     ⟨some 104, some (99, true), .rd .mov [.tmp 11]⟩,
                     ⟨some 105, some (99, true), .rd (.bin .eql) [.tmp 103, .tmp 104]⟩,
                     ⟨some 106, none, .rd .pick [.tmp 99, .tmp 105, .pv (.bool false)]⟩,
                     ⟨some 107, none, .rd .mov [.tmp 106]⟩,
                     ⟨some 108, some (107, true), .rd .mov [.tmp 12]⟩,
                     ⟨some 109, some (107, true), .rd (.bin .lss) [.tmp 108, .pv (.int .i64 0)]⟩,
                     ⟨some 110, some (107, true), .rd .mov [.tmp 109]⟩,
                     ⟨some 111, some (110, false), .rd .mov [.tmp 0]⟩,
                     ⟨some 112, some (110, false), .rd .mov [.tmp 14]⟩,
                     ⟨some 113, some (110, false), .rd (.idxAddr (some 2)) [.tmp 111, .tmp 112]⟩,
                     ⟨some 114, some (110, false), .rd (.fldAddr 0) [.tmp 113]⟩,
                     ⟨some 115, some (110, false), .rd (.load none) [.tmp 114]⟩,
                     ⟨some 116, some (110, false), .rd .mov [.tmp 0]⟩,
                     ⟨some 117, some (110, false), .rd .mov [.tmp 12]⟩,
                     ⟨some 118, some (110, false), .rd (.idxAddr (some 2)) [.tmp 116, .tmp 117]⟩,
                     ⟨some 119, some (110, false), .rd (.fldAddr 0) [.tmp 118]⟩,
                     ⟨some 120, some (110, false), .rd (.load none) [.tmp 119]⟩,
                     ⟨some 121, some (110, false), .rd (.bin .lss) [.tmp 115, .tmp 120]⟩,
                     ⟨some 122, some (107, true), .rd .pick [.tmp 110, .pv (.bool true), .tmp 121]⟩,
                     ⟨some 123, none, .rd .pick [.tmp 107, .tmp 122, .pv (.bool false)]⟩] L33)
                  (.cond (.tmp 123)
                   (.region false [⟨some 124, none, .rd .mov [.tmp 14]⟩,
                      ⟨some 12, none, .rd .mov [.tmp 124]⟩] L33)
                   (.skip)))))
               (.region false [⟨some 85, none, .rd .mov [.tmp 13]⟩,
                 ⟨some 86, none, .rd (.bin .add) [.tmp 85, .pv (.int .i64 1)]⟩,
                 ⟨some 13, none, .rd .mov [.tmp 86]⟩] L33))))))
          (.seq (.region false [⟨some 125, none, .rd .mov [.tmp 12]⟩,
             ⟨some 10, none, .rd .mov [.tmp 125]⟩] L33)
          (.region false [⟨some 126, none, .rd .mov [.tmp 9]⟩,
            ⟨some 127, none, .rd .mov [.tmp 0]⟩,
            ⟨some 128, none, .rd .mov [.tmp 10]⟩,
            ⟨some 129, none, .rd (.idxAddr (some 2)) [.tmp 127, .tmp 128]⟩,
            ⟨some 130, none, .rd (.fldAddr 0) [.tmp 129]⟩,
            ⟨some 131, none, .rd (.load none) [.tmp 130]⟩,
            ⟨some 132, none, .eff (.lit none false) [.tmp 131]⟩,
            ⟨some 133, none, .eff (.append none 16) [.tmp 126, .tmp 132]⟩,
            ⟨some 9, none, .rd .mov [.tmp 133]⟩] L33)))))
       (.region false [⟨some 75, none, .rd .mov [.tmp 11]⟩,
         ⟨some 76, none, .rd (.bin .sub) [.tmp 75, .pv (.int .i64 1)]⟩,
         ⟨some 11, none, .rd .mov [.tmp 76]⟩] L33))))))
  (.seq (.region false [⟨some 134, none, .rd .mov [.tmp 9]⟩,
     ⟨some 4, none, .rd .mov [.tmp 134]⟩] L33)
  (.ret))))))))),
  [.tmp 4]⟩

-- wagebook/wagebookref14.steps
def L52 : List Nat := [0, 1, 4, 5, 6, 7, 8, 9, 10, 17, 29, 35, 52, 75]
def c52 : CF := ⟨81,
  .seq (.region false [⟨some 4, none, .rd .mov [.pv .nilSl]⟩] L52)
  (.seq (.region false [⟨some 11, none, .rd .mov [.tmp 0]⟩,
     ⟨some 12, none, .rd .lenL [.tmp 11]⟩,
     ⟨some 13, none, .eff (.make none (.int .i64 0) 8) [.tmp 12, .tmp 12]⟩,
     ⟨some 5, none, .rd .mov [.tmp 13]⟩] L52)
  (.seq (.seq (.region false [⟨some 6, none, .rd .mov [.pv (.int .i64 0)]⟩] L52)
   (.block 0
    (.loop
      (.seq (.seq (.region false [⟨some 14, none, .rd .mov [.tmp 6]⟩,
           ⟨some 15, none, .rd .mov [.tmp 0]⟩,
           ⟨some 16, none, .rd .lenL [.tmp 15]⟩,
           ⟨some 17, none, .rd (.bin .lss) [.tmp 14, .tmp 16]⟩] L52)
        (.cond (.tmp 17)
         (.skip)
         (.exit 0)))
       (.seq (.block 1
         (.region false [⟨some 20, none, .rd .mov [.tmp 5]⟩,
            ⟨some 21, none, .rd .mov [.tmp 6]⟩,
            ⟨some 22, none, .rd (.idxAddr none) [.tmp 20, .tmp 21]⟩,
            ⟨none, none, .eff (.store none) [.tmp 22, .pv (.int .i64 (-1))]⟩] L52))
       (.region false [⟨some 18, none, .rd .mov [.tmp 6]⟩,
         ⟨some 19, none, .rd (.bin .add) [.tmp 18, .pv (.int .i64 1)]⟩,
         ⟨some 6, none, .rd .mov [.tmp 19]⟩] L52))))))
  (.seq (.region false [⟨some 23, none, .rd .mov [.tmp 5]⟩,
     ⟨some 24, none, .rd .mov [.tmp 1]⟩,
     ⟨some 25, none, .rd (.idxAddr none) [.tmp 23, .tmp 24]⟩,
     ⟨none, none, .eff (.store none) [.tmp 25, .pv (.int .i64 0)]⟩] L52)
  (.seq (.seq (.region false [⟨some 7, none, .rd .mov [.pv (.int .i64 1)]⟩] L52)
   (.block 2
    (.loop
      (.seq (.seq (.region false [⟨some 26, none, .rd .mov [.tmp 7]⟩,
           ⟨some 27, none, .rd .mov [.tmp 0]⟩,
           ⟨some 28, none, .rd .lenL [.tmp 27]⟩,
           ⟨some 29, none, .rd (.bin .leq) [.tmp 26, .tmp 28]⟩] L52)
        (.cond (.tmp 29)
         (.skip)
         (.exit 2)))
       (.seq (.block 3
         (.seq (.region false [⟨some 8, none, .rd .mov [.pv (.int .i64 0)]⟩] L52)
          (.block 4
           (.loop
             (.seq (.seq (.region false [⟨some 32, none, .rd .mov [.tmp 8]⟩,
                  ⟨some 33, none, .rd .mov [.tmp 0]⟩,
                  ⟨some 34, none, .rd .lenL [.tmp 33]⟩,
                  ⟨some 35, none, .rd (.bin .lss) [.tmp 32, .tmp 34]⟩] L52)
               (.cond (.tmp 35)
                (.skip)
                (.exit 4)))
              (.seq (.block 5
                (.seq (.region false [⟨some 9, none, .rd .mov [.pv (.int .i64 0)]⟩] L52)
                 (.block 6
                  (.loop
                    (.seq (.seq (.region false [⟨some 38, none, .rd .mov [.tmp 5]⟩,
                         ⟨some 39, none, .rd .mov [.tmp 8]⟩,
                         ⟨some 40, none, .rd (.idxAddr none) [.tmp 38, .tmp 39]⟩,
                         ⟨some 41, none, .rd (.load none) [.tmp 40]⟩,
                         ⟨some 42, none, .rd (.bin .lss) [.tmp 41, .pv (.int .i64 0)]⟩,
                         ⟨some 43, none, .rd .mov [.tmp 42]⟩,
                         ⟨some 44, some (43, true), .rd .mov [.tmp 9]⟩,
                         ⟨some 45, some (43, true), .rd .mov [.tmp 0]⟩,
                         ⟨some 46, some (43, true), .rd .mov [.tmp 8]⟩,
                         ⟨some 47, some (43, true), .rd (.idxAddr (some 2)) [.tmp 45, .tmp 46]⟩,
                         ⟨some 48, some (43, true), .rd (.fldAddr 1) [.tmp 47]⟩,
                         ⟨some 49, some (43, true), .rd (.load none) [.tmp 48]⟩,
                         ⟨some 50, some (43, true), .rd .lenL [.tmp 49]⟩,
                         ⟨some 51, some (43, true), .rd (.bin .lss) [.tmp 44, .tmp 50]⟩,
                         ⟨some 52, none, .rd .pick [.tmp 43, .tmp 51, .pv (.bool false)]⟩] L52)
                      (.cond (.tmp 52)
                       (.skip)
                       (.exit 6)))
                     (.seq (.block 7
                       (.seq (.region false [⟨some 55, none, .rd .mov [.tmp 0]⟩,
                           ⟨some 56, none, .rd .mov [.tmp 0]⟩,
                           ⟨some 57, none, .rd .mov [.tmp 8]⟩,
                           ⟨some 58, none, .rd (.idxAddr (some 2)) [.tmp 56, .tmp 57]⟩,
                           ⟨some 59, none, .rd (.fldAddr 1) [.tmp 58]⟩,
                           ⟨some 60, none, .rd (.load none) [.tmp 59]⟩,
                           ⟨some 61, none, .rd .mov [.tmp 9]⟩,
                           ⟨some 62, none, .rd (.idxAddr none) [.tmp 60, .tmp 61]⟩,
                           ⟨some 63, none, .rd (.load none) [.tmp 62]⟩,
                           ⟨some 64, none, .call (.pv (.fn 37 [] [])) [.tmp 55, .tmp 63]⟩,
                           ⟨some 10, none, .rd .mov [.tmp 64]⟩] L52)
                        (.seq (.region false [⟨some 65, none, .rd .mov [.tmp 10]⟩,
                           ⟨some 66, none, .rd (.bin .geq) [.tmp 65, .pv (.int .i64 0)]⟩,
                           ⟨some 67, none, .rd .mov [.tmp 66]⟩,
                           ⟨some 68, some (67, true), .rd .mov [.tmp 5]⟩,
                           ⟨some 69, some (67, true), .rd .mov [.tmp 10]⟩,
                           ⟨some 70, some (67, true), .rd (.idxAddr none) [.tmp 68, .tmp 69]⟩,
                           ⟨some 71, some (67, true), .rd (.load none) [.tmp 70]⟩,
                           ⟨some 72, some (67, true), .rd .mov [.tmp 7]⟩,
                           ⟨some 73, some (67, true), .rd (.bin .sub) [.tmp 72, .pv (.int .i64 1)]⟩,
                           ⟨some 74, some (67, true), .rd (.bin .eql) [.tmp 71, .tmp 73]⟩,
                           ⟨some 75, none, .rd .pick [.tmp 67, .tmp 74, .pv (.bool false)]⟩] L52)
                        (.cond (.tmp 75)
                         (.region false [⟨some 76, none, .rd .mov [.tmp 5]⟩,
                            ⟨some 77, none, .rd .mov [.tmp 8]⟩,
                            ⟨some 78, none, .rd .mov [.tmp 7]⟩,
                            ⟨some 79, none, .rd (.idxAddr none) [.tmp 76, .tmp 77]⟩,
                            ⟨none, none, .eff (.store none) [.tmp 79, .tmp 78]⟩] L52)
                         (.skip)))))
                     (.region false [⟨some 53, none, .rd .mov [.tmp 9]⟩,
                       ⟨some 54, none, .rd (.bin .add) [.tmp 53, .pv (.int .i64 1)]⟩,
                       ⟨some 9, none, .rd .mov [.tmp 54]⟩] L52)))))))
              (.region false [⟨some 36, none, .rd .mov [.tmp 8]⟩,
                ⟨some 37, none, .rd (.bin .add) [.tmp 36, .pv (.int .i64 1)]⟩,
                ⟨some 8, none, .rd .mov [.tmp 37]⟩] L52)))))))
       (.region false [⟨some 30, none, .rd .mov [.tmp 7]⟩,
         ⟨some 31, none, .rd (.bin .add) [.tmp 30, .pv (.int .i64 1)]⟩,
         ⟨some 7, none, .rd .mov [.tmp 31]⟩] L52))))))
  (.seq (.region false [⟨some 80, none, .rd .mov [.tmp 5]⟩,
     ⟨some 4, none, .rd .mov [.tmp 80]⟩] L52)
  (.ret)))))),
  [.tmp 4]⟩

-- wagebook/wagebooklaw14.OrderRing
theorem k14 : compileF Try.prog [] L14 Try.f14 = some c14 := by kernel_rfl
theorem k33 : compileF Try.prog [70] L33 Try.f33 = some c33 := by kernel_rfl
theorem k52 : compileF Try.prog [] L52 Try.f52 = some c52 := by kernel_rfl
theorem shBs1 {P : Program} {Q : Nat → Prop} {n : Nat} {a : TypeId} {ps : List PV} (h : ShBs P Q n [a] ps) : ∃ p, ps = [p] ∧ ShB P Q n a p := by
  match ps, h with
  | [p], h => exact ⟨p, rfl, h.1⟩
/-! Ways from one to one, in so many steps -/
section
variable (N : List St) (nd : St → List St)
def wkB (to : St) : Nat → St → Bool
  | 0, s => decide (s = to)
  | n + 1, s => (nd s).any fun x => decide (x ∈ N) && wkB to n x
def dstR (to : St) (L : Nat) (s : St) : Int := match (List.range (L + 1)).find? (fun n => wkB N nd to n s) with
  | some n => n
  | none => -1
variable {N nd}
theorem wkB_succ {to s : St} {n : Nat} : wkB N nd to (n + 1) s = true ↔ ∃ x ∈ nd s, x ∈ N ∧ wkB N nd to n x = true := by
  simp only [wkB, List.any_eq_true, Bool.and_eq_true, decide_eq_true_eq]
theorem dst_some {to s : St} {L n : Nat} : dstR N nd to L s = n ↔ n ≤ L ∧ wkB N nd to n s = true ∧ ∀ k, k < n → wkB N nd to k s = false := by
  unfold dstR
  cases hf : (List.range (L + 1)).find? (fun n => wkB N nd to n s) with
  | none =>
    have h1 := List.find?_eq_none.1 hf
    refine ⟨fun h => absurd (show (-1 : Int) = n from h) (by omega), fun ⟨a, b, c⟩ => ?_⟩
    exact absurd b (h1 n (by simp; omega))
  | some m =>
    have h1 := List.find?_some hf
    have h2 := List.mem_of_find?_eq_some hf
    simp only [List.mem_range] at h2
    obtain ⟨-, u, v, e, hall⟩ := List.find?_eq_some_iff_append.1 hf
    have h3 : ∀ k, k < m → wkB N nd to k s = false := fun k hk => by
      have hu : ∀ j, j < u.length → u[j]? = some j := fun j hj => by
        have : (u ++ m :: v)[j]? = u[j]? := List.getElem?_append_left hj
        rw [← this, ← e, List.getElem?_range (by have := congrArg List.length e; simp at this; omega)]
      have hm : u.length = m := by
        have : (u ++ m :: v)[u.length]? = some m := by simp
        rw [← e, List.getElem?_range (by have := congrArg List.length e; simp at this; omega)] at this
        simpa using this
      have := hall k (List.mem_of_getElem? (hu k (by omega)))
      simpa using this
    constructor
    · intro h
      have h : (m : Int) = n := h
      obtain rfl : m = n := by omega
      exact ⟨by omega, h1, h3⟩
    · rintro ⟨a, b, c⟩
      rcases Nat.lt_trichotomy m n with h | h | h
      · rw [c m h] at h1; cases h1
      · rw [h]
      · rw [h3 n h] at b; cases b
theorem dst_none {to s : St} {L : Nat} : dstR N nd to L s < 0 ↔ ∀ k, k ≤ L → wkB N nd to k s = false := by
  unfold dstR
  cases hf : (List.range (L + 1)).find? (fun n => wkB N nd to n s) with
  | none =>
    have h1 := List.find?_eq_none.1 hf
    exact ⟨fun _ k hk => by simpa using h1 k (by simp; omega), fun _ => by simp⟩
  | some m =>
    have h1 := List.find?_some hf
    have h2 := List.mem_of_find?_eq_some hf
    simp only [List.mem_range] at h2
    refine ⟨fun h => by simp at h; omega, fun h => ?_⟩
    rw [h m (by omega)] at h1; cases h1
theorem dst_val (to s : St) (L : Nat) : dstR N nd to L s = -1 ∨ ∃ n : Nat, dstR N nd to L s = n := by
  unfold dstR
  cases (List.range (L + 1)).find? (fun n => wkB N nd to n s) with
  | none => exact .inl rfl
  | some m => exact .inr ⟨m, rfl⟩
theorem dst_neg {to s : St} {L : Nat} (h : dstR N nd to L s < 0) : dstR N nd to L s = -1 := by
  rcases dst_val (N := N) (nd := nd) to s L with h1 | ⟨n, h1⟩
  · exact h1
  · omega
/-- One round more. -/
theorem dst_old {to s : St} {L : Nat} (h : ¬ dstR N nd to L s < 0) : dstR N nd to (L + 1) s = dstR N nd to L s := by
  rcases dst_val (N := N) (nd := nd) to s L with h1 | ⟨n, h1⟩
  · omega
  · rw [h1]
    obtain ⟨a, b, c⟩ := dst_some.1 h1
    exact dst_some.2 ⟨by omega, b, c⟩
theorem dst_new {to s : St} {L : Nat} (h : dstR N nd to L s < 0) : dstR N nd to (L + 1) s = if (∃ x ∈ nd s, x ∈ N ∧ dstR N nd to L x = L) then ((L + 1 : Nat) : Int) else -1 := by
  have h0 := dst_none.1 h
  split
  · rename_i hx
    obtain ⟨x, hx, hN, hd⟩ := hx
    obtain ⟨a, b, c⟩ := dst_some.1 hd
    exact dst_some.2 ⟨Nat.le_refl _, wkB_succ.2 ⟨x, hx, hN, b⟩, fun k hk => h0 k (by omega)⟩
  · rename_i hx
    refine dst_neg (dst_none.2 fun k hk => ?_)
    rcases Nat.lt_or_ge L k with h1 | h1
    · obtain rfl : k = L + 1 := by omega
      rw [Bool.eq_false_iff]
      intro hw
      obtain ⟨x, hxs, hN, hb⟩ := wkB_succ.1 hw
      refine hx ⟨x, hxs, hN, dst_some.2 ⟨Nat.le_refl _, hb, fun j hj => ?_⟩⟩
      rw [Bool.eq_false_iff]
      intro hj2
      have := h0 (j + 1) (by omega)
      rw [wkB_succ.2 ⟨x, hxs, hN, hj2⟩] at this; cases this
    · exact h0 k h1
theorem dst_zero {to s : St} : dstR N nd to 0 s = if s = to then 0 else -1 := by
  split
  · rename_i h
    exact (dst_some (n := 0)).2 ⟨Nat.le_refl _, by simp [wkB, h], fun k hk => by omega⟩
  · rename_i h
    exact dst_neg (dst_none.2 fun k hk => by obtain rfl : k = 0 := by omega
                                             simp [wkB, h])
/-- In a round: whichever of both a name's is, it tells as much of the round ahead. -/
theorem dst_eq {to s : St} {L : Nat} : dstR N nd to (L + 1) s = L ↔ dstR N nd to L s = L := by
  constructor
  · intro h
    obtain ⟨a, b, c⟩ := dst_some.1 h
    exact dst_some.2 ⟨Nat.le_refl _, b, c⟩
  · intro h
    obtain ⟨a, b, c⟩ := dst_some.1 h
    exact dst_some.2 ⟨by omega, b, c⟩
/-! Ways as lists -/
theorem path_wk {to : St} : ∀ (T : List St) (s : St), Path nd to s T → to ∈ N → (∀ y ∈ T, y ∈ N) → wkB N nd to (T.length + 1) s = true
  | [], s, h, ht, _ => wkB_succ.2 ⟨to, h, ht, by simp [wkB]⟩
  | y :: T, s, h, ht, hN => wkB_succ.2 ⟨y, h.1, hN y (by simp), path_wk T y h.2 ht (fun z hz => hN z (by simp [hz]))⟩
theorem wk_path {to : St} : ∀ (n : Nat) (s : St), wkB N nd to (n + 1) s = true → ∃ T, Path nd to s T ∧ T.length = n ∧ ∀ y ∈ T, y ∈ N
  | 0, s, h => by
    obtain ⟨x, hx, hN, hb⟩ := wkB_succ.1 h
    simp only [wkB, decide_eq_true_eq] at hb
    subst hb
    exact ⟨[], hx, rfl, by simp⟩
  | n + 1, s, h => by
    obtain ⟨x, hx, hN, hb⟩ := wkB_succ.1 h
    obtain ⟨T, h1, h2, h3⟩ := wk_path n x hb
    exact ⟨x :: T, ⟨hx, h1⟩, by simp [h2], fun y hy => by
      rcases List.mem_cons.1 hy with rfl | hy
      · exact hN
      · exact h3 y hy⟩
theorem path_app {to y : St} : ∀ (A : List St) (s : St) (B : List St), Path nd to s (A ++ y :: B) ↔ Path nd y s A ∧ Path nd to y B
  | [], s, B => Iff.rfl
  | a :: A, s, B => by
    show _ ∧ Path nd to a (A ++ y :: B) ↔ (_ ∧ Path nd y a A) ∧ _
    rw [path_app A a B, and_assoc]
theorem path_rw {to : St} : ∀ (T : List St) (s : St), Path nd to s T → s ∈ N → ¬ s < to → (∀ y ∈ T, y ∈ N ∧ to < y) → Rw N nd to (T.length + 1) s
  | [], s, h, hs, hl, _ => .one s hs hl h
  | y :: T, s, h, hs, hl, hT => by
    obtain ⟨h1, h2⟩ := hT y (by simp)
    exact .more T.length s y hs hl h.1 (lt_asym h2) (fun e => by subst e; exact lt_irr _ h2) (path_rw T y h.2 h1 (lt_asym h2) (fun z hz => hT z (by simp [hz])))
theorem rw_path {to s : St} {k : Nat} (h : Rw N nd to k s) : ∃ T, Path nd to s T ∧ T.length + 1 = k ∧ ∀ y ∈ T, y ∈ N ∧ to < y := by
  induction h with
  | one s h hl hx => exact ⟨[], hx, rfl, by simp⟩
  | more k s x h hl hx hge hne hr ih =>
    obtain ⟨T, h1, h2, h3⟩ := ih
    have hxN : x ∈ N := by cases hr <;> assumption
    exact ⟨x :: T, ⟨hx, h1⟩, by simp only [List.length_cons]; omega, fun y hy => by
      rcases List.mem_cons.1 hy with rfl | hy
      · exact ⟨hxN, gt_of hge hne⟩
      · exact h3 y hy⟩
variable (N nd)
/-- A way back. -/
structure Cyc (s : St) (T : List St) : Prop where
  at' : s ∈ N
  path : Path nd s s T
  all : ∀ y ∈ T, y ∈ N
/-- No way back is shorter. -/
def MinC (m : Nat) : Prop := ∀ s T, Cyc N nd s T → m ≤ T.length + 1
variable {N nd}
theorem Cyc.rot {s : St} {A B : List St} {y : St} (h : Cyc N nd s (A ++ y :: B)) : Cyc N nd y (B ++ s :: A) := by
  obtain ⟨h1, h2⟩ := (path_app A s B).1 h.path
  exact ⟨h.all y (by simp), (path_app B y A).2 ⟨h2, h1⟩, fun z hz => by
    rcases List.mem_append.1 hz with hz | hz
    · exact h.all z (by simp [hz])
    · rcases List.mem_cons.1 hz with rfl | hz
      · exact h.at'
      · exact h.all z (by simp [hz])⟩
theorem Cyc.nodup {m : Nat} (hm : MinC N nd m) {s : St} {T : List St} (h : Cyc N nd s T) (hl : T.length + 1 = m) : (s :: T).Nodup := by
  rw [List.nodup_cons]
  constructor
  · intro hs
    obtain ⟨A, B, rfl⟩ := List.append_of_mem hs
    obtain ⟨h1, h2⟩ := (path_app A s B).1 h.path
    have := hm s A ⟨h.at', h1, fun y hy => h.all y (by simp [hy])⟩
    simp at hl; omega
  · refine Decidable.byContradiction fun hn => ?_
    have key : ∀ L : List St, ¬ L.Nodup → ∃ A y B C, L = A ++ y :: (B ++ y :: C) := by
      intro L
      induction L with
      | nil => intro h; exact absurd List.nodup_nil h
      | cons a L ih =>
        intro h
        rw [List.nodup_cons] at h
        by_cases ha : a ∈ L
        · obtain ⟨B, C, rfl⟩ := List.append_of_mem ha
          exact ⟨[], a, B, C, rfl⟩
        · obtain ⟨A, y, B, C, rfl⟩ := ih (fun h' => h ⟨ha, h'⟩)
          exact ⟨a :: A, y, B, C, rfl⟩
    obtain ⟨A, y, B, C, rfl⟩ := key T hn
    obtain ⟨h1, h2⟩ := (path_app A s (B ++ y :: C)).1 h.path
    obtain ⟨h3, h4⟩ := (path_app B y C).1 h2
    have := hm y B ⟨h.all y (by simp), h3, fun z hz => h.all z (by simp [hz])⟩
    simp at hl; omega
theorem Cyc.len {m : Nat} (hm : MinC N nd m) {s : St} {T : List St} (h : Cyc N nd s T) (hl : T.length + 1 = m) : m ≤ N.length := by
  have := nodup_len (h.nodup hm hl) (b := N) (fun x hx => by
    rcases List.mem_cons.1 hx with rfl | hx
    · exact h.at'
    · exact h.all x hx)
  simp only [List.length_cons] at this; omega
/-- The least name that is on a shortest way back. -/
structure Star (m : Nat) (s : St) : Prop where
  min : MinC N nd m
  has : ∃ T, Cyc N nd s T ∧ T.length + 1 = m
  low : ∀ t T, Cyc N nd t T → T.length + 1 = m → ¬ t < s
theorem star_ex (h : ∃ s T, Cyc N nd s T) : ∃ m s, Star (N := N) (nd := nd) m s := by
  classical
  obtain ⟨m, ⟨s, T, hc, hl⟩, hmin⟩ := least_nat (P := fun m => ∃ s T, Cyc N nd s T ∧ T.length + 1 = m) (let ⟨s, T, h⟩ := h; ⟨_, s, T, h, rfl⟩)
  have hm : MinC N nd m := fun s T hc => Decidable.byContradiction fun hn => hmin _ (by omega) ⟨s, T, hc, rfl⟩
  have hex : ∃ a : List St, ∀ x, x ∈ a ↔ x ∈ N ∧ ∃ T, Cyc N nd x T ∧ T.length + 1 = m := by
    exact ⟨N.filter (fun x => decide (∃ T, Cyc N nd x T ∧ T.length + 1 = m)), fun x => by rw [List.mem_filter]; simp⟩
  obtain ⟨a, ha⟩ := hex
  obtain ⟨z, hz, hlow⟩ := exists_min a (fun h => by
    have := (ha s).2 ⟨hc.at', T, hc, hl⟩
    rw [h] at this; cases this)
  exact ⟨m, z, hm, ((ha z).1 hz).2, fun t T hc hl => hlow t ((ha t).2 ⟨hc.at', T, hc, hl⟩)⟩
theorem Star.gt {m : Nat} {s : St} (h : Star (N := N) (nd := nd) m s) {T : List St} (hc : Cyc N nd s T) (hl : T.length + 1 = m) : ∀ y ∈ T, y ∈ N ∧ s < y := by
  intro y hy
  have hn := hc.nodup h.min hl
  rw [List.nodup_cons] at hn
  obtain ⟨A, B, rfl⟩ := List.append_of_mem hy
  refine ⟨hc.all y hy, gt_of (h.low y _ hc.rot ?_) (fun e => hn.1 (e ▸ hy))⟩
  simp at hl ⊢; omega
theorem Star.far {m : Nat} {s : St} (h : Star (N := N) (nd := nd) m s) : farD N nd s N.length s = m ∧ 0 < m := by
  obtain ⟨T, hc, hl⟩ := h.has
  have h1 := path_rw T s hc.path hc.at' (lt_irr _) (h.gt hc hl)
  have h2 := hc.len h.min hl
  obtain ⟨h3, h4⟩ := far_compl h1 N.length (by omega)
  obtain ⟨T', h5, h6, h7⟩ := rw_path (far_sound h3)
  have := h.min s T' ⟨hc.at', h5, fun y hy => (h7 y hy).1⟩
  omega
/-- Of each name on the way. -/
def Pre (N : List St) (nd : St → List St) (s x : St) (k : Nat) : Prop := (x = s ∧ k = 0) ∨ ∃ A, Path nd x s A ∧ A.length + 1 = k ∧ ∀ y ∈ A, y ∈ N
theorem pre_cyc {s x y : St} {k : Nat} (hp : Pre N nd s x k) (hs : s ∈ N) (hx : x ∈ N) (hy : y ∈ nd x) (hyN : y ∈ N) : Pre N nd s y (k + 1) := by
  rcases hp with ⟨rfl, rfl⟩ | ⟨A, h1, h2, h3⟩
  · exact .inr ⟨[], hy, rfl, by simp⟩
  · exact .inr ⟨A ++ [x], (path_app A s []).2 ⟨h1, hy⟩, by simp [h2], fun z hz => by
      rcases List.mem_append.1 hz with hz | hz
      · exact h3 z hz
      · simp at hz; subst hz; exact hx⟩
theorem pre_close {s y : St} {k : Nat} {T : List St} (hp : Pre N nd s y (k + 1)) (hs : s ∈ N) (hy : y ∈ N) (hT : Path nd s y T) (hN : ∀ z ∈ T, z ∈ N) : ∃ A, Cyc N nd s (A ++ y :: T) ∧ A.length = k := by
  rcases hp with ⟨-, h⟩ | ⟨A, h1, h2, h3⟩
  · omega
  · exact ⟨A, ⟨hs, (path_app A s T).2 ⟨h1, hT⟩, fun z hz => by
      rcases List.mem_append.1 hz with hz | hz
      · exact h3 z hz
      · rcases List.mem_cons.1 hz with rfl | hz
        · exact hy
        · exact hN z hz⟩, by omega⟩
theorem star_cand {m : Nat} {s : St} (h : Star (N := N) (nd := nd) m s) {L : Nat} (hL : m ≤ L) {x : St} {k n : Nat} (hx : x ∈ N) (hp : Pre N nd s x k) (hk : k + (n + 2) = m) {y : St} (hy : y ∈ nd x) :
    (y ∈ N ∧ dstR N nd s L y = ((n + 1 : Nat) : Int)) ↔ (s < y ∧ farD N nd s N.length y = n + 1) := by
  have hs : s ∈ N := let ⟨T, hc, _⟩ := h.has; hc.at'
  constructor
  · rintro ⟨hyN, hd⟩
    obtain ⟨-, hw, -⟩ := dst_some.1 hd
    obtain ⟨T, h1, h2, h3⟩ := wk_path n y hw
    obtain ⟨A, hc, hA⟩ := pre_close (pre_cyc hp hs hx hy hyN) hs hyN h1 h3
    have hl : (A ++ y :: T).length + 1 = m := by simp; omega
    have hg := h.gt hc hl
    have hys := hg y (by simp)
    have hr := path_rw T y h1 hyN (lt_asym hys.2) (fun z hz => hg z (by simp [hz]))
    have hmN := hc.len h.min hl
    obtain ⟨h4, h5⟩ := far_compl hr N.length (by omega)
    refine ⟨hys.2, ?_⟩
    obtain ⟨T', h6, h7, h8⟩ := rw_path (far_sound h4)
    obtain ⟨A', hc', hA'⟩ := pre_close (pre_cyc hp hs hx hy hyN) hs hyN h6 (fun z hz => (h8 z hz).1)
    have := h.min _ _ hc'
    simp at this; omega
  · rintro ⟨hys, hf⟩
    have h4 : 0 < farD N nd s N.length y := by omega
    obtain ⟨T', h6, h7, h8⟩ := rw_path (far_sound h4)
    have hyN := (far_in h4).1
    have hw := path_wk T' y h6 hs (fun z hz => (h8 z hz).1)
    rw [h7, hf] at hw
    refine ⟨hyN, dst_some.2 ⟨by omega, hw, fun j hj => ?_⟩⟩
    rw [Bool.eq_false_iff]
    intro hb
    cases j with
    | zero =>
      simp only [wkB, decide_eq_true_eq] at hb
      rw [hb] at hys; exact lt_irr _ hys
    | succ j =>
      obtain ⟨T, h1, h2, h3⟩ := wk_path j y hb
      obtain ⟨A, hc, hA⟩ := pre_close (pre_cyc hp hs hx hy hyN) hs hyN h1 h3
      have := h.min _ _ hc
      simp at this; omega
variable (N nd)
/-! The document's ring -/
def rngD (D : St → Int) : Nat → St → List St
  | 0, _ => []
  | n + 1, s => match (sortT (nd s)).find? (fun x => decide (x ∈ N) && decide (D x = ((n + 1 : Nat) : Int))) with
    | some x => x :: rngD D n x
    | none => []
variable {N nd}
theorem star_ring {m : Nat} {s : St} (h : Star (N := N) (nd := nd) m s) {L : Nat} (hL : m ≤ L) : ∀ (n k : Nat) (x : St), x ∈ N → Pre N nd s x k → k + (n + 1) = m →
    (x = s ∨ farD N nd s N.length x = n + 1) → rngD N nd (dstR N nd s L) n x = ringT nd s (farD N nd s N.length) (n + 1) x
  | 0, k, x, hx, hp, hk, _ => rfl
  | n + 1, k, x, hx, hp, hk, _ => by
    have hs : s ∈ N := let ⟨T, hc, _⟩ := h.has; hc.at'
    have hff : ∀ (L' : List St), (∀ y ∈ L', y ∈ nd x) → L'.find? (fun y => decide (y ∈ N) && decide (dstR N nd s L y = ((n + 1 : Nat) : Int))) = L'.find? (fun y => decide (s < y) && decide (farD N nd s N.length y = n + 1)) := by
      intro L'
      induction L' with
      | nil => intro _; rfl
      | cons y L' ih =>
        intro hL'
        have hc := star_cand h hL hx hp hk (hL' y (by simp))
        have e : (decide (y ∈ N) && decide (dstR N nd s L y = ((n + 1 : Nat) : Int))) = (decide (s < y) && decide (farD N nd s N.length y = n + 1)) := by
          rw [Bool.eq_iff_iff]; simp only [Bool.and_eq_true, decide_eq_true_eq]; exact hc
        rw [List.find?_cons, List.find?_cons, e, ih (fun z hz => hL' z (by simp [hz]))]
    have e := hff (sortT (nd x)) (fun y hy => sort_mem.1 hy)
    show (match (sortT (nd x)).find? (fun y => decide (y ∈ N) && decide (dstR N nd s L y = ((n + 1 : Nat) : Int))) with | some y => y :: rngD N nd (dstR N nd s L) n y | none => []) = _
    rw [e]
    conv => rhs; unfold ringT
    cases hf : (sortT (nd x)).find? (fun y => decide (s < y) && decide (farD N nd s N.length y = n + 1)) with
    | none => rfl
    | some y =>
      have h1 := List.find?_some hf
      have h2 := sort_mem.1 (List.mem_of_find?_eq_some hf)
      simp only [Bool.and_eq_true, decide_eq_true_eq] at h1
      have hyN := (far_in (N := N) (nd := nd) (to := s) (n := N.length) (s := y) (by omega)).1
      simp only
      rw [star_ring h hL n (k + 1) y hyN (pre_cyc hp hs hx h2 hyN) (by omega) (.inr h1.2)]
end
section
variable {N : List St} {nd : St → List St}
theorem ring_len {s : St} {n : Nat} (h : farD N nd s N.length s = n) (hn : 0 < n) : (s :: ringT nd s (farD N nd s N.length) n s).length = n := by
  obtain ⟨k, rfl⟩ : ∃ k, n = k + 1 := ⟨n - 1, by omega⟩
  have := (ringT_spec h).2.1
  simp only [List.length_cons, this]
theorem best_keep {m : Nat} : ∀ (R b : List St), b ≠ [] → b.length = m → (∀ t ∈ R, farD N nd t N.length t = 0 ∨ m ≤ farD N nd t N.length t) → bestG N nd R b = b
  | [], b, _, _, _ => rfl
  | t :: R, b, hb, hl, h => by
    unfold bestG
    rw [if_neg (by
      rintro ⟨h1, h2⟩
      rcases h2 with h2 | h2
      · exact hb h2
      · have := h t (by simp); omega)]
    exact best_keep R b hb hl (fun t ht => h t (by simp [ht]))
theorem best_find {m : Nat} {s : St} {R2 : List St} (hs : farD N nd s N.length s = m) (hm : 0 < m) (h2 : ∀ t ∈ R2, farD N nd t N.length t = 0 ∨ m ≤ farD N nd t N.length t) :
    ∀ (R1 b : List St), (b = [] ∨ m < b.length) → (∀ t ∈ R1, farD N nd t N.length t = 0 ∨ m < farD N nd t N.length t) → bestG N nd (R1 ++ s :: R2) b = s :: ringT nd s (farD N nd s N.length) m s
  | [], b, hb, _ => by
    show bestG N nd (s :: R2) b = _
    unfold bestG
    rw [if_pos ⟨by omega, by rw [hs]; exact hb⟩, hs]
    exact best_keep R2 _ (by simp) (ring_len hs hm) h2
  | t :: R1, b, hb, h1 => by
    show bestG N nd (t :: (R1 ++ s :: R2)) b = _
    unfold bestG
    split
    · rename_i hc
      refine best_find hs hm h2 R1 _ (.inr ?_) (fun t ht => h1 t (by simp [ht]))
      rw [ring_len rfl hc.1]
      have := h1 t (by simp); omega
    · exact best_find hs hm h2 R1 b hb (fun t ht => h1 t (by simp [ht]))
theorem best_none : ∀ (R : List St), (∀ t ∈ R, farD N nd t N.length t = 0) → bestG N nd R [] = []
  | [], _ => rfl
  | t :: R, h => by
    unfold bestG
    rw [if_neg (by rw [h t (by simp)]; omega)]
    exact best_none R (fun t ht => h t (by simp [ht]))
theorem far_cyc {s : St} (h : 0 < farD N nd s N.length s) : ∃ T, Cyc N nd s T ∧ T.length + 1 = farD N nd s N.length s := by
  obtain ⟨T, h1, h2, h3⟩ := rw_path (far_sound h)
  exact ⟨T, ⟨(far_in h).1, h1, fun y hy => (h3 y hy).1⟩, h2⟩
theorem star_best (hN : Rise N) {m : Nat} {s : St} (h : Star (N := N) (nd := nd) m s) : bestG N nd N [] = s :: ringT nd s (farD N nd s N.length) m s := by
  obtain ⟨hf, hm⟩ := h.far
  have hsN : s ∈ N := let ⟨T, hc, _⟩ := h.has; hc.at'
  have hge : ∀ t, farD N nd t N.length t = 0 ∨ m ≤ farD N nd t N.length t := fun t => by
    rcases Nat.eq_zero_or_pos (farD N nd t N.length t) with h0 | h0
    · exact .inl h0
    · obtain ⟨T, h1, h2⟩ := far_cyc h0
      have := h.min t T h1
      omega
  obtain ⟨A, B, e⟩ := List.append_of_mem hsN
  have hr : Rise (A ++ s :: B) := by rw [← e]; exact hN
  have key : ∀ (L : List St), bestG N nd L [] = bestG N nd L [] := fun _ => rfl
  have hA : ∀ t ∈ A, farD N nd t N.length t = 0 ∨ m < farD N nd t N.length t := fun t ht => by
    rcases Nat.eq_zero_or_pos (farD N nd t N.length t) with h0 | h0
    · exact .inl h0
    · obtain ⟨T, h1, h2⟩ := far_cyc h0
      have hlt : t < s := (List.pairwise_append.1 hr).2.2 t ht s (by simp)
      rcases hge t with h3 | h3
      · exact .inl h3
      · rcases Nat.lt_or_ge m (farD N nd t N.length t) with h4 | h4
        · exact .inr h4
        · exact absurd hlt (h.low t T h1 (by omega))
  have := best_find (N := N) (nd := nd) (R2 := B) hf hm (fun t _ => hge t) A [] (.inl rfl) hA
  rw [← e] at this
  exact this
/-! The document's rings -/
variable (N)
def bstF (D : St → Int) (L : List St) : Int := L.foldl (fun b x => if x ∈ N ∧ 0 ≤ D x ∧ (b < 0 ∨ D x < b) then D x else b) (-1)
variable {N}
theorem bstF_snoc (D : St → Int) (L : List St) (x : St) : bstF N D (L ++ [x]) = if x ∈ N ∧ 0 ≤ D x ∧ (bstF N D L < 0 ∨ D x < bstF N D L) then D x else bstF N D L := by
  unfold bstF; rw [List.foldl_append]; rfl
theorem bstF_spec (D : St → Int) (L : List St) : (bstF N D L = -1 ∧ ∀ x ∈ L, x ∈ N → D x < 0) ∨ (0 ≤ bstF N D L ∧ (∃ x ∈ L, x ∈ N ∧ D x = bstF N D L) ∧ ∀ x ∈ L, x ∈ N → 0 ≤ D x → bstF N D L ≤ D x) := by
  rw [← List.reverse_reverse L]
  generalize L.reverse = R
  induction R with
  | nil => exact .inl ⟨rfl, by simp⟩
  | cons x R ih =>
    rw [List.reverse_cons, bstF_snoc]
    generalize R.reverse = L at ih
    split
    · rename_i hc
      obtain ⟨h1, h2, h3⟩ := hc
      refine .inr ⟨h2, ⟨x, by simp, h1, rfl⟩, fun y hy hyN h0 => ?_⟩
      rcases List.mem_append.1 hy with hy | hy
      · rcases ih with ⟨i1, i2⟩ | ⟨i1, i2, i3⟩
        · have := i2 y hy hyN; omega
        · have := i3 y hy hyN h0; omega
      · simp at hy; subst hy; exact Int.le_refl _
    · rename_i hc
      rcases ih with ⟨i1, i2⟩ | ⟨i1, ⟨z, hz, hzN, hzD⟩, i3⟩
      · refine .inl ⟨i1, fun y hy hyN => ?_⟩
        rcases List.mem_append.1 hy with hy | hy
        · exact i2 y hy hyN
        · simp at hy; subst hy
          exact Decidable.byContradiction fun hn => hc ⟨hyN, by omega, .inl (by omega)⟩
      · refine .inr ⟨i1, ⟨z, by simp [hz], hzN, hzD⟩, fun y hy hyN h0 => ?_⟩
        rcases List.mem_append.1 hy with hy | hy
        · exact i3 y hy hyN h0
        · simp at hy; subst hy
          exact Decidable.byContradiction fun hn => hc ⟨hyN, by omega, .inr (by omega)⟩
variable (N nd)
def rngE (L : Nat) (s : St) : List St := if bstF N (dstR N nd s L) (nd s) < 0 then [] else s :: rngD N nd (dstR N nd s L) (bstF N (dstR N nd s L) (nd s)).toNat s
variable {N nd}
theorem dst_step {s x : St} {L n : Nat} (h : dstR N nd s L x = ((n + 1 : Nat) : Int)) : ∃ y ∈ nd x, y ∈ N ∧ dstR N nd s L y = (n : Int) := by
  obtain ⟨a, b, c⟩ := dst_some.1 h
  obtain ⟨y, hy, hN, hb⟩ := wkB_succ.1 b
  refine ⟨y, hy, hN, dst_some.2 ⟨by omega, hb, fun k hk => ?_⟩⟩
  rw [Bool.eq_false_iff]
  intro hk2
  have := c (k + 1) (by omega)
  rw [wkB_succ.2 ⟨y, hy, hN, hk2⟩] at this; cases this
theorem find_ex {p : St → Bool} {L : List St} (h : ∃ x ∈ L, p x = true) : ∃ x, (sortT L).find? p = some x ∧ x ∈ L ∧ p x = true ∧ ∀ y ∈ L, p y = true → ¬ y < x := by
  cases hf : (sortT L).find? p with
  | none =>
    obtain ⟨x, hx, hp⟩ := h
    exact absurd hp (List.find?_eq_none.1 hf x (sort_mem.2 hx))
  | some x =>
    refine ⟨x, rfl, sort_mem.1 (List.mem_of_find?_eq_some hf), List.find?_some hf, fun y hy hp hyx => ?_⟩
    obtain ⟨-, u, v, e, hall⟩ := List.find?_eq_some_iff_append.1 hf
    have hs : (sortT L).Pairwise (fun a b => decide (a ≤ b) = true) := List.pairwise_mergeSort tx_tr tx_tt L
    have hy' := (sort_mem (L := L)).2 hy
    rw [e] at hy' hs
    rcases List.mem_append.1 hy' with hy' | hy'
    · have := hall y hy'; rw [hp] at this; cases this
    · rcases List.mem_cons.1 hy' with rfl | hy'
      · exact lt_irr _ hyx
      · have := (List.pairwise_cons.1 (List.pairwise_append.1 hs).2.1).1 y hy'
        simp only [decide_eq_true_eq] at this
        exact absurd hyx this
theorem rngD_len {s : St} {L : Nat} : ∀ (n : Nat) (x : St), (n = 0 ∨ ∃ y ∈ nd x, y ∈ N ∧ dstR N nd s L y = (n : Int)) → (rngD N nd (dstR N nd s L) n x).length = n
  | 0, x, _ => rfl
  | n + 1, x, h => by
    obtain ⟨y, hy, hyN, hd⟩ := h.resolve_left (by omega)
    obtain ⟨z, hf, hz, hp, -⟩ := find_ex (p := fun x => decide (x ∈ N) && decide (dstR N nd s L x = ((n + 1 : Nat) : Int))) (L := nd x) ⟨y, hy, by simp [hyN, hd]⟩
    simp only [rngD]
    rw [hf]
    simp only [Bool.and_eq_true, decide_eq_true_eq] at hp
    simp only [List.length_cons]
    rw [rngD_len n z (by
      cases n with
      | zero => exact .inl rfl
      | succ n => exact .inr (dst_step hp.2))]
theorem rngE_spec {L : Nat} {s : St} (hs : s ∈ N) : rngE N nd L s = [] ∨ ∃ n R, rngE N nd L s = s :: R ∧ R.length = n ∧ ∃ T, Cyc N nd s T ∧ T.length = n := by
  unfold rngE
  rcases bstF_spec (N := N) (dstR N nd s L) (nd s) with ⟨h1, -⟩ | ⟨h1, ⟨x, hx, hxN, hd⟩, h3⟩
  · rw [if_pos (by omega)]; exact .inl rfl
  · rw [if_neg (by omega)]
    obtain ⟨n, hn⟩ : ∃ n : Nat, bstF N (dstR N nd s L) (nd s) = n := ⟨(bstF N (dstR N nd s L) (nd s)).toNat, by omega⟩
    rw [hn] at hd ⊢
    refine .inr ⟨n, _, rfl, ?_, ?_⟩
    · rw [Int.toNat_natCast]
      exact rngD_len n s (.inr ⟨x, hx, hxN, hd⟩)
    · obtain ⟨-, hw, -⟩ := dst_some.1 hd
      cases n with
      | zero =>
        simp only [wkB, decide_eq_true_eq] at hw
        subst hw
        exact ⟨[], ⟨hs, hx, by simp⟩, rfl⟩
      | succ n =>
        obtain ⟨T, h4, h5, h6⟩ := wk_path n x hw
        exact ⟨x :: T, ⟨hs, ⟨hx, h4⟩, fun y hy => by
          rcases List.mem_cons.1 hy with rfl | hy
          · exact hxN
          · exact h6 y hy⟩, by simp [h5]⟩
theorem star_rngE {m : Nat} {s : St} (h : Star (N := N) (nd := nd) m s) {L : Nat} (hL : m ≤ L) : rngE N nd L s = s :: ringT nd s (farD N nd s N.length) m s := by
  obtain ⟨T, hc, hl⟩ := h.has
  have hs := hc.at'
  have hcand : ∃ x ∈ nd s, x ∈ N ∧ 0 ≤ dstR N nd s L x ∧ dstR N nd s L x ≤ ((m - 1 : Nat) : Int) := by
    have hx : ∃ x ∈ nd s, x ∈ N ∧ ∃ k, k ≤ m - 1 ∧ wkB N nd s k x = true := by
      cases T with
      | nil => exact ⟨s, hc.path, hs, 0, by omega, by simp [wkB]⟩
      | cons x T =>
        simp only [List.length_cons] at hl
        exact ⟨x, hc.path.1, hc.all x (by simp), T.length + 1, by omega, path_wk T x hc.path.2 hs (fun y hy => hc.all y (by simp [hy]))⟩
    obtain ⟨x, h1, h2, k, h3, h4⟩ := hx
    obtain ⟨j, ⟨hj1, hj2⟩, hj3⟩ := least_nat (P := fun n => n ≤ m - 1 ∧ wkB N nd s n x = true) ⟨k, h3, h4⟩
    have : dstR N nd s L x = (j : Int) := dst_some.2 ⟨by omega, hj2, fun i hi => by
      rw [Bool.eq_false_iff]; intro hb; exact hj3 i hi ⟨by omega, hb⟩⟩
    exact ⟨x, h1, h2, by omega, by omega⟩
  obtain ⟨x, hx, hxN, hx0, hxm⟩ := hcand
  have hb : bstF N (dstR N nd s L) (nd s) = ((m - 1 : Nat) : Int) := by
    rcases bstF_spec (N := N) (dstR N nd s L) (nd s) with ⟨h1, h2⟩ | ⟨h1, ⟨z, hz, hzN, hzd⟩, h3⟩
    · have := h2 x hx hxN; omega
    · have h4 := h3 x hx hxN hx0
      have h5 : ((m - 1 : Nat) : Int) ≤ bstF N (dstR N nd s L) (nd s) := by
        rcases rngE_spec (N := N) (nd := nd) (L := L) hs with h6 | ⟨n, R, h6, h7, T', h8, h9⟩
        · unfold rngE at h6; rw [if_neg (by omega)] at h6; cases h6
        · have := h.min s T' h8
          unfold rngE at h6; rw [if_neg (by omega)] at h6
          simp only [List.cons.injEq, true_and] at h6
          have hlen := congrArg List.length h6
          obtain ⟨j, hj⟩ : ∃ j : Nat, bstF N (dstR N nd s L) (nd s) = j := ⟨(bstF N (dstR N nd s L) (nd s)).toNat, by omega⟩
          rw [hj] at hzd hlen ⊢
          rw [Int.toNat_natCast, rngD_len j s (.inr ⟨z, hz, hzN, hzd⟩)] at hlen
          omega
      omega
  unfold rngE
  rw [if_neg (by omega), hb, Int.toNat_natCast]
  have := star_ring h hL (m - 1) 0 s hs (.inl ⟨rfl, rfl⟩) (by omega) (.inl rfl)
  rw [this, show m - 1 + 1 = m by omega]
def befM : List St → List St → Bool
  | x :: a, y :: b => if x = y then befM a b else decide (x < y)
  | _, _ => false
end
def bestE (l : List Ed) : Nat → List St
  | 0 => []
  | i + 1 => match l[i]? with
    | some e => let r := rngE (nsM l) (ndM l) l.length e.name
                if r ≠ [] ∧ (bestE l i = [] ∨ r.length < (bestE l i).length ∨ (r.length = (bestE l i).length ∧ befM r (bestE l i) = true)) then r else bestE l i
    | none => bestE l i
theorem bestE_step (l : List Ed) {i : Nat} (h : i < l.length) : bestE l (i + 1) = if rngE (nsM l) (ndM l) l.length l[i].name ≠ [] ∧ (bestE l i = [] ∨ (rngE (nsM l) (ndM l) l.length l[i].name).length < (bestE l i).length ∨ ((rngE (nsM l) (ndM l) l.length l[i].name).length = (bestE l i).length ∧ befM (rngE (nsM l) (ndM l) l.length l[i].name) (bestE l i) = true)) then rngE (nsM l) (ndM l) l.length l[i].name else bestE l i := by
  conv => lhs; unfold bestE
  rw [List.getElem?_eq_getElem h]
theorem bestE_end {l : List Ed} (hw : wrongM l = 0) : bestE l l.length = ringM l := by
  unfold ringM
  rw [if_neg (by simp [hw])]
  have hin : ∀ i (h : i < l.length), l[i].name ∈ nsM l := fun i h => ns_mem.2 ⟨l[i], List.getElem_mem h, rfl⟩
  by_cases hex : ∃ s T, Cyc (nsM l) (ndM l) s T
  · obtain ⟨m, s, hst⟩ := star_ex hex
    rw [star_best (ns_rise hw) hst]
    have hmL : m ≤ l.length := by
      obtain ⟨T, hc, hl⟩ := hst.has
      have := hc.len hst.min hl
      rw [ns_len] at this; exact this
    have hR := star_rngE hst hmL
    obtain ⟨hf, hm0⟩ := hst.far
    have hlen := ring_len hf hm0
    obtain ⟨Rg, hRg⟩ : ∃ R, s :: ringT (ndM l) s (farD (nsM l) (ndM l) s (nsM l).length) m s = R := ⟨_, rfl⟩
    have hsN : s ∈ nsM l := let ⟨T, hc, _⟩ := hst.has; hc.at'
    obtain ⟨e0, he0, hn0⟩ := ns_mem.1 hsN
    obtain ⟨i0, hi0, rfl⟩ := List.getElem_of_mem he0
    rw [hRg] at hR hlen ⊢
    have hhead : ∃ W, Rg = s :: W := ⟨_, hRg.symm⟩
    clear hRg
    -- of the others
    have hoth : ∀ j (h : j < l.length), j ≠ i0 → rngE (nsM l) (ndM l) l.length l[j].name = [] ∨ m < (rngE (nsM l) (ndM l) l.length l[j].name).length ∨ ((rngE (nsM l) (ndM l) l.length l[j].name).length = m ∧ befM Rg (rngE (nsM l) (ndM l) l.length l[j].name) = true ∧ befM (rngE (nsM l) (ndM l) l.length l[j].name) Rg = false) := by
      intro j hj hji
      rcases rngE_spec (N := nsM l) (nd := ndM l) (L := l.length) (hin j hj) with h1 | ⟨n, R, h1, h2, T, h3, h4⟩
      · exact .inl h1
      · rw [h1]
        have h5 := hst.min _ T h3
        simp only [List.length_cons]
        rcases Nat.lt_or_ge m (R.length + 1) with h6 | h6
        · exact .inr (.inl h6)
        · have hlow := hst.low _ T h3 (by omega)
          have hne : s ≠ l[j].name := fun e => by
            have hnd := (wrongM_0.1 hw).2.1
            have e2 : (l.map (·.name))[j]'(by simpa using hj) = (l.map (·.name))[i0]'(by simpa using hi0) := by simp [← e, hn0]
            rcases Nat.lt_trichotomy j i0 with h7 | h7 | h7
            · exact List.pairwise_iff_getElem.1 hnd _ _ (by simpa using hj) (by simpa using hi0) h7 e2
            · exact hji h7
            · exact List.pairwise_iff_getElem.1 hnd _ _ (by simpa using hi0) (by simpa using hj) h7 e2.symm
          have hlt := gt_of hlow (Ne.symm hne)
          obtain ⟨W, rfl⟩ := hhead
          refine .inr (.inr ⟨by omega, ?_, ?_⟩)
          · simp only [befM]; rw [if_neg hne]; simpa using hlt
          · simp only [befM]; rw [if_neg (Ne.symm hne)]; simpa using lt_asym hlt
    have key : ∀ i, i ≤ l.length → (i0 < i → bestE l i = Rg) ∧ (i ≤ i0 → bestE l i = [] ∨ m < (bestE l i).length ∨ ((bestE l i).length = m ∧ befM Rg (bestE l i) = true)) := by
      intro i
      induction i with
      | zero => intro _; exact ⟨fun h => by omega, fun _ => .inl rfl⟩
      | succ i ih =>
        intro hi
        obtain ⟨k1, k2⟩ := ih (by omega)
        rw [bestE_step l (by omega)]
        rcases Nat.lt_trichotomy i i0 with h | h | h
        · refine ⟨fun h' => by omega, fun _ => ?_⟩
          split
          · rename_i hc
            rcases hoth i (by omega) (by omega) with h1 | h1 | ⟨h1, h2, -⟩
            · exact absurd h1 hc.1
            · exact .inr (.inl h1)
            · exact .inr (.inr ⟨h1, h2⟩)
          · exact k2 (by omega)
        · subst h
          refine ⟨fun _ => ?_, fun h' => by omega⟩
          rw [hn0, hR]
          have hne : Rg ≠ [] := fun e => by rw [e] at hlen; simp at hlen; omega
          rw [if_pos ⟨hne, by rw [hlen]; rcases k2 (Nat.le_refl _) with h1 | h1 | ⟨h1, h2⟩
                              · exact .inl h1
                              · exact .inr (.inl h1)
                              · exact .inr (.inr ⟨h1.symm, h2⟩)⟩]
        · refine ⟨fun _ => ?_, fun h' => by omega⟩
          rw [k1 h]
          rw [if_neg]
          rintro ⟨h1, h2⟩
          have hne : Rg ≠ [] := fun e => by rw [e] at hlen; simp at hlen; omega
          rw [hlen] at h2
          rcases hoth i (by omega) (by omega) with h3 | h3 | ⟨h3, -, h5⟩
          · exact h1 h3
          · rcases h2 with h2 | h2 | ⟨h2, -⟩
            · exact hne h2
            · omega
            · omega
          · rcases h2 with h2 | h2 | ⟨-, h2⟩
            · exact hne h2
            · omega
            · rw [h5] at h2; cases h2
    exact (key l.length (Nat.le_refl _)).1 hi0
  · have h0 : ∀ t ∈ nsM l, farD (nsM l) (ndM l) t (nsM l).length t = 0 := fun t _ => by
      rcases Nat.eq_zero_or_pos (farD (nsM l) (ndM l) t (nsM l).length t) with h | h
      · exact h
      · obtain ⟨T, hc, -⟩ := far_cyc h
        exact absurd ⟨t, T, hc⟩ hex
    rw [best_none _ h0]
    have key : ∀ i, i ≤ l.length → bestE l i = [] := by
      intro i
      induction i with
      | zero => intro _; rfl
      | succ i ih =>
        intro hi
        rw [bestE_step l (by omega), ih (by omega)]
        rcases rngE_spec (N := nsM l) (nd := ndM l) (L := l.length) (hin i (by omega)) with h1 | ⟨n, R, -, -, T, h3, -⟩
        · rw [h1]; simp
        · exact absurd ⟨_, T, h3⟩ hex
    exact key _ (Nat.le_refl _)
/-! Rows of numbers -/
def rwN (n : Nat) (f : Nat → Int) : List PV := (List.range n).map fun j => PV.int .i64 (f j)
theorem rwN_len (n : Nat) (f : Nat → Int) : (rwN n f).length = n := by simp [rwN]
theorem rwN_at {n : Nat} (f : Nat → Int) {j : Nat} (h : j < n) : (rwN n f)[j]? = some (.int .i64 (f j)) := by
  unfold rwN; rw [List.getElem?_map, List.getElem?_range h]; rfl
theorem rwN_set {n : Nat} (f : Nat → Int) (i : Nat) (v : Int) : (rwN n f).set i (.int .i64 v) = rwN n fun j => if j = i then v else f j := by
  refine List.ext_getElem? fun j => ?_
  rw [List.getElem?_set]
  rcases Nat.lt_or_ge j n with h | h
  · rw [rwN_at _ h, rwN_at _ h, rwN_len]
    by_cases he : i = j
    · subst he; simp [h]
    · rw [if_neg he, if_neg (Ne.symm he)]
  · rw [List.getElem?_eq_none (by rw [rwN_len]; omega), List.getElem?_eq_none (by rw [rwN_len]; omega), rwN_len]
    split
    · rw [if_neg (by omega)]
    · rfl
theorem rwN_congr {n : Nat} {f g : Nat → Int} (h : ∀ j, j < n → f j = g j) : rwN n f = rwN n g := by
  unfold rwN
  refine List.map_congr_left fun j hj => ?_
  rw [h j (by simpa using hj)]
theorem rwN_zero (n : Nat) : List.replicate n (PV.int .i64 0) = rwN n fun _ => 0 := by
  refine List.ext_getElem? fun j => ?_
  rcases Nat.lt_or_ge j n with h | h
  · rw [rwN_at _ h, List.getElem?_replicate, if_pos h]
  · rw [List.getElem?_eq_none (by simpa using h), List.getElem?_eq_none (by rw [rwN_len]; exact h)]
/-- How far, by place. -/
def dstI (l : List Ed) (t : St) (m : Nat) (j : Nat) : Int := match l[j]? with
  | some e => dstR (nsM l) (ndM l) t m e.name
  | none => 0
theorem dstI_at {l : List Ed} (t : St) (m : Nat) {j : Nat} (h : j < l.length) : dstI l t m j = dstR (nsM l) (ndM l) t m l[j].name := by
  unfold dstI; rw [List.getElem?_eq_getElem h]
theorem name_uniq {l : List Ed} (hw : wrongM l = 0) {i j : Nat} (hi : i < l.length) (hj : j < l.length) (h : l[i].name = l[j].name) : i = j := by
  have hnd := (wrongM_0.1 hw).2.1
  have e2 : (l.map (·.name))[i]'(by simpa using hi) = (l.map (·.name))[j]'(by simpa using hj) := by simpa using h
  rcases Nat.lt_trichotomy i j with h7 | h7 | h7
  · exact absurd e2 (List.pairwise_iff_getElem.1 hnd _ _ (by simpa using hi) (by simpa using hj) h7)
  · exact h7
  · exact absurd e2.symm (List.pairwise_iff_getElem.1 hnd _ _ (by simpa using hj) (by simpa using hi) h7)
theorem nm_in {l : List Ed} {j : Nat} (h : j < l.length) : l[j].name ∈ nsM l := ns_mem.2 ⟨l[j], List.getElem_mem h, rfl⟩
theorem nd_of {l : List Ed} (hw : wrongM l = 0) {j : Nat} (h : j < l.length) : ndM l l[j].name = l[j].needs := nd_at (wrongM_0.1 hw).2.1 (List.getElem_mem h)
/-- In a round, ahead of a place and behind it. -/
def midI (l : List Ed) (t : St) (m i : Nat) (j : Nat) : Int := if j < i then dstI l t (m + 1) j else dstI l t m j
theorem midI_0 (l : List Ed) (t : St) (m : Nat) : midI l t m 0 = dstI l t m := by funext j; simp [midI]
theorem midI_end (l : List Ed) (t : St) (m : Nat) : rwN l.length (midI l t m l.length) = rwN l.length (dstI l t (m + 1)) := rwN_congr fun j hj => by simp [midI, hj]
theorem midI_m {l : List Ed} (t : St) (m i : Nat) {j : Nat} (h : j < l.length) : midI l t m i j = (m : Int) ↔ dstI l t m j = (m : Int) := by
  unfold midI
  split
  · rw [dstI_at _ _ h, dstI_at _ _ h]; exact dst_eq
  · exact Iff.rfl
theorem midI_next (l : List Ed) (t : St) (m i : Nat) : rwN l.length (fun j => if j = i then dstI l t (m + 1) i else midI l t m i j) = rwN l.length (midI l t m (i + 1)) := rwN_congr fun j hj => by
  unfold midI
  by_cases h : j = i
  · subst h; simp
  · rw [if_neg h]
    by_cases h2 : j < i
    · rw [if_pos h2, if_pos (by omega)]
    · rw [if_neg h2, if_neg (by omega)]
theorem v52 (l : List Ed) (hl : l.length ≤ 1000000000) (hnl : ∀ e ∈ l, e.needs.length ≤ 9223372036854775807) (hw : wrongM l = 0) (a : Nat) (ha : a < l.length) :
    VCalls Try.prog G0 52 [edL l, .int .i64 a] (.list none (rwN l.length (dstI l l[a].name l.length))) := by
  refine VCalls.of_PW Try.func52 k52 mix (by simp [c52]) ?_
  simp only [c52, L52, argE]
  have hlen : ((l.map edP).length : Nat) = l.length := by simp
  have hl64 := (wrongM_0.1 hw).1
  have h37 := fun s => v37 l hl s
  have hrl := fun f => rwN_len l.length f
  obtain ⟨t, ht⟩ : ∃ t, l[a].name = t := ⟨_, rfl⟩
  rw [ht]
  repeat' (first | exact True.intro | (refine PW.seqK ?_; intro K hK) | refine PW.block ?_ | refine PW.scope ?_ | refine PW.label ?_ | refine PW.exit ?_ | refine PW.ret ?_ | refine PW.skip ?_ | refine seqK_n (by assumption) ?_ | refine seqK_r (by assumption) ?_ | refine seqK_e (by assumption) ?_ | refine PW.regionA ?_ | exact schedW_stop_i | refine schK_n (by assumption) ?_ | (refine schedW_alt_k ?_ ?_; focus (intro K hK; simp only [hlen, SS, SS2, SS3, SS4, SS5, Option.map_some, Nat.reduceAdd, reduceIte, Nat.reduceEqDiff, Nat.reduceBEq, eq_self, implies_true, ne_eq, beq_self_eq_true, id_eq, reduceCtorEq]; (try go_unwrap; try simp only [hlen, RR, reduceCtorEq]))) | (refine PW.cond rfl ?_ ?_ <;> intro hcond <;> (try contradiction) <;> try simp only [decide_eq_true_eq, decide_eq_false_iff_not] at hcond) | (refine gd_i ?_; intro hg; try simp only [hg]) | ((first | show @LE.le Nat _ _ _ | show @LT.lt Nat _ _ _ | show @LE.le Int _ _ _ | show @LT.lt Int _ _ _ | show @Eq Nat _ _ | show @Eq Int _ _ | show @Eq Bool _ _ | show _ ∨ _ | show ¬ _); first | omega | (simp only [decide_eq_true_eq, decide_eq_false_iff_not, List.length_cons, List.length_nil, List.length_append, List.length_map, Sh.size] <;> omega) | (go_unwrap; omega)) | ((first | refine PW.region ?_ | refine PW.regionQ ?_ | refine schedW_done_i ?_ | show (_ : Post) _ _ _ | show @Eq (List PV) _ _ | show @Eq Bool _ _ | show opsW _ _ _ _ _ _ _ _ | show okAll _ | show @Eq Bool _ _ ∨ _); focus (simp only [hlen, SS, SS2, SS3, SS4, SS5, Option.map_some, Nat.reduceAdd, reduceIte, Nat.reduceEqDiff, Nat.reduceBEq, eq_self, implies_true, ne_eq, beq_self_eq_true, id_eq, reduceCtorEq]; (try go_unwrap; try simp only [hlen, RR, reduceCtorEq]))) | refine And.intro ?_ ?_ | exact Or.inr ⟨rfl, Nat.le_refl _⟩ | exact (fun h => Bool.noConfusion h))
  refine PW.loopG (σ := Nat) 1 (fun _ _ => rfl) [0, 1, 4, 5, 6] (fun i => [edL l, .int .i64 a, .nilSl, .sl none 0 l.length, .int .i64 i]) (fun i => [some (.row none (rwN l.length fun j => if j < i then -1 else 0))]) (fun i => i ≤ l.length) (fun i => l.length - i) 0 ?_ ?_ (by omega) ?_
  · simp only [SS, SS2, SS3, SS4, SS5, Option.map_some, Nat.reduceAdd, reduceIte, Nat.reduceEqDiff, Nat.reduceBEq, eq_self, implies_true, ne_eq, beq_self_eq_true, id_eq, reduceCtorEq]; rfl
  · simp [rwN_zero]
  rintro i hi
  simp only [List.zip_cons_cons, List.zip_nil_left]
  rcases Nat.lt_or_ge i l.length with h | h
  · have hd : decide ((i : Int) < l.length) = true := by simp only [decide_eq_true_eq]; omega
    have hst : rwN l.length (fun j => if j = i then -1 else if j < i then -1 else 0) = rwN l.length (fun j => if j < i + 1 then -1 else 0) := rwN_congr fun j hj => by
      by_cases h1 : j = i
      · subst h1; simp
      · rw [if_neg h1]
        by_cases h2 : j < i
        · rw [if_pos h2, if_pos (by omega)]
        · rw [if_neg h2, if_neg (by omega)]
    repeat' (first | exact True.intro | (refine PW.seqK ?_; intro K hK) | refine PW.block ?_ | refine PW.scope ?_ | refine PW.label ?_ | refine PW.exit ?_ | refine PW.ret ?_ | refine PW.skip ?_ | refine seqK_n (by assumption) ?_ | refine seqK_r (by assumption) ?_ | refine seqK_e (by assumption) ?_ | refine PW.regionA ?_ | exact schedW_stop_i | refine schK_n (by assumption) ?_ | (refine schedW_alt_k ?_ ?_; focus (intro K hK; simp only [hlen, hd, hrl, rwN_set, hst, SS, SS2, SS3, SS4, SS5, Option.map_some, Nat.reduceAdd, reduceIte, Nat.reduceEqDiff, Nat.reduceBEq, eq_self, implies_true, ne_eq, beq_self_eq_true, id_eq, reduceCtorEq]; (try go_unwrap; try simp only [hlen, hd, hrl, rwN_set, hst, RR, reduceCtorEq]))) | (refine PW.cond rfl ?_ ?_ <;> intro hcond <;> (try contradiction) <;> try simp only [decide_eq_true_eq, decide_eq_false_iff_not] at hcond) | (refine gd_i ?_; intro hg; try simp only [hg]) | ((first | show @LE.le Nat _ _ _ | show @LT.lt Nat _ _ _ | show @LE.le Int _ _ _ | show @LT.lt Int _ _ _ | show @Eq Nat _ _ | show @Eq Int _ _ | show @Eq Bool _ _ | show _ ∨ _ | show ¬ _); first | omega | (simp only [decide_eq_true_eq, decide_eq_false_iff_not, List.length_cons, List.length_nil, List.length_append, List.length_map, Sh.size] <;> omega) | (go_unwrap; omega)) | ((first | refine PW.region ?_ | refine PW.regionQ ?_ | refine schedW_done_i ?_ | show (_ : Post) _ _ _ | show @Eq (List PV) _ _ | show @Eq Bool _ _ | show opsW _ _ _ _ _ _ _ _ | show okAll _ | show @Eq Bool _ _ ∨ _); focus (simp only [hlen, hd, hrl, rwN_set, hst, SS, SS2, SS3, SS4, SS5, Option.map_some, Nat.reduceAdd, reduceIte, Nat.reduceEqDiff, Nat.reduceBEq, eq_self, implies_true, ne_eq, beq_self_eq_true, id_eq, reduceCtorEq]; (try go_unwrap; try simp only [hlen, hd, hrl, rwN_set, hst, RR, reduceCtorEq]))) | refine And.intro ?_ ?_ | exact Or.inr ⟨rfl, Nat.le_refl _⟩ | exact (fun h => Bool.noConfusion h))
    all_goals exact ⟨i + 1, (by first | rfl | (simp only [trimE, trimM, List.take_succ_cons, List.take_zero, List.take_nil, List.map_cons, List.map_nil, Option.map_some, Option.map_none, MObj.kill, PV.kill, Nat.reduceLeDiff, decide_true, decide_false, dec_true, dec_false, Bool.false_eq_true, if_false, if_true, reduceIte, List.zip_cons_cons, List.zip_nil_left, Nat.le_refl, Nat.zero_le, Nat.not_le, Nat.lt_irrefl]; done) | (simp [trimE, trimM, MObj.kill, PV.kill]; done)), (by first | rfl | (simp only [trimE, trimM, List.take_succ_cons, List.take_zero, List.take_nil, List.map_cons, List.map_nil, Option.map_some, Option.map_none, MObj.kill, PV.kill, Nat.reduceLeDiff, decide_true, decide_false, dec_true, dec_false, Bool.false_eq_true, if_false, if_true, reduceIte, List.zip_cons_cons, List.zip_nil_left, Nat.le_refl, Nat.zero_le, Nat.not_le, Nat.lt_irrefl]; done) | (simp [trimE, trimM, MObj.kill, PV.kill]; done)), by omega, by omega⟩
  have hd : decide ((i : Int) < l.length) = false := by simp only [decide_eq_false_iff_not]; omega
  have hst : rwN l.length (fun j => if j = a then 0 else if j < i then -1 else 0) = rwN l.length (dstI l t 0) := rwN_congr fun j hj => by
    rw [dstI_at _ _ hj, dst_zero]
    by_cases h1 : j = a
    · subst h1; rw [if_pos rfl, if_pos ht]
    · rw [if_neg h1, if_pos (by omega), if_neg (fun e => h1 (name_uniq hw hj ha (by rw [e, ht])))]
  have ha' : (a : Int) < l.length := by omega
  repeat' (first | exact True.intro | (refine PW.seqK ?_; intro K hK) | refine PW.block ?_ | refine PW.scope ?_ | refine PW.label ?_ | refine PW.exit ?_ | refine PW.ret ?_ | refine PW.skip ?_ | refine seqK_n (by assumption) ?_ | refine seqK_r (by assumption) ?_ | refine seqK_e (by assumption) ?_ | refine PW.regionA ?_ | exact schedW_stop_i | refine schK_n (by assumption) ?_ | (refine schedW_alt_k ?_ ?_; focus (intro K hK; simp only [hlen, hd, hrl, rwN_set, hst, SS, SS2, SS3, SS4, SS5, Option.map_some, Nat.reduceAdd, reduceIte, Nat.reduceEqDiff, Nat.reduceBEq, eq_self, implies_true, ne_eq, beq_self_eq_true, id_eq, reduceCtorEq]; (try go_unwrap; try simp only [hlen, hd, hrl, rwN_set, hst, RR, reduceCtorEq]))) | (refine PW.cond rfl ?_ ?_ <;> intro hcond <;> (try contradiction) <;> try simp only [decide_eq_true_eq, decide_eq_false_iff_not] at hcond) | (refine gd_i ?_; intro hg; try simp only [hg]) | ((first | show @LE.le Nat _ _ _ | show @LT.lt Nat _ _ _ | show @LE.le Int _ _ _ | show @LT.lt Int _ _ _ | show @Eq Nat _ _ | show @Eq Int _ _ | show @Eq Bool _ _ | show _ ∨ _ | show ¬ _); first | omega | (simp only [decide_eq_true_eq, decide_eq_false_iff_not, List.length_cons, List.length_nil, List.length_append, List.length_map, Sh.size] <;> omega) | (go_unwrap; omega)) | ((first | refine PW.region ?_ | refine PW.regionQ ?_ | refine schedW_done_i ?_ | show (_ : Post) _ _ _ | show @Eq (List PV) _ _ | show @Eq Bool _ _ | show opsW _ _ _ _ _ _ _ _ | show okAll _ | show @Eq Bool _ _ ∨ _); focus (simp only [hlen, hd, hrl, rwN_set, hst, SS, SS2, SS3, SS4, SS5, Option.map_some, Nat.reduceAdd, reduceIte, Nat.reduceEqDiff, Nat.reduceBEq, eq_self, implies_true, ne_eq, beq_self_eq_true, id_eq, reduceCtorEq]; (try go_unwrap; try simp only [hlen, hd, hrl, rwN_set, hst, RR, reduceCtorEq]))) | refine And.intro ?_ ?_ | exact Or.inr ⟨rfl, Nat.le_refl _⟩ | exact (fun h => Bool.noConfusion h))
  refine PW.loopG (σ := Nat) 1 (fun _ _ => rfl) [0, 1, 4, 5, 7] (fun m => [edL l, .int .i64 a, .nilSl, .sl none 0 l.length, .int .i64 ((m : Int) + 1)]) (fun m => [some (.row none (rwN l.length (dstI l t m)))]) (fun m => m ≤ l.length) (fun m => l.length - m) 0 ?_ ?_ (by omega) ?_
  · simp only [SS, SS2, SS3, SS4, SS5, Option.map_some, Nat.reduceAdd, reduceIte, Nat.reduceEqDiff, Nat.reduceBEq, eq_self, implies_true, ne_eq, beq_self_eq_true, id_eq, reduceCtorEq]; rfl
  · first | rfl | simp
  clear hst hd hi h
  rintro m hm
  simp only [List.zip_cons_cons, List.zip_nil_left]
  rcases Nat.lt_or_ge m l.length with h | h
  · have hd : decide ((m : Int) + 1 ≤ l.length) = true := by simp only [decide_eq_true_eq]; omega
    have wm : IntKind.i64.wrap ((m : Int) + 1 - 1) = (m : Int) := by rw [IntWalk.i64_in _ (by omega)]; omega
    have wm2 : IntKind.i64.wrap ((m : Int) + 1 + 1) = ((m + 1 : Nat) : Int) + 1 := by rw [IntWalk.i64_in _ (by omega)]; omega
    repeat' (first | exact True.intro | (refine PW.seqK ?_; intro K hK) | refine PW.block ?_ | refine PW.scope ?_ | refine PW.label ?_ | refine PW.exit ?_ | refine PW.ret ?_ | refine PW.skip ?_ | refine seqK_n (by assumption) ?_ | refine seqK_r (by assumption) ?_ | refine seqK_e (by assumption) ?_ | refine PW.regionA ?_ | exact schedW_stop_i | refine schK_n (by assumption) ?_ | (refine schedW_alt_k ?_ ?_; focus (intro K hK; simp only [hlen, hd, SS, SS2, SS3, SS4, SS5, Option.map_some, Nat.reduceAdd, reduceIte, Nat.reduceEqDiff, Nat.reduceBEq, eq_self, implies_true, ne_eq, beq_self_eq_true, id_eq, reduceCtorEq]; (try go_unwrap; try simp only [hlen, hd, RR, reduceCtorEq]))) | (refine PW.cond rfl ?_ ?_ <;> intro hcond <;> (try contradiction) <;> try simp only [decide_eq_true_eq, decide_eq_false_iff_not] at hcond) | (refine gd_i ?_; intro hg; try simp only [hg]) | ((first | show @LE.le Nat _ _ _ | show @LT.lt Nat _ _ _ | show @LE.le Int _ _ _ | show @LT.lt Int _ _ _ | show @Eq Nat _ _ | show @Eq Int _ _ | show @Eq Bool _ _ | show _ ∨ _ | show ¬ _); first | omega | (simp only [decide_eq_true_eq, decide_eq_false_iff_not, List.length_cons, List.length_nil, List.length_append, List.length_map, Sh.size] <;> omega) | (go_unwrap; omega)) | ((first | refine PW.region ?_ | refine PW.regionQ ?_ | refine schedW_done_i ?_ | show (_ : Post) _ _ _ | show @Eq (List PV) _ _ | show @Eq Bool _ _ | show opsW _ _ _ _ _ _ _ _ | show okAll _ | show @Eq Bool _ _ ∨ _); focus (simp only [hlen, hd, SS, SS2, SS3, SS4, SS5, Option.map_some, Nat.reduceAdd, reduceIte, Nat.reduceEqDiff, Nat.reduceBEq, eq_self, implies_true, ne_eq, beq_self_eq_true, id_eq, reduceCtorEq]; (try go_unwrap; try simp only [hlen, hd, RR, reduceCtorEq]))) | refine And.intro ?_ ?_ | exact Or.inr ⟨rfl, Nat.le_refl _⟩ | exact (fun h => Bool.noConfusion h))
    refine PW.loopG (σ := Nat) 1 (fun _ _ => rfl) [0, 1, 4, 5, 7, 8] (fun i => [edL l, .int .i64 a, .nilSl, .sl none 0 l.length, .int .i64 ((m : Int) + 1), .int .i64 i]) (fun i => [some (.row none (rwN l.length (midI l t m i)))]) (fun i => i ≤ l.length) (fun i => l.length - i) 0 ?_ (by rw [midI_0]) (by omega) ?_
    · simp only [SS, SS2, SS3, SS4, SS5, Option.map_some, Nat.reduceAdd, reduceIte, Nat.reduceEqDiff, Nat.reduceBEq, eq_self, implies_true, ne_eq, beq_self_eq_true, id_eq, reduceCtorEq]; rfl
    rintro i hi
    simp only [List.zip_cons_cons, List.zip_nil_left]
    rcases Nat.lt_or_ge i l.length with h3 | h3
    · have hdi : decide ((i : Int) < l.length) = true := by simp only [decide_eq_true_eq]; omega
      have hg := ed_getD l i h3
      have hnle := hnl l[i] (List.getElem_mem h3)
      have hnd := nd_of hw h3
      have hin := dstI_at t m h3
      have hin1 := dstI_at t (m + 1) h3
      have hnx := midI_next l t m i
      have hmi : midI l t m i i = dstI l t m i := by simp [midI]
      generalize l[i] = e at hg hnle hnd hin hin1
      simp only [edP] at hg
      have hnlen : ((e.needs.map PV.str).length : Nat) = e.needs.length := by simp
      repeat' (first | exact True.intro | (refine PW.seqK ?_; intro K hK) | refine PW.block ?_ | refine PW.scope ?_ | refine PW.label ?_ | refine PW.exit ?_ | refine PW.ret ?_ | refine PW.skip ?_ | refine seqK_n (by assumption) ?_ | refine seqK_r (by assumption) ?_ | refine seqK_e (by assumption) ?_ | refine PW.regionA ?_ | exact schedW_stop_i | refine schK_n (by assumption) ?_ | (refine schedW_alt_k ?_ ?_; focus (intro K hK; simp only [hlen, hdi, SS, SS2, SS3, SS4, SS5, Option.map_some, Nat.reduceAdd, reduceIte, Nat.reduceEqDiff, Nat.reduceBEq, eq_self, implies_true, ne_eq, beq_self_eq_true, id_eq, reduceCtorEq]; (try go_unwrap; try simp only [hlen, hdi, RR, reduceCtorEq]))) | (refine PW.cond rfl ?_ ?_ <;> intro hcond <;> (try contradiction) <;> try simp only [decide_eq_true_eq, decide_eq_false_iff_not] at hcond) | (refine gd_i ?_; intro hg; try simp only [hg]) | ((first | show @LE.le Nat _ _ _ | show @LT.lt Nat _ _ _ | show @LE.le Int _ _ _ | show @LT.lt Int _ _ _ | show @Eq Nat _ _ | show @Eq Int _ _ | show @Eq Bool _ _ | show _ ∨ _ | show ¬ _); first | omega | (simp only [decide_eq_true_eq, decide_eq_false_iff_not, List.length_cons, List.length_nil, List.length_append, List.length_map, Sh.size] <;> omega) | (go_unwrap; omega)) | ((first | refine PW.region ?_ | refine PW.regionQ ?_ | refine schedW_done_i ?_ | show (_ : Post) _ _ _ | show @Eq (List PV) _ _ | show @Eq Bool _ _ | show opsW _ _ _ _ _ _ _ _ | show okAll _ | show @Eq Bool _ _ ∨ _); focus (simp only [hlen, hdi, SS, SS2, SS3, SS4, SS5, Option.map_some, Nat.reduceAdd, reduceIte, Nat.reduceEqDiff, Nat.reduceBEq, eq_self, implies_true, ne_eq, beq_self_eq_true, id_eq, reduceCtorEq]; (try go_unwrap; try simp only [hlen, hdi, RR, reduceCtorEq]))) | refine And.intro ?_ ?_ | exact Or.inr ⟨rfl, Nat.le_refl _⟩ | exact (fun h => Bool.noConfusion h))
      by_cases hneg : dstI l t m i < 0
      case neg =>
        -- told already
        have hold : dstI l t (m + 1) i = dstI l t m i := by rw [hin1, hin]; rw [hin] at hneg; exact dst_old hneg
        have hnx2 : rwN l.length (midI l t m i) = rwN l.length (midI l t m (i + 1)) := by
          rw [← hnx]
          refine rwN_congr fun j hj => ?_
          by_cases hj2 : j = i
          · subst hj2; rw [if_pos rfl, hmi, hold]
          · rw [if_neg hj2]
        have hq : (rwN l.length (midI l t m i))[i]? = some (.int .i64 (dstI l t m i)) := by rw [rwN_at _ h3, hmi]
        have dn : decide (dstI l t m i < 0) = false := by simpa using hneg
        refine PW.loopG (σ := Unit) 1 (fun _ _ => rfl) [0, 1, 4, 5, 7, 8, 9] (fun _ => [edL l, .int .i64 a, .nilSl, .sl none 0 l.length, .int .i64 ((m : Int) + 1), .int .i64 i, .int .i64 0]) (fun _ => [some (.row none (rwN l.length (midI l t m i)))]) (fun _ => True) (fun _ => 0) () ?_ rfl trivial ?_
        · simp only [SS, SS2, SS3, SS4, SS5, Option.map_some, Nat.reduceAdd, reduceIte, Nat.reduceEqDiff, Nat.reduceBEq, eq_self, implies_true, ne_eq, beq_self_eq_true, id_eq, reduceCtorEq]; rfl
        rintro _ _
        simp only [List.zip_cons_cons, List.zip_nil_left]
        repeat' (first | exact True.intro | (refine PW.seqK ?_; intro K hK) | refine PW.block ?_ | refine PW.scope ?_ | refine PW.label ?_ | refine PW.exit ?_ | refine PW.ret ?_ | refine PW.skip ?_ | refine seqK_n (by assumption) ?_ | refine seqK_r (by assumption) ?_ | refine seqK_e (by assumption) ?_ | refine PW.regionA ?_ | exact schedW_stop_i | refine schK_n (by assumption) ?_ | (refine schedW_alt_k ?_ ?_; focus (intro K hK; simp only [hlen, hg, hnlen, hq, dn, SS, SS2, SS3, SS4, SS5, Option.map_some, Nat.reduceAdd, reduceIte, Nat.reduceEqDiff, Nat.reduceBEq, eq_self, implies_true, ne_eq, beq_self_eq_true, id_eq, reduceCtorEq]; (try go_unwrap; try simp only [hlen, hg, hnlen, hq, dn, RR, reduceCtorEq]))) | (refine PW.cond rfl ?_ ?_ <;> intro hcond <;> (try contradiction) <;> try simp only [decide_eq_true_eq, decide_eq_false_iff_not] at hcond) | (refine gd_i ?_; intro hg; try simp only [hg]) | ((first | show @LE.le Nat _ _ _ | show @LT.lt Nat _ _ _ | show @LE.le Int _ _ _ | show @LT.lt Int _ _ _ | show @Eq Nat _ _ | show @Eq Int _ _ | show @Eq Bool _ _ | show _ ∨ _ | show ¬ _); first | omega | (simp only [decide_eq_true_eq, decide_eq_false_iff_not, List.length_cons, List.length_nil, List.length_append, List.length_map, Sh.size] <;> omega) | (go_unwrap; omega)) | ((first | refine PW.region ?_ | refine PW.regionQ ?_ | refine schedW_done_i ?_ | show (_ : Post) _ _ _ | show @Eq (List PV) _ _ | show @Eq Bool _ _ | show opsW _ _ _ _ _ _ _ _ | show okAll _ | show @Eq Bool _ _ ∨ _); focus (simp only [hlen, hg, hnlen, hq, dn, SS, SS2, SS3, SS4, SS5, Option.map_some, Nat.reduceAdd, reduceIte, Nat.reduceEqDiff, Nat.reduceBEq, eq_self, implies_true, ne_eq, beq_self_eq_true, id_eq, reduceCtorEq]; (try go_unwrap; try simp only [hlen, hg, hnlen, hq, dn, RR, reduceCtorEq]))) | refine And.intro ?_ ?_ | exact Or.inr ⟨rfl, Nat.le_refl _⟩ | exact (fun h => Bool.noConfusion h))
        all_goals exact ⟨i + 1, (by first | rfl | (simp only [trimE, trimM, List.take_succ_cons, List.take_zero, List.take_nil, List.map_cons, List.map_nil, Option.map_some, Option.map_none, MObj.kill, PV.kill, Nat.reduceLeDiff, decide_true, decide_false, dec_true, dec_false, Bool.false_eq_true, if_false, if_true, reduceIte, List.zip_cons_cons, List.zip_nil_left, Nat.le_refl, Nat.zero_le, Nat.not_le, Nat.lt_irrefl]; done) | (simp [trimE, trimM, MObj.kill, PV.kill]; done)), (by rw [← hnx2]; exact (by first | rfl | (simp only [trimE, trimM, List.take_succ_cons, List.take_zero, List.take_nil, List.map_cons, List.map_nil, Option.map_some, Option.map_none, MObj.kill, PV.kill, Nat.reduceLeDiff, decide_true, decide_false, dec_true, dec_false, Bool.false_eq_true, if_false, if_true, reduceIte, List.zip_cons_cons, List.zip_nil_left, Nat.le_refl, Nat.zero_le, Nat.not_le, Nat.lt_irrefl]; done) | (simp [trimE, trimM, MObj.kill, PV.kill]; done))), by omega, by omega⟩
      have hm1 : dstI l t m i = -1 := by rw [hin] at hneg ⊢; exact dst_neg hneg
      have hnew : dstI l t (m + 1) i = if (∃ x ∈ e.needs, x ∈ nsM l ∧ dstR (nsM l) (ndM l) t m x = m) then ((m + 1 : Nat) : Int) else -1 := by
        rw [hin1, ← hnd]; rw [hin] at hneg; exact dst_new hneg
      refine PW.loopG (σ := Nat × Bool) 1 (fun _ _ => rfl) [0, 1, 4, 5, 7, 8, 9] (fun q => [edL l, .int .i64 a, .nilSl, .sl none 0 l.length, .int .i64 ((m : Int) + 1), .int .i64 i, .int .i64 q.1]) (fun q => [some (.row none (rwN l.length (fun j => if j = i then (if q.2 = true then (m : Int) + 1 else -1) else midI l t m i j)))])
        (fun q => q.1 ≤ e.needs.length ∧ (q.2 = true → ∃ x ∈ e.needs, x ∈ nsM l ∧ dstR (nsM l) (ndM l) t m x = m) ∧ (q.2 = false → ∀ j (h : j < e.needs.length), j < q.1 → ¬ (e.needs[j] ∈ nsM l ∧ dstR (nsM l) (ndM l) t m e.needs[j] = m))) (fun q => if q.2 = true then 0 else e.needs.length + 1 - q.1) (0, false) ?_ ?_ ⟨by simp, (fun h => by cases h), fun _ j _ h => by simp at h⟩ ?_
      · simp only [SS, SS2, SS3, SS4, SS5, Option.map_some, Nat.reduceAdd, reduceIte, Nat.reduceEqDiff, Nat.reduceBEq, eq_self, implies_true, ne_eq, beq_self_eq_true, id_eq, reduceCtorEq]; rfl
      · congr 3
        refine rwN_congr fun j hj => ?_
        by_cases hj2 : j = i
        · subst hj2; rw [if_pos rfl, hmi, hm1]; rfl
        · rw [if_neg hj2]
      rintro ⟨k, b⟩ ⟨hk, hb1, hb2⟩
      simp only at hk hb1 hb2
      simp only [List.zip_cons_cons, List.zip_nil_left]
      cases b with
      | true =>
        have hend : dstI l t (m + 1) i = (m : Int) + 1 := by rw [hnew, if_pos (hb1 rfl)]; omega
        rw [hend] at hnx
        have hq : (rwN l.length (fun j => if j = i then (m : Int) + 1 else midI l t m i j))[i]? = some (.int .i64 ((m : Int) + 1)) := by rw [rwN_at _ h3, if_pos rfl]
        have dn : decide ((m : Int) + 1 < 0) = false := by simp only [decide_eq_false_iff_not]; omega
        clear hb1 hb2 hnew
        simp only [if_true]
        repeat' (first | exact True.intro | (refine PW.seqK ?_; intro K hK) | refine PW.block ?_ | refine PW.scope ?_ | refine PW.label ?_ | refine PW.exit ?_ | refine PW.ret ?_ | refine PW.skip ?_ | refine seqK_n (by assumption) ?_ | refine seqK_r (by assumption) ?_ | refine seqK_e (by assumption) ?_ | refine PW.regionA ?_ | exact schedW_stop_i | refine schK_n (by assumption) ?_ | (refine schedW_alt_k ?_ ?_; focus (intro K hK; simp only [hlen, hg, hnlen, hq, dn, SS, SS2, SS3, SS4, SS5, Option.map_some, Nat.reduceAdd, reduceIte, Nat.reduceEqDiff, Nat.reduceBEq, eq_self, implies_true, ne_eq, beq_self_eq_true, id_eq, reduceCtorEq]; (try go_unwrap; try simp only [hlen, hg, hnlen, hq, dn, RR, reduceCtorEq]))) | (refine PW.cond rfl ?_ ?_ <;> intro hcond <;> (try contradiction) <;> try simp only [decide_eq_true_eq, decide_eq_false_iff_not] at hcond) | (refine gd_i ?_; intro hg; try simp only [hg]) | ((first | show @LE.le Nat _ _ _ | show @LT.lt Nat _ _ _ | show @LE.le Int _ _ _ | show @LT.lt Int _ _ _ | show @Eq Nat _ _ | show @Eq Int _ _ | show @Eq Bool _ _ | show _ ∨ _ | show ¬ _); first | omega | (simp only [decide_eq_true_eq, decide_eq_false_iff_not, List.length_cons, List.length_nil, List.length_append, List.length_map, Sh.size] <;> omega) | (go_unwrap; omega)) | ((first | refine PW.region ?_ | refine PW.regionQ ?_ | refine schedW_done_i ?_ | show (_ : Post) _ _ _ | show @Eq (List PV) _ _ | show @Eq Bool _ _ | show opsW _ _ _ _ _ _ _ _ | show okAll _ | show @Eq Bool _ _ ∨ _); focus (simp only [hlen, hg, hnlen, hq, dn, SS, SS2, SS3, SS4, SS5, Option.map_some, Nat.reduceAdd, reduceIte, Nat.reduceEqDiff, Nat.reduceBEq, eq_self, implies_true, ne_eq, beq_self_eq_true, id_eq, reduceCtorEq]; (try go_unwrap; try simp only [hlen, hg, hnlen, hq, dn, RR, reduceCtorEq]))) | refine And.intro ?_ ?_ | exact Or.inr ⟨rfl, Nat.le_refl _⟩ | exact (fun h => Bool.noConfusion h))
        all_goals exact ⟨i + 1, (by first | rfl | (simp only [trimE, trimM, List.take_succ_cons, List.take_zero, List.take_nil, List.map_cons, List.map_nil, Option.map_some, Option.map_none, MObj.kill, PV.kill, Nat.reduceLeDiff, decide_true, decide_false, dec_true, dec_false, Bool.false_eq_true, if_false, if_true, reduceIte, List.zip_cons_cons, List.zip_nil_left, Nat.le_refl, Nat.zero_le, Nat.not_le, Nat.lt_irrefl]; done) | (simp [trimE, trimM, MObj.kill, PV.kill]; done)), (by rw [← hnx]; exact (by first | rfl | (simp only [trimE, trimM, List.take_succ_cons, List.take_zero, List.take_nil, List.map_cons, List.map_nil, Option.map_some, Option.map_none, MObj.kill, PV.kill, Nat.reduceLeDiff, decide_true, decide_false, dec_true, dec_false, Bool.false_eq_true, if_false, if_true, reduceIte, List.zip_cons_cons, List.zip_nil_left, Nat.le_refl, Nat.zero_le, Nat.not_le, Nat.lt_irrefl]; done) | (simp [trimE, trimM, MObj.kill, PV.kill]; done))), by omega, by omega⟩
      | false =>
        have hb2 := hb2 rfl
        clear hb1
        simp only [Bool.false_eq_true, if_false]
        have hq : (rwN l.length (fun j => if j = i then -1 else midI l t m i j))[i]? = some (.int .i64 (-1)) := by rw [rwN_at _ h3, if_pos rfl]
        have dn : decide ((-1 : Int) < 0) = true := rfl
        rcases Nat.lt_or_ge k e.needs.length with h4 | h4
        · have hdk : decide ((k : Int) < e.needs.length) = true := by simp only [decide_eq_true_eq]; omega
          have hgn := tx_getD e.needs k h4
          have hmem := List.getElem_mem h4
          have hb3 : ¬ (e.needs[k] ∈ nsM l ∧ dstR (nsM l) (ndM l) t m e.needs[k] = m) → ∀ j (h : j < e.needs.length), j < k + 1 → ¬ (e.needs[j] ∈ nsM l ∧ dstR (nsM l) (ndM l) t m e.needs[j] = m) := fun hp j hj hji => by
            rcases Nat.lt_or_ge j k with h' | h'
            · exact hb2 j hj h'
            · obtain rfl : j = k := by omega
              exact hp
          clear hb2
          generalize e.needs[k] = x at hgn hmem hb3
          have h37 := h37 x
          rcases plcE_cases l x with ⟨hp, -, hxN⟩ | ⟨c, hc, hp, hn, -⟩
          · rw [hp] at h37
            have hb4 := hb3 (fun h => hxN h.1)
            have dm : decide ((0 : Int) ≤ -1) = false := rfl
            repeat' (first | exact True.intro | (refine PW.seqK ?_; intro K hK) | refine PW.block ?_ | refine PW.scope ?_ | refine PW.label ?_ | refine PW.exit ?_ | refine PW.ret ?_ | refine PW.skip ?_ | refine seqK_n (by assumption) ?_ | refine seqK_r (by assumption) ?_ | refine seqK_e (by assumption) ?_ | refine PW.regionA ?_ | exact schedW_stop_i | refine schK_n (by assumption) ?_ | (refine schedW_alt_k ?_ ?_; focus (intro K hK; simp only [hlen, hg, hnlen, hq, dn, hdk, hgn, dm, SS, SS2, SS3, SS4, SS5, Option.map_some, Nat.reduceAdd, reduceIte, Nat.reduceEqDiff, Nat.reduceBEq, eq_self, implies_true, ne_eq, beq_self_eq_true, id_eq, reduceCtorEq]; (try go_unwrap; try simp only [hlen, hg, hnlen, hq, dn, hdk, hgn, dm, RR, reduceCtorEq]))) | (refine PW.cond rfl ?_ ?_ <;> intro hcond <;> (try contradiction) <;> try simp only [decide_eq_true_eq, decide_eq_false_iff_not] at hcond) | (refine gd_i ?_; intro hg; try simp only [hg]) | refine goCall_W e37 (h37) ?_ ?_ ?_ ?_ | ((first | show @LE.le Nat _ _ _ | show @LT.lt Nat _ _ _ | show @LE.le Int _ _ _ | show @LT.lt Int _ _ _ | show @Eq Nat _ _ | show @Eq Int _ _ | show @Eq Bool _ _ | show _ ∨ _ | show ¬ _); first | omega | (simp only [decide_eq_true_eq, decide_eq_false_iff_not, List.length_cons, List.length_nil, List.length_append, List.length_map, Sh.size] <;> omega) | (go_unwrap; omega)) | ((first | refine PW.region ?_ | refine PW.regionQ ?_ | refine schedW_done_i ?_ | show (_ : Post) _ _ _ | show @Eq (List PV) _ _ | show @Eq Bool _ _ | show opsW _ _ _ _ _ _ _ _ | show okAll _ | show @Eq Bool _ _ ∨ _); focus (simp only [hlen, hg, hnlen, hq, dn, hdk, hgn, dm, SS, SS2, SS3, SS4, SS5, Option.map_some, Nat.reduceAdd, reduceIte, Nat.reduceEqDiff, Nat.reduceBEq, eq_self, implies_true, ne_eq, beq_self_eq_true, id_eq, reduceCtorEq]; (try go_unwrap; try simp only [hlen, hg, hnlen, hq, dn, hdk, hgn, dm, RR, reduceCtorEq]))) | refine And.intro ?_ ?_ | exact Or.inr ⟨rfl, Nat.le_refl _⟩ | exact (fun h => Bool.noConfusion h))
            all_goals exact ⟨(k + 1, false), (by first | rfl | (simp only [trimE, trimM, List.take_succ_cons, List.take_zero, List.take_nil, List.map_cons, List.map_nil, Option.map_some, Option.map_none, MObj.kill, PV.kill, Nat.reduceLeDiff, decide_true, decide_false, dec_true, dec_false, Bool.false_eq_true, if_false, if_true, reduceIte, List.zip_cons_cons, List.zip_nil_left, Nat.le_refl, Nat.zero_le, Nat.not_le, Nat.lt_irrefl]; done) | (simp [trimE, trimM, MObj.kill, PV.kill]; done)), (by first | rfl | (simp only [trimE, trimM, List.take_succ_cons, List.take_zero, List.take_nil, List.map_cons, List.map_nil, Option.map_some, Option.map_none, MObj.kill, PV.kill, Nat.reduceLeDiff, decide_true, decide_false, dec_true, dec_false, Bool.false_eq_true, if_false, if_true, reduceIte, List.zip_cons_cons, List.zip_nil_left, Nat.le_refl, Nat.zero_le, Nat.not_le, Nat.lt_irrefl]; done) | (simp [trimE, trimM, MObj.kill, PV.kill]; done)), ⟨by simp only; omega, (fun h => by cases h), fun _ => hb4⟩, by simp only [Bool.false_eq_true, if_false]; omega⟩
          · rw [hp] at h37
            have dc : decide ((0 : Int) ≤ (c : Int)) = true := by simp only [decide_eq_true_eq]; omega
            have hcin : x ∈ nsM l := by rw [← hn]; exact nm_in hc
            have hdx : dstI l t m c = dstR (nsM l) (ndM l) t m x := by rw [dstI_at _ _ hc, hn]
            obtain ⟨v, hv⟩ : ∃ v, (if c = i then (-1 : Int) else midI l t m i c) = v := ⟨_, rfl⟩
            have hqc : (rwN l.length (fun j => if j = i then -1 else midI l t m i j))[c]? = some (.int .i64 v) := by rw [rwN_at _ hc, hv]
            have hvm : v = (m : Int) ↔ dstR (nsM l) (ndM l) t m x = m := by
              rw [← hv, ← hdx]
              split
              · rename_i hci; subst hci; rw [hm1]
              · exact midI_m t m i hc
            clear hv
            by_cases hvv : v = (m : Int)
            · have dv : decide (v = (m : Int)) = true := by simpa using hvv
              have hset : rwN l.length (fun j => if j = i then (m : Int) + 1 else if j = i then -1 else midI l t m i j) = rwN l.length (fun j => if j = i then (m : Int) + 1 else midI l t m i j) := rwN_congr fun j hj => by
                by_cases hj2 : j = i
                · rw [if_pos hj2, if_pos hj2]
                · rw [if_neg hj2, if_neg hj2, if_neg hj2]
              have hex : ∃ x ∈ e.needs, x ∈ nsM l ∧ dstR (nsM l) (ndM l) t m x = m := ⟨x, hmem, hcin, hvm.1 hvv⟩
              clear hb3
              repeat' (first | exact True.intro | (refine PW.seqK ?_; intro K hK) | refine PW.block ?_ | refine PW.scope ?_ | refine PW.label ?_ | refine PW.exit ?_ | refine PW.ret ?_ | refine PW.skip ?_ | refine seqK_n (by assumption) ?_ | refine seqK_r (by assumption) ?_ | refine seqK_e (by assumption) ?_ | refine PW.regionA ?_ | exact schedW_stop_i | refine schK_n (by assumption) ?_ | (refine schedW_alt_k ?_ ?_; focus (intro K hK; simp only [hlen, hg, hnlen, hq, dn, hdk, hgn, dc, hqc, wm, dv, hrl, rwN_set, hset, SS, SS2, SS3, SS4, SS5, Option.map_some, Nat.reduceAdd, reduceIte, Nat.reduceEqDiff, Nat.reduceBEq, eq_self, implies_true, ne_eq, beq_self_eq_true, id_eq, reduceCtorEq]; (try go_unwrap; try simp only [hlen, hg, hnlen, hq, dn, hdk, hgn, dc, hqc, wm, dv, hrl, rwN_set, hset, RR, reduceCtorEq]))) | (refine PW.cond rfl ?_ ?_ <;> intro hcond <;> (try contradiction) <;> try simp only [decide_eq_true_eq, decide_eq_false_iff_not] at hcond) | (refine gd_i ?_; intro hg; try simp only [hg]) | refine goCall_W e37 (h37) ?_ ?_ ?_ ?_ | ((first | show @LE.le Nat _ _ _ | show @LT.lt Nat _ _ _ | show @LE.le Int _ _ _ | show @LT.lt Int _ _ _ | show @Eq Nat _ _ | show @Eq Int _ _ | show @Eq Bool _ _ | show _ ∨ _ | show ¬ _); first | omega | (simp only [decide_eq_true_eq, decide_eq_false_iff_not, List.length_cons, List.length_nil, List.length_append, List.length_map, Sh.size] <;> omega) | (go_unwrap; omega)) | ((first | refine PW.region ?_ | refine PW.regionQ ?_ | refine schedW_done_i ?_ | show (_ : Post) _ _ _ | show @Eq (List PV) _ _ | show @Eq Bool _ _ | show opsW _ _ _ _ _ _ _ _ | show okAll _ | show @Eq Bool _ _ ∨ _); focus (simp only [hlen, hg, hnlen, hq, dn, hdk, hgn, dc, hqc, wm, dv, hrl, rwN_set, hset, SS, SS2, SS3, SS4, SS5, Option.map_some, Nat.reduceAdd, reduceIte, Nat.reduceEqDiff, Nat.reduceBEq, eq_self, implies_true, ne_eq, beq_self_eq_true, id_eq, reduceCtorEq]; (try go_unwrap; try simp only [hlen, hg, hnlen, hq, dn, hdk, hgn, dc, hqc, wm, dv, hrl, rwN_set, hset, RR, reduceCtorEq]))) | refine And.intro ?_ ?_ | exact Or.inr ⟨rfl, Nat.le_refl _⟩ | exact (fun h => Bool.noConfusion h))
              all_goals exact ⟨(k + 1, true), (by first | rfl | (simp only [trimE, trimM, List.take_succ_cons, List.take_zero, List.take_nil, List.map_cons, List.map_nil, Option.map_some, Option.map_none, MObj.kill, PV.kill, Nat.reduceLeDiff, decide_true, decide_false, dec_true, dec_false, Bool.false_eq_true, if_false, if_true, reduceIte, List.zip_cons_cons, List.zip_nil_left, Nat.le_refl, Nat.zero_le, Nat.not_le, Nat.lt_irrefl]; done) | (simp [trimE, trimM, MObj.kill, PV.kill]; done)), (by simp only [if_true]; exact (by first | rfl | (simp only [trimE, trimM, List.take_succ_cons, List.take_zero, List.take_nil, List.map_cons, List.map_nil, Option.map_some, Option.map_none, MObj.kill, PV.kill, Nat.reduceLeDiff, decide_true, decide_false, dec_true, dec_false, Bool.false_eq_true, if_false, if_true, reduceIte, List.zip_cons_cons, List.zip_nil_left, Nat.le_refl, Nat.zero_le, Nat.not_le, Nat.lt_irrefl]; done) | (simp [trimE, trimM, MObj.kill, PV.kill]; done))), ⟨by simp only; omega, fun _ => hex, (fun h => by cases h)⟩, by simp only [Bool.false_eq_true, if_false, if_true]; omega⟩
            · have dv : decide (v = (m : Int)) = false := by simpa using hvv
              have hb4 := hb3 (fun h => hvv (hvm.2 h.2))
              repeat' (first | exact True.intro | (refine PW.seqK ?_; intro K hK) | refine PW.block ?_ | refine PW.scope ?_ | refine PW.label ?_ | refine PW.exit ?_ | refine PW.ret ?_ | refine PW.skip ?_ | refine seqK_n (by assumption) ?_ | refine seqK_r (by assumption) ?_ | refine seqK_e (by assumption) ?_ | refine PW.regionA ?_ | exact schedW_stop_i | refine schK_n (by assumption) ?_ | (refine schedW_alt_k ?_ ?_; focus (intro K hK; simp only [hlen, hg, hnlen, hq, dn, hdk, hgn, dc, hqc, wm, dv, SS, SS2, SS3, SS4, SS5, Option.map_some, Nat.reduceAdd, reduceIte, Nat.reduceEqDiff, Nat.reduceBEq, eq_self, implies_true, ne_eq, beq_self_eq_true, id_eq, reduceCtorEq]; (try go_unwrap; try simp only [hlen, hg, hnlen, hq, dn, hdk, hgn, dc, hqc, wm, dv, RR, reduceCtorEq]))) | (refine PW.cond rfl ?_ ?_ <;> intro hcond <;> (try contradiction) <;> try simp only [decide_eq_true_eq, decide_eq_false_iff_not] at hcond) | (refine gd_i ?_; intro hg; try simp only [hg]) | refine goCall_W e37 (h37) ?_ ?_ ?_ ?_ | ((first | show @LE.le Nat _ _ _ | show @LT.lt Nat _ _ _ | show @LE.le Int _ _ _ | show @LT.lt Int _ _ _ | show @Eq Nat _ _ | show @Eq Int _ _ | show @Eq Bool _ _ | show _ ∨ _ | show ¬ _); first | omega | (simp only [decide_eq_true_eq, decide_eq_false_iff_not, List.length_cons, List.length_nil, List.length_append, List.length_map, Sh.size] <;> omega) | (go_unwrap; omega)) | ((first | refine PW.region ?_ | refine PW.regionQ ?_ | refine schedW_done_i ?_ | show (_ : Post) _ _ _ | show @Eq (List PV) _ _ | show @Eq Bool _ _ | show opsW _ _ _ _ _ _ _ _ | show okAll _ | show @Eq Bool _ _ ∨ _); focus (simp only [hlen, hg, hnlen, hq, dn, hdk, hgn, dc, hqc, wm, dv, SS, SS2, SS3, SS4, SS5, Option.map_some, Nat.reduceAdd, reduceIte, Nat.reduceEqDiff, Nat.reduceBEq, eq_self, implies_true, ne_eq, beq_self_eq_true, id_eq, reduceCtorEq]; (try go_unwrap; try simp only [hlen, hg, hnlen, hq, dn, hdk, hgn, dc, hqc, wm, dv, RR, reduceCtorEq]))) | refine And.intro ?_ ?_ | exact Or.inr ⟨rfl, Nat.le_refl _⟩ | exact (fun h => Bool.noConfusion h))
              all_goals exact ⟨(k + 1, false), (by first | rfl | (simp only [trimE, trimM, List.take_succ_cons, List.take_zero, List.take_nil, List.map_cons, List.map_nil, Option.map_some, Option.map_none, MObj.kill, PV.kill, Nat.reduceLeDiff, decide_true, decide_false, dec_true, dec_false, Bool.false_eq_true, if_false, if_true, reduceIte, List.zip_cons_cons, List.zip_nil_left, Nat.le_refl, Nat.zero_le, Nat.not_le, Nat.lt_irrefl]; done) | (simp [trimE, trimM, MObj.kill, PV.kill]; done)), (by first | rfl | (simp only [trimE, trimM, List.take_succ_cons, List.take_zero, List.take_nil, List.map_cons, List.map_nil, Option.map_some, Option.map_none, MObj.kill, PV.kill, Nat.reduceLeDiff, decide_true, decide_false, dec_true, dec_false, Bool.false_eq_true, if_false, if_true, reduceIte, List.zip_cons_cons, List.zip_nil_left, Nat.le_refl, Nat.zero_le, Nat.not_le, Nat.lt_irrefl]; done) | (simp [trimE, trimM, MObj.kill, PV.kill]; done)), ⟨by simp only; omega, (fun h => by cases h), fun _ => hb4⟩, by simp only [Bool.false_eq_true, if_false]; omega⟩
        · have hdk : decide ((k : Int) < e.needs.length) = false := by simp only [decide_eq_false_iff_not]; omega
          have hend : dstI l t (m + 1) i = -1 := by
            rw [hnew, if_neg]
            rintro ⟨x, hx, h5⟩
            obtain ⟨j, hj, rfl⟩ := List.getElem_of_mem hx
            exact hb2 j hj (by omega) h5
          rw [hend] at hnx
          clear hb2 hnew
          repeat' (first | exact True.intro | (refine PW.seqK ?_; intro K hK) | refine PW.block ?_ | refine PW.scope ?_ | refine PW.label ?_ | refine PW.exit ?_ | refine PW.ret ?_ | refine PW.skip ?_ | refine seqK_n (by assumption) ?_ | refine seqK_r (by assumption) ?_ | refine seqK_e (by assumption) ?_ | refine PW.regionA ?_ | exact schedW_stop_i | refine schK_n (by assumption) ?_ | (refine schedW_alt_k ?_ ?_; focus (intro K hK; simp only [hlen, hg, hnlen, hq, dn, hdk, SS, SS2, SS3, SS4, SS5, Option.map_some, Nat.reduceAdd, reduceIte, Nat.reduceEqDiff, Nat.reduceBEq, eq_self, implies_true, ne_eq, beq_self_eq_true, id_eq, reduceCtorEq]; (try go_unwrap; try simp only [hlen, hg, hnlen, hq, dn, hdk, RR, reduceCtorEq]))) | (refine PW.cond rfl ?_ ?_ <;> intro hcond <;> (try contradiction) <;> try simp only [decide_eq_true_eq, decide_eq_false_iff_not] at hcond) | (refine gd_i ?_; intro hg; try simp only [hg]) | ((first | show @LE.le Nat _ _ _ | show @LT.lt Nat _ _ _ | show @LE.le Int _ _ _ | show @LT.lt Int _ _ _ | show @Eq Nat _ _ | show @Eq Int _ _ | show @Eq Bool _ _ | show _ ∨ _ | show ¬ _); first | omega | (simp only [decide_eq_true_eq, decide_eq_false_iff_not, List.length_cons, List.length_nil, List.length_append, List.length_map, Sh.size] <;> omega) | (go_unwrap; omega)) | ((first | refine PW.region ?_ | refine PW.regionQ ?_ | refine schedW_done_i ?_ | show (_ : Post) _ _ _ | show @Eq (List PV) _ _ | show @Eq Bool _ _ | show opsW _ _ _ _ _ _ _ _ | show okAll _ | show @Eq Bool _ _ ∨ _); focus (simp only [hlen, hg, hnlen, hq, dn, hdk, SS, SS2, SS3, SS4, SS5, Option.map_some, Nat.reduceAdd, reduceIte, Nat.reduceEqDiff, Nat.reduceBEq, eq_self, implies_true, ne_eq, beq_self_eq_true, id_eq, reduceCtorEq]; (try go_unwrap; try simp only [hlen, hg, hnlen, hq, dn, hdk, RR, reduceCtorEq]))) | refine And.intro ?_ ?_ | exact Or.inr ⟨rfl, Nat.le_refl _⟩ | exact (fun h => Bool.noConfusion h))
          all_goals exact ⟨i + 1, (by first | rfl | (simp only [trimE, trimM, List.take_succ_cons, List.take_zero, List.take_nil, List.map_cons, List.map_nil, Option.map_some, Option.map_none, MObj.kill, PV.kill, Nat.reduceLeDiff, decide_true, decide_false, dec_true, dec_false, Bool.false_eq_true, if_false, if_true, reduceIte, List.zip_cons_cons, List.zip_nil_left, Nat.le_refl, Nat.zero_le, Nat.not_le, Nat.lt_irrefl]; done) | (simp [trimE, trimM, MObj.kill, PV.kill]; done)), (by rw [← hnx]; exact (by first | rfl | (simp only [trimE, trimM, List.take_succ_cons, List.take_zero, List.take_nil, List.map_cons, List.map_nil, Option.map_some, Option.map_none, MObj.kill, PV.kill, Nat.reduceLeDiff, decide_true, decide_false, dec_true, dec_false, Bool.false_eq_true, if_false, if_true, reduceIte, List.zip_cons_cons, List.zip_nil_left, Nat.le_refl, Nat.zero_le, Nat.not_le, Nat.lt_irrefl]; done) | (simp [trimE, trimM, MObj.kill, PV.kill]; done))), by omega, by omega⟩
    · have hdi : decide ((i : Int) < l.length) = false := by simp only [decide_eq_false_iff_not]; omega
      have hi' : i = l.length := by omega
      subst hi'
      rw [midI_end]
      repeat' (first | exact True.intro | (refine PW.seqK ?_; intro K hK) | refine PW.block ?_ | refine PW.scope ?_ | refine PW.label ?_ | refine PW.exit ?_ | refine PW.ret ?_ | refine PW.skip ?_ | refine seqK_n (by assumption) ?_ | refine seqK_r (by assumption) ?_ | refine seqK_e (by assumption) ?_ | refine PW.regionA ?_ | exact schedW_stop_i | refine schK_n (by assumption) ?_ | (refine schedW_alt_k ?_ ?_; focus (intro K hK; simp only [hlen, hdi, wm2, SS, SS2, SS3, SS4, SS5, Option.map_some, Nat.reduceAdd, reduceIte, Nat.reduceEqDiff, Nat.reduceBEq, eq_self, implies_true, ne_eq, beq_self_eq_true, id_eq, reduceCtorEq]; (try go_unwrap; try simp only [hlen, hdi, wm2, RR, reduceCtorEq]))) | (refine PW.cond rfl ?_ ?_ <;> intro hcond <;> (try contradiction) <;> try simp only [decide_eq_true_eq, decide_eq_false_iff_not] at hcond) | (refine gd_i ?_; intro hg; try simp only [hg]) | ((first | show @LE.le Nat _ _ _ | show @LT.lt Nat _ _ _ | show @LE.le Int _ _ _ | show @LT.lt Int _ _ _ | show @Eq Nat _ _ | show @Eq Int _ _ | show @Eq Bool _ _ | show _ ∨ _ | show ¬ _); first | omega | (simp only [decide_eq_true_eq, decide_eq_false_iff_not, List.length_cons, List.length_nil, List.length_append, List.length_map, Sh.size] <;> omega) | (go_unwrap; omega)) | ((first | refine PW.region ?_ | refine PW.regionQ ?_ | refine schedW_done_i ?_ | show (_ : Post) _ _ _ | show @Eq (List PV) _ _ | show @Eq Bool _ _ | show opsW _ _ _ _ _ _ _ _ | show okAll _ | show @Eq Bool _ _ ∨ _); focus (simp only [hlen, hdi, wm2, SS, SS2, SS3, SS4, SS5, Option.map_some, Nat.reduceAdd, reduceIte, Nat.reduceEqDiff, Nat.reduceBEq, eq_self, implies_true, ne_eq, beq_self_eq_true, id_eq, reduceCtorEq]; (try go_unwrap; try simp only [hlen, hdi, wm2, RR, reduceCtorEq]))) | refine And.intro ?_ ?_ | exact Or.inr ⟨rfl, Nat.le_refl _⟩ | exact (fun h => Bool.noConfusion h))
      all_goals exact ⟨m + 1, (by first | rfl | (simp only [trimE, trimM, List.take_succ_cons, List.take_zero, List.take_nil, List.map_cons, List.map_nil, Option.map_some, Option.map_none, MObj.kill, PV.kill, Nat.reduceLeDiff, decide_true, decide_false, dec_true, dec_false, Bool.false_eq_true, if_false, if_true, reduceIte, List.zip_cons_cons, List.zip_nil_left, Nat.le_refl, Nat.zero_le, Nat.not_le, Nat.lt_irrefl]; done) | (simp [trimE, trimM, MObj.kill, PV.kill]; done)), (by first | rfl | (simp only [trimE, trimM, List.take_succ_cons, List.take_zero, List.take_nil, List.map_cons, List.map_nil, Option.map_some, Option.map_none, MObj.kill, PV.kill, Nat.reduceLeDiff, decide_true, decide_false, dec_true, dec_false, Bool.false_eq_true, if_false, if_true, reduceIte, List.zip_cons_cons, List.zip_nil_left, Nat.le_refl, Nat.zero_le, Nat.not_le, Nat.lt_irrefl]; done) | (simp [trimE, trimM, MObj.kill, PV.kill]; done)), by omega, by omega⟩
  · have hd : decide ((m : Int) + 1 ≤ l.length) = false := by simp only [decide_eq_false_iff_not]; omega
    have hm' : m = l.length := by omega
    have hbt : (rwN l.length (dstI l t l.length)).take l.length = rwN l.length (dstI l t l.length) := List.take_of_length_le (by rw [rwN_len]; exact Nat.le_refl _)
    subst hm'
    repeat' (first | exact True.intro | (refine PW.seqK ?_; intro K hK) | refine PW.block ?_ | refine PW.scope ?_ | refine PW.label ?_ | refine PW.exit ?_ | refine PW.ret ?_ | refine PW.skip ?_ | refine seqK_n (by assumption) ?_ | refine seqK_r (by assumption) ?_ | refine seqK_e (by assumption) ?_ | refine PW.regionA ?_ | exact schedW_stop_i | refine schK_n (by assumption) ?_ | (refine schedW_alt_k ?_ ?_; focus (intro K hK; simp only [hlen, hd, hrl, hbt, Nat.le_refl, SS, SS2, SS3, SS4, SS5, Option.map_some, Nat.reduceAdd, reduceIte, Nat.reduceEqDiff, Nat.reduceBEq, eq_self, implies_true, ne_eq, beq_self_eq_true, id_eq, reduceCtorEq]; (try go_unwrap; try simp only [hlen, hd, hrl, hbt, Nat.le_refl, RR, reduceCtorEq]))) | (refine PW.cond rfl ?_ ?_ <;> intro hcond <;> (try contradiction) <;> try simp only [decide_eq_true_eq, decide_eq_false_iff_not] at hcond) | (refine gd_i ?_; intro hg; try simp only [hg]) | ((first | show @LE.le Nat _ _ _ | show @LT.lt Nat _ _ _ | show @LE.le Int _ _ _ | show @LT.lt Int _ _ _ | show @Eq Nat _ _ | show @Eq Int _ _ | show @Eq Bool _ _ | show _ ∨ _ | show ¬ _); first | omega | (simp only [decide_eq_true_eq, decide_eq_false_iff_not, List.length_cons, List.length_nil, List.length_append, List.length_map, Sh.size] <;> omega) | (go_unwrap; omega)) | ((first | refine PW.region ?_ | refine PW.regionQ ?_ | refine schedW_done_i ?_ | show (_ : Post) _ _ _ | show @Eq (List PV) _ _ | show @Eq Bool _ _ | show opsW _ _ _ _ _ _ _ _ | show okAll _ | show @Eq Bool _ _ ∨ _); focus (simp only [hlen, hd, hrl, hbt, Nat.le_refl, SS, SS2, SS3, SS4, SS5, Option.map_some, Nat.reduceAdd, reduceIte, Nat.reduceEqDiff, Nat.reduceBEq, eq_self, implies_true, ne_eq, beq_self_eq_true, id_eq, reduceCtorEq]; (try go_unwrap; try simp only [hlen, hd, hrl, hbt, Nat.le_refl, RR, reduceCtorEq]))) | refine And.intro ?_ ?_ | exact Or.inr ⟨rfl, Nat.le_refl _⟩ | exact (fun h => Bool.noConfusion h))
    all_goals skip
theorem befM_step : ∀ (a b : List St) (i : Nat) (ha : i < a.length) (hb : i < b.length), (∀ j (h : j < a.length) (h' : j < b.length), j < i → a[j] = b[j]) → a[i] ≠ b[i] → befM a b = decide (a[i] < b[i])
  | x :: a, y :: b, 0, _, _, _, hne => by
    simp only [List.getElem_cons_zero] at hne
    simp [befM, hne]
  | x :: a, y :: b, i + 1, ha, hb, hall, hne => by
    have h0 := hall 0 (by simp) (by simp) (by omega)
    simp only [List.getElem_cons_zero] at h0
    simp only [befM]
    rw [if_pos h0]
    exact befM_step a b i (by simpa using ha) (by simpa using hb) (fun j h h' hj => hall (j + 1) (by simp; omega) (by simp; omega) (by omega)) hne
theorem befM_end : ∀ (a b : List St), a.length = b.length → (∀ j (h : j < a.length) (h' : j < b.length), a[j] = b[j]) → befM a b = false
  | [], b, _, _ => by cases b <;> rfl
  | x :: a, [], h, _ => by simp at h
  | x :: a, y :: b, h, hall => by
    have h0 := hall 0 (by simp) (by simp)
    simp only [List.getElem_cons_zero] at h0
    simp only [befM]
    rw [if_pos h0]
    exact befM_end a b (by simpa using h) (fun j h h' => hall (j + 1) (by simp; omega) (by simp; omega))
theorem v34 (a b : List St) (hl : a.length ≤ 1000000000) (hab : a.length = b.length) : VCalls Try.prog G0 34 [txL a, txL b] (.bool (befM a b)) := by
  refine VCalls.of_PW Try.func34 k34 mix (by simp [c34]) ?_
  simp only [c34, L34, argE]
  have ha : ((a.map PV.str).length : Nat) = a.length := by simp
  repeat' (first | exact True.intro | (refine PW.seqK ?_; intro K hK) | refine PW.block ?_ | refine PW.scope ?_ | refine PW.label ?_ | refine PW.exit ?_ | refine PW.ret ?_ | refine PW.skip ?_ | refine seqK_n (by assumption) ?_ | refine seqK_r (by assumption) ?_ | refine seqK_e (by assumption) ?_ | refine PW.regionA ?_ | exact schedW_stop_i | refine schK_n (by assumption) ?_ | (refine schedW_alt_k ?_ ?_; focus (intro K hK; simp only [ha, SS, SS2, SS3, SS4, SS5, Option.map_some, Nat.reduceAdd, reduceIte, Nat.reduceEqDiff, Nat.reduceBEq, eq_self, implies_true, ne_eq, beq_self_eq_true, id_eq, reduceCtorEq]; (try go_unwrap; try simp only [ha, RR, reduceCtorEq]))) | (refine PW.cond rfl ?_ ?_ <;> intro hcond <;> (try contradiction) <;> try simp only [decide_eq_true_eq, decide_eq_false_iff_not] at hcond) | (refine gd_i ?_; intro hg; try simp only [hg]) | ((first | show @LE.le Nat _ _ _ | show @LT.lt Nat _ _ _ | show @LE.le Int _ _ _ | show @LT.lt Int _ _ _ | show @Eq Nat _ _ | show @Eq Int _ _ | show @Eq Bool _ _ | show _ ∨ _ | show ¬ _); first | omega | (simp only [decide_eq_true_eq, decide_eq_false_iff_not, List.length_cons, List.length_nil, List.length_append, List.length_map, Sh.size] <;> omega) | (go_unwrap; omega)) | ((first | refine PW.region ?_ | refine PW.regionQ ?_ | refine schedW_done_i ?_ | show (_ : Post) _ _ _ | show @Eq (List PV) _ _ | show @Eq Bool _ _ | show opsW _ _ _ _ _ _ _ _ | show okAll _ | show @Eq Bool _ _ ∨ _); focus (simp only [ha, SS, SS2, SS3, SS4, SS5, Option.map_some, Nat.reduceAdd, reduceIte, Nat.reduceEqDiff, Nat.reduceBEq, eq_self, implies_true, ne_eq, beq_self_eq_true, id_eq, reduceCtorEq]; (try go_unwrap; try simp only [ha, RR, reduceCtorEq]))) | refine And.intro ?_ ?_ | exact Or.inr ⟨rfl, Nat.le_refl _⟩ | exact (fun h => Bool.noConfusion h))
  refine PW.loop (σ := Nat) [0, 1, 4, 5] (fun i => [txL a, txL b, .bool false, .int .i64 i]) (fun _ => []) (fun i => i ≤ a.length ∧ ∀ j (h : j < a.length) (h' : j < b.length), j < i → a[j] = b[j]) (fun i => a.length - i) 0 ?_ rfl ⟨by omega, fun j _ _ h => by omega⟩ ?_
  · simp only [SS, SS2, SS3, SS4, SS5, Option.map_some, Nat.reduceAdd, reduceIte, Nat.reduceEqDiff, Nat.reduceBEq, eq_self, implies_true, ne_eq, beq_self_eq_true, id_eq, reduceCtorEq]; rfl
  rintro i ⟨hi, hall⟩
  simp only [List.zip_cons_cons, List.zip_nil_left]
  rcases Nat.lt_or_ge i a.length with h | h
  · have hd : decide ((i : Int) < a.length) = true := by simp only [decide_eq_true_eq]; omega
    have hga := tx_getD a i h
    have hgb := tx_getD b i (by omega)
    have hb : ((b.map PV.str).length : Nat) = a.length := by simp [hab]
    have hst := befM_step a b i h (by omega) hall
    have hnx : a[i] = b[i]'(by omega) → ∀ j (h : j < a.length) (h' : j < b.length), j < i + 1 → a[j] = b[j] := fun hp j hj hj' hji => by
      rcases Nat.lt_or_ge j i with h' | h'
      · exact hall j hj hj' h'
      · obtain rfl : j = i := by omega
        exact hp
    have hbl := bl_iff a[i] (b[i]'(by omega))
    generalize a[i] = x at hga hst hnx hbl
    generalize b[i]'(by omega) = y at hgb hst hnx hbl
    by_cases he : x = y
    · have d1 : decide (x = y) = true := by simpa using he
      have hnx := hnx he
      repeat' (first | exact True.intro | (refine PW.seqK ?_; intro K hK) | refine PW.block ?_ | refine PW.scope ?_ | refine PW.label ?_ | refine PW.exit ?_ | refine PW.ret ?_ | refine PW.skip ?_ | refine seqK_n (by assumption) ?_ | refine seqK_r (by assumption) ?_ | refine seqK_e (by assumption) ?_ | refine PW.regionA ?_ | exact schedW_stop_i | refine schK_n (by assumption) ?_ | (refine schedW_alt_k ?_ ?_; focus (intro K hK; simp only [hd, hga, hgb, ha, hb, d1, SS, SS2, SS3, SS4, SS5, Option.map_some, Nat.reduceAdd, reduceIte, Nat.reduceEqDiff, Nat.reduceBEq, eq_self, implies_true, ne_eq, beq_self_eq_true, id_eq, reduceCtorEq]; (try go_unwrap; try simp only [hd, hga, hgb, ha, hb, d1, RR, reduceCtorEq]))) | (refine PW.cond rfl ?_ ?_ <;> intro hcond <;> (try contradiction) <;> try simp only [decide_eq_true_eq, decide_eq_false_iff_not] at hcond) | (refine gd_i ?_; intro hg; try simp only [hg]) | ((first | show @LE.le Nat _ _ _ | show @LT.lt Nat _ _ _ | show @LE.le Int _ _ _ | show @LT.lt Int _ _ _ | show @Eq Nat _ _ | show @Eq Int _ _ | show @Eq Bool _ _ | show _ ∨ _ | show ¬ _); first | omega | (simp only [decide_eq_true_eq, decide_eq_false_iff_not, List.length_cons, List.length_nil, List.length_append, List.length_map, Sh.size] <;> omega) | (go_unwrap; omega)) | ((first | refine PW.region ?_ | refine PW.regionQ ?_ | refine schedW_done_i ?_ | show (_ : Post) _ _ _ | show @Eq (List PV) _ _ | show @Eq Bool _ _ | show opsW _ _ _ _ _ _ _ _ | show okAll _ | show @Eq Bool _ _ ∨ _); focus (simp only [hd, hga, hgb, ha, hb, d1, SS, SS2, SS3, SS4, SS5, Option.map_some, Nat.reduceAdd, reduceIte, Nat.reduceEqDiff, Nat.reduceBEq, eq_self, implies_true, ne_eq, beq_self_eq_true, id_eq, reduceCtorEq]; (try go_unwrap; try simp only [hd, hga, hgb, ha, hb, d1, RR, reduceCtorEq]))) | refine And.intro ?_ ?_ | exact Or.inr ⟨rfl, Nat.le_refl _⟩ | exact (fun h => Bool.noConfusion h))
      all_goals exact ⟨i + 1, rfl, ⟨by omega, hnx⟩, by omega⟩
    · have d1 : decide (x = y) = false := by simpa using he
      have hst := hst he
      have hbb : Op.bytesLess x y = decide (x < y) := by rw [Bool.eq_iff_iff, hbl, decide_eq_true_eq]
      repeat' (first | exact True.intro | (refine PW.seqK ?_; intro K hK) | refine PW.block ?_ | refine PW.scope ?_ | refine PW.label ?_ | refine PW.exit ?_ | refine PW.ret ?_ | refine PW.skip ?_ | refine seqK_n (by assumption) ?_ | refine seqK_r (by assumption) ?_ | refine seqK_e (by assumption) ?_ | refine PW.regionA ?_ | exact schedW_stop_i | refine schK_n (by assumption) ?_ | (refine schedW_alt_k ?_ ?_; focus (intro K hK; simp only [hd, hga, hgb, ha, hb, d1, hbb, SS, SS2, SS3, SS4, SS5, Option.map_some, Nat.reduceAdd, reduceIte, Nat.reduceEqDiff, Nat.reduceBEq, eq_self, implies_true, ne_eq, beq_self_eq_true, id_eq, reduceCtorEq]; (try go_unwrap; try simp only [hd, hga, hgb, ha, hb, d1, hbb, RR, reduceCtorEq]))) | (refine PW.cond rfl ?_ ?_ <;> intro hcond <;> (try contradiction) <;> try simp only [decide_eq_true_eq, decide_eq_false_iff_not] at hcond) | (refine gd_i ?_; intro hg; try simp only [hg]) | ((first | show @LE.le Nat _ _ _ | show @LT.lt Nat _ _ _ | show @LE.le Int _ _ _ | show @LT.lt Int _ _ _ | show @Eq Nat _ _ | show @Eq Int _ _ | show @Eq Bool _ _ | show _ ∨ _ | show ¬ _); first | omega | (simp only [decide_eq_true_eq, decide_eq_false_iff_not, List.length_cons, List.length_nil, List.length_append, List.length_map, Sh.size] <;> omega) | (go_unwrap; omega)) | ((first | refine PW.region ?_ | refine PW.regionQ ?_ | refine schedW_done_i ?_ | show (_ : Post) _ _ _ | show @Eq (List PV) _ _ | show @Eq Bool _ _ | show opsW _ _ _ _ _ _ _ _ | show okAll _ | show @Eq Bool _ _ ∨ _); focus (simp only [hd, hga, hgb, ha, hb, d1, hbb, SS, SS2, SS3, SS4, SS5, Option.map_some, Nat.reduceAdd, reduceIte, Nat.reduceEqDiff, Nat.reduceBEq, eq_self, implies_true, ne_eq, beq_self_eq_true, id_eq, reduceCtorEq]; (try go_unwrap; try simp only [hd, hga, hgb, ha, hb, d1, hbb, RR, reduceCtorEq]))) | refine And.intro ?_ ?_ | exact Or.inr ⟨rfl, Nat.le_refl _⟩ | exact (fun h => Bool.noConfusion h))
      all_goals (rw [hst])
  · have hd : decide ((i : Int) < a.length) = false := by simp only [decide_eq_false_iff_not]; omega
    have := befM_end a b hab (fun j hj hj' => hall j hj hj' (by omega))
    repeat' (first | exact True.intro | (refine PW.seqK ?_; intro K hK) | refine PW.block ?_ | refine PW.scope ?_ | refine PW.label ?_ | refine PW.exit ?_ | refine PW.ret ?_ | refine PW.skip ?_ | refine seqK_n (by assumption) ?_ | refine seqK_r (by assumption) ?_ | refine seqK_e (by assumption) ?_ | refine PW.regionA ?_ | exact schedW_stop_i | refine schK_n (by assumption) ?_ | (refine schedW_alt_k ?_ ?_; focus (intro K hK; simp only [hd, ha, SS, SS2, SS3, SS4, SS5, Option.map_some, Nat.reduceAdd, reduceIte, Nat.reduceEqDiff, Nat.reduceBEq, eq_self, implies_true, ne_eq, beq_self_eq_true, id_eq, reduceCtorEq]; (try go_unwrap; try simp only [hd, ha, RR, reduceCtorEq]))) | (refine PW.cond rfl ?_ ?_ <;> intro hcond <;> (try contradiction) <;> try simp only [decide_eq_true_eq, decide_eq_false_iff_not] at hcond) | (refine gd_i ?_; intro hg; try simp only [hg]) | ((first | show @LE.le Nat _ _ _ | show @LT.lt Nat _ _ _ | show @LE.le Int _ _ _ | show @LT.lt Int _ _ _ | show @Eq Nat _ _ | show @Eq Int _ _ | show @Eq Bool _ _ | show _ ∨ _ | show ¬ _); first | omega | (simp only [decide_eq_true_eq, decide_eq_false_iff_not, List.length_cons, List.length_nil, List.length_append, List.length_map, Sh.size] <;> omega) | (go_unwrap; omega)) | ((first | refine PW.region ?_ | refine PW.regionQ ?_ | refine schedW_done_i ?_ | show (_ : Post) _ _ _ | show @Eq (List PV) _ _ | show @Eq Bool _ _ | show opsW _ _ _ _ _ _ _ _ | show okAll _ | show @Eq Bool _ _ ∨ _); focus (simp only [hd, ha, SS, SS2, SS3, SS4, SS5, Option.map_some, Nat.reduceAdd, reduceIte, Nat.reduceEqDiff, Nat.reduceBEq, eq_self, implies_true, ne_eq, beq_self_eq_true, id_eq, reduceCtorEq]; (try go_unwrap; try simp only [hd, ha, RR, reduceCtorEq]))) | refine And.intro ?_ ?_ | exact Or.inr ⟨rfl, Nat.le_refl _⟩ | exact (fun h => Bool.noConfusion h))
    all_goals (rw [this])
/-- What the ring's walk leans on. -/
structure RgI (l : List Ed) (D : St → Int) (R : List St) (n a : Nat) (out : List St) : Prop where
  at' : a < l.length
  ring : ∀ h : a < l.length, out ++ rngD (nsM l) (ndM l) D n l[a].name = R
  next : n = 0 ∨ ∀ h : a < l.length, ∃ y ∈ ndM l l[a].name, y ∈ nsM l ∧ D y = (n : Int)
theorem rgI_next {l : List Ed} {t : St} {L : Nat} {R : List St} {n a : Nat} {out : List St} (h : RgI l (dstR (nsM l) (ndM l) t L) R (n + 1) a out) {b : Nat} (hb : b < l.length)
    (hin : l[b].name ∈ ndM l (l[a]'h.at').name) (hD : dstR (nsM l) (ndM l) t L l[b].name = ((n + 1 : Nat) : Int)) (hmin : ∀ y ∈ ndM l (l[a]'h.at').name, y ∈ nsM l → dstR (nsM l) (ndM l) t L y = ((n + 1 : Nat) : Int) → ¬ y < l[b].name) :
    RgI l (dstR (nsM l) (ndM l) t L) R n b (out ++ [l[b].name]) := by
  obtain ⟨z, hf, hz, hp, hzm⟩ := find_ex (p := fun x => decide (x ∈ nsM l) && decide (dstR (nsM l) (ndM l) t L x = ((n + 1 : Nat) : Int))) (L := ndM l (l[a]'h.at').name) ⟨_, hin, by simp [nm_in hb, hD]⟩
  simp only [Bool.and_eq_true, decide_eq_true_eq] at hp hzm
  have e : z = l[b].name := by
    have h1 := hzm _ hin ⟨nm_in hb, hD⟩
    have h2 := hmin z hz hp.1 hp.2
    by_cases hne : z = l[b].name
    · exact hne
    · exact absurd (gt_of h2 hne) h1
  subst e
  refine ⟨hb, fun _ => ?_, ?_⟩
  · have := h.ring h.at'
    simp only [rngD] at this
    rw [hf] at this
    rw [← this]; simp
  · cases n with
    | zero => exact .inl rfl
    | succ n => exact .inr fun _ => dst_step hD
def NxI (l : List Ed) (D : St → Int) (n : Int) (needs : List St) (k : Nat) : Option Nat → Prop
  | none => ∀ j (h : j < needs.length), j < k → ¬ (needs[j] ∈ nsM l ∧ D needs[j] = n)
  | some c => ∃ h : c < l.length, l[c].name ∈ needs ∧ D l[c].name = n ∧ ∀ j (h : j < needs.length), j < k → needs[j] ∈ nsM l → D needs[j] = n → ¬ needs[j] < l[c].name
def nxV : Option Nat → Int
  | some c => (c : Int)
  | none => -1
theorem nxI_skip {l : List Ed} {D : St → Int} {n : Int} {needs : List St} {k : Nat} (hk : k < needs.length) {nx : Option Nat} (h : NxI l D n needs k nx) (hno : ¬ (needs[k] ∈ nsM l ∧ D needs[k] = n)) : NxI l D n needs (k + 1) nx := by
  cases nx with
  | none =>
    intro j hj hji
    rcases Nat.lt_or_ge j k with h' | h'
    · exact h j hj h'
    · obtain rfl : j = k := by omega
      exact hno
  | some c =>
    obtain ⟨h, h1, h2, h3⟩ := h
    refine ⟨h, h1, h2, fun j hj hji hjN hjD => ?_⟩
    rcases Nat.lt_or_ge j k with h' | h'
    · exact h3 j hj h' hjN hjD
    · obtain rfl : j = k := by omega
      exact absurd ⟨hjN, hjD⟩ hno
theorem rwN_getD {n : Nat} (f : Nat → Int) {j : Nat} (h : j < n) : (rwN n f).getD j .junk = .int .i64 (f j) := by rw [List.getD_eq_getElem?_getD, rwN_at f h]; rfl
theorem v33 (l : List Ed) (hl : l.length ≤ 1000000000) (hnl : ∀ e ∈ l, e.needs.length ≤ 9223372036854775807) (hw : wrongM l = 0) (a : Nat) (ha : a < l.length) :
    VCalls Try.prog G0 33 [edL l, .int .i64 a] (txL (rngE (nsM l) (ndM l) l.length l[a].name)) := by
  refine VCalls.of_PW Try.func33 k33 mix (by simp [c33]) ?_
  simp only [c33, L33, argE]
  have h52 := v52 l hl hnl hw a ha
  have hlen : ((l.map edP).length : Nat) = l.length := by simp
  have h37 := fun s => v37 l hl s
  have hl64 := (wrongM_0.1 hw).1
  have hga := ed_getD l a ha
  have hnda := nd_of hw ha
  have hnla := hnl l[a] (List.getElem_mem ha)
  have hRg : rngE (nsM l) (ndM l) l.length l[a].name = if bstF (nsM l) (dstR (nsM l) (ndM l) l[a].name l.length) (ndM l l[a].name) < 0 then [] else l[a].name :: rngD (nsM l) (ndM l) (dstR (nsM l) (ndM l) l[a].name l.length) (bstF (nsM l) (dstR (nsM l) (ndM l) l[a].name l.length) (ndM l l[a].name)).toNat l[a].name := rfl
  have hsp := bstF_spec (N := nsM l) (dstR (nsM l) (ndM l) l[a].name l.length) (ndM l l[a].name)
  rw [hRg]
  clear hRg
  obtain ⟨t, ht⟩ : ∃ t, l[a].name = t := ⟨_, rfl⟩
  have hDI : ∀ j (h : j < l.length), dstI l t l.length j = dstR (nsM l) (ndM l) t l.length l[j].name := fun j h => dstI_at t _ h
  have hgf : ∀ j (h : j < l.length), (rwN l.length (dstI l t l.length)).getD j .junk = .int .i64 (dstR (nsM l) (ndM l) t l.length l[j].name) := fun j h => by rw [rwN_getD _ h, hDI j h]
  have hrl := rwN_len l.length (dstI l t l.length)
  have hub : ∀ x, dstR (nsM l) (ndM l) t l.length x ≤ l.length := fun x => by
    rcases dst_val (N := nsM l) (nd := ndM l) t x l.length with h1 | ⟨k, h1⟩
    · omega
    · have := (dst_some.1 h1).1; omega
  rw [ht] at h52 hsp ⊢
  have hga' : (l.map edP).getD a PV.junk = .agg [.str t, .list none ((ndM l t).map PV.str)] := by
    rw [hga, edP, ht, ← hnda, ht]
  have hnlt : (ndM l t).length ≤ 9223372036854775807 := by rw [← ht, hnda]; exact hnla
  have hnd64 : ∀ e ∈ l, e.needs.length ≤ 64 := fun e he => ((wrongM_0.1 hw).2.2 e he).2.1
  generalize rwN l.length (dstI l t l.length) = F at h52 hgf hrl
  clear hDI hga hnla hnda
  have hgt : ∀ j (h : j < (ndM l t).length), ((ndM l t).map PV.str).getD j PV.junk = .str (ndM l t)[j] := fun j h => tx_getD _ j h
  have hnt : (((ndM l t).map PV.str).length : Nat) = (ndM l t).length := by simp
  repeat' (first | exact True.intro | (refine PW.seqK ?_; intro K hK) | refine PW.block ?_ | refine PW.scope ?_ | refine PW.label ?_ | refine PW.exit ?_ | refine PW.ret ?_ | refine PW.skip ?_ | refine seqK_n (by assumption) ?_ | refine seqK_r (by assumption) ?_ | refine seqK_e (by assumption) ?_ | refine PW.regionA ?_ | exact schedW_stop_i | refine schK_n (by assumption) ?_ | (refine schedW_alt_k ?_ ?_; focus (intro K hK; simp only [hlen, SS, SS2, SS3, SS4, SS5, Option.map_some, Nat.reduceAdd, reduceIte, Nat.reduceEqDiff, Nat.reduceBEq, eq_self, implies_true, ne_eq, beq_self_eq_true, id_eq, reduceCtorEq]; (try go_unwrap; try simp only [hlen, RR, reduceCtorEq]))) | (refine PW.cond rfl ?_ ?_ <;> intro hcond <;> (try contradiction) <;> try simp only [decide_eq_true_eq, decide_eq_false_iff_not] at hcond) | (refine gd_i ?_; intro hg; try simp only [hg]) | refine goCall_W e52 (h52) ?_ ?_ ?_ ?_ | ((first | show @LE.le Nat _ _ _ | show @LT.lt Nat _ _ _ | show @LE.le Int _ _ _ | show @LT.lt Int _ _ _ | show @Eq Nat _ _ | show @Eq Int _ _ | show @Eq Bool _ _ | show _ ∨ _ | show ¬ _); first | omega | (simp only [decide_eq_true_eq, decide_eq_false_iff_not, List.length_cons, List.length_nil, List.length_append, List.length_map, Sh.size] <;> omega) | (go_unwrap; omega)) | ((first | refine PW.region ?_ | refine PW.regionQ ?_ | refine schedW_done_i ?_ | show (_ : Post) _ _ _ | show @Eq (List PV) _ _ | show @Eq Bool _ _ | show opsW _ _ _ _ _ _ _ _ | show okAll _ | show @Eq Bool _ _ ∨ _); focus (simp only [hlen, SS, SS2, SS3, SS4, SS5, Option.map_some, Nat.reduceAdd, reduceIte, Nat.reduceEqDiff, Nat.reduceBEq, eq_self, implies_true, ne_eq, beq_self_eq_true, id_eq, reduceCtorEq]; (try go_unwrap; try simp only [hlen, RR, reduceCtorEq]))) | refine And.intro ?_ ?_ | exact Or.inr ⟨rfl, Nat.le_refl _⟩ | exact (fun h => Bool.noConfusion h))
  refine PW.loop (σ := Nat) [0, 1, 4, 5, 6, 7] (fun k => [edL l, .int .i64 a, .nilSl, .list none F, .int .i64 (bstF (nsM l) (dstR (nsM l) (ndM l) t l.length) ((ndM l t).take k)), .int .i64 k]) (fun _ => []) (fun k => k ≤ (ndM l t).length) (fun k => (ndM l t).length - k) 0 ?_ rfl (by omega) ?_
  · simp only [SS, SS2, SS3, SS4, SS5, Option.map_some, Nat.reduceAdd, reduceIte, Nat.reduceEqDiff, Nat.reduceBEq, eq_self, implies_true, ne_eq, beq_self_eq_true, id_eq, reduceCtorEq]; rfl
  rintro k hk
  simp only [List.zip_cons_cons, List.zip_nil_left]
  rcases Nat.lt_or_ge k (ndM l t).length with h | h
  · have hd : decide ((k : Int) < (ndM l t).length) = true := by simp only [decide_eq_true_eq]; omega
    have hgk := hgt k h
    have hst := bstF_snoc (N := nsM l) (dstR (nsM l) (ndM l) t l.length) ((ndM l t).take k) (ndM l t)[k]
    rw [← List.take_succ_eq_append_getElem h] at hst
    generalize (ndM l t)[k] = x at hgk hst
    generalize bstF (nsM l) (dstR (nsM l) (ndM l) t l.length) ((ndM l t).take k) = B at hst
    have h37 := h37 x
    rcases plcE_cases l x with ⟨hp, -, hxN⟩ | ⟨c, hc, hp, hn, -⟩
    · rw [hp] at h37
      rw [if_neg (fun h => hxN h.1)] at hst
      have dm : decide ((0 : Int) ≤ -1) = false := rfl
      repeat' (first | exact True.intro | (refine PW.seqK ?_; intro K hK) | refine PW.block ?_ | refine PW.scope ?_ | refine PW.label ?_ | refine PW.exit ?_ | refine PW.ret ?_ | refine PW.skip ?_ | refine seqK_n (by assumption) ?_ | refine seqK_r (by assumption) ?_ | refine seqK_e (by assumption) ?_ | refine PW.regionA ?_ | exact schedW_stop_i | refine schK_n (by assumption) ?_ | (refine schedW_alt_k ?_ ?_; focus (intro K hK; simp only [hlen, hnt, hga', hd, hgk, dm, SS, SS2, SS3, SS4, SS5, Option.map_some, Nat.reduceAdd, reduceIte, Nat.reduceEqDiff, Nat.reduceBEq, eq_self, implies_true, ne_eq, beq_self_eq_true, id_eq, reduceCtorEq]; (try go_unwrap; try simp only [hlen, hnt, hga', hd, hgk, dm, RR, reduceCtorEq]))) | (refine PW.cond rfl ?_ ?_ <;> intro hcond <;> (try contradiction) <;> try simp only [decide_eq_true_eq, decide_eq_false_iff_not] at hcond) | (refine gd_i ?_; intro hg; try simp only [hg]) | refine goCall_W e37 (h37) ?_ ?_ ?_ ?_ | ((first | show @LE.le Nat _ _ _ | show @LT.lt Nat _ _ _ | show @LE.le Int _ _ _ | show @LT.lt Int _ _ _ | show @Eq Nat _ _ | show @Eq Int _ _ | show @Eq Bool _ _ | show _ ∨ _ | show ¬ _); first | omega | (simp only [decide_eq_true_eq, decide_eq_false_iff_not, List.length_cons, List.length_nil, List.length_append, List.length_map, Sh.size] <;> omega) | (go_unwrap; omega)) | ((first | refine PW.region ?_ | refine PW.regionQ ?_ | refine schedW_done_i ?_ | show (_ : Post) _ _ _ | show @Eq (List PV) _ _ | show @Eq Bool _ _ | show opsW _ _ _ _ _ _ _ _ | show okAll _ | show @Eq Bool _ _ ∨ _); focus (simp only [hlen, hnt, hga', hd, hgk, dm, SS, SS2, SS3, SS4, SS5, Option.map_some, Nat.reduceAdd, reduceIte, Nat.reduceEqDiff, Nat.reduceBEq, eq_self, implies_true, ne_eq, beq_self_eq_true, id_eq, reduceCtorEq]; (try go_unwrap; try simp only [hlen, hnt, hga', hd, hgk, dm, RR, reduceCtorEq]))) | refine And.intro ?_ ?_ | exact Or.inr ⟨rfl, Nat.le_refl _⟩ | exact (fun h => Bool.noConfusion h))
      all_goals exact ⟨k + 1, (by rw [hst]; rfl), by omega, by omega⟩
    · rw [hp] at h37
      have hcin : x ∈ nsM l := by rw [← hn]; exact nm_in hc
      have hgc := hgf c hc
      rw [hn] at hgc
      have dc : decide ((0 : Int) ≤ (c : Int)) = true := by simp only [decide_eq_true_eq]; omega
      generalize dstR (nsM l) (ndM l) t l.length x = v at hgc hst
      have hcF : (c : Int) < F.length := by omega
      by_cases hcc : 0 ≤ v ∧ (B < 0 ∨ v < B)
      · rw [if_pos ⟨hcin, hcc⟩] at hst
        have d1 : decide (0 ≤ v) = true := by simpa using hcc.1
        have d2 : (decide (B < 0) || decide (v < B)) = true := by simpa using hcc.2
        repeat' (first | exact True.intro | (refine PW.seqK ?_; intro K hK) | refine PW.block ?_ | refine PW.scope ?_ | refine PW.label ?_ | refine PW.exit ?_ | refine PW.ret ?_ | refine PW.skip ?_ | refine seqK_n (by assumption) ?_ | refine seqK_r (by assumption) ?_ | refine seqK_e (by assumption) ?_ | refine PW.regionA ?_ | exact schedW_stop_i | refine schK_n (by assumption) ?_ | (refine schedW_alt_k ?_ ?_; focus (intro K hK; simp only [hlen, hnt, hga', hd, hgk, dc, hrl, hgc, d1, d2, SS, SS2, SS3, SS4, SS5, Option.map_some, Nat.reduceAdd, reduceIte, Nat.reduceEqDiff, Nat.reduceBEq, eq_self, implies_true, ne_eq, beq_self_eq_true, id_eq, reduceCtorEq]; (try go_unwrap; try simp only [hlen, hnt, hga', hd, hgk, dc, hrl, hgc, d1, d2, RR, reduceCtorEq]))) | (refine PW.cond rfl ?_ ?_ <;> intro hcond <;> (try contradiction) <;> try simp only [decide_eq_true_eq, decide_eq_false_iff_not] at hcond) | (refine gd_i ?_; intro hg; try simp only [hg]) | refine goCall_W e37 (h37) ?_ ?_ ?_ ?_ | ((first | show @LE.le Nat _ _ _ | show @LT.lt Nat _ _ _ | show @LE.le Int _ _ _ | show @LT.lt Int _ _ _ | show @Eq Nat _ _ | show @Eq Int _ _ | show @Eq Bool _ _ | show _ ∨ _ | show ¬ _); first | omega | (simp only [decide_eq_true_eq, decide_eq_false_iff_not, List.length_cons, List.length_nil, List.length_append, List.length_map, Sh.size] <;> omega) | (go_unwrap; omega)) | ((first | refine PW.region ?_ | refine PW.regionQ ?_ | refine schedW_done_i ?_ | show (_ : Post) _ _ _ | show @Eq (List PV) _ _ | show @Eq Bool _ _ | show opsW _ _ _ _ _ _ _ _ | show okAll _ | show @Eq Bool _ _ ∨ _); focus (simp only [hlen, hnt, hga', hd, hgk, dc, hrl, hgc, d1, d2, SS, SS2, SS3, SS4, SS5, Option.map_some, Nat.reduceAdd, reduceIte, Nat.reduceEqDiff, Nat.reduceBEq, eq_self, implies_true, ne_eq, beq_self_eq_true, id_eq, reduceCtorEq]; (try go_unwrap; try simp only [hlen, hnt, hga', hd, hgk, dc, hrl, hgc, d1, d2, RR, reduceCtorEq]))) | refine And.intro ?_ ?_ | exact Or.inr ⟨rfl, Nat.le_refl _⟩ | exact (fun h => Bool.noConfusion h))
        all_goals first | (exact ⟨k + 1, (by rw [hst]; rfl), by omega, by omega⟩) | skip
      · rw [if_neg (fun h => hcc h.2)] at hst
        have d2 : (decide (0 ≤ v) && (decide (B < 0) || decide (v < B))) = false := by
          rw [Bool.eq_false_iff]; simpa using hcc
        repeat' (first | exact True.intro | (refine PW.seqK ?_; intro K hK) | refine PW.block ?_ | refine PW.scope ?_ | refine PW.label ?_ | refine PW.exit ?_ | refine PW.ret ?_ | refine PW.skip ?_ | refine seqK_n (by assumption) ?_ | refine seqK_r (by assumption) ?_ | refine seqK_e (by assumption) ?_ | refine PW.regionA ?_ | exact schedW_stop_i | refine schK_n (by assumption) ?_ | (refine schedW_alt_k ?_ ?_; focus (intro K hK; simp only [hlen, hnt, hga', hd, hgk, dc, hrl, hgc, d2, SS, SS2, SS3, SS4, SS5, Option.map_some, Nat.reduceAdd, reduceIte, Nat.reduceEqDiff, Nat.reduceBEq, eq_self, implies_true, ne_eq, beq_self_eq_true, id_eq, reduceCtorEq]; (try go_unwrap; try simp only [hlen, hnt, hga', hd, hgk, dc, hrl, hgc, d2, RR, reduceCtorEq]))) | (refine PW.cond rfl ?_ ?_ <;> intro hcond <;> (try contradiction) <;> try simp only [decide_eq_true_eq, decide_eq_false_iff_not] at hcond) | (refine gd_i ?_; intro hg; try simp only [hg]) | refine goCall_W e37 (h37) ?_ ?_ ?_ ?_ | ((first | show @LE.le Nat _ _ _ | show @LT.lt Nat _ _ _ | show @LE.le Int _ _ _ | show @LT.lt Int _ _ _ | show @Eq Nat _ _ | show @Eq Int _ _ | show @Eq Bool _ _ | show _ ∨ _ | show ¬ _); first | omega | (simp only [decide_eq_true_eq, decide_eq_false_iff_not, List.length_cons, List.length_nil, List.length_append, List.length_map, Sh.size] <;> omega) | (go_unwrap; omega)) | ((first | refine PW.region ?_ | refine PW.regionQ ?_ | refine schedW_done_i ?_ | show (_ : Post) _ _ _ | show @Eq (List PV) _ _ | show @Eq Bool _ _ | show opsW _ _ _ _ _ _ _ _ | show okAll _ | show @Eq Bool _ _ ∨ _); focus (simp only [hlen, hnt, hga', hd, hgk, dc, hrl, hgc, d2, SS, SS2, SS3, SS4, SS5, Option.map_some, Nat.reduceAdd, reduceIte, Nat.reduceEqDiff, Nat.reduceBEq, eq_self, implies_true, ne_eq, beq_self_eq_true, id_eq, reduceCtorEq]; (try go_unwrap; try simp only [hlen, hnt, hga', hd, hgk, dc, hrl, hgc, d2, RR, reduceCtorEq]))) | refine And.intro ?_ ?_ | exact Or.inr ⟨rfl, Nat.le_refl _⟩ | exact (fun h => Bool.noConfusion h))
        all_goals first | (exact ⟨k + 1, (by rw [hst]; rfl), by omega, by omega⟩) | skip
  have hd : decide ((k : Int) < (ndM l t).length) = false := by simp only [decide_eq_false_iff_not]; omega
  rw [List.take_of_length_le h]
  by_cases hB : bstF (nsM l) (dstR (nsM l) (ndM l) t l.length) (ndM l t) < 0
  · have dB : decide (bstF (nsM l) (dstR (nsM l) (ndM l) t l.length) (ndM l t) < 0) = true := by simpa using hB
    repeat' (first | exact True.intro | (refine PW.stop (x := .ret) ?_) | (refine PW.seqK ?_; intro K hK) | refine PW.block ?_ | refine PW.scope ?_ | refine PW.label ?_ | refine PW.exit ?_ | refine PW.ret ?_ | refine PW.skip ?_ | refine seqK_n (by assumption) ?_ | refine seqK_r (by assumption) ?_ | refine seqK_e (by assumption) ?_ | refine PW.regionA ?_ | exact schedW_stop_i | refine schK_n (by assumption) ?_ | (refine schedW_alt_k ?_ ?_; focus (intro K hK; simp only [hlen, hnt, hga', hd, dB, SS, SS2, SS3, SS4, SS5, Option.map_some, Nat.reduceAdd, reduceIte, Nat.reduceEqDiff, Nat.reduceBEq, eq_self, implies_true, ne_eq, beq_self_eq_true, id_eq, reduceCtorEq]; (try go_unwrap; try simp only [hlen, hnt, hga', hd, dB, RR, reduceCtorEq]))) | (refine PW.cond rfl ?_ ?_ <;> intro hcond <;> (try contradiction) <;> try simp only [decide_eq_true_eq, decide_eq_false_iff_not] at hcond) | (refine gd_i ?_; intro hg; try simp only [hg]) | ((first | show @LE.le Nat _ _ _ | show @LT.lt Nat _ _ _ | show @LE.le Int _ _ _ | show @LT.lt Int _ _ _ | show @Eq Nat _ _ | show @Eq Int _ _ | show @Eq Bool _ _ | show _ ∨ _ | show ¬ _); first | omega | (simp only [decide_eq_true_eq, decide_eq_false_iff_not, List.length_cons, List.length_nil, List.length_append, List.length_map, Sh.size] <;> omega) | (go_unwrap; omega)) | ((first | refine PW.region ?_ | refine PW.regionQ ?_ | refine schedW_done_i ?_ | show (_ : Post) _ _ _ | show @Eq (List PV) _ _ | show @Eq Bool _ _ | show opsW _ _ _ _ _ _ _ _ | show okAll _ | show @Eq Bool _ _ ∨ _); focus (simp only [hlen, hnt, hga', hd, dB, SS, SS2, SS3, SS4, SS5, Option.map_some, Nat.reduceAdd, reduceIte, Nat.reduceEqDiff, Nat.reduceBEq, eq_self, implies_true, ne_eq, beq_self_eq_true, id_eq, reduceCtorEq]; (try go_unwrap; try simp only [hlen, hnt, hga', hd, dB, RR, reduceCtorEq]))) | refine And.intro ?_ ?_ | exact Or.inr ⟨rfl, Nat.le_refl _⟩ | exact (fun h => Bool.noConfusion h))
    all_goals
      refine ⟨?_⟩
      refine PW.subE none 4 rfl ?_
      repeat' (first | exact True.intro | (refine PW.seqK ?_; intro K hK) | refine PW.block ?_ | refine PW.scope ?_ | refine PW.label ?_ | refine PW.exit ?_ | refine PW.ret ?_ | refine PW.skip ?_ | refine seqK_n (by assumption) ?_ | refine seqK_r (by assumption) ?_ | refine seqK_e (by assumption) ?_ | refine PW.regionA ?_ | exact schedW_stop_i | refine schK_n (by assumption) ?_ | (refine schedW_alt_k ?_ ?_; focus (intro K hK; simp only [SS, SS2, SS3, SS4, SS5, Option.map_some, Nat.reduceAdd, reduceIte, Nat.reduceEqDiff, Nat.reduceBEq, eq_self, implies_true, ne_eq, beq_self_eq_true, id_eq, reduceCtorEq]; (try go_unwrap; try simp only [RR, reduceCtorEq]))) | (refine PW.cond rfl ?_ ?_ <;> intro hcond <;> (try contradiction) <;> try simp only [decide_eq_true_eq, decide_eq_false_iff_not] at hcond) | (refine gd_i ?_; intro hg; try simp only [hg]) | ((first | show @LE.le Nat _ _ _ | show @LT.lt Nat _ _ _ | show @LE.le Int _ _ _ | show @LT.lt Int _ _ _ | show @Eq Nat _ _ | show @Eq Int _ _ | show @Eq Bool _ _ | show _ ∨ _ | show ¬ _); first | omega | (simp only [decide_eq_true_eq, decide_eq_false_iff_not, List.length_cons, List.length_nil, List.length_append, List.length_map, Sh.size] <;> omega) | (go_unwrap; omega)) | ((first | refine PW.region ?_ | refine PW.regionQ ?_ | refine schedW_done_i ?_ | show (_ : Post) _ _ _ | show @Eq (List PV) _ _ | show @Eq Bool _ _ | show opsW _ _ _ _ _ _ _ _ | show okAll _ | show @Eq Bool _ _ ∨ _); focus (simp only [SS, SS2, SS3, SS4, SS5, Option.map_some, Nat.reduceAdd, reduceIte, Nat.reduceEqDiff, Nat.reduceBEq, eq_self, implies_true, ne_eq, beq_self_eq_true, id_eq, reduceCtorEq]; (try go_unwrap; try simp only [RR, reduceCtorEq]))) | refine And.intro ?_ ?_ | exact Or.inr ⟨rfl, Nat.le_refl _⟩ | exact (fun h => Bool.noConfusion h))
      rw [if_pos hB]; rfl
  rcases hsp with ⟨hsp, -⟩ | ⟨h0, ⟨y, hy, hyN, hyD⟩, -⟩
  · omega
  obtain ⟨n, hn⟩ : ∃ n : Nat, bstF (nsM l) (dstR (nsM l) (ndM l) t l.length) (ndM l t) = n := ⟨(bstF (nsM l) (dstR (nsM l) (ndM l) t l.length) (ndM l t)).toNat, by omega⟩
  have hres : (if bstF (nsM l) (dstR (nsM l) (ndM l) t l.length) (ndM l t) < 0 then [] else t :: rngD (nsM l) (ndM l) (dstR (nsM l) (ndM l) t l.length) (bstF (nsM l) (dstR (nsM l) (ndM l) t l.length) (ndM l t)).toNat t) = t :: rngD (nsM l) (ndM l) (dstR (nsM l) (ndM l) t l.length) n t := by
    rw [hn, if_neg (by omega), Int.toNat_natCast]
  rw [hn] at hB hyD ⊢
  have hnle : n ≤ l.length := by have := hub y; omega
  have dB : decide ((n : Int) < 0) = false := by simp only [decide_eq_false_iff_not]; omega
  obtain ⟨R, hR⟩ : ∃ R, t :: rngD (nsM l) (ndM l) (dstR (nsM l) (ndM l) t l.length) n t = R := ⟨_, rfl⟩
  rw [hR] at hres
  have hI0 : RgI l (dstR (nsM l) (ndM l) t l.length) R n a [t] := ⟨ha, fun _ => by rw [ht]; exact hR, .inr fun _ => ⟨y, by rw [ht]; exact hy, hyN, hyD⟩⟩
  clear hR hyD hyN hy h0 hn
  repeat' (first | exact True.intro | (refine PW.seqK ?_; intro K hK) | refine PW.block ?_ | refine PW.scope ?_ | refine PW.label ?_ | refine PW.exit ?_ | refine PW.ret ?_ | refine PW.skip ?_ | refine seqK_n (by assumption) ?_ | refine seqK_r (by assumption) ?_ | refine seqK_e (by assumption) ?_ | refine PW.regionA ?_ | exact schedW_stop_i | refine schK_n (by assumption) ?_ | (refine schedW_alt_k ?_ ?_; focus (intro K hK; simp only [hlen, hnt, hga', hd, dB, SS, SS2, SS3, SS4, SS5, Option.map_some, Nat.reduceAdd, reduceIte, Nat.reduceEqDiff, Nat.reduceBEq, eq_self, implies_true, ne_eq, beq_self_eq_true, id_eq, reduceCtorEq]; (try go_unwrap; try simp only [hlen, hnt, hga', hd, dB, RR, reduceCtorEq]))) | (refine PW.cond rfl ?_ ?_ <;> intro hcond <;> (try contradiction) <;> try simp only [decide_eq_true_eq, decide_eq_false_iff_not] at hcond) | (refine gd_i ?_; intro hg; try simp only [hg]) | ((first | show @LE.le Nat _ _ _ | show @LT.lt Nat _ _ _ | show @LE.le Int _ _ _ | show @LT.lt Int _ _ _ | show @Eq Nat _ _ | show @Eq Int _ _ | show @Eq Bool _ _ | show _ ∨ _ | show ¬ _); first | omega | (simp only [decide_eq_true_eq, decide_eq_false_iff_not, List.length_cons, List.length_nil, List.length_append, List.length_map, Sh.size] <;> omega) | (go_unwrap; omega)) | ((first | refine PW.region ?_ | refine PW.regionQ ?_ | refine schedW_done_i ?_ | show (_ : Post) _ _ _ | show @Eq (List PV) _ _ | show @Eq Bool _ _ | show opsW _ _ _ _ _ _ _ _ | show okAll _ | show @Eq Bool _ _ ∨ _); focus (simp only [hlen, hnt, hga', hd, dB, SS, SS2, SS3, SS4, SS5, Option.map_some, Nat.reduceAdd, reduceIte, Nat.reduceEqDiff, Nat.reduceBEq, eq_self, implies_true, ne_eq, beq_self_eq_true, id_eq, reduceCtorEq]; (try go_unwrap; try simp only [hlen, hnt, hga', hd, dB, RR, reduceCtorEq]))) | refine And.intro ?_ ?_ | exact Or.inr ⟨rfl, Nat.le_refl _⟩ | exact (fun h => Bool.noConfusion h))
  refine PW.loopG (σ := Nat × Nat × List St) 1 (fun _ _ => rfl) [0, 1, 4, 5, 9, 10, 11] (fun q => [edL l, .int .i64 a, .nilSl, .list none F, .sl none 0 q.2.2.length, .int .i64 q.2.1, .int .i64 q.1]) (fun q => [some (.row none (q.2.2.map PV.str))]) (fun q => q.1 + q.2.2.length = n + 1 ∧ RgI l (dstR (nsM l) (ndM l) t l.length) R q.1 q.2.1 q.2.2) (fun q => q.1) (n, a, [t]) ?_ rfl ⟨rfl, hI0⟩ ?_
  · simp only [SS, SS2, SS3, SS4, SS5, Option.map_some, Nat.reduceAdd, reduceIte, Nat.reduceEqDiff, Nat.reduceBEq, eq_self, implies_true, ne_eq, beq_self_eq_true, id_eq, reduceCtorEq]; rfl
  clear hI0 hd h hk dB hB hgt hnt hga' hnlt
  rintro ⟨m, b, out⟩ ⟨hmn, hI⟩
  simp only at hmn hI
  simp only [List.zip_cons_cons, List.zip_nil_left]
  have hol : ((out.map PV.str).length : Nat) = out.length := by simp
  cases m with
  | zero =>
    have dz : decide ((0 : Int) < ((0 : Nat) : Int)) = false := rfl
    have hout : out = R := by have := hI.ring hI.at'; simpa [rngD] using this
    have hbt : (out.map PV.str).take out.length = out.map PV.str := List.take_of_length_le (by simp)
    repeat' (first | exact True.intro | (refine PW.seqK ?_; intro K hK) | refine PW.block ?_ | refine PW.scope ?_ | refine PW.label ?_ | refine PW.exit ?_ | refine PW.ret ?_ | refine PW.skip ?_ | refine seqK_n (by assumption) ?_ | refine seqK_r (by assumption) ?_ | refine seqK_e (by assumption) ?_ | refine PW.regionA ?_ | exact schedW_stop_i | refine schK_n (by assumption) ?_ | (refine schedW_alt_k ?_ ?_; focus (intro K hK; simp only [dz, hol, hbt, Nat.le_refl, SS, SS2, SS3, SS4, SS5, Option.map_some, Nat.reduceAdd, reduceIte, Nat.reduceEqDiff, Nat.reduceBEq, eq_self, implies_true, ne_eq, beq_self_eq_true, id_eq, reduceCtorEq]; (try go_unwrap; try simp only [dz, hol, hbt, Nat.le_refl, RR, reduceCtorEq]))) | (refine PW.cond rfl ?_ ?_ <;> intro hcond <;> (try contradiction) <;> try simp only [decide_eq_true_eq, decide_eq_false_iff_not] at hcond) | (refine gd_i ?_; intro hg; try simp only [hg]) | ((first | show @LE.le Nat _ _ _ | show @LT.lt Nat _ _ _ | show @LE.le Int _ _ _ | show @LT.lt Int _ _ _ | show @Eq Nat _ _ | show @Eq Int _ _ | show @Eq Bool _ _ | show _ ∨ _ | show ¬ _); first | omega | (simp only [decide_eq_true_eq, decide_eq_false_iff_not, List.length_cons, List.length_nil, List.length_append, List.length_map, Sh.size] <;> omega) | (go_unwrap; omega)) | ((first | refine PW.region ?_ | refine PW.regionQ ?_ | refine schedW_done_i ?_ | show (_ : Post) _ _ _ | show @Eq (List PV) _ _ | show @Eq Bool _ _ | show opsW _ _ _ _ _ _ _ _ | show okAll _ | show @Eq Bool _ _ ∨ _); focus (simp only [dz, hol, hbt, Nat.le_refl, SS, SS2, SS3, SS4, SS5, Option.map_some, Nat.reduceAdd, reduceIte, Nat.reduceEqDiff, Nat.reduceBEq, eq_self, implies_true, ne_eq, beq_self_eq_true, id_eq, reduceCtorEq]; (try go_unwrap; try simp only [dz, hol, hbt, Nat.le_refl, RR, reduceCtorEq]))) | refine And.intro ?_ ?_ | exact Or.inr ⟨rfl, Nat.le_refl _⟩ | exact (fun h => Bool.noConfusion h))
    all_goals (rw [hres, hout])
  | succ m =>
    have dz : decide ((0 : Int) < ((m + 1 : Nat) : Int)) = true := by simp only [decide_eq_true_eq]; omega
    have hb := hI.at'
    have hgb := ed_getD l b hb
    have hndb := nd_of hw hb
    have hx64 := hnd64 l[b] (List.getElem_mem hb)
    have hnxt := fun (c : Nat) (hc : c < l.length) (h1 : l[c].name ∈ ndM l l[b].name) h2 h3 => rgI_next hI hc h1 h2 h3
    have hexc : ∃ y ∈ ndM l l[b].name, y ∈ nsM l ∧ dstR (nsM l) (ndM l) t l.length y = ((m + 1 : Nat) : Int) := (hI.next.resolve_left (by omega)) hb
    rw [hndb] at hnxt hexc
    generalize l[b] = e at hgb hx64 hnxt hexc
    clear hndb hI
    simp only [edP] at hgb
    have hnlen : ((e.needs.map PV.str).length : Nat) = e.needs.length := by simp
    repeat' (first | exact True.intro | (refine PW.seqK ?_; intro K hK) | refine PW.block ?_ | refine PW.scope ?_ | refine PW.label ?_ | refine PW.exit ?_ | refine PW.ret ?_ | refine PW.skip ?_ | refine seqK_n (by assumption) ?_ | refine seqK_r (by assumption) ?_ | refine seqK_e (by assumption) ?_ | refine PW.regionA ?_ | exact schedW_stop_i | refine schK_n (by assumption) ?_ | (refine schedW_alt_k ?_ ?_; focus (intro K hK; simp only [dz, SS, SS2, SS3, SS4, SS5, Option.map_some, Nat.reduceAdd, reduceIte, Nat.reduceEqDiff, Nat.reduceBEq, eq_self, implies_true, ne_eq, beq_self_eq_true, id_eq, reduceCtorEq]; (try go_unwrap; try simp only [dz, RR, reduceCtorEq]))) | (refine PW.cond rfl ?_ ?_ <;> intro hcond <;> (try contradiction) <;> try simp only [decide_eq_true_eq, decide_eq_false_iff_not] at hcond) | (refine gd_i ?_; intro hg; try simp only [hg]) | ((first | show @LE.le Nat _ _ _ | show @LT.lt Nat _ _ _ | show @LE.le Int _ _ _ | show @LT.lt Int _ _ _ | show @Eq Nat _ _ | show @Eq Int _ _ | show @Eq Bool _ _ | show _ ∨ _ | show ¬ _); first | omega | (simp only [decide_eq_true_eq, decide_eq_false_iff_not, List.length_cons, List.length_nil, List.length_append, List.length_map, Sh.size] <;> omega) | (go_unwrap; omega)) | ((first | refine PW.region ?_ | refine PW.regionQ ?_ | refine schedW_done_i ?_ | show (_ : Post) _ _ _ | show @Eq (List PV) _ _ | show @Eq Bool _ _ | show opsW _ _ _ _ _ _ _ _ | show okAll _ | show @Eq Bool _ _ ∨ _); focus (simp only [dz, SS, SS2, SS3, SS4, SS5, Option.map_some, Nat.reduceAdd, reduceIte, Nat.reduceEqDiff, Nat.reduceBEq, eq_self, implies_true, ne_eq, beq_self_eq_true, id_eq, reduceCtorEq]; (try go_unwrap; try simp only [dz, RR, reduceCtorEq]))) | refine And.intro ?_ ?_ | exact Or.inr ⟨rfl, Nat.le_refl _⟩ | exact (fun h => Bool.noConfusion h))
    refine PW.loopG (σ := Nat × Option Nat) 1 (fun _ _ => rfl) [0, 1, 4, 5, 9, 10, 11, 12, 13] (fun q => [edL l, .int .i64 a, .nilSl, .list none F, .sl none 0 out.length, .int .i64 b, .int .i64 ((m + 1 : Nat) : Int), .int .i64 (nxV q.2), .int .i64 q.1]) (fun _ => [some (.row none (out.map PV.str))])
      (fun q => q.1 ≤ e.needs.length ∧ NxI l (dstR (nsM l) (ndM l) t l.length) ((m + 1 : Nat) : Int) e.needs q.1 q.2) (fun q => e.needs.length - q.1) (0, none) ?_ rfl ⟨by simp, fun j _ h => absurd h (Nat.not_lt_zero _)⟩ ?_
    · simp only [SS, SS2, SS3, SS4, SS5, Option.map_some, Nat.reduceAdd, reduceIte, Nat.reduceEqDiff, Nat.reduceBEq, eq_self, implies_true, ne_eq, beq_self_eq_true, id_eq, reduceCtorEq]; rfl
    rintro ⟨k, nx⟩ ⟨hk, hall⟩
    simp only at hk hall
    simp only [List.zip_cons_cons, List.zip_nil_left]
    rcases Nat.lt_or_ge k e.needs.length with h4 | h4
    · have hdk : decide ((k : Int) < e.needs.length) = true := by simp only [decide_eq_true_eq]; omega
      have hgn := tx_getD e.needs k h4
      have hmem := List.getElem_mem h4
      obtain ⟨x, hx⟩ : ∃ x, e.needs[k] = x := ⟨_, rfl⟩
      rw [hx] at hgn hmem
      have h37 := h37 x
      have hskip := nxI_skip h4 hall
      rw [hx] at hskip
      rcases plcE_cases l x with ⟨hp, -, hxN⟩ | ⟨c, hc, hp, hn, -⟩
      · rw [hp] at h37
        replace hskip := hskip (fun h => hxN h.1)
        have dm : decide ((0 : Int) ≤ -1) = false := rfl
        clear hall
        generalize hnxv : nxV nx = nxv
        repeat' (first | exact True.intro | (refine PW.seqK ?_; intro K hK) | refine PW.block ?_ | refine PW.scope ?_ | refine PW.label ?_ | refine PW.exit ?_ | refine PW.ret ?_ | refine PW.skip ?_ | refine seqK_n (by assumption) ?_ | refine seqK_r (by assumption) ?_ | refine seqK_e (by assumption) ?_ | refine PW.regionA ?_ | exact schedW_stop_i | refine schK_n (by assumption) ?_ | (refine schedW_alt_k ?_ ?_; focus (intro K hK; simp only [hlen, hnlen, hgb, hdk, hgn, dm, SS, SS2, SS3, SS4, SS5, Option.map_some, Nat.reduceAdd, reduceIte, Nat.reduceEqDiff, Nat.reduceBEq, eq_self, implies_true, ne_eq, beq_self_eq_true, id_eq, reduceCtorEq]; (try go_unwrap; try simp only [hlen, hnlen, hgb, hdk, hgn, dm, RR, reduceCtorEq]))) | (refine PW.cond rfl ?_ ?_ <;> intro hcond <;> (try contradiction) <;> try simp only [decide_eq_true_eq, decide_eq_false_iff_not] at hcond) | (refine gd_i ?_; intro hg; try simp only [hg]) | refine goCall_W e37 (h37) ?_ ?_ ?_ ?_ | ((first | show @LE.le Nat _ _ _ | show @LT.lt Nat _ _ _ | show @LE.le Int _ _ _ | show @LT.lt Int _ _ _ | show @Eq Nat _ _ | show @Eq Int _ _ | show @Eq Bool _ _ | show _ ∨ _ | show ¬ _); first | omega | (simp only [decide_eq_true_eq, decide_eq_false_iff_not, List.length_cons, List.length_nil, List.length_append, List.length_map, Sh.size] <;> omega) | (go_unwrap; omega)) | ((first | refine PW.region ?_ | refine PW.regionQ ?_ | refine schedW_done_i ?_ | show (_ : Post) _ _ _ | show @Eq (List PV) _ _ | show @Eq Bool _ _ | show opsW _ _ _ _ _ _ _ _ | show okAll _ | show @Eq Bool _ _ ∨ _); focus (simp only [hlen, hnlen, hgb, hdk, hgn, dm, SS, SS2, SS3, SS4, SS5, Option.map_some, Nat.reduceAdd, reduceIte, Nat.reduceEqDiff, Nat.reduceBEq, eq_self, implies_true, ne_eq, beq_self_eq_true, id_eq, reduceCtorEq]; (try go_unwrap; try simp only [hlen, hnlen, hgb, hdk, hgn, dm, RR, reduceCtorEq]))) | refine And.intro ?_ ?_ | exact Or.inr ⟨rfl, Nat.le_refl _⟩ | exact (fun h => Bool.noConfusion h))
        all_goals exact ⟨(k + 1, nx), (by rw [← hnxv]; exact (by first | rfl | (simp only [trimE, trimM, List.take_succ_cons, List.take_zero, List.take_nil, List.map_cons, List.map_nil, Option.map_some, Option.map_none, MObj.kill, PV.kill, Nat.reduceLeDiff, decide_true, decide_false, dec_true, dec_false, Bool.false_eq_true, if_false, if_true, reduceIte, List.zip_cons_cons, List.zip_nil_left, Nat.le_refl, Nat.zero_le, Nat.not_le, Nat.lt_irrefl]; done) | (simp [trimE, trimM, MObj.kill, PV.kill]; done))), (by first | rfl | (simp only [trimE, trimM, List.take_succ_cons, List.take_zero, List.take_nil, List.map_cons, List.map_nil, Option.map_some, Option.map_none, MObj.kill, PV.kill, Nat.reduceLeDiff, decide_true, decide_false, dec_true, dec_false, Bool.false_eq_true, if_false, if_true, reduceIte, List.zip_cons_cons, List.zip_nil_left, Nat.le_refl, Nat.zero_le, Nat.not_le, Nat.lt_irrefl]; done) | (simp [trimE, trimM, MObj.kill, PV.kill]; done)), ⟨by simp only; omega, hskip⟩, by simp only; omega⟩
      · rw [hp] at h37
        have hcin : x ∈ nsM l := by rw [← hn]; exact nm_in hc
        have hgc := hgf c hc
        have hgce := ed_getD l c hc
        rw [hn] at hgc
        have dc : decide ((0 : Int) ≤ (c : Int)) = true := by simp only [decide_eq_true_eq]; omega
        have hcF : (c : Int) < F.length := by omega
        simp only [edP, hn] at hgce
        by_cases hv : dstR (nsM l) (ndM l) t l.length x = ((m + 1 : Nat) : Int)
        case neg =>
          replace hskip := hskip (fun h => hv h.2)
          have dv : decide (dstR (nsM l) (ndM l) t l.length x = ((m + 1 : Nat) : Int)) = false := by simpa using hv
          clear hall
          generalize hnxv : nxV nx = nxv
          repeat' (first | exact True.intro | (refine PW.seqK ?_; intro K hK) | refine PW.block ?_ | refine PW.scope ?_ | refine PW.label ?_ | refine PW.exit ?_ | refine PW.ret ?_ | refine PW.skip ?_ | refine seqK_n (by assumption) ?_ | refine seqK_r (by assumption) ?_ | refine seqK_e (by assumption) ?_ | refine PW.regionA ?_ | exact schedW_stop_i | refine schK_n (by assumption) ?_ | (refine schedW_alt_k ?_ ?_; focus (intro K hK; simp only [hlen, hnlen, hgb, hdk, hgn, dc, hrl, hgc, dv, SS, SS2, SS3, SS4, SS5, Option.map_some, Nat.reduceAdd, reduceIte, Nat.reduceEqDiff, Nat.reduceBEq, eq_self, implies_true, ne_eq, beq_self_eq_true, id_eq, reduceCtorEq]; (try go_unwrap; try simp only [hlen, hnlen, hgb, hdk, hgn, dc, hrl, hgc, dv, RR, reduceCtorEq]))) | (refine PW.cond rfl ?_ ?_ <;> intro hcond <;> (try contradiction) <;> try simp only [decide_eq_true_eq, decide_eq_false_iff_not] at hcond) | (refine gd_i ?_; intro hg; try simp only [hg]) | refine goCall_W e37 (h37) ?_ ?_ ?_ ?_ | ((first | show @LE.le Nat _ _ _ | show @LT.lt Nat _ _ _ | show @LE.le Int _ _ _ | show @LT.lt Int _ _ _ | show @Eq Nat _ _ | show @Eq Int _ _ | show @Eq Bool _ _ | show _ ∨ _ | show ¬ _); first | omega | (simp only [decide_eq_true_eq, decide_eq_false_iff_not, List.length_cons, List.length_nil, List.length_append, List.length_map, Sh.size] <;> omega) | (go_unwrap; omega)) | ((first | refine PW.region ?_ | refine PW.regionQ ?_ | refine schedW_done_i ?_ | show (_ : Post) _ _ _ | show @Eq (List PV) _ _ | show @Eq Bool _ _ | show opsW _ _ _ _ _ _ _ _ | show okAll _ | show @Eq Bool _ _ ∨ _); focus (simp only [hlen, hnlen, hgb, hdk, hgn, dc, hrl, hgc, dv, SS, SS2, SS3, SS4, SS5, Option.map_some, Nat.reduceAdd, reduceIte, Nat.reduceEqDiff, Nat.reduceBEq, eq_self, implies_true, ne_eq, beq_self_eq_true, id_eq, reduceCtorEq]; (try go_unwrap; try simp only [hlen, hnlen, hgb, hdk, hgn, dc, hrl, hgc, dv, RR, reduceCtorEq]))) | refine And.intro ?_ ?_ | exact Or.inr ⟨rfl, Nat.le_refl _⟩ | exact (fun h => Bool.noConfusion h))
          all_goals exact ⟨(k + 1, nx), (by rw [← hnxv]; exact (by first | rfl | (simp only [trimE, trimM, List.take_succ_cons, List.take_zero, List.take_nil, List.map_cons, List.map_nil, Option.map_some, Option.map_none, MObj.kill, PV.kill, Nat.reduceLeDiff, decide_true, decide_false, dec_true, dec_false, Bool.false_eq_true, if_false, if_true, reduceIte, List.zip_cons_cons, List.zip_nil_left, Nat.le_refl, Nat.zero_le, Nat.not_le, Nat.lt_irrefl]; done) | (simp [trimE, trimM, MObj.kill, PV.kill]; done))), (by first | rfl | (simp only [trimE, trimM, List.take_succ_cons, List.take_zero, List.take_nil, List.map_cons, List.map_nil, Option.map_some, Option.map_none, MObj.kill, PV.kill, Nat.reduceLeDiff, decide_true, decide_false, dec_true, dec_false, Bool.false_eq_true, if_false, if_true, reduceIte, List.zip_cons_cons, List.zip_nil_left, Nat.le_refl, Nat.zero_le, Nat.not_le, Nat.lt_irrefl]; done) | (simp [trimE, trimM, MObj.kill, PV.kill]; done)), ⟨by simp only; omega, hskip⟩, by simp only; omega⟩
        have dv : decide (dstR (nsM l) (ndM l) t l.length x = ((m + 1 : Nat) : Int)) = true := by simpa using hv
        clear hskip
        cases nx with
        | none =>
          have hnew : ∃ h : c < l.length, l[c].name ∈ e.needs ∧ dstR (nsM l) (ndM l) t l.length l[c].name = ((m + 1 : Nat) : Int) ∧ ∀ j (h : j < e.needs.length), j < k + 1 → e.needs[j] ∈ nsM l → dstR (nsM l) (ndM l) t l.length e.needs[j] = ((m + 1 : Nat) : Int) → ¬ e.needs[j] < l[c].name :=
            ⟨hc, by rw [hn]; exact hmem, by rw [hn]; exact hv, fun j hj hji hjN hjD => by
              rcases Nat.lt_or_ge j k with h' | h'
              · exact absurd ⟨hjN, hjD⟩ (hall j hj h')
              · obtain rfl : j = k := by omega
                rw [hx, hn]; exact lt_irr _⟩
          have dn : decide ((-1 : Int) < 0) = true := rfl
          clear hall
          simp only [nxV]
          repeat' (first | exact True.intro | (refine PW.seqK ?_; intro K hK) | refine PW.block ?_ | refine PW.scope ?_ | refine PW.label ?_ | refine PW.exit ?_ | refine PW.ret ?_ | refine PW.skip ?_ | refine seqK_n (by assumption) ?_ | refine seqK_r (by assumption) ?_ | refine seqK_e (by assumption) ?_ | refine PW.regionA ?_ | exact schedW_stop_i | refine schK_n (by assumption) ?_ | (refine schedW_alt_k ?_ ?_; focus (intro K hK; simp only [hlen, hnlen, hgb, hdk, hgn, dc, hrl, hgc, dv, dn, SS, SS2, SS3, SS4, SS5, Option.map_some, Nat.reduceAdd, reduceIte, Nat.reduceEqDiff, Nat.reduceBEq, eq_self, implies_true, ne_eq, beq_self_eq_true, id_eq, reduceCtorEq]; (try go_unwrap; try simp only [hlen, hnlen, hgb, hdk, hgn, dc, hrl, hgc, dv, dn, RR, reduceCtorEq]))) | (refine PW.cond rfl ?_ ?_ <;> intro hcond <;> (try contradiction) <;> try simp only [decide_eq_true_eq, decide_eq_false_iff_not] at hcond) | (refine gd_i ?_; intro hg; try simp only [hg]) | refine goCall_W e37 (h37) ?_ ?_ ?_ ?_ | ((first | show @LE.le Nat _ _ _ | show @LT.lt Nat _ _ _ | show @LE.le Int _ _ _ | show @LT.lt Int _ _ _ | show @Eq Nat _ _ | show @Eq Int _ _ | show @Eq Bool _ _ | show _ ∨ _ | show ¬ _); first | omega | (simp only [decide_eq_true_eq, decide_eq_false_iff_not, List.length_cons, List.length_nil, List.length_append, List.length_map, Sh.size] <;> omega) | (go_unwrap; omega)) | ((first | refine PW.region ?_ | refine PW.regionQ ?_ | refine schedW_done_i ?_ | show (_ : Post) _ _ _ | show @Eq (List PV) _ _ | show @Eq Bool _ _ | show opsW _ _ _ _ _ _ _ _ | show okAll _ | show @Eq Bool _ _ ∨ _); focus (simp only [hlen, hnlen, hgb, hdk, hgn, dc, hrl, hgc, dv, dn, SS, SS2, SS3, SS4, SS5, Option.map_some, Nat.reduceAdd, reduceIte, Nat.reduceEqDiff, Nat.reduceBEq, eq_self, implies_true, ne_eq, beq_self_eq_true, id_eq, reduceCtorEq]; (try go_unwrap; try simp only [hlen, hnlen, hgb, hdk, hgn, dc, hrl, hgc, dv, dn, RR, reduceCtorEq]))) | refine And.intro ?_ ?_ | exact Or.inr ⟨rfl, Nat.le_refl _⟩ | exact (fun h => Bool.noConfusion h))
          all_goals exact ⟨(k + 1, some c), (by first | rfl | (simp only [trimE, trimM, List.take_succ_cons, List.take_zero, List.take_nil, List.map_cons, List.map_nil, Option.map_some, Option.map_none, MObj.kill, PV.kill, Nat.reduceLeDiff, decide_true, decide_false, dec_true, dec_false, Bool.false_eq_true, if_false, if_true, reduceIte, List.zip_cons_cons, List.zip_nil_left, Nat.le_refl, Nat.zero_le, Nat.not_le, Nat.lt_irrefl]; done) | (simp [trimE, trimM, MObj.kill, PV.kill]; done)), (by first | rfl | (simp only [trimE, trimM, List.take_succ_cons, List.take_zero, List.take_nil, List.map_cons, List.map_nil, Option.map_some, Option.map_none, MObj.kill, PV.kill, Nat.reduceLeDiff, decide_true, decide_false, dec_true, dec_false, Bool.false_eq_true, if_false, if_true, reduceIte, List.zip_cons_cons, List.zip_nil_left, Nat.le_refl, Nat.zero_le, Nat.not_le, Nat.lt_irrefl]; done) | (simp [trimE, trimM, MObj.kill, PV.kill]; done)), ⟨by simp only; omega, hnew⟩, by simp only; omega⟩
        | some f =>
          obtain ⟨hf, hf1, hf2, hf3⟩ := hall
          have hgfe := ed_getD l f hf
          simp only [edP] at hgfe
          have dn : decide ((f : Int) < 0) = false := by simp only [decide_eq_false_iff_not]; omega
          have hbl := bl_iff x l[f].name
          by_cases hlt : x < l[f].name
          · have hbb : Op.bytesLess x l[f].name = true := hbl.2 hlt
            have hnew : ∃ h : c < l.length, l[c].name ∈ e.needs ∧ dstR (nsM l) (ndM l) t l.length l[c].name = ((m + 1 : Nat) : Int) ∧ ∀ j (h : j < e.needs.length), j < k + 1 → e.needs[j] ∈ nsM l → dstR (nsM l) (ndM l) t l.length e.needs[j] = ((m + 1 : Nat) : Int) → ¬ e.needs[j] < l[c].name :=
              ⟨hc, by rw [hn]; exact hmem, by rw [hn]; exact hv, fun j hj hji hjN hjD => by
                rw [hn]
                rcases Nat.lt_or_ge j k with h' | h'
                · exact fun h5 => hf3 j hj h' hjN hjD (lt_tr h5 hlt)
                · obtain rfl : j = k := by omega
                  rw [hx]; exact lt_irr _⟩
            clear hf3 hf2 hf1
            generalize l[f] = ef at hgfe hbb
            simp only [nxV]
            repeat' (first | exact True.intro | (refine PW.seqK ?_; intro K hK) | refine PW.block ?_ | refine PW.scope ?_ | refine PW.label ?_ | refine PW.exit ?_ | refine PW.ret ?_ | refine PW.skip ?_ | refine seqK_n (by assumption) ?_ | refine seqK_r (by assumption) ?_ | refine seqK_e (by assumption) ?_ | refine PW.regionA ?_ | exact schedW_stop_i | refine schK_n (by assumption) ?_ | (refine schedW_alt_k ?_ ?_; focus (intro K hK; simp only [hlen, hnlen, hgb, hdk, hgn, dc, hrl, hgc, dv, dn, hgce, hgfe, hbb, SS, SS2, SS3, SS4, SS5, Option.map_some, Nat.reduceAdd, reduceIte, Nat.reduceEqDiff, Nat.reduceBEq, eq_self, implies_true, ne_eq, beq_self_eq_true, id_eq, reduceCtorEq]; (try go_unwrap; try simp only [hlen, hnlen, hgb, hdk, hgn, dc, hrl, hgc, dv, dn, hgce, hgfe, hbb, RR, reduceCtorEq]))) | (refine PW.cond rfl ?_ ?_ <;> intro hcond <;> (try contradiction) <;> try simp only [decide_eq_true_eq, decide_eq_false_iff_not] at hcond) | (refine gd_i ?_; intro hg; try simp only [hg]) | refine goCall_W e37 (h37) ?_ ?_ ?_ ?_ | ((first | show @LE.le Nat _ _ _ | show @LT.lt Nat _ _ _ | show @LE.le Int _ _ _ | show @LT.lt Int _ _ _ | show @Eq Nat _ _ | show @Eq Int _ _ | show @Eq Bool _ _ | show _ ∨ _ | show ¬ _); first | omega | (simp only [decide_eq_true_eq, decide_eq_false_iff_not, List.length_cons, List.length_nil, List.length_append, List.length_map, Sh.size] <;> omega) | (go_unwrap; omega)) | ((first | refine PW.region ?_ | refine PW.regionQ ?_ | refine schedW_done_i ?_ | show (_ : Post) _ _ _ | show @Eq (List PV) _ _ | show @Eq Bool _ _ | show opsW _ _ _ _ _ _ _ _ | show okAll _ | show @Eq Bool _ _ ∨ _); focus (simp only [hlen, hnlen, hgb, hdk, hgn, dc, hrl, hgc, dv, dn, hgce, hgfe, hbb, SS, SS2, SS3, SS4, SS5, Option.map_some, Nat.reduceAdd, reduceIte, Nat.reduceEqDiff, Nat.reduceBEq, eq_self, implies_true, ne_eq, beq_self_eq_true, id_eq, reduceCtorEq]; (try go_unwrap; try simp only [hlen, hnlen, hgb, hdk, hgn, dc, hrl, hgc, dv, dn, hgce, hgfe, hbb, RR, reduceCtorEq]))) | refine And.intro ?_ ?_ | exact Or.inr ⟨rfl, Nat.le_refl _⟩ | exact (fun h => Bool.noConfusion h))
            all_goals exact ⟨(k + 1, some c), (by first | rfl | (simp only [trimE, trimM, List.take_succ_cons, List.take_zero, List.take_nil, List.map_cons, List.map_nil, Option.map_some, Option.map_none, MObj.kill, PV.kill, Nat.reduceLeDiff, decide_true, decide_false, dec_true, dec_false, Bool.false_eq_true, if_false, if_true, reduceIte, List.zip_cons_cons, List.zip_nil_left, Nat.le_refl, Nat.zero_le, Nat.not_le, Nat.lt_irrefl]; done) | (simp [trimE, trimM, MObj.kill, PV.kill]; done)), (by first | rfl | (simp only [trimE, trimM, List.take_succ_cons, List.take_zero, List.take_nil, List.map_cons, List.map_nil, Option.map_some, Option.map_none, MObj.kill, PV.kill, Nat.reduceLeDiff, decide_true, decide_false, dec_true, dec_false, Bool.false_eq_true, if_false, if_true, reduceIte, List.zip_cons_cons, List.zip_nil_left, Nat.le_refl, Nat.zero_le, Nat.not_le, Nat.lt_irrefl]; done) | (simp [trimE, trimM, MObj.kill, PV.kill]; done)), ⟨by simp only; omega, hnew⟩, by simp only; omega⟩
          · have hbb : Op.bytesLess x l[f].name = false := (bl_not _ _).2 hlt
            have hnew : ∃ h : f < l.length, l[f].name ∈ e.needs ∧ dstR (nsM l) (ndM l) t l.length l[f].name = ((m + 1 : Nat) : Int) ∧ ∀ j (h : j < e.needs.length), j < k + 1 → e.needs[j] ∈ nsM l → dstR (nsM l) (ndM l) t l.length e.needs[j] = ((m + 1 : Nat) : Int) → ¬ e.needs[j] < l[f].name :=
              ⟨hf, hf1, hf2, fun j hj hji hjN hjD => by
                rcases Nat.lt_or_ge j k with h' | h'
                · exact hf3 j hj h' hjN hjD
                · obtain rfl : j = k := by omega
                  rw [hx]; exact hlt⟩
            clear hf3 hf2 hf1
            obtain ⟨ef, hef⟩ : ∃ ef, l[f] = ef := ⟨_, rfl⟩
            rw [hef] at hgfe hbb
            simp only [nxV]
            repeat' (first | exact True.intro | (refine PW.seqK ?_; intro K hK) | refine PW.block ?_ | refine PW.scope ?_ | refine PW.label ?_ | refine PW.exit ?_ | refine PW.ret ?_ | refine PW.skip ?_ | refine seqK_n (by assumption) ?_ | refine seqK_r (by assumption) ?_ | refine seqK_e (by assumption) ?_ | refine PW.regionA ?_ | exact schedW_stop_i | refine schK_n (by assumption) ?_ | (refine schedW_alt_k ?_ ?_; focus (intro K hK; simp only [hlen, hnlen, hgb, hdk, hgn, dc, hrl, hgc, dv, dn, hgce, hgfe, hbb, SS, SS2, SS3, SS4, SS5, Option.map_some, Nat.reduceAdd, reduceIte, Nat.reduceEqDiff, Nat.reduceBEq, eq_self, implies_true, ne_eq, beq_self_eq_true, id_eq, reduceCtorEq]; (try go_unwrap; try simp only [hlen, hnlen, hgb, hdk, hgn, dc, hrl, hgc, dv, dn, hgce, hgfe, hbb, RR, reduceCtorEq]))) | (refine PW.cond rfl ?_ ?_ <;> intro hcond <;> (try contradiction) <;> try simp only [decide_eq_true_eq, decide_eq_false_iff_not] at hcond) | (refine gd_i ?_; intro hg; try simp only [hg]) | refine goCall_W e37 (h37) ?_ ?_ ?_ ?_ | ((first | show @LE.le Nat _ _ _ | show @LT.lt Nat _ _ _ | show @LE.le Int _ _ _ | show @LT.lt Int _ _ _ | show @Eq Nat _ _ | show @Eq Int _ _ | show @Eq Bool _ _ | show _ ∨ _ | show ¬ _); first | omega | (simp only [decide_eq_true_eq, decide_eq_false_iff_not, List.length_cons, List.length_nil, List.length_append, List.length_map, Sh.size] <;> omega) | (go_unwrap; omega)) | ((first | refine PW.region ?_ | refine PW.regionQ ?_ | refine schedW_done_i ?_ | show (_ : Post) _ _ _ | show @Eq (List PV) _ _ | show @Eq Bool _ _ | show opsW _ _ _ _ _ _ _ _ | show okAll _ | show @Eq Bool _ _ ∨ _); focus (simp only [hlen, hnlen, hgb, hdk, hgn, dc, hrl, hgc, dv, dn, hgce, hgfe, hbb, SS, SS2, SS3, SS4, SS5, Option.map_some, Nat.reduceAdd, reduceIte, Nat.reduceEqDiff, Nat.reduceBEq, eq_self, implies_true, ne_eq, beq_self_eq_true, id_eq, reduceCtorEq]; (try go_unwrap; try simp only [hlen, hnlen, hgb, hdk, hgn, dc, hrl, hgc, dv, dn, hgce, hgfe, hbb, RR, reduceCtorEq]))) | refine And.intro ?_ ?_ | exact Or.inr ⟨rfl, Nat.le_refl _⟩ | exact (fun h => Bool.noConfusion h))
            all_goals exact ⟨(k + 1, some f), (by first | rfl | (simp only [trimE, trimM, List.take_succ_cons, List.take_zero, List.take_nil, List.map_cons, List.map_nil, Option.map_some, Option.map_none, MObj.kill, PV.kill, Nat.reduceLeDiff, decide_true, decide_false, dec_true, dec_false, Bool.false_eq_true, if_false, if_true, reduceIte, List.zip_cons_cons, List.zip_nil_left, Nat.le_refl, Nat.zero_le, Nat.not_le, Nat.lt_irrefl]; done) | (simp [trimE, trimM, MObj.kill, PV.kill]; done)), (by first | rfl | (simp only [trimE, trimM, List.take_succ_cons, List.take_zero, List.take_nil, List.map_cons, List.map_nil, Option.map_some, Option.map_none, MObj.kill, PV.kill, Nat.reduceLeDiff, decide_true, decide_false, dec_true, dec_false, Bool.false_eq_true, if_false, if_true, reduceIte, List.zip_cons_cons, List.zip_nil_left, Nat.le_refl, Nat.zero_le, Nat.not_le, Nat.lt_irrefl]; done) | (simp [trimE, trimM, MObj.kill, PV.kill]; done)), ⟨by simp only; omega, hnew⟩, by simp only; omega⟩
    · have hdk : decide ((k : Int) < e.needs.length) = false := by simp only [decide_eq_false_iff_not]; omega
      cases nx with
      | none =>
        exfalso
        obtain ⟨y, hy, h5⟩ := hexc
        obtain ⟨j, hj, rfl⟩ := List.getElem_of_mem hy
        exact hall j hj (by omega) h5
      | some f =>
        obtain ⟨hf, hf1, hf2, hf3⟩ := hall
        have hnxt := hnxt f hf hf1 hf2 (fun y hy hyN hyD => by
          obtain ⟨j, hj, rfl⟩ := List.getElem_of_mem hy
          exact hf3 j hj (by omega) hyN hyD)
        have hgfe := ed_getD l f hf
        simp only [edP] at hgfe
        clear hf3 hf2 hf1 hexc
        generalize l[f] = ef at hgfe hnxt
        have htt : (out.map PV.str).take out.length = out.map PV.str := List.take_of_length_le (by simp)
        have b1 : (out.length + 1) * 16 ≤ 140737488355328 := by omega
        have wm : IntKind.i64.wrap (((m + 1 : Nat) : Int) - 1) = (m : Int) := by rw [IntWalk.i64_in _ (by omega)]; omega
        simp only [nxV]
        repeat' (first | exact True.intro | (refine PW.seqK ?_; intro K hK) | refine PW.block ?_ | refine PW.scope ?_ | refine PW.label ?_ | refine PW.exit ?_ | refine PW.ret ?_ | refine PW.skip ?_ | refine seqK_n (by assumption) ?_ | refine seqK_r (by assumption) ?_ | refine seqK_e (by assumption) ?_ | refine PW.regionA ?_ | exact schedW_stop_i | refine schK_n (by assumption) ?_ | (refine schedW_alt_k ?_ ?_; focus (intro K hK; simp only [hlen, hnlen, hgb, hdk, hgfe, hol, htt, wm, SS, SS2, SS3, SS4, SS5, Option.map_some, Nat.reduceAdd, reduceIte, Nat.reduceEqDiff, Nat.reduceBEq, eq_self, implies_true, ne_eq, beq_self_eq_true, id_eq, reduceCtorEq]; (try go_unwrap; try simp only [hlen, hnlen, hgb, hdk, hgfe, hol, htt, wm, RR, reduceCtorEq]))) | (refine PW.cond rfl ?_ ?_ <;> intro hcond <;> (try contradiction) <;> try simp only [decide_eq_true_eq, decide_eq_false_iff_not] at hcond) | (refine gd_i ?_; intro hg; try simp only [hg]) | ((first | show @LE.le Nat _ _ _ | show @LT.lt Nat _ _ _ | show @LE.le Int _ _ _ | show @LT.lt Int _ _ _ | show @Eq Nat _ _ | show @Eq Int _ _ | show @Eq Bool _ _ | show _ ∨ _ | show ¬ _); first | omega | (simp only [decide_eq_true_eq, decide_eq_false_iff_not, List.length_cons, List.length_nil, List.length_append, List.length_map, Sh.size] <;> omega) | (go_unwrap; omega)) | ((first | refine PW.region ?_ | refine PW.regionQ ?_ | refine schedW_done_i ?_ | show (_ : Post) _ _ _ | show @Eq (List PV) _ _ | show @Eq Bool _ _ | show opsW _ _ _ _ _ _ _ _ | show okAll _ | show @Eq Bool _ _ ∨ _); focus (simp only [hlen, hnlen, hgb, hdk, hgfe, hol, htt, wm, SS, SS2, SS3, SS4, SS5, Option.map_some, Nat.reduceAdd, reduceIte, Nat.reduceEqDiff, Nat.reduceBEq, eq_self, implies_true, ne_eq, beq_self_eq_true, id_eq, reduceCtorEq]; (try go_unwrap; try simp only [hlen, hnlen, hgb, hdk, hgfe, hol, htt, wm, RR, reduceCtorEq]))) | refine And.intro ?_ ?_ | exact Or.inr ⟨rfl, Nat.le_refl _⟩ | exact (fun h => Bool.noConfusion h))
        all_goals exact ⟨(m, f, out ++ [ef.name]), (by simp only [List.length_append, List.length_cons, List.length_nil]; exact (by first | rfl | (simp only [trimE, trimM, List.take_succ_cons, List.take_zero, List.take_nil, List.map_cons, List.map_nil, Option.map_some, Option.map_none, MObj.kill, PV.kill, Nat.reduceLeDiff, decide_true, decide_false, dec_true, dec_false, Bool.false_eq_true, if_false, if_true, reduceIte, List.zip_cons_cons, List.zip_nil_left, Nat.le_refl, Nat.zero_le, Nat.not_le, Nat.lt_irrefl]; done) | (simp [trimE, trimM, MObj.kill, PV.kill]; done))), (by simp [trimM, MObj.kill]), ⟨by simp; omega, hnxt⟩, by simp only; omega⟩
theorem rngE_len {l : List Ed} {j : Nat} (h : j < l.length) : (rngE (nsM l) (ndM l) l.length l[j].name).length ≤ l.length + 1 := by
  unfold rngE
  split
  · simp
  · rename_i hb
    rcases bstF_spec (N := nsM l) (dstR (nsM l) (ndM l) l[j].name l.length) (ndM l l[j].name) with ⟨h1, -⟩ | ⟨h1, ⟨y, hy, hyN, hyD⟩, -⟩
    · omega
    · obtain ⟨n, hn⟩ : ∃ n : Nat, bstF (nsM l) (dstR (nsM l) (ndM l) l[j].name l.length) (ndM l l[j].name) = n := ⟨(bstF (nsM l) (dstR (nsM l) (ndM l) l[j].name l.length) (ndM l l[j].name)).toNat, by omega⟩
      rw [hn] at hyD ⊢
      rw [Int.toNat_natCast, List.length_cons, rngD_len n _ (.inr ⟨y, hy, hyN, hyD⟩)]
      have := (dst_some.1 hyD).1; omega
theorem bestE_len (l : List Ed) : ∀ i, i ≤ l.length → (bestE l i).length ≤ l.length + 1
  | 0, _ => by simp [bestE]
  | i + 1, hi => by
    rw [bestE_step l (by omega)]
    split
    · exact rngE_len (by omega)
    · exact bestE_len l i (by omega)
theorem v14 (l : List Ed) (hl : l.length ≤ 1000000000) (hnl : ∀ e ∈ l, e.needs.length ≤ 9223372036854775807) : VCalls Try.prog G0 14 [edL l] (txL (ringM l)) := by
  refine VCalls.of_PW Try.func14 k14 mix (by simp [c14]) ?_
  simp only [c14, L14, argE]
  have h32 := v32 l hl hnl
  have hlen : ((l.map edP).length : Nat) = l.length := by simp
  by_cases hw : wrongM l = 0
  case neg =>
    have d1 : decide (wrongM l = 0) = false := by simpa using hw
    have hB : ringM l = [] := by unfold ringM; rw [if_pos hw]
    repeat' (first | exact True.intro | (refine PW.stop (x := .ret) ?_) | (refine PW.seqK ?_; intro K hK) | refine PW.block ?_ | refine PW.scope ?_ | refine PW.label ?_ | refine PW.exit ?_ | refine PW.ret ?_ | refine PW.skip ?_ | refine seqK_n (by assumption) ?_ | refine seqK_r (by assumption) ?_ | refine seqK_e (by assumption) ?_ | refine PW.regionA ?_ | exact schedW_stop_i | refine schK_n (by assumption) ?_ | (refine schedW_alt_k ?_ ?_; focus (intro K hK; simp only [d1, SS, SS2, SS3, SS4, SS5, Option.map_some, Nat.reduceAdd, reduceIte, Nat.reduceEqDiff, Nat.reduceBEq, eq_self, implies_true, ne_eq, beq_self_eq_true, id_eq, reduceCtorEq]; (try go_unwrap; try simp only [d1, RR, reduceCtorEq]))) | (refine PW.cond rfl ?_ ?_ <;> intro hcond <;> (try contradiction) <;> try simp only [decide_eq_true_eq, decide_eq_false_iff_not] at hcond) | (refine gd_i ?_; intro hg; try simp only [hg]) | refine goCall_W e32 (h32) ?_ ?_ ?_ ?_ | ((first | show @LE.le Nat _ _ _ | show @LT.lt Nat _ _ _ | show @LE.le Int _ _ _ | show @LT.lt Int _ _ _ | show @Eq Nat _ _ | show @Eq Int _ _ | show @Eq Bool _ _ | show _ ∨ _ | show ¬ _); first | omega | (simp only [decide_eq_true_eq, decide_eq_false_iff_not, List.length_cons, List.length_nil, List.length_append, List.length_map, Sh.size] <;> omega) | (go_unwrap; omega)) | ((first | refine PW.region ?_ | refine PW.regionQ ?_ | refine schedW_done_i ?_ | show (_ : Post) _ _ _ | show @Eq (List PV) _ _ | show @Eq Bool _ _ | show opsW _ _ _ _ _ _ _ _ | show okAll _ | show @Eq Bool _ _ ∨ _); focus (simp only [d1, SS, SS2, SS3, SS4, SS5, Option.map_some, Nat.reduceAdd, reduceIte, Nat.reduceEqDiff, Nat.reduceBEq, eq_self, implies_true, ne_eq, beq_self_eq_true, id_eq, reduceCtorEq]; (try go_unwrap; try simp only [d1, RR, reduceCtorEq]))) | refine And.intro ?_ ?_ | exact Or.inr ⟨rfl, Nat.le_refl _⟩ | exact (fun h => Bool.noConfusion h))
    all_goals
      refine ⟨?_⟩
      refine PW.subE none 2 rfl ?_
      repeat' (first | exact True.intro | (refine PW.seqK ?_; intro K hK) | refine PW.block ?_ | refine PW.scope ?_ | refine PW.label ?_ | refine PW.exit ?_ | refine PW.ret ?_ | refine PW.skip ?_ | refine seqK_n (by assumption) ?_ | refine seqK_r (by assumption) ?_ | refine seqK_e (by assumption) ?_ | refine PW.regionA ?_ | exact schedW_stop_i | refine schK_n (by assumption) ?_ | (refine schedW_alt_k ?_ ?_; focus (intro K hK; simp only [SS, SS2, SS3, SS4, SS5, Option.map_some, Nat.reduceAdd, reduceIte, Nat.reduceEqDiff, Nat.reduceBEq, eq_self, implies_true, ne_eq, beq_self_eq_true, id_eq, reduceCtorEq]; (try go_unwrap; try simp only [RR, reduceCtorEq]))) | (refine PW.cond rfl ?_ ?_ <;> intro hcond <;> (try contradiction) <;> try simp only [decide_eq_true_eq, decide_eq_false_iff_not] at hcond) | (refine gd_i ?_; intro hg; try simp only [hg]) | ((first | show @LE.le Nat _ _ _ | show @LT.lt Nat _ _ _ | show @LE.le Int _ _ _ | show @LT.lt Int _ _ _ | show @Eq Nat _ _ | show @Eq Int _ _ | show @Eq Bool _ _ | show _ ∨ _ | show ¬ _); first | omega | (simp only [decide_eq_true_eq, decide_eq_false_iff_not, List.length_cons, List.length_nil, List.length_append, List.length_map, Sh.size] <;> omega) | (go_unwrap; omega)) | ((first | refine PW.region ?_ | refine PW.regionQ ?_ | refine schedW_done_i ?_ | show (_ : Post) _ _ _ | show @Eq (List PV) _ _ | show @Eq Bool _ _ | show opsW _ _ _ _ _ _ _ _ | show okAll _ | show @Eq Bool _ _ ∨ _); focus (simp only [SS, SS2, SS3, SS4, SS5, Option.map_some, Nat.reduceAdd, reduceIte, Nat.reduceEqDiff, Nat.reduceBEq, eq_self, implies_true, ne_eq, beq_self_eq_true, id_eq, reduceCtorEq]; (try go_unwrap; try simp only [RR, reduceCtorEq]))) | refine And.intro ?_ ?_ | exact Or.inr ⟨rfl, Nat.le_refl _⟩ | exact (fun h => Bool.noConfusion h))
      rw [hB]; rfl
  rw [hw] at h32
  have hl64 := (wrongM_0.1 hw).1
  repeat' (first | exact True.intro | (refine PW.seqK ?_; intro K hK) | refine PW.block ?_ | refine PW.scope ?_ | refine PW.label ?_ | refine PW.exit ?_ | refine PW.ret ?_ | refine PW.skip ?_ | refine seqK_n (by assumption) ?_ | refine seqK_r (by assumption) ?_ | refine seqK_e (by assumption) ?_ | refine PW.regionA ?_ | exact schedW_stop_i | refine schK_n (by assumption) ?_ | (refine schedW_alt_k ?_ ?_; focus (intro K hK; simp only [hlen, SS, SS2, SS3, SS4, SS5, Option.map_some, Nat.reduceAdd, reduceIte, Nat.reduceEqDiff, Nat.reduceBEq, eq_self, implies_true, ne_eq, beq_self_eq_true, id_eq, reduceCtorEq]; (try go_unwrap; try simp only [hlen, RR, reduceCtorEq]))) | (refine PW.cond rfl ?_ ?_ <;> intro hcond <;> (try contradiction) <;> try simp only [decide_eq_true_eq, decide_eq_false_iff_not] at hcond) | (refine gd_i ?_; intro hg; try simp only [hg]) | refine goCall_W e32 (h32) ?_ ?_ ?_ ?_ | ((first | show @LE.le Nat _ _ _ | show @LT.lt Nat _ _ _ | show @LE.le Int _ _ _ | show @LT.lt Int _ _ _ | show @Eq Nat _ _ | show @Eq Int _ _ | show @Eq Bool _ _ | show _ ∨ _ | show ¬ _); first | omega | (simp only [decide_eq_true_eq, decide_eq_false_iff_not, List.length_cons, List.length_nil, List.length_append, List.length_map, Sh.size] <;> omega) | (go_unwrap; omega)) | ((first | refine PW.region ?_ | refine PW.regionQ ?_ | refine schedW_done_i ?_ | show (_ : Post) _ _ _ | show @Eq (List PV) _ _ | show @Eq Bool _ _ | show opsW _ _ _ _ _ _ _ _ | show okAll _ | show @Eq Bool _ _ ∨ _); focus (simp only [hlen, SS, SS2, SS3, SS4, SS5, Option.map_some, Nat.reduceAdd, reduceIte, Nat.reduceEqDiff, Nat.reduceBEq, eq_self, implies_true, ne_eq, beq_self_eq_true, id_eq, reduceCtorEq]; (try go_unwrap; try simp only [hlen, RR, reduceCtorEq]))) | refine And.intro ?_ ?_ | exact Or.inr ⟨rfl, Nat.le_refl _⟩ | exact (fun h => Bool.noConfusion h))
  refine PW.subE none 3 rfl ?_
  refine PW.loopG (σ := Nat) 0 (fun _ _ => rfl) [0, 2, 3, 4] (fun i => [edL l, .nilSl, txL (bestE l i), .int .i64 i]) (fun i => []) (fun i => i ≤ l.length) (fun i => l.length - i) 0 ?_ rfl (by omega) ?_
  · simp only [SS, SS2, SS3, SS4, SS5, Option.map_some, Nat.reduceAdd, reduceIte, Nat.reduceEqDiff, Nat.reduceBEq, eq_self, implies_true, ne_eq, beq_self_eq_true, id_eq, reduceCtorEq]; rfl
  rintro i hi
  simp only [List.zip_cons_cons, List.zip_nil_left]
  rcases Nat.lt_or_ge i l.length with h | h
  · have hd : decide ((i : Int) < l.length) = true := by simp only [decide_eq_true_eq]; omega
    have h33 := v33 l hl hnl hw i h
    have hst := bestE_step l h
    have hrl := rngE_len h
    have hbl := bestE_len l i (by omega)
    generalize rngE (nsM l) (ndM l) l.length l[i].name = R at h33 hst hrl
    generalize bestE l i = B at hst hbl
    have hRl : ((R.map PV.str).length : Nat) = R.length := by simp
    have hBl : ((B.map PV.str).length : Nat) = B.length := by simp
    have eR : (R ≠ []) ↔ (0 : Int) < R.length := by cases R <;> simp <;> omega
    have eB : (B = []) ↔ (B.length : Int) = 0 := by cases B <;> simp <;> omega
    by_cases h1 : R.length = B.length
    · have h34 := v34 R B (by omega) h1
      have d3 : decide ((R.length : Int) = B.length) = true := by simp only [decide_eq_true_eq]; omega
      have d4 : decide ((R.length : Int) < B.length) = false := by simp only [decide_eq_false_iff_not]; omega
      generalize hb : befM R B = b at h34 hst
      by_cases hR : R ≠ []
      · have d1 : decide ((0 : Int) < R.length) = true := by simpa using eR.1 hR
        have hB : B ≠ [] := fun e => hR (by rw [e] at h1; simpa using h1)
        have d2 : decide ((B.length : Int) = 0) = false := by simpa using fun e => hB (eB.2 e)
        cases b with
        | true =>
          rw [if_pos ⟨hR, .inr (.inr ⟨h1, rfl⟩)⟩] at hst
          repeat' (first | exact True.intro | (refine PW.seqK ?_; intro K hK) | refine PW.block ?_ | refine PW.scope ?_ | refine PW.label ?_ | refine PW.exit ?_ | refine PW.ret ?_ | refine PW.skip ?_ | refine seqK_n (by assumption) ?_ | refine seqK_r (by assumption) ?_ | refine seqK_e (by assumption) ?_ | refine PW.regionA ?_ | exact schedW_stop_i | refine schK_n (by assumption) ?_ | (refine schedW_alt_k ?_ ?_; focus (intro K hK; simp only [hd, hlen, hRl, hBl, d1, d2, d3, d4, SS, SS2, SS3, SS4, SS5, Option.map_some, Nat.reduceAdd, reduceIte, Nat.reduceEqDiff, Nat.reduceBEq, eq_self, implies_true, ne_eq, beq_self_eq_true, id_eq, reduceCtorEq]; (try go_unwrap; try simp only [hd, hlen, hRl, hBl, d1, d2, d3, d4, RR, reduceCtorEq]))) | (refine PW.cond rfl ?_ ?_ <;> intro hcond <;> (try contradiction) <;> try simp only [decide_eq_true_eq, decide_eq_false_iff_not] at hcond) | (refine gd_i ?_; intro hg; try simp only [hg]) | refine goCall_W e33 (h33) ?_ ?_ ?_ ?_ | refine goCallG_W e34 (h34) ?_ ?_ ?_ ?_ ?_ | ((first | show @LE.le Nat _ _ _ | show @LT.lt Nat _ _ _ | show @LE.le Int _ _ _ | show @LT.lt Int _ _ _ | show @Eq Nat _ _ | show @Eq Int _ _ | show @Eq Bool _ _ | show _ ∨ _ | show ¬ _); first | omega | (simp only [decide_eq_true_eq, decide_eq_false_iff_not, List.length_cons, List.length_nil, List.length_append, List.length_map, Sh.size] <;> omega) | (go_unwrap; omega)) | ((first | refine PW.region ?_ | refine PW.regionQ ?_ | refine schedW_done_i ?_ | show (_ : Post) _ _ _ | show @Eq (List PV) _ _ | show @Eq Bool _ _ | show opsW _ _ _ _ _ _ _ _ | show okAll _ | show @Eq Bool _ _ ∨ _); focus (simp only [hd, hlen, hRl, hBl, d1, d2, d3, d4, SS, SS2, SS3, SS4, SS5, Option.map_some, Nat.reduceAdd, reduceIte, Nat.reduceEqDiff, Nat.reduceBEq, eq_self, implies_true, ne_eq, beq_self_eq_true, id_eq, reduceCtorEq]; (try go_unwrap; try simp only [hd, hlen, hRl, hBl, d1, d2, d3, d4, RR, reduceCtorEq]))) | refine And.intro ?_ ?_ | exact Or.inr ⟨rfl, Nat.le_refl _⟩ | exact (fun h => Bool.noConfusion h))
          all_goals exact ⟨i + 1, (by rw [hst]; exact (by first | rfl | (simp only [trimE, trimM, List.take_succ_cons, List.take_zero, List.take_nil, List.map_cons, List.map_nil, Option.map_some, Option.map_none, MObj.kill, PV.kill, Nat.reduceLeDiff, decide_true, decide_false, dec_true, dec_false, Bool.false_eq_true, if_false, if_true, reduceIte, List.zip_cons_cons, List.zip_nil_left, Nat.le_refl, Nat.zero_le, Nat.not_le, Nat.lt_irrefl]; done) | (simp [trimE, trimM, MObj.kill, PV.kill]; done))), (by first | rfl | (simp only [trimE, trimM, List.take_succ_cons, List.take_zero, List.take_nil, List.map_cons, List.map_nil, Option.map_some, Option.map_none, MObj.kill, PV.kill, Nat.reduceLeDiff, decide_true, decide_false, dec_true, dec_false, Bool.false_eq_true, if_false, if_true, reduceIte, List.zip_cons_cons, List.zip_nil_left, Nat.le_refl, Nat.zero_le, Nat.not_le, Nat.lt_irrefl]; done) | (simp [trimE, trimM, MObj.kill, PV.kill]; done)), by omega, by omega⟩
        | false =>
          rw [if_neg (by rintro ⟨-, h | h | ⟨-, h⟩⟩; exact hB h; omega; cases h)] at hst
          repeat' (first | exact True.intro | (refine PW.seqK ?_; intro K hK) | refine PW.block ?_ | refine PW.scope ?_ | refine PW.label ?_ | refine PW.exit ?_ | refine PW.ret ?_ | refine PW.skip ?_ | refine seqK_n (by assumption) ?_ | refine seqK_r (by assumption) ?_ | refine seqK_e (by assumption) ?_ | refine PW.regionA ?_ | exact schedW_stop_i | refine schK_n (by assumption) ?_ | (refine schedW_alt_k ?_ ?_; focus (intro K hK; simp only [hd, hlen, hRl, hBl, d1, d2, d3, d4, SS, SS2, SS3, SS4, SS5, Option.map_some, Nat.reduceAdd, reduceIte, Nat.reduceEqDiff, Nat.reduceBEq, eq_self, implies_true, ne_eq, beq_self_eq_true, id_eq, reduceCtorEq]; (try go_unwrap; try simp only [hd, hlen, hRl, hBl, d1, d2, d3, d4, RR, reduceCtorEq]))) | (refine PW.cond rfl ?_ ?_ <;> intro hcond <;> (try contradiction) <;> try simp only [decide_eq_true_eq, decide_eq_false_iff_not] at hcond) | (refine gd_i ?_; intro hg; try simp only [hg]) | refine goCall_W e33 (h33) ?_ ?_ ?_ ?_ | refine goCallG_W e34 (h34) ?_ ?_ ?_ ?_ ?_ | ((first | show @LE.le Nat _ _ _ | show @LT.lt Nat _ _ _ | show @LE.le Int _ _ _ | show @LT.lt Int _ _ _ | show @Eq Nat _ _ | show @Eq Int _ _ | show @Eq Bool _ _ | show _ ∨ _ | show ¬ _); first | omega | (simp only [decide_eq_true_eq, decide_eq_false_iff_not, List.length_cons, List.length_nil, List.length_append, List.length_map, Sh.size] <;> omega) | (go_unwrap; omega)) | ((first | refine PW.region ?_ | refine PW.regionQ ?_ | refine schedW_done_i ?_ | show (_ : Post) _ _ _ | show @Eq (List PV) _ _ | show @Eq Bool _ _ | show opsW _ _ _ _ _ _ _ _ | show okAll _ | show @Eq Bool _ _ ∨ _); focus (simp only [hd, hlen, hRl, hBl, d1, d2, d3, d4, SS, SS2, SS3, SS4, SS5, Option.map_some, Nat.reduceAdd, reduceIte, Nat.reduceEqDiff, Nat.reduceBEq, eq_self, implies_true, ne_eq, beq_self_eq_true, id_eq, reduceCtorEq]; (try go_unwrap; try simp only [hd, hlen, hRl, hBl, d1, d2, d3, d4, RR, reduceCtorEq]))) | refine And.intro ?_ ?_ | exact Or.inr ⟨rfl, Nat.le_refl _⟩ | exact (fun h => Bool.noConfusion h))
          all_goals exact ⟨i + 1, (by rw [hst]; exact (by first | rfl | (simp only [trimE, trimM, List.take_succ_cons, List.take_zero, List.take_nil, List.map_cons, List.map_nil, Option.map_some, Option.map_none, MObj.kill, PV.kill, Nat.reduceLeDiff, decide_true, decide_false, dec_true, dec_false, Bool.false_eq_true, if_false, if_true, reduceIte, List.zip_cons_cons, List.zip_nil_left, Nat.le_refl, Nat.zero_le, Nat.not_le, Nat.lt_irrefl]; done) | (simp [trimE, trimM, MObj.kill, PV.kill]; done))), (by first | rfl | (simp only [trimE, trimM, List.take_succ_cons, List.take_zero, List.take_nil, List.map_cons, List.map_nil, Option.map_some, Option.map_none, MObj.kill, PV.kill, Nat.reduceLeDiff, decide_true, decide_false, dec_true, dec_false, Bool.false_eq_true, if_false, if_true, reduceIte, List.zip_cons_cons, List.zip_nil_left, Nat.le_refl, Nat.zero_le, Nat.not_le, Nat.lt_irrefl]; done) | (simp [trimE, trimM, MObj.kill, PV.kill]; done)), by omega, by omega⟩
      · have d1 : decide ((0 : Int) < R.length) = false := by simpa using fun e => hR (eR.2 e)
        rw [if_neg (fun h => hR h.1)] at hst
        repeat' (first | exact True.intro | (refine PW.seqK ?_; intro K hK) | refine PW.block ?_ | refine PW.scope ?_ | refine PW.label ?_ | refine PW.exit ?_ | refine PW.ret ?_ | refine PW.skip ?_ | refine seqK_n (by assumption) ?_ | refine seqK_r (by assumption) ?_ | refine seqK_e (by assumption) ?_ | refine PW.regionA ?_ | exact schedW_stop_i | refine schK_n (by assumption) ?_ | (refine schedW_alt_k ?_ ?_; focus (intro K hK; simp only [hd, hlen, hRl, hBl, d1, SS, SS2, SS3, SS4, SS5, Option.map_some, Nat.reduceAdd, reduceIte, Nat.reduceEqDiff, Nat.reduceBEq, eq_self, implies_true, ne_eq, beq_self_eq_true, id_eq, reduceCtorEq]; (try go_unwrap; try simp only [hd, hlen, hRl, hBl, d1, RR, reduceCtorEq]))) | (refine PW.cond rfl ?_ ?_ <;> intro hcond <;> (try contradiction) <;> try simp only [decide_eq_true_eq, decide_eq_false_iff_not] at hcond) | (refine goCallG_skip rfl ?_; simp only [hd, hlen, hRl, hBl, d1, SS, SS2, SS3, SS4, SS5, Option.map_some, Nat.reduceAdd, reduceIte, Nat.reduceEqDiff, Nat.reduceBEq, eq_self, implies_true, ne_eq, beq_self_eq_true, id_eq, reduceCtorEq]; (try go_unwrap; try simp only [hd, hlen, hRl, hBl, d1, RR, reduceCtorEq])) | (refine gd_i ?_; intro hg; try simp only [hg]) | refine goCall_W e33 (h33) ?_ ?_ ?_ ?_ | ((first | show @LE.le Nat _ _ _ | show @LT.lt Nat _ _ _ | show @LE.le Int _ _ _ | show @LT.lt Int _ _ _ | show @Eq Nat _ _ | show @Eq Int _ _ | show @Eq Bool _ _ | show _ ∨ _ | show ¬ _); first | omega | (simp only [decide_eq_true_eq, decide_eq_false_iff_not, List.length_cons, List.length_nil, List.length_append, List.length_map, Sh.size] <;> omega) | (go_unwrap; omega)) | ((first | refine PW.region ?_ | refine PW.regionQ ?_ | refine schedW_done_i ?_ | show (_ : Post) _ _ _ | show @Eq (List PV) _ _ | show @Eq Bool _ _ | show opsW _ _ _ _ _ _ _ _ | show okAll _ | show @Eq Bool _ _ ∨ _); focus (simp only [hd, hlen, hRl, hBl, d1, SS, SS2, SS3, SS4, SS5, Option.map_some, Nat.reduceAdd, reduceIte, Nat.reduceEqDiff, Nat.reduceBEq, eq_self, implies_true, ne_eq, beq_self_eq_true, id_eq, reduceCtorEq]; (try go_unwrap; try simp only [hd, hlen, hRl, hBl, d1, RR, reduceCtorEq]))) | refine And.intro ?_ ?_ | exact Or.inr ⟨rfl, Nat.le_refl _⟩ | exact (fun h => Bool.noConfusion h))
        all_goals exact ⟨i + 1, (by rw [hst]; exact (by first | rfl | (simp only [trimE, trimM, List.take_succ_cons, List.take_zero, List.take_nil, List.map_cons, List.map_nil, Option.map_some, Option.map_none, MObj.kill, PV.kill, Nat.reduceLeDiff, decide_true, decide_false, dec_true, dec_false, Bool.false_eq_true, if_false, if_true, reduceIte, List.zip_cons_cons, List.zip_nil_left, Nat.le_refl, Nat.zero_le, Nat.not_le, Nat.lt_irrefl]; done) | (simp [trimE, trimM, MObj.kill, PV.kill]; done))), (by first | rfl | (simp only [trimE, trimM, List.take_succ_cons, List.take_zero, List.take_nil, List.map_cons, List.map_nil, Option.map_some, Option.map_none, MObj.kill, PV.kill, Nat.reduceLeDiff, decide_true, decide_false, dec_true, dec_false, Bool.false_eq_true, if_false, if_true, reduceIte, List.zip_cons_cons, List.zip_nil_left, Nat.le_refl, Nat.zero_le, Nat.not_le, Nat.lt_irrefl]; done) | (simp [trimE, trimM, MObj.kill, PV.kill]; done)), by omega, by omega⟩
    · have d3 : decide ((R.length : Int) = B.length) = false := by simp only [decide_eq_false_iff_not]; omega
      by_cases hR : R ≠ []
      · have d1 : decide ((0 : Int) < R.length) = true := by simpa using eR.1 hR
        by_cases hc : B = [] ∨ R.length < B.length
        · rw [if_pos ⟨hR, hc.elim .inl (fun h => .inr (.inl h))⟩] at hst
          have d2 : (decide ((B.length : Int) = 0) || decide ((R.length : Int) < B.length)) = true := by
            simp only [Bool.or_eq_true, decide_eq_true_eq]
            exact hc.imp eB.1 (fun h => by omega)
          repeat' (first | exact True.intro | (refine PW.seqK ?_; intro K hK) | refine PW.block ?_ | refine PW.scope ?_ | refine PW.label ?_ | refine PW.exit ?_ | refine PW.ret ?_ | refine PW.skip ?_ | refine seqK_n (by assumption) ?_ | refine seqK_r (by assumption) ?_ | refine seqK_e (by assumption) ?_ | refine PW.regionA ?_ | exact schedW_stop_i | refine schK_n (by assumption) ?_ | (refine schedW_alt_k ?_ ?_; focus (intro K hK; simp only [hd, hlen, hRl, hBl, d1, d2, d3, SS, SS2, SS3, SS4, SS5, Option.map_some, Nat.reduceAdd, reduceIte, Nat.reduceEqDiff, Nat.reduceBEq, eq_self, implies_true, ne_eq, beq_self_eq_true, id_eq, reduceCtorEq]; (try go_unwrap; try simp only [hd, hlen, hRl, hBl, d1, d2, d3, RR, reduceCtorEq]))) | (refine PW.cond rfl ?_ ?_ <;> intro hcond <;> (try contradiction) <;> try simp only [decide_eq_true_eq, decide_eq_false_iff_not] at hcond) | (refine goCallG_skip rfl ?_; simp only [hd, hlen, hRl, hBl, d1, d2, d3, SS, SS2, SS3, SS4, SS5, Option.map_some, Nat.reduceAdd, reduceIte, Nat.reduceEqDiff, Nat.reduceBEq, eq_self, implies_true, ne_eq, beq_self_eq_true, id_eq, reduceCtorEq]; (try go_unwrap; try simp only [hd, hlen, hRl, hBl, d1, d2, d3, RR, reduceCtorEq])) | (refine gd_i ?_; intro hg; try simp only [hg]) | refine goCall_W e33 (h33) ?_ ?_ ?_ ?_ | ((first | show @LE.le Nat _ _ _ | show @LT.lt Nat _ _ _ | show @LE.le Int _ _ _ | show @LT.lt Int _ _ _ | show @Eq Nat _ _ | show @Eq Int _ _ | show @Eq Bool _ _ | show _ ∨ _ | show ¬ _); first | omega | (simp only [decide_eq_true_eq, decide_eq_false_iff_not, List.length_cons, List.length_nil, List.length_append, List.length_map, Sh.size] <;> omega) | (go_unwrap; omega)) | ((first | refine PW.region ?_ | refine PW.regionQ ?_ | refine schedW_done_i ?_ | show (_ : Post) _ _ _ | show @Eq (List PV) _ _ | show @Eq Bool _ _ | show opsW _ _ _ _ _ _ _ _ | show okAll _ | show @Eq Bool _ _ ∨ _); focus (simp only [hd, hlen, hRl, hBl, d1, d2, d3, SS, SS2, SS3, SS4, SS5, Option.map_some, Nat.reduceAdd, reduceIte, Nat.reduceEqDiff, Nat.reduceBEq, eq_self, implies_true, ne_eq, beq_self_eq_true, id_eq, reduceCtorEq]; (try go_unwrap; try simp only [hd, hlen, hRl, hBl, d1, d2, d3, RR, reduceCtorEq]))) | refine And.intro ?_ ?_ | exact Or.inr ⟨rfl, Nat.le_refl _⟩ | exact (fun h => Bool.noConfusion h))
          all_goals exact ⟨i + 1, (by rw [hst]; exact (by first | rfl | (simp only [trimE, trimM, List.take_succ_cons, List.take_zero, List.take_nil, List.map_cons, List.map_nil, Option.map_some, Option.map_none, MObj.kill, PV.kill, Nat.reduceLeDiff, decide_true, decide_false, dec_true, dec_false, Bool.false_eq_true, if_false, if_true, reduceIte, List.zip_cons_cons, List.zip_nil_left, Nat.le_refl, Nat.zero_le, Nat.not_le, Nat.lt_irrefl]; done) | (simp [trimE, trimM, MObj.kill, PV.kill]; done))), (by first | rfl | (simp only [trimE, trimM, List.take_succ_cons, List.take_zero, List.take_nil, List.map_cons, List.map_nil, Option.map_some, Option.map_none, MObj.kill, PV.kill, Nat.reduceLeDiff, decide_true, decide_false, dec_true, dec_false, Bool.false_eq_true, if_false, if_true, reduceIte, List.zip_cons_cons, List.zip_nil_left, Nat.le_refl, Nat.zero_le, Nat.not_le, Nat.lt_irrefl]; done) | (simp [trimE, trimM, MObj.kill, PV.kill]; done)), by omega, by omega⟩
        · rw [if_neg (by rintro ⟨-, h | h | ⟨h, -⟩⟩; exact hc (.inl h); exact hc (.inr h); exact h1 h)] at hst
          have d2 : decide ((B.length : Int) = 0) = false := by simpa using fun e => hc (.inl (eB.2 e))
          have d4 : decide ((R.length : Int) < B.length) = false := by simp only [decide_eq_false_iff_not]; intro h; exact hc (.inr (by omega))
          repeat' (first | exact True.intro | (refine PW.seqK ?_; intro K hK) | refine PW.block ?_ | refine PW.scope ?_ | refine PW.label ?_ | refine PW.exit ?_ | refine PW.ret ?_ | refine PW.skip ?_ | refine seqK_n (by assumption) ?_ | refine seqK_r (by assumption) ?_ | refine seqK_e (by assumption) ?_ | refine PW.regionA ?_ | exact schedW_stop_i | refine schK_n (by assumption) ?_ | (refine schedW_alt_k ?_ ?_; focus (intro K hK; simp only [hd, hlen, hRl, hBl, d1, d2, d3, d4, SS, SS2, SS3, SS4, SS5, Option.map_some, Nat.reduceAdd, reduceIte, Nat.reduceEqDiff, Nat.reduceBEq, eq_self, implies_true, ne_eq, beq_self_eq_true, id_eq, reduceCtorEq]; (try go_unwrap; try simp only [hd, hlen, hRl, hBl, d1, d2, d3, d4, RR, reduceCtorEq]))) | (refine PW.cond rfl ?_ ?_ <;> intro hcond <;> (try contradiction) <;> try simp only [decide_eq_true_eq, decide_eq_false_iff_not] at hcond) | (refine goCallG_skip rfl ?_; simp only [hd, hlen, hRl, hBl, d1, d2, d3, d4, SS, SS2, SS3, SS4, SS5, Option.map_some, Nat.reduceAdd, reduceIte, Nat.reduceEqDiff, Nat.reduceBEq, eq_self, implies_true, ne_eq, beq_self_eq_true, id_eq, reduceCtorEq]; (try go_unwrap; try simp only [hd, hlen, hRl, hBl, d1, d2, d3, d4, RR, reduceCtorEq])) | (refine gd_i ?_; intro hg; try simp only [hg]) | refine goCall_W e33 (h33) ?_ ?_ ?_ ?_ | ((first | show @LE.le Nat _ _ _ | show @LT.lt Nat _ _ _ | show @LE.le Int _ _ _ | show @LT.lt Int _ _ _ | show @Eq Nat _ _ | show @Eq Int _ _ | show @Eq Bool _ _ | show _ ∨ _ | show ¬ _); first | omega | (simp only [decide_eq_true_eq, decide_eq_false_iff_not, List.length_cons, List.length_nil, List.length_append, List.length_map, Sh.size] <;> omega) | (go_unwrap; omega)) | ((first | refine PW.region ?_ | refine PW.regionQ ?_ | refine schedW_done_i ?_ | show (_ : Post) _ _ _ | show @Eq (List PV) _ _ | show @Eq Bool _ _ | show opsW _ _ _ _ _ _ _ _ | show okAll _ | show @Eq Bool _ _ ∨ _); focus (simp only [hd, hlen, hRl, hBl, d1, d2, d3, d4, SS, SS2, SS3, SS4, SS5, Option.map_some, Nat.reduceAdd, reduceIte, Nat.reduceEqDiff, Nat.reduceBEq, eq_self, implies_true, ne_eq, beq_self_eq_true, id_eq, reduceCtorEq]; (try go_unwrap; try simp only [hd, hlen, hRl, hBl, d1, d2, d3, d4, RR, reduceCtorEq]))) | refine And.intro ?_ ?_ | exact Or.inr ⟨rfl, Nat.le_refl _⟩ | exact (fun h => Bool.noConfusion h))
          all_goals exact ⟨i + 1, (by rw [hst]; exact (by first | rfl | (simp only [trimE, trimM, List.take_succ_cons, List.take_zero, List.take_nil, List.map_cons, List.map_nil, Option.map_some, Option.map_none, MObj.kill, PV.kill, Nat.reduceLeDiff, decide_true, decide_false, dec_true, dec_false, Bool.false_eq_true, if_false, if_true, reduceIte, List.zip_cons_cons, List.zip_nil_left, Nat.le_refl, Nat.zero_le, Nat.not_le, Nat.lt_irrefl]; done) | (simp [trimE, trimM, MObj.kill, PV.kill]; done))), (by first | rfl | (simp only [trimE, trimM, List.take_succ_cons, List.take_zero, List.take_nil, List.map_cons, List.map_nil, Option.map_some, Option.map_none, MObj.kill, PV.kill, Nat.reduceLeDiff, decide_true, decide_false, dec_true, dec_false, Bool.false_eq_true, if_false, if_true, reduceIte, List.zip_cons_cons, List.zip_nil_left, Nat.le_refl, Nat.zero_le, Nat.not_le, Nat.lt_irrefl]; done) | (simp [trimE, trimM, MObj.kill, PV.kill]; done)), by omega, by omega⟩
      · have d1 : decide ((0 : Int) < R.length) = false := by simpa using fun e => hR (eR.2 e)
        rw [if_neg (fun h => hR h.1)] at hst
        repeat' (first | exact True.intro | (refine PW.seqK ?_; intro K hK) | refine PW.block ?_ | refine PW.scope ?_ | refine PW.label ?_ | refine PW.exit ?_ | refine PW.ret ?_ | refine PW.skip ?_ | refine seqK_n (by assumption) ?_ | refine seqK_r (by assumption) ?_ | refine seqK_e (by assumption) ?_ | refine PW.regionA ?_ | exact schedW_stop_i | refine schK_n (by assumption) ?_ | (refine schedW_alt_k ?_ ?_; focus (intro K hK; simp only [hd, hlen, hRl, hBl, d1, SS, SS2, SS3, SS4, SS5, Option.map_some, Nat.reduceAdd, reduceIte, Nat.reduceEqDiff, Nat.reduceBEq, eq_self, implies_true, ne_eq, beq_self_eq_true, id_eq, reduceCtorEq]; (try go_unwrap; try simp only [hd, hlen, hRl, hBl, d1, RR, reduceCtorEq]))) | (refine PW.cond rfl ?_ ?_ <;> intro hcond <;> (try contradiction) <;> try simp only [decide_eq_true_eq, decide_eq_false_iff_not] at hcond) | (refine goCallG_skip rfl ?_; simp only [hd, hlen, hRl, hBl, d1, SS, SS2, SS3, SS4, SS5, Option.map_some, Nat.reduceAdd, reduceIte, Nat.reduceEqDiff, Nat.reduceBEq, eq_self, implies_true, ne_eq, beq_self_eq_true, id_eq, reduceCtorEq]; (try go_unwrap; try simp only [hd, hlen, hRl, hBl, d1, RR, reduceCtorEq])) | (refine gd_i ?_; intro hg; try simp only [hg]) | refine goCall_W e33 (h33) ?_ ?_ ?_ ?_ | ((first | show @LE.le Nat _ _ _ | show @LT.lt Nat _ _ _ | show @LE.le Int _ _ _ | show @LT.lt Int _ _ _ | show @Eq Nat _ _ | show @Eq Int _ _ | show @Eq Bool _ _ | show _ ∨ _ | show ¬ _); first | omega | (simp only [decide_eq_true_eq, decide_eq_false_iff_not, List.length_cons, List.length_nil, List.length_append, List.length_map, Sh.size] <;> omega) | (go_unwrap; omega)) | ((first | refine PW.region ?_ | refine PW.regionQ ?_ | refine schedW_done_i ?_ | show (_ : Post) _ _ _ | show @Eq (List PV) _ _ | show @Eq Bool _ _ | show opsW _ _ _ _ _ _ _ _ | show okAll _ | show @Eq Bool _ _ ∨ _); focus (simp only [hd, hlen, hRl, hBl, d1, SS, SS2, SS3, SS4, SS5, Option.map_some, Nat.reduceAdd, reduceIte, Nat.reduceEqDiff, Nat.reduceBEq, eq_self, implies_true, ne_eq, beq_self_eq_true, id_eq, reduceCtorEq]; (try go_unwrap; try simp only [hd, hlen, hRl, hBl, d1, RR, reduceCtorEq]))) | refine And.intro ?_ ?_ | exact Or.inr ⟨rfl, Nat.le_refl _⟩ | exact (fun h => Bool.noConfusion h))
        all_goals exact ⟨i + 1, (by rw [hst]; exact (by first | rfl | (simp only [trimE, trimM, List.take_succ_cons, List.take_zero, List.take_nil, List.map_cons, List.map_nil, Option.map_some, Option.map_none, MObj.kill, PV.kill, Nat.reduceLeDiff, decide_true, decide_false, dec_true, dec_false, Bool.false_eq_true, if_false, if_true, reduceIte, List.zip_cons_cons, List.zip_nil_left, Nat.le_refl, Nat.zero_le, Nat.not_le, Nat.lt_irrefl]; done) | (simp [trimE, trimM, MObj.kill, PV.kill]; done))), (by first | rfl | (simp only [trimE, trimM, List.take_succ_cons, List.take_zero, List.take_nil, List.map_cons, List.map_nil, Option.map_some, Option.map_none, MObj.kill, PV.kill, Nat.reduceLeDiff, decide_true, decide_false, dec_true, dec_false, Bool.false_eq_true, if_false, if_true, reduceIte, List.zip_cons_cons, List.zip_nil_left, Nat.le_refl, Nat.zero_le, Nat.not_le, Nat.lt_irrefl]; done) | (simp [trimE, trimM, MObj.kill, PV.kill]; done)), by omega, by omega⟩
  · have hd : decide ((i : Int) < l.length) = false := by simp only [decide_eq_false_iff_not]; omega
    have hi' : i = l.length := by omega
    subst hi'
    have hB := bestE_end hw
    repeat' (first | exact True.intro | (refine PW.seqK ?_; intro K hK) | refine PW.block ?_ | refine PW.scope ?_ | refine PW.label ?_ | refine PW.exit ?_ | refine PW.ret ?_ | refine PW.skip ?_ | refine seqK_n (by assumption) ?_ | refine seqK_r (by assumption) ?_ | refine seqK_e (by assumption) ?_ | refine PW.regionA ?_ | exact schedW_stop_i | refine schK_n (by assumption) ?_ | (refine schedW_alt_k ?_ ?_; focus (intro K hK; simp only [hd, hlen, SS, SS2, SS3, SS4, SS5, Option.map_some, Nat.reduceAdd, reduceIte, Nat.reduceEqDiff, Nat.reduceBEq, eq_self, implies_true, ne_eq, beq_self_eq_true, id_eq, reduceCtorEq]; (try go_unwrap; try simp only [hd, hlen, RR, reduceCtorEq]))) | (refine PW.cond rfl ?_ ?_ <;> intro hcond <;> (try contradiction) <;> try simp only [decide_eq_true_eq, decide_eq_false_iff_not] at hcond) | (refine gd_i ?_; intro hg; try simp only [hg]) | ((first | show @LE.le Nat _ _ _ | show @LT.lt Nat _ _ _ | show @LE.le Int _ _ _ | show @LT.lt Int _ _ _ | show @Eq Nat _ _ | show @Eq Int _ _ | show @Eq Bool _ _ | show _ ∨ _ | show ¬ _); first | omega | (simp only [decide_eq_true_eq, decide_eq_false_iff_not, List.length_cons, List.length_nil, List.length_append, List.length_map, Sh.size] <;> omega) | (go_unwrap; omega)) | ((first | refine PW.region ?_ | refine PW.regionQ ?_ | refine schedW_done_i ?_ | show (_ : Post) _ _ _ | show @Eq (List PV) _ _ | show @Eq Bool _ _ | show opsW _ _ _ _ _ _ _ _ | show okAll _ | show @Eq Bool _ _ ∨ _); focus (simp only [hd, hlen, SS, SS2, SS3, SS4, SS5, Option.map_some, Nat.reduceAdd, reduceIte, Nat.reduceEqDiff, Nat.reduceBEq, eq_self, implies_true, ne_eq, beq_self_eq_true, id_eq, reduceCtorEq]; (try go_unwrap; try simp only [hd, hlen, RR, reduceCtorEq]))) | refine And.intro ?_ ?_ | exact Or.inr ⟨rfl, Nat.le_refl _⟩ | exact (fun h => Bool.noConfusion h))
    all_goals (rw [hB])
theorem v3 (l : List Ed) (hl : l.length ≤ 1048576) (hnl : ∀ e ∈ l, e.needs.length ≤ 9223372036854775807) : VCalls Try.prog G0 3 [edL l] (.bool true) := by
  refine VCalls.of_PW Try.func3 k3 mix (by simp [c3]) ?_
  simp only [c3, L3, argE]
  have h10 := v10
  have h11 : VCalls Try.prog G0 11 [edL l, .int .i64 24] (.bool (shortM l 24)) := v11 l 24 (by omega) (by omega)
  cases hs : shortM l 24 with
  | false =>
    rw [hs] at h11
    repeat' (first | exact True.intro | (refine PW.seqK ?_; intro K hK) | refine PW.block ?_ | refine PW.scope ?_ | refine PW.label ?_ | refine PW.exit ?_ | refine PW.ret ?_ | refine PW.skip ?_ | refine seqK_n (by assumption) ?_ | refine seqK_r (by assumption) ?_ | refine seqK_e (by assumption) ?_ | refine PW.regionA ?_ | exact schedW_stop_i | refine schK_n (by assumption) ?_ | (refine schedW_alt_k ?_ ?_; focus (intro K hK; simp only [SS, SS2, SS3, SS4, SS5, Option.map_some, Nat.reduceAdd, reduceIte, Nat.reduceEqDiff, Nat.reduceBEq, eq_self, implies_true, ne_eq, beq_self_eq_true, id_eq, reduceCtorEq]; (try go_unwrap; try simp only [RR, reduceCtorEq]))) | (refine PW.cond rfl ?_ ?_ <;> intro hcond <;> (try contradiction) <;> try simp only [decide_eq_true_eq, decide_eq_false_iff_not] at hcond) | (refine gd_i ?_; intro hg; try simp only [hg]) | refine goCall_W e10 (h10) ?_ ?_ ?_ ?_ | refine goCall_W e11 (h11) ?_ ?_ ?_ ?_ | ((first | show @LE.le Nat _ _ _ | show @LT.lt Nat _ _ _ | show @LE.le Int _ _ _ | show @LT.lt Int _ _ _ | show @Eq Nat _ _ | show @Eq Int _ _ | show @Eq Bool _ _ | show _ ∨ _ | show ¬ _); first | omega | (simp only [decide_eq_true_eq, decide_eq_false_iff_not, List.length_cons, List.length_nil, List.length_append, List.length_map, Sh.size] <;> omega) | (go_unwrap; omega)) | ((first | refine PW.region ?_ | refine PW.regionQ ?_ | refine schedW_done_i ?_ | show (_ : Post) _ _ _ | show @Eq (List PV) _ _ | show @Eq Bool _ _ | show opsW _ _ _ _ _ _ _ _ | show okAll _ | show @Eq Bool _ _ ∨ _); focus (simp only [SS, SS2, SS3, SS4, SS5, Option.map_some, Nat.reduceAdd, reduceIte, Nat.reduceEqDiff, Nat.reduceBEq, eq_self, implies_true, ne_eq, beq_self_eq_true, id_eq, reduceCtorEq]; (try go_unwrap; try simp only [RR, reduceCtorEq]))) | refine And.intro ?_ ?_ | exact Or.inr ⟨rfl, Nat.le_refl _⟩ | exact (fun h => Bool.noConfusion h))
  | true =>
  rw [hs] at h11
  have h15 := v15 l (by omega)
  have h13 := v13 l (by omega) hnl
  have h14 := v14 l (by omega) hnl
  have hRl : (ringM l).length ≤ 1048577 := by
    by_cases hw : wrongM l = 0
    · rw [← bestE_end hw]; have := bestE_len l l.length (Nat.le_refl _); omega
    · rw [(sorts_else hw).2.1]; simp
  have i1 := v12 (ringM l) (ringM l) (by omega)
  rw [decide_eq_true rfl] at i1
  generalize ringM l = B at h13 h14 i1
  repeat' (first | exact True.intro | (refine PW.seqK ?_; intro K hK) | refine PW.block ?_ | refine PW.scope ?_ | refine PW.label ?_ | refine PW.exit ?_ | refine PW.ret ?_ | refine PW.skip ?_ | refine seqK_n (by assumption) ?_ | refine seqK_r (by assumption) ?_ | refine seqK_e (by assumption) ?_ | refine PW.regionA ?_ | exact schedW_stop_i | refine schK_n (by assumption) ?_ | (refine schedW_alt_k ?_ ?_; focus (intro K hK; simp only [SS, SS2, SS3, SS4, SS5, Option.map_some, Nat.reduceAdd, reduceIte, Nat.reduceEqDiff, Nat.reduceBEq, eq_self, implies_true, ne_eq, beq_self_eq_true, id_eq, reduceCtorEq]; (try go_unwrap; try simp only [RR, reduceCtorEq]))) | (refine PW.cond rfl ?_ ?_ <;> intro hcond <;> (try contradiction) <;> try simp only [decide_eq_true_eq, decide_eq_false_iff_not] at hcond) | (refine gd_i ?_; intro hg; try simp only [hg]) | refine goCall_W e10 (h10) ?_ ?_ ?_ ?_ | refine goCall_W e11 (h11) ?_ ?_ ?_ ?_ | refine goCall_W e15 (h15) ?_ ?_ ?_ ?_ | refine goCall_W e13 (h13) ?_ ?_ ?_ ?_ | refine goCall_W e14 (h14) ?_ ?_ ?_ ?_ | refine goCall_W e12 (i1) ?_ ?_ ?_ ?_ | ((first | show @LE.le Nat _ _ _ | show @LT.lt Nat _ _ _ | show @LE.le Int _ _ _ | show @LT.lt Int _ _ _ | show @Eq Nat _ _ | show @Eq Int _ _ | show @Eq Bool _ _ | show _ ∨ _ | show ¬ _); first | omega | (simp only [decide_eq_true_eq, decide_eq_false_iff_not, List.length_cons, List.length_nil, List.length_append, List.length_map, Sh.size] <;> omega) | (go_unwrap; omega)) | ((first | refine PW.region ?_ | refine PW.regionQ ?_ | refine schedW_done_i ?_ | show (_ : Post) _ _ _ | show @Eq (List PV) _ _ | show @Eq Bool _ _ | show opsW _ _ _ _ _ _ _ _ | show okAll _ | show @Eq Bool _ _ ∨ _); focus (simp only [SS, SS2, SS3, SS4, SS5, Option.map_some, Nat.reduceAdd, reduceIte, Nat.reduceEqDiff, Nat.reduceBEq, eq_self, implies_true, ne_eq, beq_self_eq_true, id_eq, reduceCtorEq]; (try go_unwrap; try simp only [RR, reduceCtorEq]))) | refine And.intro ?_ ?_ | exact Or.inr ⟨rfl, Nat.le_refl _⟩ | exact (fun h => Bool.noConfusion h))
set_option maxRecDepth 100000 in
theorem ring_lifted (os : Os) (started : os.Started) (H : Type) (enc : TypeId × Value → H) (F : Stop.Interp) :
    ReturnsInHanded {} Try.checked os 3 .any ((Rows.OpenSpec.upto Rows.orderRingSpec).pre6 enc Try.prog Try.f3 Rows.orderRingUptoRow.domain false) (((Rows.OpenSpec.upto Rows.orderRingSpec).at F).post enc Try.prog Try.f3 false true false false) := by
  refine returnsInHanded_of_cond (C := Try.checked) (s := Rows.OpenSpec.upto Rows.orderRingSpec) (k := Rows.uptoSmall) rfl ownB started (by kernel_rfl) Try.func3
    (OpenSpec.witness (enc := enc) (C := Try.checked) (s := Rows.OpenSpec.upto Rows.orderRingSpec) (k := Rows.uptoSmall) rfl false ⟨#[], #[.slice none 0 0], []⟩ 8 (by kernel_rfl) (by kernel_rfl) (by kernel_rfl)
      (x := ([.nil], [], [])) (by kernel_rfl) rfl (by kernel_rfl)) ?_
  intro W base args ds gs before hval hW _ hk _
  refine law_of_Z (n := 8) szOk laidB (by kernel_rfl) rfl (fun ds hd => ?_) (tb := 4) (by kernel_rfl) (by kernel_rfl) (globsB W _) (fun ps hp => ?_) hval hW (small_of hk)
  · rw [Try.params3] at hd
    match ds, hd with
    | [d1], _ => rfl
  · rw [Try.params3] at hp
    obtain ⟨p1, rfl, k1⟩ := shBs1 hp
    obtain ⟨l, rfl, h1, h2⟩ := read_eds (n := 4) k1
    exact v3 l h1 (eds_ok h2)
theorem ring_holds : Rows.OrderRingUptoSaid :=
  OpenClaim.holds_of_cond 3 Try.f3 rfl rfl rfl rfl rfl rfl rfl ⟨rfl, rfl, rfl, rfl, rfl⟩ rfl rfl rfl rfl rfl (by kernel_rfl) Try.func3 (by kernel_rfl)
    (of_decide_eq_true (by kernel_rfl)) (by unfold Func.isWrapper; first | (rw [if_pos (by decide +kernel)]; kernel_rfl) | (rw [if_neg (by decide +kernel)]; exact ⟨rfl, rfl⟩))
    (fun os started H enc _ F => ring_lifted os started H enc F)
end Go.Proofs.Ytdiokmmjdpbdbaa
