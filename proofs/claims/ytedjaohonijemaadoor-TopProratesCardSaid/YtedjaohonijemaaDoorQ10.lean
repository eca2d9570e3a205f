import Derived.Test.YtedjaohonijemaaDoorProg
import Derived.KernelRfl
import Derived.Test.YtedjaohonijemaaDoorQ9
import Derived.Test.YtedjaohonijemaaDoorP4
namespace Go.Proofs.YtedjaohonijemaaDoor
open Go PG Go.Proofs
set_option linter.unusedSimpArgs false
set_option linter.unusedVariables false
set_option maxHeartbeats 4000000
set_option maxRecDepth 100000
variable {G : Globs}
/-! What is taken, and one span more -/
def takenL (a b : Int) : List Sp := if a = b then [] else [(a, b)]
theorem srt2 {b c : Int} (h : b ≤ c) : Srt [b, c] := by
  intro i hi
  match i, hi with
  | 0, _ => simpa using h
  | i + 1, hi => exact absurd (show i + 1 + 1 < 2 from hi) (by omega)
theorem srt4 {a b c : Int} (h : a ≤ b) (h' : b ≤ c) : Srt [a, b, b, c] := by
  intro i hi
  match i, hi with
  | 0, _ => simpa using h
  | 1, _ => simp
  | 2, _ => simpa using h'
  | i + 3, hi => exact absurd (show i + 3 + 1 < 4 from hi) (by omega)
theorem cmp2 {b c : Int} (h : b ≠ c) : Lib.compact [b, c] = [b, c] := by
  have h' : ¬ c = b := fun e => h e.symm
  simp [Lib.compact, Lib.compactUpTo, Lib.keeps, List.range_succ, h, h']
theorem cmp4 {a b c : Int} (h : a ≠ b) (k : b ≠ c) : Lib.compact [a, b, b, c] = [a, b, c] := by
  have h' : ¬ b = a := fun e => h e.symm
  have k' : ¬ c = b := fun e => k e.symm
  simp [Lib.compact, Lib.compactUpTo, Lib.keeps, List.range_succ, h, h', k, k']
theorem v28and (a b c : Int) (hab : a ≤ b) (hbc : b < c) : VCalls Tryd.prog G 28 [setP (takenL a b), setP [(b, c)], .fn 29 [] []] (setP []) := by
  unfold takenL
  split
  · rename_i e
    subst e
    refine v28 (G := G) [] [(a, c)] (by simp) (by simp) 29 e29 (fun x y => x && y) v29 [a, c] ?_ ?_ (by simp) (fun _ => []) rfl ?_
    · exact cmp2 (by omega)
    · exact srt2 (by omega)
    · intro i hi
      rw [if_neg]
      simp [hasM]
  · rename_i hne
    refine v28 (G := G) [(a, b)] [(b, c)] (by simp) (by simp) 29 e29 (fun x y => x && y) v29 [a, b, c] ?_ ?_ (by simp) (fun _ => []) rfl ?_
    · exact cmp4 hne (by omega)
    · exact srt4 hab (by omega)
    · intro i hi
      rw [if_neg]
      match i, hi with
      | 0, _ => simp [hasM]; omega
      | 1, _ => simp [hasM]; omega
      | i + 2, hi => exact absurd (show i + 2 + 1 < 3 from hi) (by omega)
theorem v28or (a b c : Int) (hab : a ≤ b) (hbc : b < c) : VCalls Tryd.prog G 28 [setP (takenL a b), setP [(b, c)], .fn 31 [] []] (setP [(a, c)]) := by
  unfold takenL
  split
  · rename_i e
    subst e
    refine v28 (G := G) [] [(a, c)] (by simp) (by simp) 31 e31 (fun x y => x || y) v31 [a, c] ?_ ?_ (by simp) (fun i => if i = 0 then [] else [(a, c)]) rfl ?_
    · exact cmp2 (by omega)
    · exact srt2 (by omega)
    · intro i hi
      match i, hi with
      | 0, _ =>
        rw [if_pos (by simp [hasM])]
        exact v27a (G := G) (a, c) hbc
      | i + 1, hi => exact absurd (show i + 1 + 1 < 2 from hi) (by omega)
  · rename_i hne
    refine v28 (G := G) [(a, b)] [(b, c)] (by simp) (by simp) 31 e31 (fun x y => x || y) v31 [a, b, c] ?_ ?_ (by simp) (fun i => if i = 0 then [] else if i = 1 then [(a, b)] else [(a, c)]) rfl ?_
    · exact cmp4 hne (by omega)
    · exact srt4 hab (by omega)
    · intro i hi
      match i, hi with
      | 0, _ =>
        rw [if_pos (by simp [hasM])]
        exact v27a (G := G) (a, b) (by simp only; omega)
      | 1, _ =>
        rw [if_pos (by simp [hasM])]
        have h := v27b (G := G) (a, b) (b, c) hbc (Int.le_refl _)
        rw [show max (a, b).2 (b, c).2 = c from by simp only; omega] at h
        exact h
      | i + 2, hi => exact absurd (show i + 2 + 1 < 3 from hi) (by omega)
theorem v11 (a b c : Int) (hab : a ≤ b) (hbc : b < c) : VCalls Tryd.prog G 11 [setP (takenL a b), setP [(b, c)]] (setP []) := by
  refine VCalls.of_PW Tryd.func11 k11 mix (by simp [c11]) ?_
  have h28 := v28and (G := G) a b c hab hbc
  simp only [c11, L11, CC, argE, setP, spL] at h28 ⊢
  repeat' (first | exact True.intro | (exact Or.inr ⟨rfl, by decide⟩) | (refine PW.seqK ?_; intro K hK) | refine stp ?_ | refine seqK_n ‹_› ?_ | refine seqK_r ‹_› ?_ | refine seqK_e ‹_› ?_ | exact schedW_stop_i | refine schK_n ‹_› ?_ | (refine PW.cond rfl ?_ ?_ <;> intro hcond <;> (try contradiction) <;> try simp only [DD] at hcond) | (refine gd_i ?_; intro hg; try simp only [hg]) | refine goCall_W e28 (h28) ?_ ?_ ?_ ?_ | (refine ari ?_; first | omega | (simp only [DD, LL] <;> omega) | (go_unwrap; omega)) | ((first | refine stq ?_ | show (_ : Post) _ _ _ | (refine schedW_alt_k ?_ ?_; intro K hK)); focus (simp only [cut, SA, Nat.reduceAdd, reduceIte, Nat.reduceEqDiff, Nat.reduceBEq, reduceCtorEq]; (try go_unwrap; try simp only [cut, RR, reduceCtorEq]))) | refine And.intro ?_ ?_ | exact Or.inr ⟨rfl, Nat.le_refl _⟩ | exact (fun h => Bool.noConfusion h))
theorem v15 (a b c : Int) (hab : a ≤ b) (hbc : b < c) : VCalls Tryd.prog G 15 [setP (takenL a b), setP [(b, c)]] (setP (takenL a c)) := by
  refine VCalls.of_PW Tryd.func15 k15 mix (by simp [c15]) ?_
  have h28 := v28or (G := G) a b c hab hbc
  rw [show takenL a c = [(a, c)] from if_neg (by omega)]
  simp only [c15, L15, CC, argE, setP, spL] at h28 ⊢
  repeat' (first | exact True.intro | (exact Or.inr ⟨rfl, by decide⟩) | (refine PW.seqK ?_; intro K hK) | refine stp ?_ | refine seqK_n ‹_› ?_ | refine seqK_r ‹_› ?_ | refine seqK_e ‹_› ?_ | exact schedW_stop_i | refine schK_n ‹_› ?_ | (refine PW.cond rfl ?_ ?_ <;> intro hcond <;> (try contradiction) <;> try simp only [DD] at hcond) | (refine gd_i ?_; intro hg; try simp only [hg]) | refine goCall_W e28 (h28) ?_ ?_ ?_ ?_ | (refine ari ?_; first | omega | (simp only [DD, LL] <;> omega) | (go_unwrap; omega)) | ((first | refine stq ?_ | show (_ : Post) _ _ _ | (refine schedW_alt_k ?_ ?_; intro K hK)); focus (simp only [cut, SA, Nat.reduceAdd, reduceIte, Nat.reduceEqDiff, Nat.reduceBEq, reduceCtorEq]; (try go_unwrap; try simp only [cut, RR, reduceCtorEq]))) | refine And.intro ?_ ?_ | exact Or.inr ⟨rfl, Nat.le_refl _⟩ | exact (fun h => Bool.noConfusion h))
end Go.Proofs.YtedjaohonijemaaDoor

namespace Go.Proofs.YtedjaohonijemaaDoor
open PG Go.Proofs
-- wagebook/civil.Of
def L36 : List Nat := [0, 1, 2, 3, 4, 5, 6, 19, 30, 44]
def c36 : CF := ⟨46,
 .seq (.region false [⟨some 1, none, .eff (.box (some 3)) [.tmp 0]⟩,
 ⟨some 2, none, .rd .mov [.pv (.int .i64 0)]⟩,
 ⟨some 3, none, .rd .mov [.pv (.int .i64 0)]⟩] L36)
 (.seq (.seq (.region true [oF 2 7 1,
 oL 8 7,
 ⟨some 9, none, .rd (.bin .lss) [.tmp 8, .pv (.int .i64 1)]⟩,
 oM 10 9,
 qF 2 10 false 11 1,
 qL 10 false 12 11,
 qF 0 10 false 13 1,
 qL 10 false 14 13,
 qF 1 10 false 15 1,
 qL 10 false 16 15,
 ⟨some 17, some (10, false), .call (.pv (.fn 38 [] [])) [.tmp 14, .tmp 16]⟩,
 ⟨some 18, some (10, false), .rd (.bin .gtr) [.tmp 12, .tmp 17]⟩,
 ⟨some 19, none, .rd .pick [.tmp 10, .pv (.bool true), .tmp 18]⟩] L36)
 (.cond (.tmp 19)
 (.seq (.region false [⟨some 2, none, .rd .mov [.pv (.int .i64 0)]⟩,
 ⟨some 3, none, .rd .mov [.pv (.int .i64 15)]⟩] L36)
 (.ret))
 (.skip)))
 (.seq (.region true [oF 0 20 1,
 oL 21 20,
 ⟨some 22, none, .call (.pv (.fn 53 [] [])) [.tmp 21]⟩,
 oF 2 23 1,
 oL 24 23,
 ⟨some 25, none, .rd (.bin .add) [.tmp 22, .tmp 24]⟩,
 ⟨some 26, none, .rd (.bin .sub) [.tmp 25, .pv (.int .i64 1)]⟩,
 oM 4 26] L36)
 (.seq (.seq (.region false [⟨some 5, none, .rd .mov [.pv (.int .i64 1)]⟩] L36)
 (.block 0
 (.loop
 (.seq (.seq (.region false [oM 27 5,
 oF 1 28 1,
 oL 29 28,
 ⟨some 30, none, .rd (.bin .lss) [.tmp 27, .tmp 29]⟩] L36)
 (.cond (.tmp 30)
 (.skip)
 (.exit 0)))
 (.seq (.block 1
 (.region false [oM 33 4,
 oF 0 34 1,
 oL 35 34,
 oM 36 5,
 ⟨some 37, none, .call (.pv (.fn 38 [] [])) [.tmp 35, .tmp 36]⟩,
 ⟨some 38, none, .rd (.bin .add) [.tmp 33, .tmp 37]⟩,
 oM 4 38] L36))
 (.region false [oM 31 5,
 ⟨some 32, none, .rd (.bin .add) [.tmp 31, .pv (.int .i64 1)]⟩,
 oM 5 32] L36))))))
 (.seq (.region false [oM 39 4,
 ⟨some 40, none, .rd (.bin .add) [.tmp 39, .pv (.int .i64 (-25567))]⟩,
 oM 6 40] L36)
 (.seq (.seq (.region true [oM 41 6,
 ⟨some 42, none, .call (.pv (.fn 37 [] [])) [.tmp 41]⟩,
 ⟨some 43, none, .rd (.load (some 3)) [.tmp 1]⟩,
 ⟨some 44, none, .rd (.eqA true [0, 0, 0]) [.tmp 42, .tmp 43]⟩] L36)
 (.cond (.tmp 44)
 (.seq (.region false [⟨some 2, none, .rd .mov [.pv (.int .i64 0)]⟩,
 ⟨some 3, none, .rd .mov [.pv (.int .i64 15)]⟩] L36)
 (.ret))
 (.skip)))
 (.seq (.region false [oM 45 6,
 oM 2 45,
 ⟨some 3, none, .rd .mov [.pv (.int .i64 0)]⟩] L36)
 (.ret))))))),
 [.tmp 2, .tmp 3]⟩

-- wagebook/civil.To
def L37 : List Nat := [0, 2, 3, 4, 5, 8, 19, 30]
def c37 : CF := ⟨43,
 .seq (.region false [⟨some 2, none, .eff (.alloc (some 3) (.agg [(.int .i64 0), (.int .i64 0), (.int .i64 0)])) []⟩] L37)
 (.seq (.seq (.region false [oM 6 0,
 ⟨some 7, none, .call (.pv (.fn 54 [] [])) [.tmp 6]⟩,
 ⟨some 8, none, .rd (.un .not) [.tmp 7]⟩] L37)
 (.cond (.tmp 8)
 (.seq (.region false [⟨some 9, none, .rd (.build [(.int .i64 0), (.int .i64 0), (.int .i64 0)] []) []⟩,
 ⟨none, none, .eff (.store (some 3)) [.tmp 2, .tmp 9]⟩] L37)
 (.ret))
 (.skip)))
 (.seq (.region false [oM 10 0,
 ⟨some 11, none, .rd (.bin .sub) [.tmp 10, .pv (.int .i64 (-25567))]⟩,
 oM 3 11] L37)
 (.seq (.region false [oM 12 3,
 ⟨some 13, none, .rd (.bin .quo) [.tmp 12, .pv (.int .i64 366)]⟩,
 ⟨some 14, none, .rd (.bin .add) [.pv (.int .i64 1900), .tmp 13]⟩,
 oM 4 14] L37)
 (.seq (.block 0
 (.loop
 (.seq (.seq (.region false [oM 15 4,
 ⟨some 16, none, .rd (.bin .add) [.tmp 15, .pv (.int .i64 1)]⟩,
 ⟨some 17, none, .call (.pv (.fn 53 [] [])) [.tmp 16]⟩,
 oM 18 3,
 ⟨some 19, none, .rd (.bin .leq) [.tmp 17, .tmp 18]⟩] L37)
 (.cond (.tmp 19)
 (.skip)
 (.exit 0)))
 (.block 1
 (.region false [oM 20 4,
 ⟨some 21, none, .rd (.bin .add) [.tmp 20, .pv (.int .i64 1)]⟩,
 oM 4 21] L37)))))
 (.seq (.region false [oM 22 3,
 oM 23 4,
 ⟨some 24, none, .call (.pv (.fn 53 [] [])) [.tmp 23]⟩,
 ⟨some 25, none, .rd (.bin .sub) [.tmp 22, .tmp 24]⟩,
 oM 3 25] L37)
 (.seq (.region false [⟨some 5, none, .rd .mov [.pv (.int .i64 1)]⟩] L37)
 (.seq (.block 2
 (.loop
 (.seq (.seq (.region false [oM 26 3,
 oM 27 4,
 oM 28 5,
 ⟨some 29, none, .call (.pv (.fn 38 [] [])) [.tmp 27, .tmp 28]⟩,
 ⟨some 30, none, .rd (.bin .geq) [.tmp 26, .tmp 29]⟩] L37)
 (.cond (.tmp 30)
 (.skip)
 (.exit 2)))
 (.block 3
 (.seq (.region false [oM 31 3,
 oM 32 4,
 oM 33 5,
 ⟨some 34, none, .call (.pv (.fn 38 [] [])) [.tmp 32, .tmp 33]⟩,
 ⟨some 35, none, .rd (.bin .sub) [.tmp 31, .tmp 34]⟩,
 oM 3 35] L37)
 (.region false [oM 36 5,
 ⟨some 37, none, .rd (.bin .add) [.tmp 36, .pv (.int .i64 1)]⟩,
 oM 5 37] L37))))))
 (.seq (.region false [oM 38 4,
 oM 39 5,
 oM 40 3,
 ⟨some 41, none, .rd (.bin .add) [.tmp 40, .pv (.int .i64 1)]⟩,
 ⟨some 42, none, .rd (.build [(.int .i64 0), (.int .i64 0), (.int .i64 0)] [(0, 1), (1, 1), (2, 1)]) [.tmp 38, .tmp 39, .tmp 41]⟩,
 ⟨none, none, .eff (.store (some 3)) [.tmp 2, .tmp 42]⟩] L37)
 (.ret))))))))),
 [.cell 2 (some 3)]⟩

-- wagebook/civil.MonthDays
def L38 : List Nat := [0, 1, 4, 5, 14]
def c38 : CF := ⟨25,
 .seq (.region false [⟨some 4, none, .rd .mov [.pv (.int .i64 0)]⟩] L38)
 (.seq (.block 0
 (.seq (.seq (.region false [oM 6 0,
 ⟨some 7, none, .rd (.bin .lss) [.tmp 6, .pv (.int .i64 1900)]⟩,
 oM 5 7] L38)
 (.cond (.tmp 5)
 (.skip)
 (.seq (.region false [oM 8 0,
 ⟨some 9, none, .rd (.bin .gtr) [.tmp 8, .pv (.int .i64 2199)]⟩,
 oM 5 9] L38)
 (.cond (.tmp 5)
 (.skip)
 (.seq (.region false [oM 10 1,
 ⟨some 11, none, .rd (.bin .lss) [.tmp 10, .pv (.int .i64 1)]⟩,
 oM 5 11] L38)
 (.cond (.tmp 5)
 (.skip)
 (.region false [oM 12 1,
 ⟨some 13, none, .rd (.bin .gtr) [.tmp 12, .pv (.int .i64 12)]⟩,
 oM 5 13] L38)))))))
 (.cond (.tmp 5)
 (.seq (.region false [⟨some 4, none, .rd .mov [.pv (.int .i64 0)]⟩] L38)
 (.ret))
 (.seq (.region false [oM 15 1,
 ⟨some 16, none, .rd (.bin .eql) [.tmp 15, .pv (.int .i64 2)]⟩,
 oM 17 16,
 qM 17 true 18 0,
 ⟨some 19, some (17, true), .call (.pv (.fn 55 [] [])) [.tmp 18]⟩,
 ⟨some 20, none, .rd .pick [.tmp 17, .tmp 19, .pv (.bool false)]⟩,
 oM 14 20] L38)
 (.cond (.tmp 14)
 (.seq (.region false [⟨some 4, none, .rd .mov [.pv (.int .i64 29)]⟩] L38)
 (.ret))
 (.skip))))))
 (.seq (.region false [oM 21 1,
 ⟨some 22, none, .rd (.bin .sub) [.tmp 21, .pv (.int .i64 1)]⟩,
 ⟨some 23, none, .rd (.idxAddrA 12 none) [.glob 1, .tmp 22]⟩,
 oL 24 23,
 oM 4 24] L38)
 (.ret))),
 [.tmp 4]⟩

-- wagebook/civil.start
def L53 : List Nat := [0, 2, 3]
def c53 : CF := ⟨19,
 .seq (.region false [⟨some 2, none, .rd .mov [.pv (.int .i64 0)]⟩] L53)
 (.seq (.region false [oM 4 0,
 ⟨some 5, none, .rd (.bin .sub) [.tmp 4, .pv (.int .i64 1)]⟩,
 oM 3 5] L53)
 (.seq (.region false [oM 6 0,
 ⟨some 7, none, .rd (.bin .sub) [.tmp 6, .pv (.int .i64 1900)]⟩,
 ⟨some 8, none, .rd (.bin .mul) [.pv (.int .i64 365), .tmp 7]⟩,
 oM 9 3,
 ⟨some 10, none, .rd (.bin .quo) [.tmp 9, .pv (.int .i64 4)]⟩,
 ⟨some 11, none, .rd (.bin .add) [.tmp 8, .tmp 10]⟩,
 oM 12 3,
 ⟨some 13, none, .rd (.bin .quo) [.tmp 12, .pv (.int .i64 100)]⟩,
 ⟨some 14, none, .rd (.bin .sub) [.tmp 11, .tmp 13]⟩,
 oM 15 3,
 ⟨some 16, none, .rd (.bin .quo) [.tmp 15, .pv (.int .i64 400)]⟩,
 ⟨some 17, none, .rd (.bin .add) [.tmp 14, .tmp 16]⟩,
 ⟨some 18, none, .rd (.bin .sub) [.tmp 17, .pv (.int .i64 460)]⟩,
 oM 2 18] L53)
 (.ret))),
 [.tmp 2]⟩

-- wagebook/civil.in
def L54 : List Nat := [0, 2]
def c54 : CF := ⟨9,
 .seq (.region false [⟨some 2, none, .rd .mov [.pv (.bool false)]⟩] L54)
 (.seq (.region false [oM 3 0,
 ⟨some 4, none, .rd (.bin .geq) [.tmp 3, .pv (.int .i64 (-25567))]⟩,
 oM 5 4,
 qM 5 true 6 0,
 ⟨some 7, some (5, true), .rd (.bin .lss) [.tmp 6, .pv (.int .i64 84006)]⟩,
 ⟨some 8, none, .rd .pick [.tmp 5, .tmp 7, .pv (.bool false)]⟩,
 oM 2 8] L54)
 (.ret)),
 [.tmp 2]⟩

-- wagebook/civil.leap
def L55 : List Nat := [0, 2]
def c55 : CF := ⟨16,
 .seq (.region false [⟨some 2, none, .rd .mov [.pv (.bool false)]⟩] L55)
 (.seq (.region false [oM 3 0,
 ⟨some 4, none, .rd (.bin .rem) [.tmp 3, .pv (.int .i64 4)]⟩,
 ⟨some 5, none, .rd (.bin .eql) [.tmp 4, .pv (.int .i64 0)]⟩,
 oM 6 5,
 qM 6 true 7 0,
 ⟨some 8, some (6, true), .rd (.bin .rem) [.tmp 7, .pv (.int .i64 100)]⟩,
 ⟨some 9, some (6, true), .rd (.bin .neq) [.tmp 8, .pv (.int .i64 0)]⟩,
 qM 6 true 10 9,
 qM 10 false 11 0,
 ⟨some 12, some (10, false), .rd (.bin .rem) [.tmp 11, .pv (.int .i64 400)]⟩,
 ⟨some 13, some (10, false), .rd (.bin .eql) [.tmp 12, .pv (.int .i64 0)]⟩,
 ⟨some 14, some (6, true), .rd .pick [.tmp 10, .pv (.bool true), .tmp 13]⟩,
 ⟨some 15, none, .rd .pick [.tmp 6, .tmp 14, .pv (.bool false)]⟩,
 oM 2 15] L55)
 (.ret)),
 [.tmp 2]⟩

-- (wagebook/period.Calendar).Check
def L7 : List Nat := [0, 1, 2, 3, 12, 17]
def c7 : CF := ⟨26,
 .seq (.region false [⟨some 1, none, .eff (.box (some 3)) [.tmp 0]⟩,
 ⟨some 2, none, .rd .mov [.pv (.int .i64 0)]⟩] L7)
 (.seq (.block 0
 (.seq (.region false [oF 0 4 1,
 oL 5 4,
 ⟨some 6, none, .rd (.bin .lss) [.tmp 5, .pv (.int .i64 0)]⟩,
 oM 7 6,
 qF 0 7 false 8 1,
 qL 7 false 9 8,
 ⟨some 10, some (7, false), .rd (.bin .geq) [.tmp 9, .pv (.int .i64 3)]⟩,
 ⟨some 11, none, .rd .pick [.tmp 7, .pv (.bool true), .tmp 10]⟩,
 oM 3 11] L7)
 (.cond (.tmp 3)
 (.seq (.region false [⟨some 2, none, .rd .mov [.pv (.int .i64 11)]⟩] L7)
 (.ret))
 (.seq (.region false [oF 1 13 1,
 oL 14 13,
 ⟨some 15, none, .call (.pv (.fn 19 [] [])) [.tmp 14]⟩,
 ⟨some 16, none, .rd (.un .not) [.tmp 15]⟩,
 oM 12 16] L7)
 (.cond (.tmp 12)
 (.seq (.region false [⟨some 2, none, .rd .mov [.pv (.int .i64 15)]⟩] L7)
 (.ret))
 (.seq (.region false [oF 2 18 1,
 oL 19 18,
 ⟨some 20, none, .rd (.bin .lss) [.tmp 19, .pv (.int .i64 0)]⟩,
 oM 21 20,
 qF 2 21 false 22 1,
 qL 21 false 23 22,
 ⟨some 24, some (21, false), .rd (.bin .gtr) [.tmp 23, .pv (.int .i64 60)]⟩,
 ⟨some 25, none, .rd .pick [.tmp 21, .pv (.bool true), .tmp 24]⟩,
 oM 17 25] L7)
 (.cond (.tmp 17)
 (.seq (.region false [⟨some 2, none, .rd .mov [.pv (.int .i64 2)]⟩] L7)
 (.ret))
 (.skip))))))))
 (.seq (.region false [⟨some 2, none, .rd .mov [.pv (.int .i64 0)]⟩] L7)
 (.ret))),
 [.tmp 2]⟩

-- (wagebook/period.Calendar).spans
def L8 : List Nat := [0, 1, 2, 4, 5, 6, 7, 8, 16, 27]
def c8 : CF := ⟨35,
 .seq (.region false [⟨some 2, none, .eff (.box (some 3)) [.tmp 0]⟩,
 ⟨some 4, none, .rd .mov [.pv .nilSl]⟩] L8)
 (.seq (.region false [⟨some 5, none, .rd .mov [.pv .nilSl]⟩] L8)
 (.seq (.region false [oM 9 1,
 ⟨some 10, none, .rd (.bin .add) [.tmp 9, .pv (.int .i64 1)]⟩,
 ⟨some 11, none, .call (.pv (.fn 20 [] [])) [.tmp 10]⟩,
 oM 6 11] L8)
 (.seq (.seq (.region false [oM 12 1,
 ⟨some 13, none, .call (.pv (.fn 20 [] [])) [.tmp 12]⟩,
 oM 7 13] L8)
 (.block 0
 (.loop
 (.seq (.seq (.region false [oM 14 7,
 oM 15 6,
 ⟨some 16, none, .rd (.bin .lss) [.tmp 14, .tmp 15]⟩] L8)
 (.cond (.tmp 16)
 (.skip)
 (.exit 0)))
 (.block 1
 (.seq (.region false [⟨some 17, none, .rd (.load (some 3)) [.tmp 2]⟩,
 oM 18 7,
 ⟨some 19, none, .call (.pv (.fn 21 [] [])) [.tmp 17, .tmp 18]⟩,
 ⟨some 8, none, .eff (.alloc (some 2) (.agg [(.int .i64 0), (.int .i64 0)])) []⟩,
 ⟨none, none, .eff (.store (some 2)) [.tmp 8, .tmp 19]⟩] L8)
 (.seq (.seq (.region false [⟨some 20, none, .rd (.load (some 2)) [.tmp 8]⟩,
 ⟨some 21, none, .call (.pv (.fn 22 [] [])) [.tmp 20]⟩,
 oM 22 21,
 qF 1 22 true 23 8,
 qL 22 true 24 23,
 qM 22 true 25 6,
 ⟨some 26, some (22, true), .rd (.bin .leq) [.tmp 24, .tmp 25]⟩,
 ⟨some 27, none, .rd .pick [.tmp 22, .tmp 26, .pv (.bool false)]⟩] L8)
 (.cond (.tmp 27)
 (.region false [oM 28 5,
 ⟨some 29, none, .rd (.load (some 2)) [.tmp 8]⟩,
 ⟨some 30, none, .eff (.lit (some 2) false) [.tmp 29]⟩,
 ⟨some 31, none, .eff (.append (some 2) 16) [.tmp 28, .tmp 30]⟩,
 oM 5 31] L8)
 (.skip)))
 (.region false [oF 1 32 8,
 oL 33 32,
 oM 7 33] L8))))))))
 (.seq (.region false [oM 34 5,
 oM 4 34] L8)
 (.ret))))),
 [.tmp 4]⟩

-- (wagebook/period.Calendar).period
def L9 : List Nat := [0, 1, 2, 3, 4, 5, 9, 10]
def c9 : CF := ⟨24,
 .seq (.region false [⟨some 5, none, .eff (.box (some 3)) [.tmp 0]⟩,
 ⟨some 9, none, .eff (.box (some 2)) [.tmp 4]⟩,
 ⟨some 10, none, .eff (.alloc (some 6) (.agg [(.int .i64 0), (.int .i64 0), (.int .i64 0), (.int .i64 0), (.int .i64 0), (.int .i64 0)])) []⟩] L9)
 (.seq (.region false [oM 11 1,
 oM 12 2,
 ⟨some 13, none, .rd (.bin .add) [.tmp 12, .pv (.int .i64 1)]⟩,
 oM 14 3,
 ⟨some 15, none, .rd (.load (some 2)) [.tmp 9]⟩,
 oF 1 16 9,
 oL 17 16,
 ⟨some 18, none, .rd (.bin .sub) [.tmp 17, .pv (.int .i64 1)]⟩,
 oF 2 19 5,
 oL 20 19,
 ⟨some 21, none, .rd (.bin .add) [.tmp 18, .tmp 20]⟩,
 ⟨some 22, none, .rd .min [.tmp 21, .pv (.int .i64 84005)]⟩,
 ⟨some 23, none, .rd (.build [(.int .i64 0), (.int .i64 0), (.int .i64 0), (.int .i64 0), (.int .i64 0), (.int .i64 0)] [(0, 1), (1, 1), (2, 1), (3, 2), (5, 1)]) [.tmp 11, .tmp 13, .tmp 14, .tmp 15, .tmp 22]⟩,
 ⟨none, none, .eff (.store (some 6)) [.tmp 10, .tmp 23]⟩] L9)
 (.ret)),
 [.cell 10 (some 6)]⟩

-- wagebook/period.first
def L20 : List Nat := [0, 2, 3, 12]
def c20 : CF := ⟨14,
 .seq (.region false [⟨some 2, none, .rd .mov [.pv (.int .i64 0)]⟩] L20)
 (.seq (.region false [oM 6 0,
 ⟨some 7, none, .rd (.build [(.int .i64 0), (.int .i64 0), (.int .i64 0)] [(0, 1), (1, 1), (2, 1)]) [.tmp 6, .pv (.int .i64 1), .pv (.int .i64 1)]⟩,
 ⟨some 8, none, .call (.pv (.fn 36 [] [])) [.tmp 7]⟩,
 oM 5 8,
 ⟨some 9, none, .rd (.ext 0) [.tmp 5]⟩,
 ⟨some 10, none, .rd (.ext 1) [.tmp 5]⟩,
 oM 3 9,
 oM 4 10] L20)
 (.seq (.seq (.region false [oM 11 0,
 ⟨some 12, none, .rd (.bin .gtr) [.tmp 11, .pv (.int .i64 2199)]⟩] L20)
 (.cond (.tmp 12)
 (.seq (.region false [⟨some 2, none, .rd .mov [.pv (.int .i64 84006)]⟩] L20)
 (.ret))
 (.skip)))
 (.seq (.region false [oM 13 3,
 oM 2 13] L20)
 (.ret)))),
 [.tmp 2]⟩

-- (wagebook/period.Calendar).span
def L21 : List Nat := [0, 1, 2, 4, 5, 6, 7, 8, 11, 39]
def c21 : CF := ⟨52,
 .seq (.region false [⟨some 2, none, .eff (.box (some 3)) [.tmp 0]⟩,
 ⟨some 4, none, .eff (.alloc (some 2) (.agg [(.int .i64 0), (.int .i64 0)])) []⟩] L21)
 (.seq (.seq (.region false [oF 0 9 2,
 oL 10 9,
 ⟨some 11, none, .rd (.bin .eql) [.tmp 10, .pv (.int .i64 0)]⟩] L21)
 (.cond (.tmp 11)
 (.seq (.region false [oM 12 1,
 ⟨some 13, none, .call (.pv (.fn 37 [] [])) [.tmp 12]⟩,
 ⟨some 5, none, .eff (.alloc (some 3) (.agg [(.int .i64 0), (.int .i64 0), (.int .i64 0)])) []⟩,
 ⟨none, none, .eff (.store (some 3)) [.tmp 5, .tmp 13]⟩] L21)
 (.seq (.region false [oM 14 1,
 oF 2 15 5,
 oL 16 15,
 ⟨some 17, none, .rd (.bin .sub) [.tmp 16, .pv (.int .i64 1)]⟩,
 ⟨some 18, none, .rd (.bin .sub) [.tmp 14, .tmp 17]⟩,
 oM 6 18] L21)
 (.seq (.region false [oM 19 6,
 oM 20 6,
 oF 0 21 5,
 oL 22 21,
 oF 1 23 5,
 oL 24 23,
 ⟨some 25, none, .call (.pv (.fn 38 [] [])) [.tmp 22, .tmp 24]⟩,
 ⟨some 26, none, .rd (.bin .add) [.tmp 20, .tmp 25]⟩,
 ⟨some 27, none, .rd (.build [(.int .i64 0), (.int .i64 0)] [(0, 1), (1, 1)]) [.tmp 19, .tmp 26]⟩,
 ⟨none, none, .eff (.store (some 2)) [.tmp 4, .tmp 27]⟩] L21)
 (.ret))))
 (.skip)))
 (.seq (.region false [oF 0 28 2,
 oL 29 28,
 ⟨some 30, none, .rd (.idxAddrA 3 none) [.glob 0, .tmp 29]⟩,
 oL 31 30,
 oM 7 31] L21)
 (.seq (.region false [oM 32 1,
 oF 1 33 2,
 oL 34 33,
 ⟨some 35, none, .rd (.bin .sub) [.tmp 32, .tmp 34]⟩,
 oM 36 7,
 ⟨some 37, none, .rd (.bin .rem) [.tmp 35, .tmp 36]⟩,
 oM 8 37] L21)
 (.seq (.seq (.region false [oM 38 8,
 ⟨some 39, none, .rd (.bin .lss) [.tmp 38, .pv (.int .i64 0)]⟩] L21)
 (.cond (.tmp 39)
 (.region false [oM 40 8,
 oM 41 7,
 ⟨some 42, none, .rd (.bin .add) [.tmp 40, .tmp 41]⟩,
 oM 8 42] L21)
 (.skip)))
 (.seq (.region false [oM 43 1,
 oM 44 8,
 ⟨some 45, none, .rd (.bin .sub) [.tmp 43, .tmp 44]⟩,
 oM 46 1,
 oM 47 8,
 ⟨some 48, none, .rd (.bin .sub) [.tmp 46, .tmp 47]⟩,
 oM 49 7,
 ⟨some 50, none, .rd (.bin .add) [.tmp 48, .tmp 49]⟩,
 ⟨some 51, none, .rd (.build [(.int .i64 0), (.int .i64 0)] [(0, 1), (1, 1)]) [.tmp 45, .tmp 50]⟩,
 ⟨none, none, .eff (.store (some 2)) [.tmp 4, .tmp 51]⟩] L21)
 (.ret)))))),
 [.cell 4 (some 2)]⟩

-- (wagebook/period.Calendar).Year
def L4 : List Nat := [0, 1, 2, 4, 5, 6, 7, 8, 9, 10, 14, 21, 25, 26, 27, 28]
def c4 : CF := ⟨44,
 .seq (.region false [⟨some 2, none, .eff (.box (some 3)) [.tmp 0]⟩,
 ⟨some 4, none, .rd .mov [.pv .nilSl]⟩,
 ⟨some 5, none, .rd .mov [.pv (.int .i64 0)]⟩] L4)
 (.seq (.seq (.region false [⟨some 11, none, .rd (.load (some 3)) [.tmp 2]⟩,
 ⟨some 12, none, .call (.pv (.fn 7 [] [])) [.tmp 11]⟩,
 oM 6 12] L4)
 (.seq (.region false [oM 13 6,
 ⟨some 14, none, .rd (.bin .neq) [.tmp 13, .pv (.int .i64 0)]⟩] L4)
 (.cond (.tmp 14)
 (.seq (.region false [oM 15 6,
 ⟨some 4, none, .rd .mov [.pv .nilSl]⟩,
 oM 5 15] L4)
 (.ret))
 (.skip))))
 (.seq (.seq (.region false [oM 16 1,
 ⟨some 17, none, .rd (.bin .lss) [.tmp 16, .pv (.int .i64 1900)]⟩,
 oM 18 17,
 qM 18 false 19 1,
 ⟨some 20, some (18, false), .rd (.bin .gtr) [.tmp 19, .pv (.int .i64 2199)]⟩,
 ⟨some 21, none, .rd .pick [.tmp 18, .pv (.bool true), .tmp 20]⟩] L4)
 (.cond (.tmp 21)
 (.seq (.region false [⟨some 4, none, .rd .mov [.pv .nilSl]⟩,
 ⟨some 5, none, .rd .mov [.pv (.int .i64 2)]⟩] L4)
 (.ret))
 (.skip)))
 (.seq (.region false [⟨some 7, none, .rd .mov [.pv .nilSl]⟩] L4)
 (.seq (.region false [⟨some 22, none, .rd (.load (some 3)) [.tmp 2]⟩,
 oM 23 1,
 ⟨some 24, none, .call (.pv (.fn 8 [] [])) [.tmp 22, .tmp 23]⟩,
 oM 8 24] L4)
 (.seq (.seq (.region false [oM 25 8,
 ⟨some 26, none, .rd .lenL [.tmp 25]⟩,
 ⟨some 27, none, .rd .mov [.pv (.int .i64 0)]⟩] L4)
 (.block 0
 (.loop
 (.seq (.region false [⟨some 28, none, .rd (.bin .lss) [.tmp 27, .tmp 26]⟩] L4)
 (.seq (.cond (.tmp 28)
 (.skip)
 (.exit 0))
 (.seq (.block 1
 (.seq (.region false [oM 29 27,
 ⟨some 30, none, .rd (.idxAddr (some 2)) [.tmp 25, .tmp 27]⟩,
 ⟨some 31, none, .rd (.load (some 2)) [.tmp 30]⟩,
 ⟨some 10, none, .eff (.alloc (some 2) (.agg [(.int .i64 0), (.int .i64 0)])) []⟩,
 oM 9 29,
 ⟨none, none, .eff (.store (some 2)) [.tmp 10, .tmp 31]⟩] L4)
 (.region false [oM 32 7,
 ⟨some 33, none, .rd (.load (some 3)) [.tmp 2]⟩,
 oM 34 1,
 oM 35 9,
 oM 36 8,
 ⟨some 37, none, .rd .lenL [.tmp 36]⟩,
 ⟨some 38, none, .rd (.load (some 2)) [.tmp 10]⟩,
 ⟨some 39, none, .call (.pv (.fn 9 [] [])) [.tmp 33, .tmp 34, .tmp 35, .tmp 37, .tmp 38]⟩,
 ⟨some 40, none, .eff (.lit (some 6) false) [.tmp 39]⟩,
 ⟨some 41, none, .eff (.append (some 6) 48) [.tmp 32, .tmp 40]⟩,
 oM 7 41] L4)))
 (.region false [⟨some 42, none, .rd (.bin .add) [.tmp 27, .pv (.int .i64 1)]⟩,
 oM 27 42] L4)))))))
 (.seq (.region false [oM 43 7,
 oM 4 43,
 ⟨some 5, none, .rd .mov [.pv (.int .i64 0)]⟩] L4)
 (.ret))))))),
 [.tmp 4, .tmp 5]⟩

-- wagebook/prorate.Salary
def L5 : List Nat := [0, 1, 2, 4, 5, 6, 7, 9, 10, 11, 12, 13, 14, 17, 18, 19, 20, 21, 33, 52, 68, 77]
def c5 : CF := ⟨81,
 .seq (.region false [⟨some 2, none, .eff (.box (some 6)) [.tmp 0]⟩,
 ⟨some 4, none, .rd .mov [.pv (.int .i64 0)]⟩,
 ⟨some 5, none, .rd .mov [.pv (.int .i64 0)]⟩] L5)
 (.seq (.seq (.region false [oM 15 1,
 ⟨some 16, none, .rd .lenL [.tmp 15]⟩,
 ⟨some 17, none, .rd (.bin .gtr) [.tmp 16, .pv (.int .i64 64)]⟩] L5)
 (.cond (.tmp 17)
 (.seq (.region false [⟨some 4, none, .rd .mov [.pv (.int .i64 0)]⟩,
 ⟨some 5, none, .rd .mov [.pv (.int .i64 5)]⟩] L5)
 (.ret))
 (.skip)))
 (.seq (.region false [⟨some 6, none, .rd .mov [.pv (.int .i64 0)]⟩] L5)
 (.seq (.region false [⟨some 7, none, .eff (.alloc (some 1) (.agg [.nilSl])) []⟩] L5)
 (.seq (.seq (.region false [oM 18 1,
 ⟨some 19, none, .rd .lenL [.tmp 18]⟩,
 ⟨some 20, none, .rd .mov [.pv (.int .i64 0)]⟩] L5)
 (.block 0
 (.loop
 (.seq (.region false [⟨some 21, none, .rd (.bin .lss) [.tmp 20, .tmp 19]⟩] L5)
 (.seq (.cond (.tmp 21)
 (.skip)
 (.exit 0))
 (.seq (.block 1
 (.seq (.region false [⟨some 22, none, .rd (.idxAddr (some 4)) [.tmp 18, .tmp 20]⟩,
 ⟨some 23, none, .rd (.load (some 4)) [.tmp 22]⟩,
 ⟨some 9, none, .eff (.alloc (some 4) (.agg [(.int .i64 0), (.int .i64 0), (.int .i64 0), (.int .i64 0)])) []⟩,
 ⟨none, none, .eff (.store (some 4)) [.tmp 9, .tmp 23]⟩] L5)
 (.seq (.regionA (.alt [oF 0 24 9]
 (.alt [⟨some 25, none, .rd (.load (some 2)) [.tmp 24]⟩]
 (.alt [⟨some 26, none, .eff (.lit (some 2) false) [.tmp 25]⟩]
 (.alt [⟨some 27, none, .call (.pv (.fn 10 [] [])) [.tmp 26]⟩]
 (.alt [⟨some 28, none, .rd (.load (some 1)) [.tmp 7]⟩,
 ⟨some 29, none, .rd (.mkFn 11 1) [.tmp 28]⟩,
 ⟨some 10, none, .eff (.alloc (some 1) (.agg [.nilSl])) []⟩,
 ⟨none, none, .eff (.store (some 1)) [.tmp 10, .tmp 27]⟩,
 oM 11 29]
 .done
 (.alt [⟨some 10, none, .eff (.alloc (some 1) (.agg [.nilSl])) []⟩]
 (.alt [⟨some 28, none, .rd (.load (some 1)) [.tmp 7]⟩,
 ⟨some 29, none, .rd (.mkFn 11 1) [.tmp 28]⟩,
 ⟨none, none, .eff (.store (some 1)) [.tmp 10, .tmp 27]⟩,
 oM 11 29]
 .done
 (.alt [⟨none, none, .eff (.store (some 1)) [.tmp 10, .tmp 27]⟩,
 ⟨some 28, none, .rd (.load (some 1)) [.tmp 7]⟩,
 ⟨some 29, none, .rd (.mkFn 11 1) [.tmp 28]⟩,
 oM 11 29]
 .done
 .stop))
 .stop))
 (.alt [⟨some 28, none, .rd (.load (some 1)) [.tmp 7]⟩,
 ⟨some 29, none, .rd (.mkFn 11 1) [.tmp 28]⟩]
 (.alt [⟨some 27, none, .call (.pv (.fn 10 [] [])) [.tmp 26]⟩,
 ⟨some 10, none, .eff (.alloc (some 1) (.agg [.nilSl])) []⟩,
 ⟨none, none, .eff (.store (some 1)) [.tmp 10, .tmp 27]⟩,
 oM 11 29]
 .done
 (.alt [⟨some 10, none, .eff (.alloc (some 1) (.agg [.nilSl])) []⟩,
 ⟨some 27, none, .call (.pv (.fn 10 [] [])) [.tmp 26]⟩,
 ⟨none, none, .eff (.store (some 1)) [.tmp 10, .tmp 27]⟩,
 oM 11 29]
 .done
 .stop))
 (.alt [⟨some 10, none, .eff (.alloc (some 1) (.agg [.nilSl])) []⟩]
 (.alt [⟨some 27, none, .call (.pv (.fn 10 [] [])) [.tmp 26]⟩]
 (.alt [⟨some 28, none, .rd (.load (some 1)) [.tmp 7]⟩,
 ⟨some 29, none, .rd (.mkFn 11 1) [.tmp 28]⟩,
 ⟨none, none, .eff (.store (some 1)) [.tmp 10, .tmp 27]⟩,
 oM 11 29]
 .done
 (.alt [⟨none, none, .eff (.store (some 1)) [.tmp 10, .tmp 27]⟩,
 ⟨some 28, none, .rd (.load (some 1)) [.tmp 7]⟩,
 ⟨some 29, none, .rd (.mkFn 11 1) [.tmp 28]⟩,
 oM 11 29]
 .done
 .stop))
 (.alt [⟨some 28, none, .rd (.load (some 1)) [.tmp 7]⟩,
 ⟨some 29, none, .rd (.mkFn 11 1) [.tmp 28]⟩,
 ⟨some 27, none, .call (.pv (.fn 10 [] [])) [.tmp 26]⟩,
 ⟨none, none, .eff (.store (some 1)) [.tmp 10, .tmp 27]⟩,
 oM 11 29]
 .done
 .stop))
 .stop)))
 (.alt [⟨some 28, none, .rd (.load (some 1)) [.tmp 7]⟩,
 ⟨some 29, none, .rd (.mkFn 11 1) [.tmp 28]⟩]
 (.alt [⟨some 26, none, .eff (.lit (some 2) false) [.tmp 25]⟩]
 (.alt [⟨some 27, none, .call (.pv (.fn 10 [] [])) [.tmp 26]⟩,
 ⟨some 10, none, .eff (.alloc (some 1) (.agg [.nilSl])) []⟩,
 ⟨none, none, .eff (.store (some 1)) [.tmp 10, .tmp 27]⟩,
 oM 11 29]
 .done
 (.alt [⟨some 10, none, .eff (.alloc (some 1) (.agg [.nilSl])) []⟩,
 ⟨some 27, none, .call (.pv (.fn 10 [] [])) [.tmp 26]⟩,
 ⟨none, none, .eff (.store (some 1)) [.tmp 10, .tmp 27]⟩,
 oM 11 29]
 .done
 .stop))
 (.alt [⟨some 10, none, .eff (.alloc (some 1) (.agg [.nilSl])) []⟩,
 ⟨some 26, none, .eff (.lit (some 2) false) [.tmp 25]⟩,
 ⟨some 27, none, .call (.pv (.fn 10 [] [])) [.tmp 26]⟩,
 ⟨none, none, .eff (.store (some 1)) [.tmp 10, .tmp 27]⟩,
 oM 11 29]
 .done
 .stop))
 (.alt [⟨some 10, none, .eff (.alloc (some 1) (.agg [.nilSl])) []⟩]
 (.alt [⟨some 26, none, .eff (.lit (some 2) false) [.tmp 25]⟩]
 (.alt [⟨some 27, none, .call (.pv (.fn 10 [] [])) [.tmp 26]⟩]
 (.alt [⟨some 28, none, .rd (.load (some 1)) [.tmp 7]⟩,
 ⟨some 29, none, .rd (.mkFn 11 1) [.tmp 28]⟩,
 ⟨none, none, .eff (.store (some 1)) [.tmp 10, .tmp 27]⟩,
 oM 11 29]
 .done
 (.alt [⟨none, none, .eff (.store (some 1)) [.tmp 10, .tmp 27]⟩,
 ⟨some 28, none, .rd (.load (some 1)) [.tmp 7]⟩,
 ⟨some 29, none, .rd (.mkFn 11 1) [.tmp 28]⟩,
 oM 11 29]
 .done
 .stop))
 (.alt [⟨some 28, none, .rd (.load (some 1)) [.tmp 7]⟩,
 ⟨some 29, none, .rd (.mkFn 11 1) [.tmp 28]⟩,
 ⟨some 27, none, .call (.pv (.fn 10 [] [])) [.tmp 26]⟩,
 ⟨none, none, .eff (.store (some 1)) [.tmp 10, .tmp 27]⟩,
 oM 11 29]
 .done
 .stop))
 (.alt [⟨some 28, none, .rd (.load (some 1)) [.tmp 7]⟩,
 ⟨some 29, none, .rd (.mkFn 11 1) [.tmp 28]⟩,
 ⟨some 26, none, .eff (.lit (some 2) false) [.tmp 25]⟩,
 ⟨some 27, none, .call (.pv (.fn 10 [] [])) [.tmp 26]⟩,
 ⟨none, none, .eff (.store (some 1)) [.tmp 10, .tmp 27]⟩,
 oM 11 29]
 .done
 .stop))
 .stop)))
 (.alt [⟨some 28, none, .rd (.load (some 1)) [.tmp 7]⟩,
 ⟨some 29, none, .rd (.mkFn 11 1) [.tmp 28]⟩]
 (.alt [⟨some 25, none, .rd (.load (some 2)) [.tmp 24]⟩]
 (.alt [⟨some 26, none, .eff (.lit (some 2) false) [.tmp 25]⟩]
 (.alt [⟨some 27, none, .call (.pv (.fn 10 [] [])) [.tmp 26]⟩,
 ⟨some 10, none, .eff (.alloc (some 1) (.agg [.nilSl])) []⟩,
 ⟨none, none, .eff (.store (some 1)) [.tmp 10, .tmp 27]⟩,
 oM 11 29]
 .done
 (.alt [⟨some 10, none, .eff (.alloc (some 1) (.agg [.nilSl])) []⟩,
 ⟨some 27, none, .call (.pv (.fn 10 [] [])) [.tmp 26]⟩,
 ⟨none, none, .eff (.store (some 1)) [.tmp 10, .tmp 27]⟩,
 oM 11 29]
 .done
 .stop))
 (.alt [⟨some 10, none, .eff (.alloc (some 1) (.agg [.nilSl])) []⟩,
 ⟨some 26, none, .eff (.lit (some 2) false) [.tmp 25]⟩,
 ⟨some 27, none, .call (.pv (.fn 10 [] [])) [.tmp 26]⟩,
 ⟨none, none, .eff (.store (some 1)) [.tmp 10, .tmp 27]⟩,
 oM 11 29]
 .done
 .stop))
 (.alt [⟨some 10, none, .eff (.alloc (some 1) (.agg [.nilSl])) []⟩,
 ⟨some 25, none, .rd (.load (some 2)) [.tmp 24]⟩,
 ⟨some 26, none, .eff (.lit (some 2) false) [.tmp 25]⟩,
 ⟨some 27, none, .call (.pv (.fn 10 [] [])) [.tmp 26]⟩,
 ⟨none, none, .eff (.store (some 1)) [.tmp 10, .tmp 27]⟩,
 oM 11 29]
 .done
 .stop))
 (.alt [⟨some 10, none, .eff (.alloc (some 1) (.agg [.nilSl])) []⟩]
 (.alt [⟨some 25, none, .rd (.load (some 2)) [.tmp 24]⟩]
 (.alt [⟨some 26, none, .eff (.lit (some 2) false) [.tmp 25]⟩]
 (.alt [⟨some 27, none, .call (.pv (.fn 10 [] [])) [.tmp 26]⟩]
 (.alt [⟨some 28, none, .rd (.load (some 1)) [.tmp 7]⟩,
 ⟨some 29, none, .rd (.mkFn 11 1) [.tmp 28]⟩,
 ⟨none, none, .eff (.store (some 1)) [.tmp 10, .tmp 27]⟩,
 oM 11 29]
 .done
 (.alt [⟨none, none, .eff (.store (some 1)) [.tmp 10, .tmp 27]⟩,
 ⟨some 28, none, .rd (.load (some 1)) [.tmp 7]⟩,
 ⟨some 29, none, .rd (.mkFn 11 1) [.tmp 28]⟩,
 oM 11 29]
 .done
 .stop))
 (.alt [⟨some 28, none, .rd (.load (some 1)) [.tmp 7]⟩,
 ⟨some 29, none, .rd (.mkFn 11 1) [.tmp 28]⟩,
 ⟨some 27, none, .call (.pv (.fn 10 [] [])) [.tmp 26]⟩,
 ⟨none, none, .eff (.store (some 1)) [.tmp 10, .tmp 27]⟩,
 oM 11 29]
 .done
 .stop))
 (.alt [⟨some 28, none, .rd (.load (some 1)) [.tmp 7]⟩,
 ⟨some 29, none, .rd (.mkFn 11 1) [.tmp 28]⟩,
 ⟨some 26, none, .eff (.lit (some 2) false) [.tmp 25]⟩,
 ⟨some 27, none, .call (.pv (.fn 10 [] [])) [.tmp 26]⟩,
 ⟨none, none, .eff (.store (some 1)) [.tmp 10, .tmp 27]⟩,
 oM 11 29]
 .done
 .stop))
 (.alt [⟨some 28, none, .rd (.load (some 1)) [.tmp 7]⟩,
 ⟨some 29, none, .rd (.mkFn 11 1) [.tmp 28]⟩,
 ⟨some 25, none, .rd (.load (some 2)) [.tmp 24]⟩,
 ⟨some 26, none, .eff (.lit (some 2) false) [.tmp 25]⟩,
 ⟨some 27, none, .call (.pv (.fn 10 [] [])) [.tmp 26]⟩,
 ⟨none, none, .eff (.store (some 1)) [.tmp 10, .tmp 27]⟩,
 oM 11 29]
 .done
 .stop))
 .stop)))
 .stop) L5)
 (.seq (.region false [oF 0 30 9,
 ⟨some 31, none, .rd (.load (some 2)) [.tmp 30]⟩,
 ⟨some 32, none, .call (.pv (.fn 12 [] [])) [.tmp 31]⟩,
 oM 12 32] L5)
 (.seq (.block 2
 (.seq (.region false [oM 34 12,
 ⟨some 35, none, .rd (.bin .eql) [.tmp 34, .pv (.int .i64 0)]⟩,
 oM 36 35,
 qF 0 36 false 37 9,
 ⟨some 38, some (36, false), .rd (.load (some 2)) [.tmp 37]⟩,
 qF 3 36 false 39 2,
 ⟨some 40, some (36, false), .rd (.load (some 2)) [.tmp 39]⟩,
 ⟨some 41, some (36, false), .call (.pv (.fn 13 [] [])) [.tmp 38, .tmp 40]⟩,
 ⟨some 42, some (36, false), .call (.pv (.fn 12 [] [])) [.tmp 41]⟩,
 qM 36 false 43 12,
 ⟨some 44, some (36, false), .rd (.bin .neq) [.tmp 42, .tmp 43]⟩,
 ⟨some 45, none, .rd .pick [.tmp 36, .pv (.bool true), .tmp 44]⟩,
 oM 46 45,
 qF 3 46 false 47 2,
 ⟨some 48, some (46, false), .rd (.load (some 2)) [.tmp 47]⟩,
 ⟨some 49, some (46, false), .call (.pv (.fn 12 [] [])) [.tmp 48]⟩,
 ⟨some 50, some (46, false), .rd (.bin .gtr) [.tmp 49, .pv (.int .i64 366)]⟩,
 ⟨some 51, none, .rd .pick [.tmp 46, .pv (.bool true), .tmp 50]⟩,
 oM 33 51] L5)
 (.cond (.tmp 33)
 (.seq (.region false [⟨some 4, none, .rd .mov [.pv (.int .i64 0)]⟩,
 ⟨some 5, none, .rd .mov [.pv (.int .i64 24)]⟩] L5)
 (.ret))
 (.seq (.region false [oM 53 11,
 ⟨some 54, none, .rd (.load (some 1)) [.tmp 10]⟩,
 ⟨some 55, none, .call (.tmp 53) [.tmp 54]⟩,
 ⟨some 56, none, .call (.pv (.fn 14 [] [])) [.tmp 55]⟩,
 ⟨some 57, none, .rd (.bin .gtr) [.tmp 56, .pv (.int .i64 0)]⟩,
 oM 52 57] L5)
 (.cond (.tmp 52)
 (.seq (.region false [⟨some 4, none, .rd .mov [.pv (.int .i64 0)]⟩,
 ⟨some 5, none, .rd .mov [.pv (.int .i64 16)]⟩] L5)
 (.ret))
 (.skip))))))
 (.seq (.region false [⟨some 58, none, .rd (.load (some 1)) [.tmp 7]⟩,
 ⟨some 59, none, .rd (.load (some 1)) [.tmp 10]⟩,
 ⟨some 60, none, .call (.pv (.fn 15 [] [])) [.tmp 58, .tmp 59]⟩,
 ⟨none, none, .eff (.store (some 1)) [.tmp 7, .tmp 60]⟩] L5)
 (.seq (.region false [⟨some 62, none, .rd (.load (some 6)) [.tmp 2]⟩,
 ⟨some 63, none, .rd (.load (some 4)) [.tmp 9]⟩,
 ⟨some 64, none, .call (.pv (.fn 16 [] [])) [.tmp 62, .tmp 63]⟩,
 oM 61 64,
 ⟨some 65, none, .rd (.ext 0) [.tmp 61]⟩,
 ⟨some 66, none, .rd (.ext 1) [.tmp 61]⟩,
 oM 13 65,
 oM 14 66] L5)
 (.seq (.seq (.region false [oM 67 14,
 ⟨some 68, none, .rd (.bin .neq) [.tmp 67, .pv (.int .i64 0)]⟩] L5)
 (.cond (.tmp 68)
 (.seq (.region false [oM 69 14,
 ⟨some 4, none, .rd .mov [.pv (.int .i64 0)]⟩,
 oM 5 69] L5)
 (.ret))
 (.skip)))
 (.seq (.region false [oM 71 6,
 oM 72 13,
 ⟨some 73, none, .call (.pv (.fn 17 [] [])) [.tmp 71, .tmp 72]⟩,
 oM 70 73,
 ⟨some 74, none, .rd (.ext 0) [.tmp 70]⟩,
 ⟨some 75, none, .rd (.ext 1) [.tmp 70]⟩,
 oM 6 74,
 oM 14 75] L5)
 (.seq (.region false [oM 76 14,
 ⟨some 77, none, .rd (.bin .neq) [.tmp 76, .pv (.int .i64 0)]⟩] L5)
 (.cond (.tmp 77)
 (.seq (.region false [oM 78 14,
 ⟨some 4, none, .rd .mov [.pv (.int .i64 0)]⟩,
 oM 5 78] L5)
 (.ret))
 (.skip))))))))))))
 (.region false [⟨some 79, none, .rd (.bin .add) [.tmp 20, .pv (.int .i64 1)]⟩,
 oM 20 79] L5)))))))
 (.seq (.region false [oM 80 6,
 oM 4 80,
 ⟨some 5, none, .rd .mov [.pv (.int .i64 0)]⟩] L5)
 (.ret)))))),
 [.tmp 4, .tmp 5]⟩
theorem k36 : compileF Tryd.prog [] L36 Tryd.f36 = some c36 := by kernel_rfl
theorem k37 : compileF Tryd.prog [] L37 Tryd.f37 = some c37 := by kernel_rfl
theorem k38 : compileF Tryd.prog [] L38 Tryd.f38 = some c38 := by kernel_rfl
theorem k53 : compileF Tryd.prog [] L53 Tryd.f53 = some c53 := by kernel_rfl
theorem k54 : compileF Tryd.prog [] L54 Tryd.f54 = some c54 := by kernel_rfl
theorem k55 : compileF Tryd.prog [] L55 Tryd.f55 = some c55 := by kernel_rfl
theorem k7 : compileF Tryd.prog [] L7 Tryd.f7 = some c7 := by kernel_rfl
theorem k8 : compileF Tryd.prog [] L8 Tryd.f8 = some c8 := by kernel_rfl
theorem k9 : compileF Tryd.prog [] L9 Tryd.f9 = some c9 := by kernel_rfl
theorem k20 : compileF Tryd.prog [] L20 Tryd.f20 = some c20 := by kernel_rfl
theorem k21 : compileF Tryd.prog [] L21 Tryd.f21 = some c21 := by kernel_rfl
theorem k4 : compileF Tryd.prog [] L4 Tryd.f4 = some c4 := by kernel_rfl
theorem k5 : compileF Tryd.prog [] L5 Tryd.f5 = some c5 := by kernel_rfl
end Go.Proofs.YtedjaohonijemaaDoor

namespace Go.Proofs.YtedjaohonijemaaDoor
open Go PG Go.Proofs
set_option linter.unusedSimpArgs false
set_option linter.unusedVariables false
set_option maxHeartbeats 4000000
set_option maxRecDepth 100000
variable {G : Globs}
theorem e5 : Ent Tryd.prog 5 := ⟨Tryd.f5, Tryd.func5, by kernel_rfl, by kernel_rfl⟩
/-! A salary over pieces that lie end to end -/
def ChainL : Nat → List (Nat × Nat) → Prop
  | _, [] => True
  | a, x :: l => x.1 = a ∧ a < x.2 ∧ ChainL x.2 l
def endC : Nat → List (Nat × Nat) → Nat
  | a, [] => a
  | _, x :: l => endC x.2 l
theorem endC_snoc : ∀ (a : Nat) (l : List (Nat × Nat)) (x : Nat × Nat), endC a (l ++ [x]) = x.2
  | _, [], _ => rfl
  | _, y :: l, x => endC_snoc y.2 l x
theorem chain_at : ∀ (a : Nat) (l : List (Nat × Nat)), ChainL a l → ∀ i (h : i < l.length), l[i].1 = endC a (l.take i) ∧ l[i].1 < l[i].2
  | a, [], _, i, h => by cases h
  | a, x :: l, ⟨h1, h2, h3⟩, 0, _ => ⟨h1, by simp only [List.getElem_cons_zero]; omega⟩
  | a, x :: l, ⟨h1, h2, h3⟩, i + 1, h => by
    have := chain_at x.2 l h3 i (by simpa using h)
    simpa [endC] using this
theorem cut42 (a b c d : PV) : cut (some 4) (some 2) (.agg [a, b, c, d]) 0 = .agg [a, b] := rfl
theorem lenM_at (f : Int) {a b : Nat} (h : a < b) : lenM (f + a) (f + b) = ((b - a : Nat) : Int) := by
  unfold lenM; rw [if_neg (by omega)]; omega
abbrev piesP (f : Int) (c : Nat) (ps : List (Nat × Nat)) : PV := .list (some 4) (ps.map fun x => pieP f x.1 x.2 c)
theorem v5 {p : Per} (hp : PerOk p) (c : Nat) (hc : c ≤ 4294967295) (ps : List (Nat × Nat)) (hl : ps.length ≤ 64) (hch : ChainL 0 ps) (hend : ∀ x ∈ ps, x.2 ≤ p.L) :
    VCalls Tryd.prog G 5 [perP p, piesP p.f c ps] (.tup [.int .i64 (upM (cM c p) (endC 0 ps) p.L), .int .i64 0]) := by
  refine VCalls.of_PW Tryd.func5 k5 mix (by simp [c5]) ?_
  have hpp := hp
  simp only [c5, L5, CC, argE, perP]
  obtain ⟨h1, h2, h3, ⟨h4, h5⟩, h7, h8⟩ := hp
  have hll : ((ps.map fun x => pieP p.f x.1 x.2 c).length : Nat) = ps.length := by simp
  have d1 : decide ((64 : Int) < ps.length) = false := by simp only [decide_eq_false_iff_not]; omega
  have hcm := cM_le (c := c) hpp
  have k0 : upM (cM c p) 0 p.L = 0 := upM_none _ h7
  repeat' (first | exact True.intro | (refine PW.seqK ?_; intro K hK) | refine stp ?_ | refine seqK_n ‹_› ?_ | refine seqK_r ‹_› ?_ | refine seqK_e ‹_› ?_ | exact schedW_stop_i | refine schK_n ‹_› ?_ | (refine PW.cond rfl ?_ ?_ <;> intro hcond <;> (try contradiction) <;> try simp only [DD] at hcond) | (refine gd_i ?_; intro hg; try simp only [hg]) | (refine ari ?_; first | omega | (simp only [DD, LL] <;> omega) | (go_unwrap; omega)) | ((first | refine stq ?_ | show (_ : Post) _ _ _ | (refine schedW_alt_k ?_ ?_; intro K hK)); focus (simp only [hll, d1, SA, Nat.reduceAdd, reduceIte, Nat.reduceEqDiff, Nat.reduceBEq, reduceCtorEq]; (try go_unwrap; try simp only [hll, d1, RR, reduceCtorEq]))) | refine And.intro ?_ ?_ | exact Or.inr ⟨rfl, Nat.le_refl _⟩ | exact (fun h => Bool.noConfusion h))
  refine PW.subM 1 1 [.nilSl] [.list (some 2) []] (.nilto (some 2) .nil) rfl ?_
  simp only [List.set_cons_zero, List.set_cons_succ]
  repeat' (first | exact True.intro | (refine PW.seqK ?_; intro K hK) | refine stp ?_ | refine seqK_n ‹_› ?_ | refine seqK_r ‹_› ?_ | refine seqK_e ‹_› ?_ | exact schedW_stop_i | refine schK_n ‹_› ?_ | (refine PW.cond rfl ?_ ?_ <;> intro hcond <;> (try contradiction) <;> try simp only [DD] at hcond) | (refine gd_i ?_; intro hg; try simp only [hg]) | (refine ari ?_; first | omega | (simp only [DD, LL] <;> omega) | (go_unwrap; omega)) | ((first | refine stq ?_ | show (_ : Post) _ _ _ | (refine schedW_alt_k ?_ ?_; intro K hK)); focus (simp only [hll, SA, Nat.reduceAdd, reduceIte, Nat.reduceEqDiff, Nat.reduceBEq, reduceCtorEq]; (try go_unwrap; try simp only [hll, RR, reduceCtorEq]))) | refine And.intro ?_ ?_ | exact Or.inr ⟨rfl, Nat.le_refl _⟩ | exact (fun h => Bool.noConfusion h))
  refine PW.loopG (σ := Nat) 2 (fun _ _ => rfl) [2, 6, 7, 18, 19, 20] (fun i => [.ref 0 0, .int .i64 (upM (cM c p) (endC 0 (ps.take i)) p.L), .ref 1 0, piesP p.f c ps, .int .i64 ps.length, .int .i64 i])
    (fun i => [some (.var (some 6) (.agg [.int .i64 p.y, .int .i64 p.i, .int .i64 p.o, .int .i64 p.f, .int .i64 (p.f + p.L), .int .i64 p.pay])), some (.var (some 1) (setP (takenL p.f (p.f + (endC 0 (ps.take i) : Nat)))))])
    (fun i => i ≤ ps.length) (fun i => ps.length - i) 0 ?_ (by simp [setP, takenL, endC]) (by omega) ?_
  · simp only [SA, Nat.reduceAdd, reduceIte, Nat.reduceEqDiff, Nat.reduceBEq, reduceCtorEq, List.take_zero, endC, k0]; rfl
  intro i hi
  simp only [List.zip_cons_cons, List.zip_nil_left]
  rcases Nat.lt_or_ge i ps.length with h | h
  case inr =>
    have hd : decide ((i : Int) < ps.length) = false := by simp only [decide_eq_false_iff_not]; omega
    rw [List.take_of_length_le h]
    repeat' (first | exact True.intro | (refine PW.seqK ?_; intro K hK) | refine stp ?_ | refine seqK_n ‹_› ?_ | refine seqK_r ‹_› ?_ | refine seqK_e ‹_› ?_ | exact schedW_stop_i | refine schK_n ‹_› ?_ | (refine PW.cond rfl ?_ ?_ <;> intro hcond <;> (try contradiction) <;> try simp only [DD] at hcond) | (refine gd_i ?_; intro hg; try simp only [hg]) | (refine ari ?_; first | omega | (simp only [DD, LL] <;> omega) | (go_unwrap; omega)) | ((first | refine stq ?_ | show (_ : Post) _ _ _ | (refine schedW_alt_k ?_ ?_; intro K hK)); focus (simp only [hd, SA, Nat.reduceAdd, reduceIte, Nat.reduceEqDiff, Nat.reduceBEq, reduceCtorEq]; (try go_unwrap; try simp only [hd, RR, reduceCtorEq]))) | refine And.intro ?_ ?_ | exact Or.inr ⟨rfl, Nat.le_refl _⟩ | exact (fun h => Bool.noConfusion h))
  have hd : decide ((i : Int) < ps.length) = true := by simp only [decide_eq_true_eq]; omega
  obtain ⟨x, -, hn, hg⟩ := drop_at h
  have hgx := (hg fun x => pieP p.f x.1 x.2 c).1
  have hni : ps[i] = x := by rw [List.getElem?_eq_getElem h] at hn; exact Option.some.inj hn
  have hxe := hend x (List.mem_of_getElem? hn)
  obtain ⟨hx1, hx2⟩ := chain_at 0 ps hch i h
  rw [hni] at hx1 hx2
  have hst : endC 0 (ps.take (i + 1)) = x.2 := by rw [List.take_succ_eq_append_getElem h, hni, endC_snoc]
  obtain ⟨a, b⟩ := x
  simp only at hgx hxe hx1 hx2 hst
  rw [← hx1]
  clear hx1 hni hn hg
  have h10 := v10 (G := G) (p.f + (a : Int), p.f + (b : Int)) (by simp only; omega)
  have h12 := v12 (G := G) (p.f + (a : Int)) (p.f + (b : Int)) ⟨by omega, by omega⟩ ⟨by omega, by omega⟩
  have h12p := v12 (G := G) p.f (p.f + (p.L : Int)) ⟨by omega, by omega⟩ ⟨by omega, by omega⟩
  rw [lenM_at _ hx2] at h12
  have el : lenM p.f (p.f + p.L) = p.L := by unfold lenM; rw [if_neg (by omega)]; omega
  rw [el] at h12p
  have h13 := v13 (G := G) (p.f + (a : Int)) (p.f + (b : Int)) p.f (p.f + (p.L : Int)) (by omega) (by omega) (by omega)
  have h11 := v11 (G := G) p.f (p.f + (a : Int)) (p.f + (b : Int)) (by omega) (by omega)
  have h15 := v15 (G := G) p.f (p.f + (a : Int)) (p.f + (b : Int)) (by omega) (by omega)
  have h14 := v14 (G := G)
  have h16 := v16 (G := G) hpp a b c hc (by omega) hxe
  have mo := upM_mono (cM c p) h7 (show a ≤ b by omega)
  have ub := upM_le (cM c p) h7 hxe
  have h17 := v17 (G := G) (upM (cM c p) a p.L) (upM (cM c p) b p.L - upM (cM c p) a p.L) (by omega)
  rw [show upM (cM c p) a p.L + (upM (cM c p) b p.L - upM (cM c p) a p.L) = upM (cM c p) b p.L by omega] at h17
  have e1 : decide (((b - a : Nat) : Int) = 0) = false := by simp only [decide_eq_false_iff_not]; omega
  have e2 : decide (((b - a : Nat) : Int) = ((b - a : Nat) : Int)) = true := by simp
  have e3 : decide ((366 : Int) < p.L) = false := by simp only [decide_eq_false_iff_not]; omega
  have e4 : decide ((0 : Int) < 0) = false := rfl
  generalize hTa : takenL p.f (p.f + (a : Int)) = TA at *
  have hTb : takenL p.f (p.f + ((endC 0 (ps.take (i + 1)) : Nat) : Int)) = takenL p.f (p.f + (b : Int)) := by rw [hst]
  generalize takenL p.f (p.f + (b : Int)) = TB at *
  generalize upM (cM c p) b p.L - upM (cM c p) a p.L = D at *
  have hUb : upM (cM c p) (endC 0 (ps.take (i + 1))) p.L = upM (cM c p) b p.L := by rw [hst]
  generalize upM (cM c p) a p.L = UA at *
  generalize upM (cM c p) b p.L = UB at *
  generalize b - a = n at *
  have hgx : (List.map (fun x => pieP p.f x.1 x.2 c) ps).getD i .junk = .agg [.int .i64 (p.f + (a : Int)), .int .i64 (p.f + (b : Int)), .int .i64 c, .int .i64 1000000] := hgx
  simp only [pieP, spP, spL, setP, perP, List.map_cons, List.map_nil] at h10 h11 h13 h15 h14 h16
  simp only [spL, setP]
  repeat' (first | exact True.intro | (refine PW.seqA (E := ?_) (M := ?_) ?_ ?_; rotate_left 2) | exact mergeQ_mk _ _ | (exact Or.inr ⟨rfl, by decide⟩) | (refine PW.seqK ?_; intro K hK) | refine stp ?_ | refine seqK_n ‹_› ?_ | refine seqK_r ‹_› ?_ | refine seqK_e ‹_› ?_ | exact schedW_stop_i | refine schK_n ‹_› ?_ | (refine PW.cond rfl ?_ ?_ <;> intro hcond <;> (try contradiction) <;> try simp only [DD] at hcond) | (apply goCall_V e12; (case hV => (simp only [hd, hll, hgx, cut42, cut63, List.take_succ_cons, List.take_zero, List.drop_succ_cons, List.drop_zero, e1, e2, e3, e4, List.nil_append, List.cons_append, List.all_cons, SA, Nat.reduceAdd, reduceIte, Nat.reduceEqDiff, Nat.reduceBEq, reduceCtorEq]; (try go_unwrap; try simp only [hd, hll, hgx, cut42, cut63, List.take_succ_cons, List.take_zero, List.drop_succ_cons, List.drop_zero, e1, e2, e3, e4, List.nil_append, List.cons_append, List.all_cons, RR, reduceCtorEq]); exact h12)); (try (case hs => rfl)); (try (case hf => first | exact Or.inl rfl | exact Or.inr ⟨rfl, rfl⟩ | (refine Or.inl ?_; simp only [hd, hll, hgx, cut42, cut63, List.take_succ_cons, List.take_zero, List.drop_succ_cons, List.drop_zero, e1, e2, e3, e4, List.nil_append, List.cons_append, List.all_cons, SA, Nat.reduceAdd, reduceIte, Nat.reduceEqDiff, Nat.reduceBEq, reduceCtorEq]; done) | (refine Or.inr ⟨rfl, ?_⟩; simp only [hd, hll, hgx, cut42, cut63, List.take_succ_cons, List.take_zero, List.drop_succ_cons, List.drop_zero, e1, e2, e3, e4, List.nil_append, List.cons_append, List.all_cons, SA, Nat.reduceAdd, reduceIte, Nat.reduceEqDiff, Nat.reduceBEq, reduceCtorEq]; done))); all_goals (first | (simp only [hd, hll, hgx, cut42, cut63, List.take_succ_cons, List.take_zero, List.drop_succ_cons, List.drop_zero, e1, e2, e3, e4, List.nil_append, List.cons_append, List.all_cons, SA, Nat.reduceAdd, reduceIte, Nat.reduceEqDiff, Nat.reduceBEq, reduceCtorEq]; (try go_unwrap; try simp only [hd, hll, hgx, cut42, cut63, List.take_succ_cons, List.take_zero, List.drop_succ_cons, List.drop_zero, e1, e2, e3, e4, List.nil_append, List.cons_append, List.all_cons, RR, reduceCtorEq])) | (show Env; skip) | (show Mem; skip))) | (apply goCallG_V e12; (case hV => (intro hg; simp only [hg, hd, hll, hgx, cut42, cut63, List.take_succ_cons, List.take_zero, List.drop_succ_cons, List.drop_zero, e1, e2, e3, e4, List.nil_append, List.cons_append, List.all_cons, SA, Nat.reduceAdd, reduceIte, Nat.reduceEqDiff, Nat.reduceBEq, reduceCtorEq]; (try go_unwrap; try simp only [hd, hll, hgx, cut42, cut63, List.take_succ_cons, List.take_zero, List.drop_succ_cons, List.drop_zero, e1, e2, e3, e4, List.nil_append, List.cons_append, List.all_cons, RR, reduceCtorEq]); exact h12)); (case hok => (intro hg; first | (simp only [hg, hd, hll, hgx, cut42, cut63, List.take_succ_cons, List.take_zero, List.drop_succ_cons, List.drop_zero, e1, e2, e3, e4, List.nil_append, List.cons_append, List.all_cons, SA, Nat.reduceAdd, reduceIte, Nat.reduceEqDiff, Nat.reduceBEq, reduceCtorEq]; done) | (simp_all [okAll, PV.okUnder]; done))); (case hs => (intro hg; simp only [hg, hd, hll, hgx, cut42, cut63, List.take_succ_cons, List.take_zero, List.drop_succ_cons, List.drop_zero, e1, e2, e3, e4, List.nil_append, List.cons_append, List.all_cons, SA, Nat.reduceAdd, reduceIte, Nat.reduceEqDiff, Nat.reduceBEq, reduceCtorEq])); (case hf => first | rfl | simp only [hd, hll, hgx, cut42, cut63, List.take_succ_cons, List.take_zero, List.drop_succ_cons, List.drop_zero, e1, e2, e3, e4, List.nil_append, List.cons_append, List.all_cons, SA, Nat.reduceAdd, reduceIte, Nat.reduceEqDiff, Nat.reduceBEq, reduceCtorEq]); (simp only [hd, hll, hgx, cut42, cut63, List.take_succ_cons, List.take_zero, List.drop_succ_cons, List.drop_zero, e1, e2, e3, e4, List.nil_append, List.cons_append, List.all_cons, SA, Nat.reduceAdd, reduceIte, Nat.reduceEqDiff, Nat.reduceBEq, reduceCtorEq]; (try go_unwrap; try simp only [hd, hll, hgx, cut42, cut63, List.take_succ_cons, List.take_zero, List.drop_succ_cons, List.drop_zero, e1, e2, e3, e4, List.nil_append, List.cons_append, List.all_cons, RR, reduceCtorEq]))) | (apply goCallG_V e12; (case hV => (intro hg; simp only [hg, hd, hll, hgx, cut42, cut63, List.take_succ_cons, List.take_zero, List.drop_succ_cons, List.drop_zero, e1, e2, e3, e4, List.nil_append, List.cons_append, List.all_cons, SA, Nat.reduceAdd, reduceIte, Nat.reduceEqDiff, Nat.reduceBEq, reduceCtorEq]; (try go_unwrap; try simp only [hd, hll, hgx, cut42, cut63, List.take_succ_cons, List.take_zero, List.drop_succ_cons, List.drop_zero, e1, e2, e3, e4, List.nil_append, List.cons_append, List.all_cons, RR, reduceCtorEq]); exact h12p)); (case hok => (intro hg; first | (simp only [hg, hd, hll, hgx, cut42, cut63, List.take_succ_cons, List.take_zero, List.drop_succ_cons, List.drop_zero, e1, e2, e3, e4, List.nil_append, List.cons_append, List.all_cons, SA, Nat.reduceAdd, reduceIte, Nat.reduceEqDiff, Nat.reduceBEq, reduceCtorEq]; done) | (simp_all [okAll, PV.okUnder]; done))); (case hs => (intro hg; simp only [hg, hd, hll, hgx, cut42, cut63, List.take_succ_cons, List.take_zero, List.drop_succ_cons, List.drop_zero, e1, e2, e3, e4, List.nil_append, List.cons_append, List.all_cons, SA, Nat.reduceAdd, reduceIte, Nat.reduceEqDiff, Nat.reduceBEq, reduceCtorEq])); (case hf => first | rfl | simp only [hd, hll, hgx, cut42, cut63, List.take_succ_cons, List.take_zero, List.drop_succ_cons, List.drop_zero, e1, e2, e3, e4, List.nil_append, List.cons_append, List.all_cons, SA, Nat.reduceAdd, reduceIte, Nat.reduceEqDiff, Nat.reduceBEq, reduceCtorEq]); (simp only [hd, hll, hgx, cut42, cut63, List.take_succ_cons, List.take_zero, List.drop_succ_cons, List.drop_zero, e1, e2, e3, e4, List.nil_append, List.cons_append, List.all_cons, SA, Nat.reduceAdd, reduceIte, Nat.reduceEqDiff, Nat.reduceBEq, reduceCtorEq]; (try go_unwrap; try simp only [hd, hll, hgx, cut42, cut63, List.take_succ_cons, List.take_zero, List.drop_succ_cons, List.drop_zero, e1, e2, e3, e4, List.nil_append, List.cons_append, List.all_cons, RR, reduceCtorEq]))) | (refine gd_i ?_; intro hg; try simp only [hg]) | refine goCall_W e10 (h10) ?_ ?_ ?_ ?_ | refine goCallG_W e13 (h13) ?_ ?_ ?_ ?_ ?_ | refine goCall_W e11 (h11) ?_ ?_ ?_ ?_ | refine goCall_W e14 (h14) ?_ ?_ ?_ ?_ | refine goCall_W e15 (h15) ?_ ?_ ?_ ?_ | refine goCall_W e16 (h16) ?_ ?_ ?_ ?_ | refine goCall_W e17 (h17) ?_ ?_ ?_ ?_ | (refine ari ?_; first | omega | (simp only [DD, LL] <;> omega) | (go_unwrap; omega)) | ((first | refine stq ?_ | show (_ : Post) _ _ _ | (refine schedW_alt_k ?_ ?_; intro K hK)); focus (simp only [hd, hll, hgx, cut42, cut63, List.take_succ_cons, List.take_zero, List.drop_succ_cons, List.drop_zero, e1, e2, e3, e4, List.nil_append, List.cons_append, List.all_cons, SA, Nat.reduceAdd, reduceIte, Nat.reduceEqDiff, Nat.reduceBEq, reduceCtorEq]; (try go_unwrap; try simp only [hd, hll, hgx, cut42, cut63, List.take_succ_cons, List.take_zero, List.drop_succ_cons, List.drop_zero, e1, e2, e3, e4, List.nil_append, List.cons_append, List.all_cons, RR, reduceCtorEq]))) | refine And.intro ?_ ?_ | exact Or.inr ⟨rfl, Nat.le_refl _⟩ | exact (fun h => Bool.noConfusion h))
  all_goals exact ⟨i + 1, (by rw [hUb]; exact (by first | rfl | (simp only [TT, MObj.kill, PV.kill, Nat.reduceLeDiff, reduceIte, Nat.le_refl, Nat.zero_le, Nat.not_le, Nat.lt_irrefl]; done) | (simp [trimE, trimM, MObj.kill, PV.kill]; done))), (by rw [hTb]; exact (by first | rfl | (simp only [TT, MObj.kill, PV.kill, Nat.reduceLeDiff, reduceIte, Nat.le_refl, Nat.zero_le, Nat.not_le, Nat.lt_irrefl]; done) | (simp [trimE, trimM, MObj.kill, PV.kill]; done))), by omega, by omega⟩
end Go.Proofs.YtedjaohonijemaaDoor

