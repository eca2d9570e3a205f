import Derived.Test.YthekpjhffciakaaDoorProg
import Derived.KernelRfl
import Derived.Test.YthekpjhffciakaaDoorQ11
import Derived.Test.YthekpjhffciakaaDoorQ14
import Derived.Test.YthekpjhffciakaaDoorQ12
import Derived.Test.YthekpjhffciakaaDoorP4
import Derived.Test.YthekpjhffciakaaDoorQ18
import Derived.Test.YthekpjhffciakaaDoorQ13
import Derived.Test.YthekpjhffciakaaDoorQ7
import Derived.Test.YthekpjhffciakaaDoorQ8
namespace Go.Proofs.YthekpjhffciakaaDoor
open Go PG Go.Proofs
set_option linter.unusedSimpArgs false
set_option linter.unusedVariables false
set_option maxHeartbeats 4000000
set_option maxRecDepth 100000
theorem e85 : Ent Tryd.prog 85 := ⟨Tryd.f85, Tryd.func85, by kernel_rfl, by kernel_rfl⟩
abbrev nmQ (t : List UInt8) : Int := (numOf t).1
abbrev wE (d : List Tok) (n : Nat) : List Tok := d ++ [(0, [], n)]
def dtP (t : Tok) : PV := .agg [.int .i64 t.1, .str t.2.1, .int .i64 (if t.1 = 2 then nmQ t.2.1 else 0), .int .i64 t.2.2]
abbrev dtsP (d : List Tok) : PV := .list (some 4) (d.map dtP)
def badP (d : List Tok) (n : Nat) (s : PS) : Int := if s.e = 0 then 0 else (tkAt (wE d n) s.at_).2.2
def rqP (d : List Tok) (n : Nat) (s : PS) : MObj := .var (some 6) (.agg [dtsP d, .int .i64 s.at_, .int .i64 n, .sl (some 4) 1 s.out.length, .int .i64 s.e, .int .i64 (badP d n s)])
def RqC (d : List Tok) (n : Nat) (f : Nat) (as_ : List PV) (ν : Mem) (s : PS) (r : Int × PS) : Prop :=
  PCalls Tryd.prog G0 f as_ (some (rqP d n s) :: some (rowO s) :: ν) (killTag 1) (fun p μ' => p = .int .i64 r.1 ∧ μ' = some (rqP d n r.2) :: some (rowO r.2) :: ν)
theorem RqC.frame {d : List Tok} {n : Nat} {f : Nat} {as_ : List PV} {s : PS} {r : Int × PS} (h : RqC d n f as_ [] s r) (ν : Mem) (hν : ν.map (Option.map (MObj.kill (killTag 1))) = ν) (ha : as_.map (PV.kill fun t => decide (2 ≤ t)) = as_) : RqC d n f as_ ν s r := by
  have := PCalls.frame h ν (by rintro p μ' ⟨-, rfl⟩; rfl) ha (by simp [rqP, rowO, MObj.kill, PV.kill]) hν
  intro w κ vs hS hG hr
  refine (this w κ vs hS hG hr).mono ?_
  rintro e w' ⟨v, p, μ', κ', rfl, ⟨μ1, ⟨rfl, rfl⟩, rfl⟩, hS', hv, hg⟩
  exact ⟨v, _, _, κ', rfl, ⟨rfl, rfl⟩, hS', hv, hg⟩
theorem r1 (a b c d e f : PV) (k : IntKind) (v : Int) : putPart (some 6) none (.agg [a, b, c, d, e, f]) 1 (.int k v) = .agg [a, .int k v, c, d, e, f] := rfl
end Go.Proofs.YthekpjhffciakaaDoor

namespace Go.Proofs.YthekpjhffciakaaDoor
open Go PG Go.Proofs
set_option linter.unusedSimpArgs false
set_option linter.unusedVariables false
set_option maxHeartbeats 4000000
set_option maxRecDepth 100000
end Go.Proofs.YthekpjhffciakaaDoor

namespace Go.Proofs.YthekpjhffciakaaDoor
open Go PG Go.Proofs
set_option linter.unusedSimpArgs false
set_option linter.unusedVariables false
set_option maxHeartbeats 4000000
set_option maxRecDepth 100000
end Go.Proofs.YthekpjhffciakaaDoor

namespace Go.Proofs.YthekpjhffciakaaDoor
open PG Go.Proofs
-- wagebook/wagebookref13.Check
def L54 : List Nat := [0, 1, 4, 5, 6, 7, 8, 9, 10, 13, 16, 23, 33, 40, 45, 65, 92, 112, 117, 124, 130]
def c54 : CF := ⟨131,
 .seq (.region false [⟨some 4, none, .rd .mov [.pv (.int .i64 0)]⟩] L54)
 (.seq (.seq (.region false [oM 11 0,
 ⟨some 12, none, .rd .lenL [.tmp 11]⟩,
 ⟨some 13, none, .rd (.bin .eql) [.tmp 12, .pv (.int .i64 0)]⟩] L54)
 (.cond (.tmp 13)
 (.seq (.region false [⟨some 4, none, .rd .mov [.pv (.int .i64 10)]⟩] L54)
 (.ret))
 (.skip)))
 (.seq (.seq (.region false [oM 14 0,
 ⟨some 15, none, .rd .lenL [.tmp 14]⟩,
 ⟨some 16, none, .rd (.bin .gtr) [.tmp 15, .pv (.int .i64 256)]⟩] L54)
 (.cond (.tmp 16)
 (.seq (.region false [⟨some 4, none, .rd .mov [.pv (.int .i64 5)]⟩] L54)
 (.ret))
 (.skip)))
 (.seq (.region false [oM 17 0,
 ⟨some 18, none, .rd .lenL [.tmp 17]⟩,
 ⟨some 19, none, .eff (.make none (.bool false) 1) [.tmp 18, .tmp 18]⟩,
 oM 5 19] L54)
 (.seq (.seq (.region false [⟨some 6, none, .rd .mov [.pv (.int .i64 0)]⟩] L54)
 (.block 0
 (.loop
 (.seq (.seq (.region false [oM 20 6,
 oM 21 0,
 ⟨some 22, none, .rd .lenL [.tmp 21]⟩,
 ⟨some 23, none, .rd (.bin .lss) [.tmp 20, .tmp 22]⟩] L54)
 (.cond (.tmp 23)
 (.skip)
 (.exit 0)))
 (.seq (.block 1
 (.seq (.region false [oM 26 0,
 oM 27 6,
 ⟨some 28, none, .rd (.idxAddr (some 4)) [.tmp 26, .tmp 27]⟩,
 ⟨some 29, none, .rd (.load (some 4)) [.tmp 28]⟩,
 ⟨some 7, none, .eff (.alloc (some 4) (.agg [(.int .i64 0), (.int .i64 0), (.str []), .nilSl])) []⟩,
 ⟨none, none, .eff (.store (some 4)) [.tmp 7, .tmp 29]⟩] L54)
 (.seq (.seq (.region false [oF 0 30 7,
 oL 31 30,
 ⟨some 32, none, .call (.pv (.fn 85 [] [])) [.tmp 31]⟩,
 ⟨some 33, none, .rd (.bin .lss) [.tmp 32, .pv (.int .i64 0)]⟩] L54)
 (.cond (.tmp 33)
 (.seq (.region false [⟨some 4, none, .rd .mov [.pv (.int .i64 11)]⟩] L54)
 (.ret))
 (.skip)))
 (.seq (.seq (.region true [oF 3 34 7,
 oL 35 34,
 ⟨some 36, none, .rd .lenL [.tmp 35]⟩,
 oF 0 37 7,
 oL 38 37,
 ⟨some 39, none, .call (.pv (.fn 85 [] [])) [.tmp 38]⟩,
 ⟨some 40, none, .rd (.bin .neq) [.tmp 36, .tmp 39]⟩] L54)
 (.cond (.tmp 40)
 (.seq (.region false [⟨some 4, none, .rd .mov [.pv (.int .i64 3)]⟩] L54)
 (.ret))
 (.skip)))
 (.seq (.seq (.region false [⟨some 8, none, .rd .mov [.pv (.int .i64 0)]⟩] L54)
 (.block 2
 (.loop
 (.seq (.seq (.region false [oM 41 8,
 oF 3 42 7,
 oL 43 42,
 ⟨some 44, none, .rd .lenL [.tmp 43]⟩,
 ⟨some 45, none, .rd (.bin .lss) [.tmp 41, .tmp 44]⟩] L54)
 (.cond (.tmp 45)
 (.skip)
 (.exit 2)))
 (.seq (.block 3
 (.seq (.region false [oF 3 48 7,
 oL 49 48,
 oM 50 8,
 ⟨some 51, none, .rd (.idxAddr none) [.tmp 49, .tmp 50]⟩,
 oL 52 51,
 oM 9 52] L54)
 (.seq (.seq (.region false [oM 53 9,
 ⟨some 54, none, .rd (.bin .lss) [.tmp 53, .pv (.int .i64 0)]⟩,
 oM 55 54,
 qM 55 false 56 9,
 qM 55 false 57 6,
 ⟨some 58, some (55, false), .rd (.bin .geq) [.tmp 56, .tmp 57]⟩,
 ⟨some 59, none, .rd .pick [.tmp 55, .pv (.bool true), .tmp 58]⟩,
 oM 60 59,
 qM 60 false 61 5,
 qM 60 false 62 9,
 ⟨some 63, some (60, false), .rd (.idxAddr none) [.tmp 61, .tmp 62]⟩,
 qL 60 false 64 63,
 ⟨some 65, none, .rd .pick [.tmp 60, .pv (.bool true), .tmp 64]⟩] L54)
 (.cond (.tmp 65)
 (.seq (.region false [⟨some 4, none, .rd .mov [.pv (.int .i64 8)]⟩] L54)
 (.ret))
 (.skip)))
 (.region false [oM 66 5,
 oM 67 9,
 ⟨some 68, none, .rd (.idxAddr none) [.tmp 66, .tmp 67]⟩,
 ⟨none, none, .eff (.store none) [.tmp 68, .pv (.bool true)]⟩] L54))))
 (.region false [oM 46 8,
 ⟨some 47, none, .rd (.bin .add) [.tmp 46, .pv (.int .i64 1)]⟩,
 oM 8 47] L54))))))
 (.seq (.seq (.region false [oF 1 69 7,
 oL 70 69,
 ⟨some 71, none, .rd (.bin .lss) [.tmp 70, .pv (.int .i64 0)]⟩,
 oM 72 71,
 qF 1 72 false 73 7,
 qL 72 false 74 73,
 ⟨some 75, some (72, false), .rd (.bin .gtr) [.tmp 74, .pv (.int .i64 1000000000000000000)]⟩,
 ⟨some 76, none, .rd .pick [.tmp 72, .pv (.bool true), .tmp 75]⟩,
 oM 77 76,
 qF 1 77 false 78 7,
 qL 77 false 79 78,
 ⟨some 80, some (77, false), .rd (.bin .rem) [.tmp 79, .pv (.int .i64 100)]⟩,
 ⟨some 81, some (77, false), .rd (.bin .neq) [.tmp 80, .pv (.int .i64 0)]⟩,
 ⟨some 82, none, .rd .pick [.tmp 77, .pv (.bool true), .tmp 81]⟩,
 oM 83 82,
 qF 0 83 false 84 7,
 qL 83 false 85 84,
 ⟨some 86, some (83, false), .rd (.bin .neq) [.tmp 85, .pv (.int .i64 0)]⟩,
 qM 83 false 87 86,
 qF 1 87 true 88 7,
 qL 87 true 89 88,
 ⟨some 90, some (87, true), .rd (.bin .neq) [.tmp 89, .pv (.int .i64 0)]⟩,
 ⟨some 91, some (83, false), .rd .pick [.tmp 87, .tmp 90, .pv (.bool false)]⟩,
 ⟨some 92, none, .rd .pick [.tmp 83, .pv (.bool true), .tmp 91]⟩] L54)
 (.cond (.tmp 92)
 (.seq (.region false [⟨some 4, none, .rd .mov [.pv (.int .i64 2)]⟩] L54)
 (.ret))
 (.skip)))
 (.seq (.region false [oF 0 93 7,
 oL 94 93,
 ⟨some 95, none, .rd (.bin .eql) [.tmp 94, .pv (.int .i64 1)]⟩,
 oM 96 95,
 qM 96 true 97 1,
 qM 96 true 98 6,
 ⟨some 99, some (96, true), .rd (.idxAddr none) [.tmp 97, .tmp 98]⟩,
 qL 96 true 100 99,
 ⟨some 101, some (96, true), .rd (.un .not) [.tmp 100]⟩,
 ⟨some 102, none, .rd .pick [.tmp 96, .tmp 101, .pv (.bool false)]⟩,
 oM 103 102,
 qF 0 103 false 104 7,
 qL 103 false 105 104,
 ⟨some 106, some (103, false), .rd (.bin .neq) [.tmp 105, .pv (.int .i64 1)]⟩,
 qM 103 false 107 106,
 qF 2 107 true 108 7,
 qL 107 true 109 108,
 ⟨some 110, some (107, true), .rd (.bin .neq) [.tmp 109, .pv (.str [])]⟩,
 ⟨some 111, some (103, false), .rd .pick [.tmp 107, .tmp 110, .pv (.bool false)]⟩,
 ⟨some 112, none, .rd .pick [.tmp 103, .pv (.bool true), .tmp 111]⟩] L54)
 (.cond (.tmp 112)
 (.seq (.region false [⟨some 4, none, .rd .mov [.pv (.int .i64 12)]⟩] L54)
 (.ret))
 (.skip)))))))))
 (.region false [oM 24 6,
 ⟨some 25, none, .rd (.bin .add) [.tmp 24, .pv (.int .i64 1)]⟩,
 oM 6 25] L54))))))
 (.seq (.seq (.region false [⟨some 10, none, .rd .mov [.pv (.int .i64 0)]⟩] L54)
 (.block 4
 (.loop
 (.seq (.seq (.region false [oM 113 10,
 oM 114 0,
 ⟨some 115, none, .rd .lenL [.tmp 114]⟩,
 ⟨some 116, none, .rd (.bin .sub) [.tmp 115, .pv (.int .i64 1)]⟩,
 ⟨some 117, none, .rd (.bin .lss) [.tmp 113, .tmp 116]⟩] L54)
 (.cond (.tmp 117)
 (.skip)
 (.exit 4)))
 (.seq (.block 5
 (.seq (.region false [oM 120 5,
 oM 121 10,
 ⟨some 122, none, .rd (.idxAddr none) [.tmp 120, .tmp 121]⟩,
 oL 123 122,
 ⟨some 124, none, .rd (.un .not) [.tmp 123]⟩] L54)
 (.cond (.tmp 124)
 (.seq (.region false [⟨some 4, none, .rd .mov [.pv (.int .i64 3)]⟩] L54)
 (.ret))
 (.skip))))
 (.region false [oM 118 10,
 ⟨some 119, none, .rd (.bin .add) [.tmp 118, .pv (.int .i64 1)]⟩,
 oM 10 119] L54))))))
 (.seq (.seq (.region false [oM 125 0,
 oM 126 0,
 ⟨some 127, none, .rd .lenL [.tmp 126]⟩,
 ⟨some 128, none, .rd (.bin .sub) [.tmp 127, .pv (.int .i64 1)]⟩,
 ⟨some 129, none, .call (.pv (.fn 52 [] [])) [.tmp 125, .tmp 128]⟩,
 ⟨some 130, none, .rd (.bin .gtr) [.tmp 129, .pv (.int .i64 16)]⟩] L54)
 (.cond (.tmp 130)
 (.seq (.region false [⟨some 4, none, .rd .mov [.pv (.int .i64 14)]⟩] L54)
 (.ret))
 (.skip)))
 (.seq (.region false [⟨some 4, none, .rd .mov [.pv (.int .i64 0)]⟩] L54)
 (.ret)))))))),
 [.tmp 4]⟩

-- wagebook/wagebookref13.Vars
theorem k54 : compileF Tryd.prog [] L54 Tryd.f54 = some c54 := by kernel_rfl
end Go.Proofs.YthekpjhffciakaaDoor

namespace Go.Proofs.YthekpjhffciakaaDoor
open Go PG Go.Proofs
set_option linter.unusedSimpArgs false
set_option linter.unusedVariables false
set_option maxHeartbeats 4000000
set_option maxRecDepth 100000
def kidsD (op : Int) : Int := if op < 0 ∨ 9 < op then -1 else kidsTab.getD op.toNat 0
theorem v85g (op : Int) : VCalls Tryd.prog G0 85 [.int .i64 op] (.int .i64 (kidsD op)) := by
  refine VCalls.of_PW Tryd.func85 k85 mix (by simp [c85]) ?_
  simp only [c85, L85, CC, argE]
  unfold kidsD
  by_cases h : op < 0 ∨ 9 < op
  · have d1 : (decide (op < 0) || decide (9 < op)) = true := by simpa using h
    rw [if_pos h]
    repeat' (first | exact True.intro | (exact Or.inr ⟨rfl, by decide⟩) | (refine PW.seqK ?_; intro K hK) | refine stp ?_ | refine seqK_n ‹_› ?_ | refine seqK_r ‹_› ?_ | refine seqK_e ‹_› ?_ | exact schedW_stop_i | refine schK_n ‹_› ?_ | (refine PW.cond rfl ?_ ?_ <;> intro hcond <;> (try contradiction) <;> try simp only [DD] at hcond) | (refine gd_i ?_; intro hg; try simp only [hg]) | (refine ari ?_; first | omega | (simp only [DD, LL] <;> omega) | (go_unwrap; omega)) | ((first | refine stq ?_ | show (_ : Post) _ _ _ | (refine schedW_alt_k ?_ ?_; intro K hK)); focus (simp only [d1, SA, Nat.reduceAdd, reduceIte, Nat.reduceEqDiff, Nat.reduceBEq, reduceCtorEq]; (try go_unwrap; try simp only [d1, RR, reduceCtorEq]))) | refine And.intro ?_ ?_ | exact Or.inr ⟨rfl, Nat.le_refl _⟩ | exact (fun h => Bool.noConfusion h))
  · have d1 : (decide (op < 0) || decide (9 < op)) = false := by simpa using h
    rw [if_neg h]
    obtain ⟨k, rfl⟩ : ∃ k : Nat, op = k := ⟨op.toNat, by omega⟩
    have hk : k < 10 := by omega
    have ek : ((k : Int)).toNat = k := by omega
    have hg : ([.int .i64 0, .int .i64 0, .int .i64 2, .int .i64 2, .int .i64 2, .int .i64 2, .int .i64 2, .int .i64 3, .int .i64 2, .int .i64 2] : List PV).getD k .junk = .int .i64 (kidsTab.getD k 0) := by
      have : k = 0 ∨ k = 1 ∨ k = 2 ∨ k = 3 ∨ k = 4 ∨ k = 5 ∨ k = 6 ∨ k = 7 ∨ k = 8 ∨ k = 9 := by omega
      rcases this with rfl | rfl | rfl | rfl | rfl | rfl | rfl | rfl | rfl | rfl <;> rfl
    repeat' (first | exact True.intro | (refine PW.seqK ?_; intro K hK) | refine stp ?_ | refine seqK_n ‹_› ?_ | refine seqK_r ‹_› ?_ | refine seqK_e ‹_› ?_ | exact schedW_stop_i | refine schK_n ‹_› ?_ | (refine PW.cond rfl ?_ ?_ <;> intro hcond <;> (try contradiction) <;> try simp only [DD] at hcond) | (refine gd_i ?_; intro hg; try simp only [hg]) | (refine ari ?_; first | omega | (simp only [DD, LL] <;> omega) | (go_unwrap; omega)) | ((first | refine stq ?_ | show (_ : Post) _ _ _ | (refine schedW_alt_k ?_ ?_; intro K hK)); focus (simp only [d1, ek, hg, List.length_cons, List.length_nil, SA, Nat.reduceAdd, reduceIte, Nat.reduceEqDiff, Nat.reduceBEq, reduceCtorEq]; (try go_unwrap; try simp only [d1, ek, hg, List.length_cons, List.length_nil, RR, reduceCtorEq]))) | refine And.intro ?_ ?_ | exact Or.inr ⟨rfl, Nat.le_refl _⟩ | exact (fun h => Bool.noConfusion h))
theorem rest_A {n : Nd} (ho : 0 ≤ n.op ∧ n.op ≤ 9) (h : (decide (n.num < 0) || decide (1000000000000000000 < n.num) || !decide (n.num.tmod 100 = 0) || !decide (n.op = 0) && !decide (n.num = 0)) = true) : restE n = 2 := by
  obtain ⟨h0, h9⟩ := ho
  simp only [Bool.or_eq_true, Bool.and_eq_true, Bool.not_eq_true', decide_eq_true_eq, decide_eq_false_iff_not] at h
  unfold restE
  rw [if_neg (by omega), if_pos]
  by_cases hz : n.op = 0
  · exact .inl ⟨hz, by omega⟩
  · refine .inr ⟨hz, fun e => ?_⟩
    rw [e] at h
    simp at h
theorem rest_B {n : Nd} (ho : 0 ≤ n.op ∧ n.op ≤ 9) (h : (decide (n.num < 0) || decide (1000000000000000000 < n.num) || !decide (n.num.tmod 100 = 0) || !decide (n.op = 0) && !decide (n.num = 0)) = false) (h2 : (decide (n.op = 1) && !isName n.name || !decide (n.op = 1) && !decide (n.name = [])) = true) : restE n = 12 := by
  obtain ⟨h0, h9⟩ := ho
  simp only [Bool.or_eq_false_iff, Bool.and_eq_false_iff, Bool.not_eq_false', decide_eq_true_eq, decide_eq_false_iff_not] at h
  simp only [Bool.or_eq_true, Bool.and_eq_true, Bool.not_eq_true', decide_eq_true_eq, decide_eq_false_iff_not] at h2
  unfold restE
  rw [if_neg (by omega), if_neg (by omega), if_pos h2]
theorem rest_C {n : Nd} (ho : 0 ≤ n.op ∧ n.op ≤ 9) (h : (decide (n.num < 0) || decide (1000000000000000000 < n.num) || !decide (n.num.tmod 100 = 0) || !decide (n.op = 0) && !decide (n.num = 0)) = false) (h2 : (decide (n.op = 1) && !isName n.name || !decide (n.op = 1) && !decide (n.name = [])) = false) : restE n = 0 := by
  obtain ⟨h0, h9⟩ := ho
  simp only [Bool.or_eq_false_iff, Bool.and_eq_false_iff, Bool.not_eq_false', decide_eq_true_eq, decide_eq_false_iff_not] at h h2
  unfold restE
  rw [if_neg (by omega), if_neg (by omega), if_neg]
  rintro (⟨a, b⟩ | ⟨a, b⟩)
  · rcases h2.1 with h | h
    · exact h a
    · rw [b] at h; cases h
  · rcases h2.2 with h | h
    · exact a h
    · exact b h
theorem v54 (l : List Nd) (hl : l.length ≤ 9223372036854775807) (hs : ∀ n ∈ l, n.name.length ≤ 9223372036854775807 ∧ n.kids.length ≤ 9223372036854775807) : VCalls Tryd.prog G0 54 [.list (some 4) (l.map ndP), .list none ((l.map fun n => isName n.name).map PV.bool)] (.int .i64 (checkM l)) := by
  refine VCalls.of_PW Tryd.func54 k54 mix (by simp [c54]) ?_
  simp only [c54, L54, CC, argE]
  have e85 : Ent Tryd.prog 85 := ⟨Tryd.f85, Tryd.func85, by kernel_rfl, by kernel_rfl⟩
  have e52 : Ent Tryd.prog 52 := ⟨Tryd.f52, Tryd.func52, by kernel_rfl, by kernel_rfl⟩
  by_cases h0 : l.length = 0
  · have hd : decide ((l.length : Int) = 0) = true := by simp only [decide_eq_true_eq]; omega
    repeat' (first | exact True.intro | (refine PW.seqK ?_; intro K hK) | refine stp ?_ | refine seqK_n ‹_› ?_ | refine seqK_r ‹_› ?_ | refine seqK_e ‹_› ?_ | exact schedW_stop_i | refine schK_n ‹_› ?_ | (refine PW.cond rfl ?_ ?_ <;> intro hcond <;> (try contradiction) <;> try simp only [DD] at hcond) | (refine gd_i ?_; intro hg; try simp only [hg]) | (refine ari ?_; first | omega | (simp only [DD, LL] <;> omega) | (go_unwrap; omega)) | ((first | refine stq ?_ | show (_ : Post) _ _ _ | (refine schedW_alt_k ?_ ?_; intro K hK)); focus (simp only [hd, List.length_map, SA, Nat.reduceAdd, reduceIte, Nat.reduceEqDiff, Nat.reduceBEq, reduceCtorEq]; (try go_unwrap; try simp only [hd, List.length_map, RR, reduceCtorEq]))) | refine And.intro ?_ ?_ | exact Or.inr ⟨rfl, Nat.le_refl _⟩ | exact (fun h => Bool.noConfusion h))
    all_goals rw [checkM, if_pos h0]
  have hd0 : decide ((l.length : Int) = 0) = false := by simp only [decide_eq_false_iff_not]; omega
  by_cases h256 : 256 < l.length
  · have hd1 : decide (256 < (l.length : Int)) = true := by simp only [decide_eq_true_eq]; omega
    repeat' (first | exact True.intro | (refine PW.seqK ?_; intro K hK) | refine stp ?_ | refine seqK_n ‹_› ?_ | refine seqK_r ‹_› ?_ | refine seqK_e ‹_› ?_ | exact schedW_stop_i | refine schK_n ‹_› ?_ | (refine PW.cond rfl ?_ ?_ <;> intro hcond <;> (try contradiction) <;> try simp only [DD] at hcond) | (refine gd_i ?_; intro hg; try simp only [hg]) | (refine ari ?_; first | omega | (simp only [DD, LL] <;> omega) | (go_unwrap; omega)) | ((first | refine stq ?_ | show (_ : Post) _ _ _ | (refine schedW_alt_k ?_ ?_; intro K hK)); focus (simp only [hd0, hd1, List.length_map, SA, Nat.reduceAdd, reduceIte, Nat.reduceEqDiff, Nat.reduceBEq, reduceCtorEq]; (try go_unwrap; try simp only [hd0, hd1, List.length_map, RR, reduceCtorEq]))) | refine And.intro ?_ ?_ | exact Or.inr ⟨rfl, Nat.le_refl _⟩ | exact (fun h => Bool.noConfusion h))
    all_goals rw [checkM, if_neg h0, if_pos h256]
  have hd1 : decide (256 < (l.length : Int)) = false := by simp only [decide_eq_false_iff_not]; omega
  have hm1 : ((1 : Nat) : Int) * (l.length : Int) ≤ 281474976710656 := by omega
  have hm2 : (l.length : Int) ≤ 9223372036854775807 := by omega
  have hm3 : 0 ≤ (l.length : Int) := by omega
  repeat' (first | exact True.intro | (refine PW.seqK ?_; intro K hK) | refine stp ?_ | refine seqK_n ‹_› ?_ | refine seqK_r ‹_› ?_ | refine seqK_e ‹_› ?_ | exact schedW_stop_i | refine schK_n ‹_› ?_ | (refine PW.cond rfl ?_ ?_ <;> intro hcond <;> (try contradiction) <;> try simp only [DD] at hcond) | (refine gd_i ?_; intro hg; try simp only [hg]) | (refine ari ?_; first | omega | (simp only [DD, LL] <;> omega) | (go_unwrap; omega)) | ((first | refine stq ?_ | show (_ : Post) _ _ _ | (refine schedW_alt_k ?_ ?_; intro K hK)); focus (simp only [hd0, hd1, List.length_map, hm1, hm2, hm3, Int.le_refl, SA, Nat.reduceAdd, reduceIte, Nat.reduceEqDiff, Nat.reduceBEq, reduceCtorEq]; (try go_unwrap; try simp only [hd0, hd1, List.length_map, hm1, hm2, hm3, Int.le_refl, RR, reduceCtorEq]))) | refine And.intro ?_ ?_ | exact Or.inr ⟨rfl, Nat.le_refl _⟩ | exact (fun h => Bool.noConfusion h))
  have hC : checkM l = (match checkNodes l 0 (List.replicate l.length false) with
    | .error e => e
    | .ok t => if (t.take (l.length - 1)).contains false = true then 3 else if 16 < depthM l then 14 else 0) := by
    rw [checkM, if_neg h0, if_neg h256]
    cases checkNodes l 0 (List.replicate l.length false) <;> rfl
  refine PW.loopG (σ := Nat × List Bool) 1 (fun _ _ => rfl) [0, 1, 5, 6] (fun s => [.list (some 4) (l.map ndP), .list none ((l.map fun n => isName n.name).map PV.bool), .sl none 0 l.length, .int .i64 s.1])
    (fun s => [some (.row none (s.2.map PV.bool))])
    (fun s => s.1 ≤ l.length ∧ s.2.length = l.length ∧ checkNodes l 0 (List.replicate l.length false) = checkNodes (l.drop s.1) s.1 s.2) (fun s => l.length - s.1) (0, List.replicate l.length false) ?_ ?_ ⟨by simp, by simp, by simp⟩ ?_
  · simp only [SA, Nat.reduceAdd, reduceIte, Nat.reduceEqDiff, Nat.reduceBEq, reduceCtorEq, List.length_map, Int.toNat_natCast]; rfl
  · simp
  rintro ⟨i, t⟩ ⟨hi, htl, hr⟩
  simp only at hi htl hr
  simp only [List.zip_cons_cons, List.zip_nil_left]
  rcases Nat.lt_or_ge i l.length with h | h
  · obtain ⟨n, hd, hn, hg⟩ := drop_at h
    rw [hd, checkNodes] at hr
    have hd' : decide ((i : Int) < l.length) = true := by simp only [decide_eq_true_eq]; omega
    have hgn := ((hg ndP).1).trans (ndP1 n)
    have hgb : ((l.map fun n => isName n.name).map PV.bool).getD i .junk = .bool (isName n.name) := by
      have := (hg fun n => PV.bool (isName n.name)).1
      rw [List.map_map]; exact this
    have hsn := hs n (List.mem_of_getElem? hn)
    have h85 := v85g (op := n.op)
    by_cases hf : formE n = 0
    case neg =>
      rw [if_pos hf] at hr
      rw [hr] at hC
      have hF : formE n = if n.op < 0 ∨ 9 < n.op then 11 else if (n.kids.length : Int) ≠ kidsTab.getD n.op.toNat 0 then 3 else 0 := rfl
      by_cases ho : n.op < 0 ∨ 9 < n.op
      · rw [if_pos ho] at hF
        have hk : kidsD n.op = -1 := by unfold kidsD; rw [if_pos ho]
        rw [hk] at h85
        repeat' (first | exact True.intro | (refine PW.seqK ?_; intro K hK) | refine stp ?_ | refine seqK_n ‹_› ?_ | refine seqK_r ‹_› ?_ | refine seqK_e ‹_› ?_ | exact schedW_stop_i | refine schK_n ‹_› ?_ | (refine PW.cond rfl ?_ ?_ <;> intro hcond <;> (try contradiction) <;> try simp only [DD] at hcond) | (refine gd_i ?_; intro hg; try simp only [hg]) | refine goCall_W e85 (h85) ?_ ?_ ?_ ?_ | (refine ari ?_; first | omega | (simp only [DD, LL] <;> omega) | (go_unwrap; omega)) | ((first | refine stq ?_ | show (_ : Post) _ _ _ | (refine schedW_alt_k ?_ ?_; intro K hK)); focus (simp only [hd', hgn, List.length_map, SA, Nat.reduceAdd, reduceIte, Nat.reduceEqDiff, Nat.reduceBEq, reduceCtorEq]; (try go_unwrap; try simp only [hd', hgn, List.length_map, RR, reduceCtorEq]))) | refine And.intro ?_ ?_ | exact Or.inr ⟨rfl, Nat.le_refl _⟩ | exact (fun h => Bool.noConfusion h))
        all_goals rw [hC, hF]
      · rw [if_neg ho] at hF
        have hk : kidsD n.op = kidsTab.getD n.op.toNat 0 := by unfold kidsD; rw [if_neg ho]
        have hk0 : decide (kidsD n.op < 0) = false := by
          rw [hk, decide_eq_false_iff_not]
          obtain ⟨k, hkk⟩ : ∃ k : Nat, n.op = k := ⟨n.op.toNat, by omega⟩
          rw [hkk]
          have : k = 0 ∨ k = 1 ∨ k = 2 ∨ k = 3 ∨ k = 4 ∨ k = 5 ∨ k = 6 ∨ k = 7 ∨ k = 8 ∨ k = 9 := by omega
          rcases this with rfl | rfl | rfl | rfl | rfl | rfl | rfl | rfl | rfl | rfl <;> decide
        have hlk : (n.kids.length : Int) ≠ kidsTab.getD n.op.toNat 0 := by
          intro e; rw [if_neg (by simp [e])] at hF; exact hf hF
        have hk1 : decide ((n.kids.length : Int) = kidsD n.op) = false := by rw [hk]; exact decide_eq_false hlk
        rw [if_pos hlk] at hF
        repeat' (first | exact True.intro | (refine PW.seqK ?_; intro K hK) | refine stp ?_ | refine seqK_n ‹_› ?_ | refine seqK_r ‹_› ?_ | refine seqK_e ‹_› ?_ | exact schedW_stop_i | refine schK_n ‹_› ?_ | (refine PW.cond rfl ?_ ?_ <;> intro hcond <;> (try contradiction) <;> try simp only [DD] at hcond) | (refine gd_i ?_; intro hg; try simp only [hg]) | refine goCall_W e85 (h85) ?_ ?_ ?_ ?_ | (refine ari ?_; first | omega | (simp only [DD, LL] <;> omega) | (go_unwrap; omega)) | ((first | refine stq ?_ | show (_ : Post) _ _ _ | (refine schedW_alt_k ?_ ?_; intro K hK)); focus (simp only [hd', hgn, hk0, hk1, List.length_map, SA, Nat.reduceAdd, reduceIte, Nat.reduceEqDiff, Nat.reduceBEq, reduceCtorEq]; (try go_unwrap; try simp only [hd', hgn, hk0, hk1, List.length_map, RR, reduceCtorEq]))) | refine And.intro ?_ ?_ | exact Or.inr ⟨rfl, Nat.le_refl _⟩ | exact (fun h => Bool.noConfusion h))
        all_goals rw [hC, hF]
    rw [if_neg (by omega)] at hr
    obtain ⟨ho0, ho9, hok, hk3⟩ := formE_ok hf
    have hk : kidsD n.op = n.kids.length := by unfold kidsD; rw [if_neg (by omega), hok]
    rw [hk] at h85
    have hk0 : decide ((n.kids.length : Int) < 0) = false := by simp only [decide_eq_false_iff_not]; omega
    have hk1 : decide ((n.kids.length : Int) = n.kids.length) = true := by simp
    repeat' (first | exact True.intro | (refine PW.seqK ?_; intro K hK) | refine stp ?_ | refine seqK_n ‹_› ?_ | refine seqK_r ‹_› ?_ | refine seqK_e ‹_› ?_ | exact schedW_stop_i | refine schK_n ‹_› ?_ | (refine PW.cond rfl ?_ ?_ <;> intro hcond <;> (try contradiction) <;> try simp only [DD] at hcond) | (refine gd_i ?_; intro hg; try simp only [hg]) | refine goCall_W e85 (h85) ?_ ?_ ?_ ?_ | (refine ari ?_; first | omega | (simp only [DD, LL] <;> omega) | (go_unwrap; omega)) | ((first | refine stq ?_ | show (_ : Post) _ _ _ | (refine schedW_alt_k ?_ ?_; intro K hK)); focus (simp only [hd', hgn, hk0, hk1, List.length_map, SA, Nat.reduceAdd, reduceIte, Nat.reduceEqDiff, Nat.reduceBEq, reduceCtorEq]; (try go_unwrap; try simp only [hd', hgn, hk0, hk1, List.length_map, RR, reduceCtorEq]))) | refine And.intro ?_ ?_ | exact Or.inr ⟨rfl, Nat.le_refl _⟩ | exact (fun h => Bool.noConfusion h))
    refine PW.loop (σ := Nat × List Bool) [0, 1, 5, 6, 7, 8] (fun s => [.list (some 4) (l.map ndP), .list none ((l.map fun n => isName n.name).map PV.bool), .sl none 0 l.length, .int .i64 i, .ref 1 0, .int .i64 s.1])
        (fun s => [some (.row none (s.2.map PV.bool)), some (.var (some 4) (.agg [.int .i64 n.op, .int .i64 n.num, .str n.name, .list none (n.kids.map (PV.int .i64))]))])
        (fun s => s.1 ≤ n.kids.length ∧ s.2.length = l.length ∧ kidsStep i n.kids t = kidsStep i (n.kids.drop s.1) s.2) (fun s => n.kids.length - s.1) (0, t) ?_ rfl ⟨by simp, htl, by simp⟩ ?_
    · simp only [SA, Nat.reduceAdd, reduceIte, Nat.reduceEqDiff, Nat.reduceBEq, reduceCtorEq, List.length_map]; rfl
    rintro ⟨j, u⟩ ⟨hj, hul, hk⟩
    simp only at hj hul hk
    simp only [List.zip_cons_cons, List.zip_nil_left]
    rcases Nat.lt_or_ge j n.kids.length with h' | h'
    · obtain ⟨k, hkd, hkn', hkg⟩ := drop_at h'
      rw [hkd, kidsStep] at hk
      have hd2 : decide ((j : Int) < n.kids.length) = true := by simp only [decide_eq_true_eq]; omega
      by_cases hk1 : k < 0 ∨ (i : Int) ≤ k
      · have hd3 : (decide (k < 0) || decide ((i : Int) ≤ k)) = true := by simpa using hk1
        have hb : k < 0 ∨ (i : Int) ≤ k ∨ u.getD k.toNat false = true := hk1.imp id Or.inl
        rw [if_pos hb] at hk
        rw [hk] at hr
        repeat' (first | exact True.intro | (refine PW.seqK ?_; intro K hK) | refine stp ?_ | refine seqK_n ‹_› ?_ | refine seqK_r ‹_› ?_ | refine seqK_e ‹_› ?_ | exact schedW_stop_i | refine schK_n ‹_› ?_ | (refine PW.cond rfl ?_ ?_ <;> intro hcond <;> (try contradiction) <;> try simp only [DD] at hcond) | (refine gd_i ?_; intro hg; try simp only [hg]) | (refine ari ?_; first | omega | (simp only [DD, LL] <;> omega) | (go_unwrap; omega)) | ((first | refine stq ?_ | show (_ : Post) _ _ _ | (refine schedW_alt_k ?_ ?_; intro K hK)); focus (simp only [hd2, (hkg (PV.int .i64)).1, List.length_map, hd3, SA, Nat.reduceAdd, reduceIte, Nat.reduceEqDiff, Nat.reduceBEq, reduceCtorEq]; (try go_unwrap; try simp only [hd2, (hkg (PV.int .i64)).1, List.length_map, hd3, RR, reduceCtorEq]))) | refine And.intro ?_ ?_ | exact Or.inr ⟨rfl, Nat.le_refl _⟩ | exact (fun h => Bool.noConfusion h))
        all_goals (first | (rw [hC, hr]; done) | (clear hG hC hr hgn h85; simp_all; done))
      · have hd3 : (decide (k < 0) || decide ((i : Int) ≤ k)) = false := by simpa using hk1
        have hku : k.toNat < u.length := by omega
        have hug : (u.map PV.bool)[k.toNat]? = some (.bool (u.getD k.toNat false)) := by simp [List.getD, hku]
        have hus : (u.map PV.bool).set k.toNat (.bool true) = (u.set k.toNat true).map PV.bool := by rw [List.map_set]
        cases htk : u.getD k.toNat false with
        | true =>
          rw [if_pos (.inr (.inr htk))] at hk
          rw [hk] at hr
          rw [htk] at hug
          repeat' (first | exact True.intro | (refine PW.seqK ?_; intro K hK) | refine stp ?_ | refine seqK_n ‹_› ?_ | refine seqK_r ‹_› ?_ | refine seqK_e ‹_› ?_ | exact schedW_stop_i | refine schK_n ‹_› ?_ | (refine PW.cond rfl ?_ ?_ <;> intro hcond <;> (try contradiction) <;> try simp only [DD] at hcond) | (refine gd_i ?_; intro hg; try simp only [hg]) | (refine ari ?_; first | omega | (simp only [DD, LL] <;> omega) | (go_unwrap; omega)) | ((first | refine stq ?_ | show (_ : Post) _ _ _ | (refine schedW_alt_k ?_ ?_; intro K hK)); focus (simp only [hd2, (hkg (PV.int .i64)).1, List.length_map, hd3, hug, SA, Nat.reduceAdd, reduceIte, Nat.reduceEqDiff, Nat.reduceBEq, reduceCtorEq]; (try go_unwrap; try simp only [hd2, (hkg (PV.int .i64)).1, List.length_map, hd3, hug, RR, reduceCtorEq]))) | refine And.intro ?_ ?_ | exact Or.inr ⟨rfl, Nat.le_refl _⟩ | exact (fun h => Bool.noConfusion h))
          all_goals rw [hC, hr]
        | false =>
          rw [if_neg (by rw [htk]; simpa using hk1)] at hk
          rw [htk] at hug
          repeat' (first | exact True.intro | (refine PW.seqK ?_; intro K hK) | refine stp ?_ | refine seqK_n ‹_› ?_ | refine seqK_r ‹_› ?_ | refine seqK_e ‹_› ?_ | exact schedW_stop_i | refine schK_n ‹_› ?_ | (refine PW.cond rfl ?_ ?_ <;> intro hcond <;> (try contradiction) <;> try simp only [DD] at hcond) | (refine gd_i ?_; intro hg; try simp only [hg]) | (refine ari ?_; first | omega | (simp only [DD, LL] <;> omega) | (go_unwrap; omega)) | ((first | refine stq ?_ | show (_ : Post) _ _ _ | (refine schedW_alt_k ?_ ?_; intro K hK)); focus (simp only [hd2, (hkg (PV.int .i64)).1, List.length_map, hd3, hug, hus, SA, Nat.reduceAdd, reduceIte, Nat.reduceEqDiff, Nat.reduceBEq, reduceCtorEq]; (try go_unwrap; try simp only [hd2, (hkg (PV.int .i64)).1, List.length_map, hd3, hug, hus, RR, reduceCtorEq]))) | refine And.intro ?_ ?_ | exact Or.inr ⟨rfl, Nat.le_refl _⟩ | exact (fun h => Bool.noConfusion h))
          all_goals exact ⟨(j + 1, u.set k.toNat true), rfl, rfl, ⟨h', by simpa using hul, hk⟩, by simp only; omega⟩
    · have hd2 : decide ((j : Int) < n.kids.length) = false := by simp only [decide_eq_false_iff_not]; omega
      rw [List.drop_eq_nil_of_le h', kidsStep] at hk
      rw [hk] at hr
      repeat' (first | exact True.intro | (refine PW.seqK ?_; intro K hK) | refine stp ?_ | refine seqK_n ‹_› ?_ | refine seqK_r ‹_› ?_ | refine seqK_e ‹_› ?_ | exact schedW_stop_i | refine schK_n ‹_› ?_ | (refine PW.cond rfl ?_ ?_ <;> intro hcond <;> (try contradiction) <;> try simp only [DD] at hcond) | (refine gd_i ?_; intro hg; try simp only [hg]) | (refine ari ?_; first | omega | (simp only [DD, LL] <;> omega) | (go_unwrap; omega)) | ((first | refine stq ?_ | show (_ : Post) _ _ _ | (refine schedW_alt_k ?_ ?_; intro K hK)); focus (simp only [hd2, hgb, List.length_map, SA, Nat.reduceAdd, reduceIte, Nat.reduceEqDiff, Nat.reduceBEq, reduceCtorEq]; (try go_unwrap; try simp only [hd2, hgb, List.length_map, RR, reduceCtorEq]))) | refine And.intro ?_ ?_ | exact Or.inr ⟨rfl, Nat.le_refl _⟩ | exact (fun h => Bool.noConfusion h))
      all_goals first
        | (have hR := rest_A ⟨ho0, ho9⟩ (by assumption); rw [hR, if_pos (by decide)] at hr; rw [hC, hr]; done)
        | (have hR := rest_B ⟨ho0, ho9⟩ (by assumption) (by assumption); rw [hR, if_pos (by decide)] at hr; rw [hC, hr]; done)
        | (have hR := rest_C ⟨ho0, ho9⟩ (by assumption) (by assumption); simp only [hR, ne_eq, not_true_eq_false, if_false] at hr; exact ⟨(i + 1, u), (by first | rfl | (simp only [TT, MObj.kill, PV.kill, Nat.reduceLeDiff, reduceIte, Nat.le_refl, Nat.zero_le, Nat.not_le, Nat.lt_irrefl]; done) | (simp [trimE, trimM, MObj.kill, PV.kill]; done)), (by first | rfl | (simp only [TT, MObj.kill, PV.kill, Nat.reduceLeDiff, reduceIte, Nat.le_refl, Nat.zero_le, Nat.not_le, Nat.lt_irrefl]; done) | (simp [trimE, trimM, MObj.kill, PV.kill]; done)), ⟨h, hul, hr⟩, by simp only; omega⟩)
  · have hd' : decide ((i : Int) < l.length) = false := by simp only [decide_eq_false_iff_not]; omega
    rw [List.drop_eq_nil_of_le h, checkNodes] at hr
    obtain ⟨-, hwf, hall⟩ := checkNodes_ok hr
    have h52 := v52 (G := G0) l (by omega) (by intro hh; simp [hh] at h0) hwf (fun n hn => by have := (formE_ok (hall n hn).1).2.2.2; omega)
    rw [hr] at hC
    simp only at hC
    repeat' (first | exact True.intro | (refine PW.seqK ?_; intro K hK) | refine stp ?_ | refine seqK_n ‹_› ?_ | refine seqK_r ‹_› ?_ | refine seqK_e ‹_› ?_ | exact schedW_stop_i | refine schK_n ‹_› ?_ | (refine PW.cond rfl ?_ ?_ <;> intro hcond <;> (try contradiction) <;> try simp only [DD] at hcond) | (refine gd_i ?_; intro hg; try simp only [hg]) | (refine ari ?_; first | omega | (simp only [DD, LL] <;> omega) | (go_unwrap; omega)) | ((first | refine stq ?_ | show (_ : Post) _ _ _ | (refine schedW_alt_k ?_ ?_; intro K hK)); focus (simp only [hd', List.length_map, SA, Nat.reduceAdd, reduceIte, Nat.reduceEqDiff, Nat.reduceBEq, reduceCtorEq]; (try go_unwrap; try simp only [hd', List.length_map, RR, reduceCtorEq]))) | refine And.intro ?_ ?_ | exact Or.inr ⟨rfl, Nat.le_refl _⟩ | exact (fun h => Bool.noConfusion h))
    refine PW.loopG (σ := Nat) 1 (fun _ _ => rfl) [0, 1, 5, 10] (fun j => [.list (some 4) (l.map ndP), .list none ((l.map fun n => isName n.name).map PV.bool), .sl none 0 l.length, .int .i64 j])
      (fun _ => [some (.row none (t.map PV.bool))]) (fun j => j ≤ l.length - 1 ∧ (t.take j).contains false = false) (fun j => l.length - 1 - j) 0 ?_ rfl ⟨by omega, by simp⟩ ?_
    · simp only [SA, Nat.reduceAdd, reduceIte, Nat.reduceEqDiff, Nat.reduceBEq, reduceCtorEq]; rfl
    rintro j ⟨hj, hjc⟩
    simp only [List.zip_cons_cons, List.zip_nil_left]
    rcases Nat.lt_or_ge j (l.length - 1) with h' | h'
    · have hd2 : decide ((j : Int) < (l.length : Int) - 1) = true := by simp only [decide_eq_true_eq]; omega
      have htj : (t.map PV.bool)[j]? = some (.bool (t.getD j false)) := by simp [List.getD, show j < t.length by omega]
      have htt : t.take (j + 1) = t.take j ++ [t.getD j false] := by rw [List.take_succ_eq_append_getElem (by omega)]; simp [List.getD, show j < t.length by omega]
      cases hb : t.getD j false with
      | true =>
        rw [hb] at htj htt
        repeat' (first | exact True.intro | (refine PW.seqK ?_; intro K hK) | refine stp ?_ | refine seqK_n ‹_› ?_ | refine seqK_r ‹_› ?_ | refine seqK_e ‹_› ?_ | exact schedW_stop_i | refine schK_n ‹_› ?_ | (refine PW.cond rfl ?_ ?_ <;> intro hcond <;> (try contradiction) <;> try simp only [DD] at hcond) | (refine gd_i ?_; intro hg; try simp only [hg]) | (refine ari ?_; first | omega | (simp only [DD, LL] <;> omega) | (go_unwrap; omega)) | ((first | refine stq ?_ | show (_ : Post) _ _ _ | (refine schedW_alt_k ?_ ?_; intro K hK)); focus (simp only [hd2, htj, List.length_map, SA, Nat.reduceAdd, reduceIte, Nat.reduceEqDiff, Nat.reduceBEq, reduceCtorEq]; (try go_unwrap; try simp only [hd2, htj, List.length_map, RR, reduceCtorEq]))) | refine And.intro ?_ ?_ | exact Or.inr ⟨rfl, Nat.le_refl _⟩ | exact (fun h => Bool.noConfusion h))
        all_goals exact ⟨j + 1, (by first | rfl | (simp only [TT, MObj.kill, PV.kill, Nat.reduceLeDiff, reduceIte, Nat.le_refl, Nat.zero_le, Nat.not_le, Nat.lt_irrefl]; done) | (simp [trimE, trimM, MObj.kill, PV.kill]; done)), (by first | rfl | (simp only [TT, MObj.kill, PV.kill, Nat.reduceLeDiff, reduceIte, Nat.le_refl, Nat.zero_le, Nat.not_le, Nat.lt_irrefl]; done) | (simp [trimE, trimM, MObj.kill, PV.kill]; done)), ⟨by omega, by rw [htt]; simpa using hjc⟩, by omega⟩
      | false =>
        rw [hb] at htj htt
        have hct : (t.take (l.length - 1)).contains false = true := by
          have e1 : t.take (j + 1) = (t.take (l.length - 1)).take (j + 1) := by rw [List.take_take]; congr 1; omega
          have : false ∈ (t.take (l.length - 1)).take (j + 1) := by rw [← e1, htt]; simp
          simpa using List.mem_of_mem_take this
        rw [if_pos hct] at hC
        repeat' (first | exact True.intro | (refine PW.seqK ?_; intro K hK) | refine stp ?_ | refine seqK_n ‹_› ?_ | refine seqK_r ‹_› ?_ | refine seqK_e ‹_› ?_ | exact schedW_stop_i | refine schK_n ‹_› ?_ | (refine PW.cond rfl ?_ ?_ <;> intro hcond <;> (try contradiction) <;> try simp only [DD] at hcond) | (refine gd_i ?_; intro hg; try simp only [hg]) | (refine ari ?_; first | omega | (simp only [DD, LL] <;> omega) | (go_unwrap; omega)) | ((first | refine stq ?_ | show (_ : Post) _ _ _ | (refine schedW_alt_k ?_ ?_; intro K hK)); focus (simp only [hd2, htj, List.length_map, SA, Nat.reduceAdd, reduceIte, Nat.reduceEqDiff, Nat.reduceBEq, reduceCtorEq]; (try go_unwrap; try simp only [hd2, htj, List.length_map, RR, reduceCtorEq]))) | refine And.intro ?_ ?_ | exact Or.inr ⟨rfl, Nat.le_refl _⟩ | exact (fun h => Bool.noConfusion h))
        all_goals rw [hC]
    · have hd2 : decide ((j : Int) < (l.length : Int) - 1) = false := by simp only [decide_eq_false_iff_not]; omega
      have hje : j = l.length - 1 := by omega
      subst hje
      rw [if_neg (by rw [hjc]; simp)] at hC
      repeat' (first | exact True.intro | (refine PW.seqK ?_; intro K hK) | refine stp ?_ | refine seqK_n ‹_› ?_ | refine seqK_r ‹_› ?_ | refine seqK_e ‹_› ?_ | exact schedW_stop_i | refine schK_n ‹_› ?_ | (refine PW.cond rfl ?_ ?_ <;> intro hcond <;> (try contradiction) <;> try simp only [DD] at hcond) | (refine gd_i ?_; intro hg; try simp only [hg]) | refine goCall_W e52 (h52) ?_ ?_ ?_ ?_ | (refine ari ?_; first | omega | (simp only [DD, LL] <;> omega) | (go_unwrap; omega)) | ((first | refine stq ?_ | show (_ : Post) _ _ _ | (refine schedW_alt_k ?_ ?_; intro K hK)); focus (simp only [hd2, List.length_map, SA, Nat.reduceAdd, reduceIte, Nat.reduceEqDiff, Nat.reduceBEq, reduceCtorEq]; (try go_unwrap; try simp only [hd2, List.length_map, RR, reduceCtorEq]))) | refine And.intro ?_ ?_ | exact Or.inr ⟨rfl, Nat.le_refl _⟩ | exact (fun h => Bool.noConfusion h))
      all_goals first | (rw [hC, if_pos (by simpa using hcond)]; done) | (rw [hC, if_neg (by simpa using hcond)]; done)
end Go.Proofs.YthekpjhffciakaaDoor

namespace Go.Proofs.YthekpjhffciakaaDoor
open Go PG Go.Proofs
set_option linter.unusedSimpArgs false
set_option linter.unusedVariables false
set_option maxHeartbeats 4000000
set_option maxRecDepth 100000
end Go.Proofs.YthekpjhffciakaaDoor

namespace Go.Proofs.YthekpjhffciakaaDoor
open Go PG Go.Proofs
set_option linter.unusedSimpArgs false
set_option linter.unusedVariables false
set_option maxHeartbeats 4000000
set_option maxRecDepth 100000
theorem e52 : Ent Tryd.prog 52 := ⟨Tryd.f52, Tryd.func52, by kernel_rfl, by kernel_rfl⟩
end Go.Proofs.YthekpjhffciakaaDoor

namespace Go.Proofs.YthekpjhffciakaaDoor
open Go PG Go.Proofs
set_option linter.unusedSimpArgs false
set_option linter.unusedVariables false
set_option maxHeartbeats 4000000
set_option maxRecDepth 100000
variable {G : Globs}
theorem take_snoc {α : Type} {l : List α} {i : Nat} (h : i < l.length) : l.take (i + 1) = l.take i ++ [l[i]] := by
  rw [List.take_succ_eq_append_getElem h]
theorem ne_of_at {α : Type} {a b : List α} {i : Nat} (h1 : i < a.length) (h2 : i < b.length) (h : a[i] ≠ b[i]) : a ≠ b := by
  intro e; subst e; exact h rfl
theorem nd_eq {x y : Nd} (h1 : x.op = y.op) (h2 : x.num = y.num) (h3 : x.name = y.name) (h4 : x.kids = y.kids) : x = y := by
  cases x; cases y; simp_all
theorem v22 (a b : List Nd) (ha : a.length ≤ 100000) (hb : b.length ≤ 100000) (hka : ∀ x ∈ a, x.kids.length ≤ 100000) (hkb : ∀ x ∈ b, x.kids.length ≤ 100000) : VCalls Tryd.prog G 22 [.list (some 4) (a.map ndP), .list (some 4) (b.map ndP)] (.bool (decide (a = b))) := by
  refine VCalls.of_PW Tryd.func22 k22 mix (by simp [c22]) ?_
  simp only [c22, L22, CC, argE]
  have hla : ((a.map ndP).length : Nat) = a.length := by simp
  have hlb : ((b.map ndP).length : Nat) = b.length := by simp
  by_cases hl : a.length = b.length
  case neg =>
    have d1 : decide ((a.length : Int) = b.length) = false := by simp only [decide_eq_false_iff_not]; omega
    have hne : decide (a = b) = false := by simp only [decide_eq_false_iff_not]; intro e; exact hl (by rw [e])
    rw [hne]
    repeat' (first | exact True.intro | (refine PW.seqK ?_; intro K hK) | refine stp ?_ | refine seqK_n ‹_› ?_ | refine seqK_r ‹_› ?_ | refine seqK_e ‹_› ?_ | exact schedW_stop_i | refine schK_n ‹_› ?_ | (refine PW.cond rfl ?_ ?_ <;> intro hcond <;> (try contradiction) <;> try simp only [DD] at hcond) | (refine gd_i ?_; intro hg; try simp only [hg]) | (refine ari ?_; first | omega | (simp only [DD, LL] <;> omega) | (go_unwrap; omega)) | ((first | refine stq ?_ | show (_ : Post) _ _ _ | (refine schedW_alt_k ?_ ?_; intro K hK)); focus (simp only [hla, hlb, d1, SA, Nat.reduceAdd, reduceIte, Nat.reduceEqDiff, Nat.reduceBEq, reduceCtorEq]; (try go_unwrap; try simp only [hla, hlb, d1, RR, reduceCtorEq]))) | refine And.intro ?_ ?_ | exact Or.inr ⟨rfl, Nat.le_refl _⟩ | exact (fun h => Bool.noConfusion h))
  have d1 : decide ((a.length : Int) = b.length) = true := by simp only [decide_eq_true_eq]; omega
  repeat' (first | exact True.intro | (refine PW.seqK ?_; intro K hK) | refine stp ?_ | refine seqK_n ‹_› ?_ | refine seqK_r ‹_› ?_ | refine seqK_e ‹_› ?_ | exact schedW_stop_i | refine schK_n ‹_› ?_ | (refine PW.cond rfl ?_ ?_ <;> intro hcond <;> (try contradiction) <;> try simp only [DD] at hcond) | (refine gd_i ?_; intro hg; try simp only [hg]) | (refine ari ?_; first | omega | (simp only [DD, LL] <;> omega) | (go_unwrap; omega)) | ((first | refine stq ?_ | show (_ : Post) _ _ _ | (refine schedW_alt_k ?_ ?_; intro K hK)); focus (simp only [hla, hlb, d1, SA, Nat.reduceAdd, reduceIte, Nat.reduceEqDiff, Nat.reduceBEq, reduceCtorEq]; (try go_unwrap; try simp only [hla, hlb, d1, RR, reduceCtorEq]))) | refine And.intro ?_ ?_ | exact Or.inr ⟨rfl, Nat.le_refl _⟩ | exact (fun h => Bool.noConfusion h))
  refine PW.loop (σ := Nat) [0, 1, 5] (fun i => [.list (some 4) (a.map ndP), .list (some 4) (b.map ndP), .int .i64 i]) (fun _ => []) (fun i => i ≤ a.length ∧ a.take i = b.take i) (fun i => a.length - i) 0 ?_ rfl ⟨by omega, by simp⟩ ?_
  · simp only [SA, Nat.reduceAdd, reduceIte, Nat.reduceEqDiff, Nat.reduceBEq, reduceCtorEq]; rfl
  rintro i ⟨hi, ht⟩
  simp only [List.zip_cons_cons, List.zip_nil_left]
  rcases Nat.lt_or_ge i a.length with h | h
  case inr =>
    have d2 : decide ((i : Int) < a.length) = false := by simp only [decide_eq_false_iff_not]; omega
    have he : decide (a = b) = true := by
      simp only [decide_eq_true_eq]
      rw [List.take_of_length_le h, List.take_of_length_le (by omega)] at ht
      exact ht
    repeat' (first | exact True.intro | (refine PW.seqK ?_; intro K hK) | refine stp ?_ | refine seqK_n ‹_› ?_ | refine seqK_r ‹_› ?_ | refine seqK_e ‹_› ?_ | exact schedW_stop_i | refine schK_n ‹_› ?_ | (refine PW.cond rfl ?_ ?_ <;> intro hcond <;> (try contradiction) <;> try simp only [DD] at hcond) | (refine gd_i ?_; intro hg; try simp only [hg]) | (refine ari ?_; first | omega | (simp only [DD, LL] <;> omega) | (go_unwrap; omega)) | ((first | refine stq ?_ | show (_ : Post) _ _ _ | (refine schedW_alt_k ?_ ?_; intro K hK)); focus (simp only [hla, hlb, d2, SA, Nat.reduceAdd, reduceIte, Nat.reduceEqDiff, Nat.reduceBEq, reduceCtorEq]; (try go_unwrap; try simp only [hla, hlb, d2, RR, reduceCtorEq]))) | refine And.intro ?_ ?_ | exact Or.inr ⟨rfl, Nat.le_refl _⟩ | exact (fun h => Bool.noConfusion h))
    all_goals rw [he]
  have hib : i < b.length := by omega
  have d2 : decide ((i : Int) < a.length) = true := by simp only [decide_eq_true_eq]; omega
  have hga : (a.map ndP).getD i .junk = .agg [.int .i64 a[i].op, .int .i64 a[i].num, .str a[i].name, .list none (a[i].kids.map (PV.int .i64))] := by simp [List.getD, h, ndP, ndC, kidsP]
  have hgb : (b.map ndP).getD i .junk = .agg [.int .i64 b[i].op, .int .i64 b[i].num, .str b[i].name, .list none (b[i].kids.map (PV.int .i64))] := by simp [List.getD, hib, ndP, ndC, kidsP]
  have hne := ne_of_at h hib
  have hts : a[i] = b[i] → a.take (i + 1) = b.take (i + 1) := fun e => by rw [take_snoc h, take_snoc hib, ht, e]
  have hkx := hka a[i] (List.getElem_mem h)
  have hky := hkb b[i] (List.getElem_mem hib)
  have hlx : ((a[i].kids.map (PV.int .i64)).length : Nat) = a[i].kids.length := by simp
  have hly : ((b[i].kids.map (PV.int .i64)).length : Nat) = b[i].kids.length := by simp
  generalize a[i] = x at *
  generalize b[i] = y at *
  by_cases c : x.op = y.op ∧ x.num = y.num ∧ x.name = y.name ∧ x.kids.length = y.kids.length
  case neg =>
    have hf : decide (a = b) = false := by
      simp only [decide_eq_false_iff_not]; intro e
      exact hne (fun e => c (by subst e; exact ⟨rfl, rfl, rfl, rfl⟩)) e
    have dk : decide ((x.kids.length : Int) = y.kids.length) = decide (x.kids.length = y.kids.length) := by rw [Bool.eq_iff_iff, decide_eq_true_eq, decide_eq_true_eq]; omega
    have hc : (!decide (x.op = y.op) || !decide (x.num = y.num) || !decide (x.name = y.name) || !decide (x.kids.length = y.kids.length)) = true := by
      by_cases c1 : x.op = y.op <;> by_cases c2 : x.num = y.num <;> by_cases c3 : x.name = y.name <;> by_cases c4 : x.kids.length = y.kids.length <;> simp_all
    repeat' (first | exact True.intro | (refine PW.seqK ?_; intro K hK) | refine stp ?_ | refine seqK_n ‹_› ?_ | refine seqK_r ‹_› ?_ | refine seqK_e ‹_› ?_ | exact schedW_stop_i | refine schK_n ‹_› ?_ | (refine PW.cond rfl ?_ ?_ <;> intro hcond <;> (try contradiction) <;> try simp only [DD] at hcond) | (refine gd_i ?_; intro hg; try simp only [hg]) | (refine ari ?_; first | omega | (simp only [DD, LL] <;> omega) | (go_unwrap; omega)) | ((first | refine stq ?_ | show (_ : Post) _ _ _ | (refine schedW_alt_k ?_ ?_; intro K hK)); focus (simp only [hla, hlb, d2, hga, hgb, hlx, hly, PV.bin, PV.binOk, binI, dk, SA, Nat.reduceAdd, reduceIte, Nat.reduceEqDiff, Nat.reduceBEq, reduceCtorEq]; (try go_unwrap; try simp only [hla, hlb, d2, hga, hgb, hlx, hly, PV.bin, PV.binOk, binI, dk, RR, reduceCtorEq]))) | refine And.intro ?_ ?_ | exact Or.inr ⟨rfl, Nat.le_refl _⟩ | exact (fun h => Bool.noConfusion h))
    all_goals first | (rw [hf]; done) | (exfalso; grind)
  obtain ⟨c1, c2, c3, c4⟩ := c
  have e1 : decide (x.op = y.op) = true := decide_eq_true c1
  have e2 : decide (x.num = y.num) = true := decide_eq_true c2
  have e3 : decide (x.name = y.name) = true := decide_eq_true c3
  have e4 : decide ((x.kids.length : Int) = y.kids.length) = true := by simp only [decide_eq_true_eq]; omega
  repeat' (first | exact True.intro | (refine PW.seqK ?_; intro K hK) | refine stp ?_ | refine seqK_n ‹_› ?_ | refine seqK_r ‹_› ?_ | refine seqK_e ‹_› ?_ | exact schedW_stop_i | refine schK_n ‹_› ?_ | (refine PW.cond rfl ?_ ?_ <;> intro hcond <;> (try contradiction) <;> try simp only [DD] at hcond) | (refine gd_i ?_; intro hg; try simp only [hg]) | (refine ari ?_; first | omega | (simp only [DD, LL] <;> omega) | (go_unwrap; omega)) | ((first | refine stq ?_ | show (_ : Post) _ _ _ | (refine schedW_alt_k ?_ ?_; intro K hK)); focus (simp only [hla, hlb, d2, hga, hgb, hlx, hly, PV.bin, PV.binOk, binI, decide_eq_true c1, decide_eq_true c2, decide_eq_true c3, e4, SA, Nat.reduceAdd, reduceIte, Nat.reduceEqDiff, Nat.reduceBEq, reduceCtorEq]; (try go_unwrap; try simp only [hla, hlb, d2, hga, hgb, hlx, hly, PV.bin, PV.binOk, binI, decide_eq_true c1, decide_eq_true c2, decide_eq_true c3, e4, RR, reduceCtorEq]))) | refine And.intro ?_ ?_ | exact Or.inr ⟨rfl, Nat.le_refl _⟩ | exact (fun h => Bool.noConfusion h))
  refine PW.loop (σ := Nat) [0, 1, 5, 6] (fun j => [.list (some 4) (a.map ndP), .list (some 4) (b.map ndP), .int .i64 i, .int .i64 j]) (fun _ => []) (fun j => j ≤ x.kids.length ∧ x.kids.take j = y.kids.take j) (fun j => x.kids.length - j) 0 ?_ rfl ⟨by omega, by simp⟩ ?_
  · simp only [SA, Nat.reduceAdd, reduceIte, Nat.reduceEqDiff, Nat.reduceBEq, reduceCtorEq]; rfl
  rintro j ⟨hj, hu⟩
  simp only [List.zip_cons_cons, List.zip_nil_left]
  rcases Nat.lt_or_ge j x.kids.length with h' | h'
  · have hjy : j < y.kids.length := by omega
    have d3 : decide ((j : Int) < x.kids.length) = true := by simp only [decide_eq_true_eq]; omega
    have hgx : (x.kids.map (PV.int .i64)).getD j .junk = .int .i64 x.kids[j] := by simp [List.getD, h']
    have hgy : (y.kids.map (PV.int .i64)).getD j .junk = .int .i64 y.kids[j] := by simp [List.getD, hjy]
    have hnk := ne_of_at h' hjy
    have hus : x.kids[j] = y.kids[j] → x.kids.take (j + 1) = y.kids.take (j + 1) := fun e => by rw [take_snoc h', take_snoc hjy, hu, e]
    generalize x.kids[j] = p at *
    generalize y.kids[j] = q at *
    by_cases e : p = q
    · repeat' (first | exact True.intro | (refine PW.seqK ?_; intro K hK) | refine stp ?_ | refine seqK_n ‹_› ?_ | refine seqK_r ‹_› ?_ | refine seqK_e ‹_› ?_ | exact schedW_stop_i | refine schK_n ‹_› ?_ | (refine PW.cond rfl ?_ ?_ <;> intro hcond <;> (try contradiction) <;> try simp only [DD] at hcond) | (refine gd_i ?_; intro hg; try simp only [hg]) | (refine ari ?_; first | omega | (simp only [DD, LL] <;> omega) | (go_unwrap; omega)) | ((first | refine stq ?_ | show (_ : Post) _ _ _ | (refine schedW_alt_k ?_ ?_; intro K hK)); focus (simp only [hla, hlb, d3, hga, hgb, hlx, hly, hgx, hgy, PV.bin, PV.binOk, binI, decide_eq_true e, SA, Nat.reduceAdd, reduceIte, Nat.reduceEqDiff, Nat.reduceBEq, reduceCtorEq]; (try go_unwrap; try simp only [hla, hlb, d3, hga, hgb, hlx, hly, hgx, hgy, PV.bin, PV.binOk, binI, decide_eq_true e, RR, reduceCtorEq]))) | refine And.intro ?_ ?_ | exact Or.inr ⟨rfl, Nat.le_refl _⟩ | exact (fun h => Bool.noConfusion h))
      all_goals exact ⟨j + 1, rfl, ⟨by omega, hus e⟩, by omega⟩
    · have hf : decide (a = b) = false := by
        simp only [decide_eq_false_iff_not]; intro e'
        exact hne (fun e2 => hnk e (by rw [e2])) e'
      repeat' (first | exact True.intro | (refine PW.seqK ?_; intro K hK) | refine stp ?_ | refine seqK_n ‹_› ?_ | refine seqK_r ‹_› ?_ | refine seqK_e ‹_› ?_ | exact schedW_stop_i | refine schK_n ‹_› ?_ | (refine PW.cond rfl ?_ ?_ <;> intro hcond <;> (try contradiction) <;> try simp only [DD] at hcond) | (refine gd_i ?_; intro hg; try simp only [hg]) | (refine ari ?_; first | omega | (simp only [DD, LL] <;> omega) | (go_unwrap; omega)) | ((first | refine stq ?_ | show (_ : Post) _ _ _ | (refine schedW_alt_k ?_ ?_; intro K hK)); focus (simp only [hla, hlb, d3, hga, hgb, hlx, hly, hgx, hgy, PV.bin, PV.binOk, binI, decide_eq_false e, SA, Nat.reduceAdd, reduceIte, Nat.reduceEqDiff, Nat.reduceBEq, reduceCtorEq]; (try go_unwrap; try simp only [hla, hlb, d3, hga, hgb, hlx, hly, hgx, hgy, PV.bin, PV.binOk, binI, decide_eq_false e, RR, reduceCtorEq]))) | refine And.intro ?_ ?_ | exact Or.inr ⟨rfl, Nat.le_refl _⟩ | exact (fun h => Bool.noConfusion h))
      all_goals rw [hf]
  · have d3 : decide ((j : Int) < x.kids.length) = false := by simp only [decide_eq_false_iff_not]; omega
    have hk : x.kids = y.kids := by
      rw [List.take_of_length_le h', List.take_of_length_le (by omega)] at hu
      exact hu
    have hxy := nd_eq c1 c2 c3 hk
    repeat' (first | exact True.intro | (refine PW.seqK ?_; intro K hK) | refine stp ?_ | refine seqK_n ‹_› ?_ | refine seqK_r ‹_› ?_ | refine seqK_e ‹_› ?_ | exact schedW_stop_i | refine schK_n ‹_› ?_ | (refine PW.cond rfl ?_ ?_ <;> intro hcond <;> (try contradiction) <;> try simp only [DD] at hcond) | (refine gd_i ?_; intro hg; try simp only [hg]) | (refine ari ?_; first | omega | (simp only [DD, LL] <;> omega) | (go_unwrap; omega)) | ((first | refine stq ?_ | show (_ : Post) _ _ _ | (refine schedW_alt_k ?_ ?_; intro K hK)); focus (simp only [hla, hlb, d3, hga, hgb, hlx, hly, PV.bin, PV.binOk, binI, SA, Nat.reduceAdd, reduceIte, Nat.reduceEqDiff, Nat.reduceBEq, reduceCtorEq]; (try go_unwrap; try simp only [hla, hlb, d3, hga, hgb, hlx, hly, PV.bin, PV.binOk, binI, RR, reduceCtorEq]))) | refine And.intro ?_ ?_ | exact Or.inr ⟨rfl, Nat.le_refl _⟩ | exact (fun h => Bool.noConfusion h))
    all_goals exact ⟨i + 1, rfl, ⟨by omega, hts hxy⟩, by omega⟩
end Go.Proofs.YthekpjhffciakaaDoor

