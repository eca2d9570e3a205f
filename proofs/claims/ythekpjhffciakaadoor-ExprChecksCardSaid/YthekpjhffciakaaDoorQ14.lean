import Derived.Test.YthekpjhffciakaaDoorProg
import Derived.KernelRfl
import Derived.Test.YthekpjhffciakaaDoorQ10
import Derived.Test.YthekpjhffciakaaDoorQ12
import Derived.Test.YthekpjhffciakaaDoorQ13
import Derived.Test.YthekpjhffciakaaDoorP4
namespace Go.Proofs.YthekpjhffciakaaDoor
open Go PG Go.Proofs
set_option linter.unusedSimpArgs false
set_option linter.unusedVariables false
set_option maxHeartbeats 4000000
set_option maxRecDepth 100000
theorem e85 : Ent Tryd.prog 85 := ⟨Tryd.f85, Tryd.func85, by kernel_rfl, by kernel_rfl⟩
abbrev nmQ (t : List UInt8) : Int := (numOf t).1
abbrev wE (d : List Tok) (n : Nat) : List Tok := d ++ [(0, [], n)]
def dtP (t : Tok) : PV := .agg [.int .i64 t.1, .str t.2.1, .int .i64 (if t.1 = 2 then nmQ t.2.1 else 0), .int .i64 t.2.2]
abbrev dtsP (d : List Tok) : PV := .list (some 4) (d.map dtP)
def badP (d : List Tok) (n : Nat) (s : PS) : Int := if s.e = 0 then 0 else (tkAt (wE d n) s.at_).2.2
def rqP (d : List Tok) (n : Nat) (s : PS) : MObj := .var (some 6) (.agg [dtsP d, .int .i64 s.at_, .int .i64 n, .sl (some 4) 1 s.out.length, .int .i64 s.e, .int .i64 (badP d n s)])
def RqC (d : List Tok) (n : Nat) (f : Nat) (as_ : List PV) (ν : Mem) (s : PS) (r : Int × PS) : Prop :=
  PCalls Tryd.prog G0 f as_ (some (rqP d n s) :: some (rowO s) :: ν) (killTag 1) (fun p μ' => p = .int .i64 r.1 ∧ μ' = some (rqP d n r.2) :: some (rowO r.2) :: ν)
theorem RqC.frame {d : List Tok} {n : Nat} {f : Nat} {as_ : List PV} {s : PS} {r : Int × PS} (h : RqC d n f as_ [] s r) (ν : Mem) (hν : ν.map (Option.map (MObj.kill (killTag 1))) = ν) (ha : as_.map (PV.kill fun t => decide (2 ≤ t)) = as_) : RqC d n f as_ ν s r := by
  have := PCalls.frame h ν (by rintro p μ' ⟨-, rfl⟩; rfl) ha (by simp [rqP, rowO, MObj.kill, PV.kill]) hν
  intro w κ vs hS hG hr
  refine (this w κ vs hS hG hr).mono ?_
  rintro e w' ⟨v, p, μ', κ', rfl, ⟨μ1, ⟨rfl, rfl⟩, rfl⟩, hS', hv, hg⟩
  exact ⟨v, _, _, κ', rfl, ⟨rfl, rfl⟩, hS', hv, hg⟩
theorem r1 (a b c d e f : PV) (k : IntKind) (v : Int) : putPart (some 6) none (.agg [a, b, c, d, e, f]) 1 (.int k v) = .agg [a, .int k v, c, d, e, f] := rfl
end Go.Proofs.YthekpjhffciakaaDoor

namespace Go.Proofs.YthekpjhffciakaaDoor
open Go PG Go.Proofs
set_option linter.unusedSimpArgs false
set_option linter.unusedVariables false
set_option maxHeartbeats 4000000
set_option maxRecDepth 100000
end Go.Proofs.YthekpjhffciakaaDoor

namespace Go.Proofs.YthekpjhffciakaaDoor
open Go PG Go.Proofs
set_option linter.unusedSimpArgs false
set_option linter.unusedVariables false
set_option maxHeartbeats 4000000
set_option maxRecDepth 100000
end Go.Proofs.YthekpjhffciakaaDoor

namespace Go.Proofs.YthekpjhffciakaaDoor
open PG Go.Proofs
-- wagebook/wagebookref13.Check
def L54 : List Nat := [0, 1, 4, 5, 6, 7, 8, 9, 10, 13, 16, 23, 33, 40, 45, 65, 92, 112, 117, 124, 130]
def c54 : CF := ⟨131,
 .seq (.region false [⟨some 4, none, .rd .mov [.pv (.int .i64 0)]⟩] L54)
 (.seq (.seq (.region false [oM 11 0,
 ⟨some 12, none, .rd .lenL [.tmp 11]⟩,
 ⟨some 13, none, .rd (.bin .eql) [.tmp 12, .pv (.int .i64 0)]⟩] L54)
 (.cond (.tmp 13)
 (.seq (.region false [⟨some 4, none, .rd .mov [.pv (.int .i64 10)]⟩] L54)
 (.ret))
 (.skip)))
 (.seq (.seq (.region false [oM 14 0,
 ⟨some 15, none, .rd .lenL [.tmp 14]⟩,
 ⟨some 16, none, .rd (.bin .gtr) [.tmp 15, .pv (.int .i64 256)]⟩] L54)
 (.cond (.tmp 16)
 (.seq (.region false [⟨some 4, none, .rd .mov [.pv (.int .i64 5)]⟩] L54)
 (.ret))
 (.skip)))
 (.seq (.region false [oM 17 0,
 ⟨some 18, none, .rd .lenL [.tmp 17]⟩,
 ⟨some 19, none, .eff (.make none (.bool false) 1) [.tmp 18, .tmp 18]⟩,
 oM 5 19] L54)
 (.seq (.seq (.region false [⟨some 6, none, .rd .mov [.pv (.int .i64 0)]⟩] L54)
 (.block 0
 (.loop
 (.seq (.seq (.region false [oM 20 6,
 oM 21 0,
 ⟨some 22, none, .rd .lenL [.tmp 21]⟩,
 ⟨some 23, none, .rd (.bin .lss) [.tmp 20, .tmp 22]⟩] L54)
 (.cond (.tmp 23)
 (.skip)
 (.exit 0)))
 (.seq (.block 1
 (.seq (.region false [oM 26 0,
 oM 27 6,
 ⟨some 28, none, .rd (.idxAddr (some 4)) [.tmp 26, .tmp 27]⟩,
 ⟨some 29, none, .rd (.load (some 4)) [.tmp 28]⟩,
 ⟨some 7, none, .eff (.alloc (some 4) (.agg [(.int .i64 0), (.int .i64 0), (.str []), .nilSl])) []⟩,
 ⟨none, none, .eff (.store (some 4)) [.tmp 7, .tmp 29]⟩] L54)
 (.seq (.seq (.region false [oF 0 30 7,
 oL 31 30,
 ⟨some 32, none, .call (.pv (.fn 85 [] [])) [.tmp 31]⟩,
 ⟨some 33, none, .rd (.bin .lss) [.tmp 32, .pv (.int .i64 0)]⟩] L54)
 (.cond (.tmp 33)
 (.seq (.region false [⟨some 4, none, .rd .mov [.pv (.int .i64 11)]⟩] L54)
 (.ret))
 (.skip)))
 (.seq (.seq (.region true [oF 3 34 7,
 oL 35 34,
 ⟨some 36, none, .rd .lenL [.tmp 35]⟩,
 oF 0 37 7,
 oL 38 37,
 ⟨some 39, none, .call (.pv (.fn 85 [] [])) [.tmp 38]⟩,
 ⟨some 40, none, .rd (.bin .neq) [.tmp 36, .tmp 39]⟩] L54)
 (.cond (.tmp 40)
 (.seq (.region false [⟨some 4, none, .rd .mov [.pv (.int .i64 3)]⟩] L54)
 (.ret))
 (.skip)))
 (.seq (.seq (.region false [⟨some 8, none, .rd .mov [.pv (.int .i64 0)]⟩] L54)
 (.block 2
 (.loop
 (.seq (.seq (.region false [oM 41 8,
 oF 3 42 7,
 oL 43 42,
 ⟨some 44, none, .rd .lenL [.tmp 43]⟩,
 ⟨some 45, none, .rd (.bin .lss) [.tmp 41, .tmp 44]⟩] L54)
 (.cond (.tmp 45)
 (.skip)
 (.exit 2)))
 (.seq (.block 3
 (.seq (.region false [oF 3 48 7,
 oL 49 48,
 oM 50 8,
 ⟨some 51, none, .rd (.idxAddr none) [.tmp 49, .tmp 50]⟩,
 oL 52 51,
 oM 9 52] L54)
 (.seq (.seq (.region false [oM 53 9,
 ⟨some 54, none, .rd (.bin .lss) [.tmp 53, .pv (.int .i64 0)]⟩,
 oM 55 54,
 qM 55 false 56 9,
 qM 55 false 57 6,
 ⟨some 58, some (55, false), .rd (.bin .geq) [.tmp 56, .tmp 57]⟩,
 ⟨some 59, none, .rd .pick [.tmp 55, .pv (.bool true), .tmp 58]⟩,
 oM 60 59,
 qM 60 false 61 5,
 qM 60 false 62 9,
 ⟨some 63, some (60, false), .rd (.idxAddr none) [.tmp 61, .tmp 62]⟩,
 qL 60 false 64 63,
 ⟨some 65, none, .rd .pick [.tmp 60, .pv (.bool true), .tmp 64]⟩] L54)
 (.cond (.tmp 65)
 (.seq (.region false [⟨some 4, none, .rd .mov [.pv (.int .i64 8)]⟩] L54)
 (.ret))
 (.skip)))
 (.region false [oM 66 5,
 oM 67 9,
 ⟨some 68, none, .rd (.idxAddr none) [.tmp 66, .tmp 67]⟩,
 ⟨none, none, .eff (.store none) [.tmp 68, .pv (.bool true)]⟩] L54))))
 (.region false [oM 46 8,
 ⟨some 47, none, .rd (.bin .add) [.tmp 46, .pv (.int .i64 1)]⟩,
 oM 8 47] L54))))))
 (.seq (.seq (.region false [oF 1 69 7,
 oL 70 69,
 ⟨some 71, none, .rd (.bin .lss) [.tmp 70, .pv (.int .i64 0)]⟩,
 oM 72 71,
 qF 1 72 false 73 7,
 qL 72 false 74 73,
 ⟨some 75, some (72, false), .rd (.bin .gtr) [.tmp 74, .pv (.int .i64 1000000000000000000)]⟩,
 ⟨some 76, none, .rd .pick [.tmp 72, .pv (.bool true), .tmp 75]⟩,
 oM 77 76,
 qF 1 77 false 78 7,
 qL 77 false 79 78,
 ⟨some 80, some (77, false), .rd (.bin .rem) [.tmp 79, .pv (.int .i64 100)]⟩,
 ⟨some 81, some (77, false), .rd (.bin .neq) [.tmp 80, .pv (.int .i64 0)]⟩,
 ⟨some 82, none, .rd .pick [.tmp 77, .pv (.bool true), .tmp 81]⟩,
 oM 83 82,
 qF 0 83 false 84 7,
 qL 83 false 85 84,
 ⟨some 86, some (83, false), .rd (.bin .neq) [.tmp 85, .pv (.int .i64 0)]⟩,
 qM 83 false 87 86,
 qF 1 87 true 88 7,
 qL 87 true 89 88,
 ⟨some 90, some (87, true), .rd (.bin .neq) [.tmp 89, .pv (.int .i64 0)]⟩,
 ⟨some 91, some (83, false), .rd .pick [.tmp 87, .tmp 90, .pv (.bool false)]⟩,
 ⟨some 92, none, .rd .pick [.tmp 83, .pv (.bool true), .tmp 91]⟩] L54)
 (.cond (.tmp 92)
 (.seq (.region false [⟨some 4, none, .rd .mov [.pv (.int .i64 2)]⟩] L54)
 (.ret))
 (.skip)))
 (.seq (.region false [oF 0 93 7,
 oL 94 93,
 ⟨some 95, none, .rd (.bin .eql) [.tmp 94, .pv (.int .i64 1)]⟩,
 oM 96 95,
 qM 96 true 97 1,
 qM 96 true 98 6,
 ⟨some 99, some (96, true), .rd (.idxAddr none) [.tmp 97, .tmp 98]⟩,
 qL 96 true 100 99,
 ⟨some 101, some (96, true), .rd (.un .not) [.tmp 100]⟩,
 ⟨some 102, none, .rd .pick [.tmp 96, .tmp 101, .pv (.bool false)]⟩,
 oM 103 102,
 qF 0 103 false 104 7,
 qL 103 false 105 104,
 ⟨some 106, some (103, false), .rd (.bin .neq) [.tmp 105, .pv (.int .i64 1)]⟩,
 qM 103 false 107 106,
 qF 2 107 true 108 7,
 qL 107 true 109 108,
 ⟨some 110, some (107, true), .rd (.bin .neq) [.tmp 109, .pv (.str [])]⟩,
 ⟨some 111, some (103, false), .rd .pick [.tmp 107, .tmp 110, .pv (.bool false)]⟩,
 ⟨some 112, none, .rd .pick [.tmp 103, .pv (.bool true), .tmp 111]⟩] L54)
 (.cond (.tmp 112)
 (.seq (.region false [⟨some 4, none, .rd .mov [.pv (.int .i64 12)]⟩] L54)
 (.ret))
 (.skip)))))))))
 (.region false [oM 24 6,
 ⟨some 25, none, .rd (.bin .add) [.tmp 24, .pv (.int .i64 1)]⟩,
 oM 6 25] L54))))))
 (.seq (.seq (.region false [⟨some 10, none, .rd .mov [.pv (.int .i64 0)]⟩] L54)
 (.block 4
 (.loop
 (.seq (.seq (.region false [oM 113 10,
 oM 114 0,
 ⟨some 115, none, .rd .lenL [.tmp 114]⟩,
 ⟨some 116, none, .rd (.bin .sub) [.tmp 115, .pv (.int .i64 1)]⟩,
 ⟨some 117, none, .rd (.bin .lss) [.tmp 113, .tmp 116]⟩] L54)
 (.cond (.tmp 117)
 (.skip)
 (.exit 4)))
 (.seq (.block 5
 (.seq (.region false [oM 120 5,
 oM 121 10,
 ⟨some 122, none, .rd (.idxAddr none) [.tmp 120, .tmp 121]⟩,
 oL 123 122,
 ⟨some 124, none, .rd (.un .not) [.tmp 123]⟩] L54)
 (.cond (.tmp 124)
 (.seq (.region false [⟨some 4, none, .rd .mov [.pv (.int .i64 3)]⟩] L54)
 (.ret))
 (.skip))))
 (.region false [oM 118 10,
 ⟨some 119, none, .rd (.bin .add) [.tmp 118, .pv (.int .i64 1)]⟩,
 oM 10 119] L54))))))
 (.seq (.seq (.region false [oM 125 0,
 oM 126 0,
 ⟨some 127, none, .rd .lenL [.tmp 126]⟩,
 ⟨some 128, none, .rd (.bin .sub) [.tmp 127, .pv (.int .i64 1)]⟩,
 ⟨some 129, none, .call (.pv (.fn 52 [] [])) [.tmp 125, .tmp 128]⟩,
 ⟨some 130, none, .rd (.bin .gtr) [.tmp 129, .pv (.int .i64 16)]⟩] L54)
 (.cond (.tmp 130)
 (.seq (.region false [⟨some 4, none, .rd .mov [.pv (.int .i64 14)]⟩] L54)
 (.ret))
 (.skip)))
 (.seq (.region false [⟨some 4, none, .rd .mov [.pv (.int .i64 0)]⟩] L54)
 (.ret)))))))),
 [.tmp 4]⟩

-- wagebook/wagebookref13.Vars
def L37 : List Nat := [0, 2, 3, 4, 5, 6, 10, 50, 57]
def c37 : CF := ⟨63,
 .seq (.region false [⟨some 2, none, .rd .mov [.pv .nilSl]⟩] L37)
 (.seq (.region false [⟨some 3, none, .rd .mov [.pv .nilSl]⟩] L37)
 (.block 0
 (.loop
 (.block 1
 (.seq (.region false [⟨some 4, none, .rd .mov [.pv (.str [])]⟩,
 ⟨some 5, none, .rd .mov [.pv (.bool false)]⟩] L37)
 (.seq (.seq (.region false [⟨some 6, none, .rd .mov [.pv (.int .i64 0)]⟩] L37)
 (.block 2
 (.loop
 (.seq (.seq (.region false [oM 7 6,
 oM 8 0,
 ⟨some 9, none, .rd .lenL [.tmp 8]⟩,
 ⟨some 10, none, .rd (.bin .lss) [.tmp 7, .tmp 9]⟩] L37)
 (.cond (.tmp 10)
 (.skip)
 (.exit 2)))
 (.seq (.block 3
 (.seq (.region true [oM 13 0,
 oM 14 6,
 ⟨some 15, none, .rd (.idxAddr (some 4)) [.tmp 13, .tmp 14]⟩,
 oF 0 16 15,
 oL 17 16,
 ⟨some 18, none, .rd (.bin .eql) [.tmp 17, .pv (.int .i64 1)]⟩,
 oM 19 18,
 qM 19 true 20 3,
 ⟨some 21, some (19, true), .rd .lenL [.tmp 20]⟩,
 ⟨some 22, some (19, true), .rd (.bin .eql) [.tmp 21, .pv (.int .i64 0)]⟩,
 qM 19 true 23 22,
 qM 23 false 24 0,
 qM 23 false 25 6,
 ⟨some 26, some (23, false), .rd (.idxAddr (some 4)) [.tmp 24, .tmp 25]⟩,
 qF 2 23 false 27 26,
 qL 23 false 28 27,
 qM 23 false 29 3,
 qM 23 false 30 3,
 ⟨some 31, some (23, false), .rd .lenL [.tmp 30]⟩,
 ⟨some 32, some (23, false), .rd (.bin .sub) [.tmp 31, .pv (.int .i64 1)]⟩,
 ⟨some 33, some (23, false), .rd (.idxAddr none) [.tmp 29, .tmp 32]⟩,
 qL 23 false 34 33,
 ⟨some 35, some (23, false), .rd (.bin .gtr) [.tmp 28, .tmp 34]⟩,
 ⟨some 36, some (19, true), .rd .pick [.tmp 23, .pv (.bool true), .tmp 35]⟩,
 ⟨some 37, none, .rd .pick [.tmp 19, .tmp 36, .pv (.bool false)]⟩,
 oM 38 37,
 qM 38 true 39 5,
 ⟨some 40, some (38, true), .rd (.un .not) [.tmp 39]⟩,
 qM 38 true 41 40,
 qM 41 false 42 0,
 qM 41 false 43 6,
 ⟨some 44, some (41, false), .rd (.idxAddr (some 4)) [.tmp 42, .tmp 43]⟩,
 qF 2 41 false 45 44,
 qL 41 false 46 45,
 qM 41 false 47 4,
 ⟨some 48, some (41, false), .rd (.bin .lss) [.tmp 46, .tmp 47]⟩,
 ⟨some 49, some (38, true), .rd .pick [.tmp 41, .pv (.bool true), .tmp 48]⟩,
 ⟨some 50, none, .rd .pick [.tmp 38, .tmp 49, .pv (.bool false)]⟩] L37)
 (.cond (.tmp 50)
 (.region false [oM 51 0,
 oM 52 6,
 ⟨some 53, none, .rd (.idxAddr (some 4)) [.tmp 51, .tmp 52]⟩,
 oF 2 54 53,
 oL 55 54,
 oM 4 55,
 ⟨some 5, none, .rd .mov [.pv (.bool true)]⟩] L37)
 (.skip))))
 (.region false [oM 11 6,
 ⟨some 12, none, .rd (.bin .add) [.tmp 11, .pv (.int .i64 1)]⟩,
 oM 6 12] L37))))))
 (.seq (.seq (.region false [oM 56 5,
 ⟨some 57, none, .rd (.un .not) [.tmp 56]⟩] L37)
 (.cond (.tmp 57)
 (.seq (.region false [oM 58 3,
 oM 2 58] L37)
 (.ret))
 (.skip)))
 (.region false [oM 59 3,
 oM 60 4,
 ⟨some 61, none, .eff (.lit none false) [.tmp 60]⟩,
 ⟨some 62, none, .eff (.append none 16) [.tmp 59, .tmp 61]⟩,
 oM 3 62] L37)))))))),
 [.tmp 2]⟩
theorem k54 : compileF Tryd.prog [] L54 Tryd.f54 = some c54 := by kernel_rfl
theorem k37 : compileF Tryd.prog [] L37 Tryd.f37 = some c37 := by kernel_rfl
end Go.Proofs.YthekpjhffciakaaDoor

namespace Go.Proofs.YthekpjhffciakaaDoor
open Go PG Go.Proofs
set_option linter.unusedSimpArgs false
set_option linter.unusedVariables false
set_option maxHeartbeats 4000000
set_option maxRecDepth 100000
def kidsD (op : Int) : Int := if op < 0 ∨ 9 < op then -1 else kidsTab.getD op.toNat 0
theorem v85g (op : Int) : VCalls Tryd.prog G0 85 [.int .i64 op] (.int .i64 (kidsD op)) := by
  refine VCalls.of_PW Tryd.func85 k85 mix (by simp [c85]) ?_
  simp only [c85, L85, CC, argE]
  unfold kidsD
  by_cases h : op < 0 ∨ 9 < op
  · have d1 : (decide (op < 0) || decide (9 < op)) = true := by simpa using h
    rw [if_pos h]
    repeat' (first | exact True.intro | (exact Or.inr ⟨rfl, by decide⟩) | (refine PW.seqK ?_; intro K hK) | refine pwB ?_ | refine pwS ?_ | refine pwL ?_ | refine pwE ?_ | refine pwR ?_ | refine pwK ?_ | refine seqK_n ‹_› ?_ | refine seqK_r ‹_› ?_ | refine seqK_e ‹_› ?_ | refine PW.regionA ?_ | exact schedW_stop_i | refine schK_n ‹_› ?_ | (refine schedW_alt_k ?_ ?_; focus (intro K hK; simp only [d1, SA, Nat.reduceAdd, reduceIte, Nat.reduceEqDiff, Nat.reduceBEq, reduceCtorEq]; (try go_unwrap; try simp only [d1, RR, reduceCtorEq]))) | (refine PW.cond rfl ?_ ?_ <;> intro hcond <;> (try contradiction) <;> try simp only [DD] at hcond) | (refine gd_i ?_; intro hg; try simp only [hg]) | ((first | show (_ : Nat) ≤ _ | show (_ : Nat) < _ | show (_ : Int) ≤ _ | show (_ : Int) < _ | show (_ : Nat) = _ | show (_ : Int) = _ | show (_ : Bool) = _ | show _ ∨ _ | show ¬ _); first | omega | (simp only [DD, LL] <;> omega) | (go_unwrap; omega)) | ((first | refine PW.region ?_ | refine PW.regionQ ?_ | refine schedW_done_i ?_ | show (_ : Post) _ _ _ | show @Eq (List PV) _ _ | show @Eq Bool _ _ | show opsW _ _ _ _ _ _ _ _ | show okAll _ | show @Eq Bool _ _ ∨ _); focus (simp only [d1, SA, Nat.reduceAdd, reduceIte, Nat.reduceEqDiff, Nat.reduceBEq, reduceCtorEq]; (try go_unwrap; try simp only [d1, RR, reduceCtorEq]))) | refine And.intro ?_ ?_ | exact Or.inr ⟨rfl, Nat.le_refl _⟩ | exact (fun h => Bool.noConfusion h))
  · have d1 : (decide (op < 0) || decide (9 < op)) = false := by simpa using h
    rw [if_neg h]
    obtain ⟨k, rfl⟩ : ∃ k : Nat, op = k := ⟨op.toNat, by omega⟩
    have hk : k < 10 := by omega
    have ek : ((k : Int)).toNat = k := by omega
    have hg : ([.int .i64 0, .int .i64 0, .int .i64 2, .int .i64 2, .int .i64 2, .int .i64 2, .int .i64 2, .int .i64 3, .int .i64 2, .int .i64 2] : List PV).getD k .junk = .int .i64 (kidsTab.getD k 0) := by
      have : k = 0 ∨ k = 1 ∨ k = 2 ∨ k = 3 ∨ k = 4 ∨ k = 5 ∨ k = 6 ∨ k = 7 ∨ k = 8 ∨ k = 9 := by omega
      rcases this with rfl | rfl | rfl | rfl | rfl | rfl | rfl | rfl | rfl | rfl <;> rfl
    repeat' (first | exact True.intro | (refine PW.seqK ?_; intro K hK) | refine pwB ?_ | refine pwS ?_ | refine pwL ?_ | refine pwE ?_ | refine pwR ?_ | refine pwK ?_ | refine seqK_n ‹_› ?_ | refine seqK_r ‹_› ?_ | refine seqK_e ‹_› ?_ | refine PW.regionA ?_ | exact schedW_stop_i | refine schK_n ‹_› ?_ | (refine schedW_alt_k ?_ ?_; focus (intro K hK; simp only [d1, ek, hg, List.length_cons, List.length_nil, SA, Nat.reduceAdd, reduceIte, Nat.reduceEqDiff, Nat.reduceBEq, reduceCtorEq]; (try go_unwrap; try simp only [d1, ek, hg, List.length_cons, List.length_nil, RR, reduceCtorEq]))) | (refine PW.cond rfl ?_ ?_ <;> intro hcond <;> (try contradiction) <;> try simp only [DD] at hcond) | (refine gd_i ?_; intro hg; try simp only [hg]) | ((first | show (_ : Nat) ≤ _ | show (_ : Nat) < _ | show (_ : Int) ≤ _ | show (_ : Int) < _ | show (_ : Nat) = _ | show (_ : Int) = _ | show (_ : Bool) = _ | show _ ∨ _ | show ¬ _); first | omega | (simp only [DD, LL] <;> omega) | (go_unwrap; omega)) | ((first | refine PW.region ?_ | refine PW.regionQ ?_ | refine schedW_done_i ?_ | show (_ : Post) _ _ _ | show @Eq (List PV) _ _ | show @Eq Bool _ _ | show opsW _ _ _ _ _ _ _ _ | show okAll _ | show @Eq Bool _ _ ∨ _); focus (simp only [d1, ek, hg, List.length_cons, List.length_nil, SA, Nat.reduceAdd, reduceIte, Nat.reduceEqDiff, Nat.reduceBEq, reduceCtorEq]; (try go_unwrap; try simp only [d1, ek, hg, List.length_cons, List.length_nil, RR, reduceCtorEq]))) | refine And.intro ?_ ?_ | exact Or.inr ⟨rfl, Nat.le_refl _⟩ | exact (fun h => Bool.noConfusion h))
theorem rest_A {n : Nd} (ho : 0 ≤ n.op ∧ n.op ≤ 9) (h : (decide (n.num < 0) || decide (1000000000000000000 < n.num) || !decide (n.num.tmod 100 = 0) || !decide (n.op = 0) && !decide (n.num = 0)) = true) : restE n = 2 := by
  obtain ⟨h0, h9⟩ := ho
  simp only [Bool.or_eq_true, Bool.and_eq_true, Bool.not_eq_true', decide_eq_true_eq, decide_eq_false_iff_not] at h
  unfold restE
  rw [if_neg (by omega), if_pos]
  by_cases hz : n.op = 0
  · exact .inl ⟨hz, by omega⟩
  · refine .inr ⟨hz, fun e => ?_⟩
    rw [e] at h
    simp at h
theorem rest_B {n : Nd} (ho : 0 ≤ n.op ∧ n.op ≤ 9) (h : (decide (n.num < 0) || decide (1000000000000000000 < n.num) || !decide (n.num.tmod 100 = 0) || !decide (n.op = 0) && !decide (n.num = 0)) = false) (h2 : (decide (n.op = 1) && !isName n.name || !decide (n.op = 1) && !decide (n.name = [])) = true) : restE n = 12 := by
  obtain ⟨h0, h9⟩ := ho
  simp only [Bool.or_eq_false_iff, Bool.and_eq_false_iff, Bool.not_eq_false', decide_eq_true_eq, decide_eq_false_iff_not] at h
  simp only [Bool.or_eq_true, Bool.and_eq_true, Bool.not_eq_true', decide_eq_true_eq, decide_eq_false_iff_not] at h2
  unfold restE
  rw [if_neg (by omega), if_neg (by omega), if_pos h2]
theorem rest_C {n : Nd} (ho : 0 ≤ n.op ∧ n.op ≤ 9) (h : (decide (n.num < 0) || decide (1000000000000000000 < n.num) || !decide (n.num.tmod 100 = 0) || !decide (n.op = 0) && !decide (n.num = 0)) = false) (h2 : (decide (n.op = 1) && !isName n.name || !decide (n.op = 1) && !decide (n.name = [])) = false) : restE n = 0 := by
  obtain ⟨h0, h9⟩ := ho
  simp only [Bool.or_eq_false_iff, Bool.and_eq_false_iff, Bool.not_eq_false', decide_eq_true_eq, decide_eq_false_iff_not] at h h2
  unfold restE
  rw [if_neg (by omega), if_neg (by omega), if_neg]
  rintro (⟨a, b⟩ | ⟨a, b⟩)
  · rcases h2.1 with h | h
    · exact h a
    · rw [b] at h; cases h
  · rcases h2.2 with h | h
    · exact a h
    · exact b h
theorem v54 (l : List Nd) (hl : l.length ≤ 9223372036854775807) (hs : ∀ n ∈ l, n.name.length ≤ 9223372036854775807 ∧ n.kids.length ≤ 9223372036854775807) : VCalls Tryd.prog G0 54 [.list (some 4) (l.map ndP), .list none ((l.map fun n => isName n.name).map PV.bool)] (.int .i64 (checkM l)) := by
  refine VCalls.of_PW Tryd.func54 k54 mix (by simp [c54]) ?_
  simp only [c54, L54, CC, argE]
  have e85 : Ent Tryd.prog 85 := ⟨Tryd.f85, Tryd.func85, by kernel_rfl, by kernel_rfl⟩
  have e52 : Ent Tryd.prog 52 := ⟨Tryd.f52, Tryd.func52, by kernel_rfl, by kernel_rfl⟩
  by_cases h0 : l.length = 0
  · have hd : decide ((l.length : Int) = 0) = true := by simp only [decide_eq_true_eq]; omega
    repeat' (first | exact True.intro | (refine PW.seqK ?_; intro K hK) | refine pwB ?_ | refine pwS ?_ | refine pwL ?_ | refine pwE ?_ | refine pwR ?_ | refine pwK ?_ | refine seqK_n ‹_› ?_ | refine seqK_r ‹_› ?_ | refine seqK_e ‹_› ?_ | refine PW.regionA ?_ | exact schedW_stop_i | refine schK_n ‹_› ?_ | (refine schedW_alt_k ?_ ?_; focus (intro K hK; simp only [hd, List.length_map, SA, Nat.reduceAdd, reduceIte, Nat.reduceEqDiff, Nat.reduceBEq, reduceCtorEq]; (try go_unwrap; try simp only [hd, List.length_map, RR, reduceCtorEq]))) | (refine PW.cond rfl ?_ ?_ <;> intro hcond <;> (try contradiction) <;> try simp only [DD] at hcond) | (refine gd_i ?_; intro hg; try simp only [hg]) | ((first | show (_ : Nat) ≤ _ | show (_ : Nat) < _ | show (_ : Int) ≤ _ | show (_ : Int) < _ | show (_ : Nat) = _ | show (_ : Int) = _ | show (_ : Bool) = _ | show _ ∨ _ | show ¬ _); first | omega | (simp only [DD, LL] <;> omega) | (go_unwrap; omega)) | ((first | refine PW.region ?_ | refine PW.regionQ ?_ | refine schedW_done_i ?_ | show (_ : Post) _ _ _ | show @Eq (List PV) _ _ | show @Eq Bool _ _ | show opsW _ _ _ _ _ _ _ _ | show okAll _ | show @Eq Bool _ _ ∨ _); focus (simp only [hd, List.length_map, SA, Nat.reduceAdd, reduceIte, Nat.reduceEqDiff, Nat.reduceBEq, reduceCtorEq]; (try go_unwrap; try simp only [hd, List.length_map, RR, reduceCtorEq]))) | refine And.intro ?_ ?_ | exact Or.inr ⟨rfl, Nat.le_refl _⟩ | exact (fun h => Bool.noConfusion h))
    all_goals rw [checkM, if_pos h0]
  have hd0 : decide ((l.length : Int) = 0) = false := by simp only [decide_eq_false_iff_not]; omega
  by_cases h256 : 256 < l.length
  · have hd1 : decide (256 < (l.length : Int)) = true := by simp only [decide_eq_true_eq]; omega
    repeat' (first | exact True.intro | (refine PW.seqK ?_; intro K hK) | refine pwB ?_ | refine pwS ?_ | refine pwL ?_ | refine pwE ?_ | refine pwR ?_ | refine pwK ?_ | refine seqK_n ‹_› ?_ | refine seqK_r ‹_› ?_ | refine seqK_e ‹_› ?_ | refine PW.regionA ?_ | exact schedW_stop_i | refine schK_n ‹_› ?_ | (refine schedW_alt_k ?_ ?_; focus (intro K hK; simp only [hd0, hd1, List.length_map, SA, Nat.reduceAdd, reduceIte, Nat.reduceEqDiff, Nat.reduceBEq, reduceCtorEq]; (try go_unwrap; try simp only [hd0, hd1, List.length_map, RR, reduceCtorEq]))) | (refine PW.cond rfl ?_ ?_ <;> intro hcond <;> (try contradiction) <;> try simp only [DD] at hcond) | (refine gd_i ?_; intro hg; try simp only [hg]) | ((first | show (_ : Nat) ≤ _ | show (_ : Nat) < _ | show (_ : Int) ≤ _ | show (_ : Int) < _ | show (_ : Nat) = _ | show (_ : Int) = _ | show (_ : Bool) = _ | show _ ∨ _ | show ¬ _); first | omega | (simp only [DD, LL] <;> omega) | (go_unwrap; omega)) | ((first | refine PW.region ?_ | refine PW.regionQ ?_ | refine schedW_done_i ?_ | show (_ : Post) _ _ _ | show @Eq (List PV) _ _ | show @Eq Bool _ _ | show opsW _ _ _ _ _ _ _ _ | show okAll _ | show @Eq Bool _ _ ∨ _); focus (simp only [hd0, hd1, List.length_map, SA, Nat.reduceAdd, reduceIte, Nat.reduceEqDiff, Nat.reduceBEq, reduceCtorEq]; (try go_unwrap; try simp only [hd0, hd1, List.length_map, RR, reduceCtorEq]))) | refine And.intro ?_ ?_ | exact Or.inr ⟨rfl, Nat.le_refl _⟩ | exact (fun h => Bool.noConfusion h))
    all_goals rw [checkM, if_neg h0, if_pos h256]
  have hd1 : decide (256 < (l.length : Int)) = false := by simp only [decide_eq_false_iff_not]; omega
  have hm1 : ((1 : Nat) : Int) * (l.length : Int) ≤ 281474976710656 := by omega
  have hm2 : (l.length : Int) ≤ 9223372036854775807 := by omega
  have hm3 : 0 ≤ (l.length : Int) := by omega
  repeat' (first | exact True.intro | (refine PW.seqK ?_; intro K hK) | refine pwB ?_ | refine pwS ?_ | refine pwL ?_ | refine pwE ?_ | refine pwR ?_ | refine pwK ?_ | refine seqK_n ‹_› ?_ | refine seqK_r ‹_› ?_ | refine seqK_e ‹_› ?_ | refine PW.regionA ?_ | exact schedW_stop_i | refine schK_n ‹_› ?_ | (refine schedW_alt_k ?_ ?_; focus (intro K hK; simp only [hd0, hd1, List.length_map, hm1, hm2, hm3, Int.le_refl, SA, Nat.reduceAdd, reduceIte, Nat.reduceEqDiff, Nat.reduceBEq, reduceCtorEq]; (try go_unwrap; try simp only [hd0, hd1, List.length_map, hm1, hm2, hm3, Int.le_refl, RR, reduceCtorEq]))) | (refine PW.cond rfl ?_ ?_ <;> intro hcond <;> (try contradiction) <;> try simp only [DD] at hcond) | (refine gd_i ?_; intro hg; try simp only [hg]) | ((first | show (_ : Nat) ≤ _ | show (_ : Nat) < _ | show (_ : Int) ≤ _ | show (_ : Int) < _ | show (_ : Nat) = _ | show (_ : Int) = _ | show (_ : Bool) = _ | show _ ∨ _ | show ¬ _); first | omega | (simp only [DD, LL] <;> omega) | (go_unwrap; omega)) | ((first | refine PW.region ?_ | refine PW.regionQ ?_ | refine schedW_done_i ?_ | show (_ : Post) _ _ _ | show @Eq (List PV) _ _ | show @Eq Bool _ _ | show opsW _ _ _ _ _ _ _ _ | show okAll _ | show @Eq Bool _ _ ∨ _); focus (simp only [hd0, hd1, List.length_map, hm1, hm2, hm3, Int.le_refl, SA, Nat.reduceAdd, reduceIte, Nat.reduceEqDiff, Nat.reduceBEq, reduceCtorEq]; (try go_unwrap; try simp only [hd0, hd1, List.length_map, hm1, hm2, hm3, Int.le_refl, RR, reduceCtorEq]))) | refine And.intro ?_ ?_ | exact Or.inr ⟨rfl, Nat.le_refl _⟩ | exact (fun h => Bool.noConfusion h))
  have hC : checkM l = (match checkNodes l 0 (List.replicate l.length false) with
    | .error e => e
    | .ok t => if (t.take (l.length - 1)).contains false = true then 3 else if 16 < depthM l then 14 else 0) := by
    rw [checkM, if_neg h0, if_neg h256]
    cases checkNodes l 0 (List.replicate l.length false) <;> rfl
  refine PW.loopG (σ := Nat × List Bool) 1 (fun _ _ => rfl) [0, 1, 5, 6] (fun s => [.list (some 4) (l.map ndP), .list none ((l.map fun n => isName n.name).map PV.bool), .sl none 0 l.length, .int .i64 s.1])
    (fun s => [some (.row none (s.2.map PV.bool))])
    (fun s => s.1 ≤ l.length ∧ s.2.length = l.length ∧ checkNodes l 0 (List.replicate l.length false) = checkNodes (l.drop s.1) s.1 s.2) (fun s => l.length - s.1) (0, List.replicate l.length false) ?_ ?_ ⟨by simp, by simp, by simp⟩ ?_
  · simp only [SA, Nat.reduceAdd, reduceIte, Nat.reduceEqDiff, Nat.reduceBEq, reduceCtorEq, List.length_map, Int.toNat_natCast]; rfl
  · simp
  rintro ⟨i, t⟩ ⟨hi, htl, hr⟩
  simp only at hi htl hr
  simp only [List.zip_cons_cons, List.zip_nil_left]
  rcases Nat.lt_or_ge i l.length with h | h
  · obtain ⟨n, hd, hn, hg⟩ := drop_at h
    rw [hd, checkNodes] at hr
    have hd' : decide ((i : Int) < l.length) = true := by simp only [decide_eq_true_eq]; omega
    have hgn := ((hg ndP).1).trans (ndP1 n)
    have hgb : ((l.map fun n => isName n.name).map PV.bool).getD i .junk = .bool (isName n.name) := by
      have := (hg fun n => PV.bool (isName n.name)).1
      rw [List.map_map]; exact this
    have hsn := hs n (List.mem_of_getElem? hn)
    have h85 := v85g (op := n.op)
    by_cases hf : formE n = 0
    case neg =>
      rw [if_pos hf] at hr
      rw [hr] at hC
      have hF : formE n = if n.op < 0 ∨ 9 < n.op then 11 else if (n.kids.length : Int) ≠ kidsTab.getD n.op.toNat 0 then 3 else 0 := rfl
      by_cases ho : n.op < 0 ∨ 9 < n.op
      · rw [if_pos ho] at hF
        have hk : kidsD n.op = -1 := by unfold kidsD; rw [if_pos ho]
        rw [hk] at h85
        repeat' (first | exact True.intro | (refine PW.seqK ?_; intro K hK) | refine pwB ?_ | refine pwS ?_ | refine pwL ?_ | refine pwE ?_ | refine pwR ?_ | refine pwK ?_ | refine seqK_n ‹_› ?_ | refine seqK_r ‹_› ?_ | refine seqK_e ‹_› ?_ | refine PW.regionA ?_ | exact schedW_stop_i | refine schK_n ‹_› ?_ | (refine schedW_alt_k ?_ ?_; focus (intro K hK; simp only [hd', hgn, List.length_map, SA, Nat.reduceAdd, reduceIte, Nat.reduceEqDiff, Nat.reduceBEq, reduceCtorEq]; (try go_unwrap; try simp only [hd', hgn, List.length_map, RR, reduceCtorEq]))) | (refine PW.cond rfl ?_ ?_ <;> intro hcond <;> (try contradiction) <;> try simp only [DD] at hcond) | (refine gd_i ?_; intro hg; try simp only [hg]) | refine goCall_W e85 (h85) ?_ ?_ ?_ ?_ | ((first | show (_ : Nat) ≤ _ | show (_ : Nat) < _ | show (_ : Int) ≤ _ | show (_ : Int) < _ | show (_ : Nat) = _ | show (_ : Int) = _ | show (_ : Bool) = _ | show _ ∨ _ | show ¬ _); first | omega | (simp only [DD, LL] <;> omega) | (go_unwrap; omega)) | ((first | refine PW.region ?_ | refine PW.regionQ ?_ | refine schedW_done_i ?_ | show (_ : Post) _ _ _ | show @Eq (List PV) _ _ | show @Eq Bool _ _ | show opsW _ _ _ _ _ _ _ _ | show okAll _ | show @Eq Bool _ _ ∨ _); focus (simp only [hd', hgn, List.length_map, SA, Nat.reduceAdd, reduceIte, Nat.reduceEqDiff, Nat.reduceBEq, reduceCtorEq]; (try go_unwrap; try simp only [hd', hgn, List.length_map, RR, reduceCtorEq]))) | refine And.intro ?_ ?_ | exact Or.inr ⟨rfl, Nat.le_refl _⟩ | exact (fun h => Bool.noConfusion h))
        all_goals rw [hC, hF]
      · rw [if_neg ho] at hF
        have hk : kidsD n.op = kidsTab.getD n.op.toNat 0 := by unfold kidsD; rw [if_neg ho]
        have hk0 : decide (kidsD n.op < 0) = false := by
          rw [hk, decide_eq_false_iff_not]
          obtain ⟨k, hkk⟩ : ∃ k : Nat, n.op = k := ⟨n.op.toNat, by omega⟩
          rw [hkk]
          have : k = 0 ∨ k = 1 ∨ k = 2 ∨ k = 3 ∨ k = 4 ∨ k = 5 ∨ k = 6 ∨ k = 7 ∨ k = 8 ∨ k = 9 := by omega
          rcases this with rfl | rfl | rfl | rfl | rfl | rfl | rfl | rfl | rfl | rfl <;> decide
        have hlk : (n.kids.length : Int) ≠ kidsTab.getD n.op.toNat 0 := by
          intro e; rw [if_neg (by simp [e])] at hF; exact hf hF
        have hk1 : decide ((n.kids.length : Int) = kidsD n.op) = false := by rw [hk]; exact decide_eq_false hlk
        rw [if_pos hlk] at hF
        repeat' (first | exact True.intro | (refine PW.seqK ?_; intro K hK) | refine pwB ?_ | refine pwS ?_ | refine pwL ?_ | refine pwE ?_ | refine pwR ?_ | refine pwK ?_ | refine seqK_n ‹_› ?_ | refine seqK_r ‹_› ?_ | refine seqK_e ‹_› ?_ | refine PW.regionA ?_ | exact schedW_stop_i | refine schK_n ‹_› ?_ | (refine schedW_alt_k ?_ ?_; focus (intro K hK; simp only [hd', hgn, hk0, hk1, List.length_map, SA, Nat.reduceAdd, reduceIte, Nat.reduceEqDiff, Nat.reduceBEq, reduceCtorEq]; (try go_unwrap; try simp only [hd', hgn, hk0, hk1, List.length_map, RR, reduceCtorEq]))) | (refine PW.cond rfl ?_ ?_ <;> intro hcond <;> (try contradiction) <;> try simp only [DD] at hcond) | (refine gd_i ?_; intro hg; try simp only [hg]) | refine goCall_W e85 (h85) ?_ ?_ ?_ ?_ | ((first | show (_ : Nat) ≤ _ | show (_ : Nat) < _ | show (_ : Int) ≤ _ | show (_ : Int) < _ | show (_ : Nat) = _ | show (_ : Int) = _ | show (_ : Bool) = _ | show _ ∨ _ | show ¬ _); first | omega | (simp only [DD, LL] <;> omega) | (go_unwrap; omega)) | ((first | refine PW.region ?_ | refine PW.regionQ ?_ | refine schedW_done_i ?_ | show (_ : Post) _ _ _ | show @Eq (List PV) _ _ | show @Eq Bool _ _ | show opsW _ _ _ _ _ _ _ _ | show okAll _ | show @Eq Bool _ _ ∨ _); focus (simp only [hd', hgn, hk0, hk1, List.length_map, SA, Nat.reduceAdd, reduceIte, Nat.reduceEqDiff, Nat.reduceBEq, reduceCtorEq]; (try go_unwrap; try simp only [hd', hgn, hk0, hk1, List.length_map, RR, reduceCtorEq]))) | refine And.intro ?_ ?_ | exact Or.inr ⟨rfl, Nat.le_refl _⟩ | exact (fun h => Bool.noConfusion h))
        all_goals rw [hC, hF]
    rw [if_neg (by omega)] at hr
    obtain ⟨ho0, ho9, hok, hk3⟩ := formE_ok hf
    have hk : kidsD n.op = n.kids.length := by unfold kidsD; rw [if_neg (by omega), hok]
    rw [hk] at h85
    have hk0 : decide ((n.kids.length : Int) < 0) = false := by simp only [decide_eq_false_iff_not]; omega
    have hk1 : decide ((n.kids.length : Int) = n.kids.length) = true := by simp
    repeat' (first | exact True.intro | (refine PW.seqK ?_; intro K hK) | refine pwB ?_ | refine pwS ?_ | refine pwL ?_ | refine pwE ?_ | refine pwR ?_ | refine pwK ?_ | refine seqK_n ‹_› ?_ | refine seqK_r ‹_› ?_ | refine seqK_e ‹_› ?_ | refine PW.regionA ?_ | exact schedW_stop_i | refine schK_n ‹_› ?_ | (refine schedW_alt_k ?_ ?_; focus (intro K hK; simp only [hd', hgn, hk0, hk1, List.length_map, SA, Nat.reduceAdd, reduceIte, Nat.reduceEqDiff, Nat.reduceBEq, reduceCtorEq]; (try go_unwrap; try simp only [hd', hgn, hk0, hk1, List.length_map, RR, reduceCtorEq]))) | (refine PW.cond rfl ?_ ?_ <;> intro hcond <;> (try contradiction) <;> try simp only [DD] at hcond) | (refine gd_i ?_; intro hg; try simp only [hg]) | refine goCall_W e85 (h85) ?_ ?_ ?_ ?_ | ((first | show (_ : Nat) ≤ _ | show (_ : Nat) < _ | show (_ : Int) ≤ _ | show (_ : Int) < _ | show (_ : Nat) = _ | show (_ : Int) = _ | show (_ : Bool) = _ | show _ ∨ _ | show ¬ _); first | omega | (simp only [DD, LL] <;> omega) | (go_unwrap; omega)) | ((first | refine PW.region ?_ | refine PW.regionQ ?_ | refine schedW_done_i ?_ | show (_ : Post) _ _ _ | show @Eq (List PV) _ _ | show @Eq Bool _ _ | show opsW _ _ _ _ _ _ _ _ | show okAll _ | show @Eq Bool _ _ ∨ _); focus (simp only [hd', hgn, hk0, hk1, List.length_map, SA, Nat.reduceAdd, reduceIte, Nat.reduceEqDiff, Nat.reduceBEq, reduceCtorEq]; (try go_unwrap; try simp only [hd', hgn, hk0, hk1, List.length_map, RR, reduceCtorEq]))) | refine And.intro ?_ ?_ | exact Or.inr ⟨rfl, Nat.le_refl _⟩ | exact (fun h => Bool.noConfusion h))
    refine PW.loop (σ := Nat × List Bool) [0, 1, 5, 6, 7, 8] (fun s => [.list (some 4) (l.map ndP), .list none ((l.map fun n => isName n.name).map PV.bool), .sl none 0 l.length, .int .i64 i, .ref 1 0, .int .i64 s.1])
        (fun s => [some (.row none (s.2.map PV.bool)), some (.var (some 4) (.agg [.int .i64 n.op, .int .i64 n.num, .str n.name, .list none (n.kids.map (PV.int .i64))]))])
        (fun s => s.1 ≤ n.kids.length ∧ s.2.length = l.length ∧ kidsStep i n.kids t = kidsStep i (n.kids.drop s.1) s.2) (fun s => n.kids.length - s.1) (0, t) ?_ rfl ⟨by simp, htl, by simp⟩ ?_
    · simp only [SA, Nat.reduceAdd, reduceIte, Nat.reduceEqDiff, Nat.reduceBEq, reduceCtorEq, List.length_map]; rfl
    rintro ⟨j, u⟩ ⟨hj, hul, hk⟩
    simp only at hj hul hk
    simp only [List.zip_cons_cons, List.zip_nil_left]
    rcases Nat.lt_or_ge j n.kids.length with h' | h'
    · obtain ⟨k, hkd, hkn', hkg⟩ := drop_at h'
      rw [hkd, kidsStep] at hk
      have hd2 : decide ((j : Int) < n.kids.length) = true := by simp only [decide_eq_true_eq]; omega
      by_cases hk1 : k < 0 ∨ (i : Int) ≤ k
      · have hd3 : (decide (k < 0) || decide ((i : Int) ≤ k)) = true := by simpa using hk1
        have hb : k < 0 ∨ (i : Int) ≤ k ∨ u.getD k.toNat false = true := hk1.imp id Or.inl
        rw [if_pos hb] at hk
        rw [hk] at hr
        repeat' (first | exact True.intro | (refine PW.seqK ?_; intro K hK) | refine pwB ?_ | refine pwS ?_ | refine pwL ?_ | refine pwE ?_ | refine pwR ?_ | refine pwK ?_ | refine seqK_n ‹_› ?_ | refine seqK_r ‹_› ?_ | refine seqK_e ‹_› ?_ | refine PW.regionA ?_ | exact schedW_stop_i | refine schK_n ‹_› ?_ | (refine schedW_alt_k ?_ ?_; focus (intro K hK; simp only [hd2, (hkg (PV.int .i64)).1, List.length_map, hd3, SA, Nat.reduceAdd, reduceIte, Nat.reduceEqDiff, Nat.reduceBEq, reduceCtorEq]; (try go_unwrap; try simp only [hd2, (hkg (PV.int .i64)).1, List.length_map, hd3, RR, reduceCtorEq]))) | (refine PW.cond rfl ?_ ?_ <;> intro hcond <;> (try contradiction) <;> try simp only [DD] at hcond) | (refine gd_i ?_; intro hg; try simp only [hg]) | ((first | show (_ : Nat) ≤ _ | show (_ : Nat) < _ | show (_ : Int) ≤ _ | show (_ : Int) < _ | show (_ : Nat) = _ | show (_ : Int) = _ | show (_ : Bool) = _ | show _ ∨ _ | show ¬ _); first | omega | (simp only [DD, LL] <;> omega) | (go_unwrap; omega)) | ((first | refine PW.region ?_ | refine PW.regionQ ?_ | refine schedW_done_i ?_ | show (_ : Post) _ _ _ | show @Eq (List PV) _ _ | show @Eq Bool _ _ | show opsW _ _ _ _ _ _ _ _ | show okAll _ | show @Eq Bool _ _ ∨ _); focus (simp only [hd2, (hkg (PV.int .i64)).1, List.length_map, hd3, SA, Nat.reduceAdd, reduceIte, Nat.reduceEqDiff, Nat.reduceBEq, reduceCtorEq]; (try go_unwrap; try simp only [hd2, (hkg (PV.int .i64)).1, List.length_map, hd3, RR, reduceCtorEq]))) | refine And.intro ?_ ?_ | exact Or.inr ⟨rfl, Nat.le_refl _⟩ | exact (fun h => Bool.noConfusion h))
        all_goals (first | (rw [hC, hr]; done) | (clear hG hC hr hgn h85; simp_all; done))
      · have hd3 : (decide (k < 0) || decide ((i : Int) ≤ k)) = false := by simpa using hk1
        have hku : k.toNat < u.length := by omega
        have hug : (u.map PV.bool)[k.toNat]? = some (.bool (u.getD k.toNat false)) := by simp [List.getD, hku]
        have hus : (u.map PV.bool).set k.toNat (.bool true) = (u.set k.toNat true).map PV.bool := by rw [List.map_set]
        cases htk : u.getD k.toNat false with
        | true =>
          rw [if_pos (.inr (.inr htk))] at hk
          rw [hk] at hr
          rw [htk] at hug
          repeat' (first | exact True.intro | (refine PW.seqK ?_; intro K hK) | refine pwB ?_ | refine pwS ?_ | refine pwL ?_ | refine pwE ?_ | refine pwR ?_ | refine pwK ?_ | refine seqK_n ‹_› ?_ | refine seqK_r ‹_› ?_ | refine seqK_e ‹_› ?_ | refine PW.regionA ?_ | exact schedW_stop_i | refine schK_n ‹_› ?_ | (refine schedW_alt_k ?_ ?_; focus (intro K hK; simp only [hd2, (hkg (PV.int .i64)).1, List.length_map, hd3, hug, SA, Nat.reduceAdd, reduceIte, Nat.reduceEqDiff, Nat.reduceBEq, reduceCtorEq]; (try go_unwrap; try simp only [hd2, (hkg (PV.int .i64)).1, List.length_map, hd3, hug, RR, reduceCtorEq]))) | (refine PW.cond rfl ?_ ?_ <;> intro hcond <;> (try contradiction) <;> try simp only [DD] at hcond) | (refine gd_i ?_; intro hg; try simp only [hg]) | ((first | show (_ : Nat) ≤ _ | show (_ : Nat) < _ | show (_ : Int) ≤ _ | show (_ : Int) < _ | show (_ : Nat) = _ | show (_ : Int) = _ | show (_ : Bool) = _ | show _ ∨ _ | show ¬ _); first | omega | (simp only [DD, LL] <;> omega) | (go_unwrap; omega)) | ((first | refine PW.region ?_ | refine PW.regionQ ?_ | refine schedW_done_i ?_ | show (_ : Post) _ _ _ | show @Eq (List PV) _ _ | show @Eq Bool _ _ | show opsW _ _ _ _ _ _ _ _ | show okAll _ | show @Eq Bool _ _ ∨ _); focus (simp only [hd2, (hkg (PV.int .i64)).1, List.length_map, hd3, hug, SA, Nat.reduceAdd, reduceIte, Nat.reduceEqDiff, Nat.reduceBEq, reduceCtorEq]; (try go_unwrap; try simp only [hd2, (hkg (PV.int .i64)).1, List.length_map, hd3, hug, RR, reduceCtorEq]))) | refine And.intro ?_ ?_ | exact Or.inr ⟨rfl, Nat.le_refl _⟩ | exact (fun h => Bool.noConfusion h))
          all_goals rw [hC, hr]
        | false =>
          rw [if_neg (by rw [htk]; simpa using hk1)] at hk
          rw [htk] at hug
          repeat' (first | exact True.intro | (refine PW.seqK ?_; intro K hK) | refine pwB ?_ | refine pwS ?_ | refine pwL ?_ | refine pwE ?_ | refine pwR ?_ | refine pwK ?_ | refine seqK_n ‹_› ?_ | refine seqK_r ‹_› ?_ | refine seqK_e ‹_› ?_ | refine PW.regionA ?_ | exact schedW_stop_i | refine schK_n ‹_› ?_ | (refine schedW_alt_k ?_ ?_; focus (intro K hK; simp only [hd2, (hkg (PV.int .i64)).1, List.length_map, hd3, hug, hus, SA, Nat.reduceAdd, reduceIte, Nat.reduceEqDiff, Nat.reduceBEq, reduceCtorEq]; (try go_unwrap; try simp only [hd2, (hkg (PV.int .i64)).1, List.length_map, hd3, hug, hus, RR, reduceCtorEq]))) | (refine PW.cond rfl ?_ ?_ <;> intro hcond <;> (try contradiction) <;> try simp only [DD] at hcond) | (refine gd_i ?_; intro hg; try simp only [hg]) | ((first | show (_ : Nat) ≤ _ | show (_ : Nat) < _ | show (_ : Int) ≤ _ | show (_ : Int) < _ | show (_ : Nat) = _ | show (_ : Int) = _ | show (_ : Bool) = _ | show _ ∨ _ | show ¬ _); first | omega | (simp only [DD, LL] <;> omega) | (go_unwrap; omega)) | ((first | refine PW.region ?_ | refine PW.regionQ ?_ | refine schedW_done_i ?_ | show (_ : Post) _ _ _ | show @Eq (List PV) _ _ | show @Eq Bool _ _ | show opsW _ _ _ _ _ _ _ _ | show okAll _ | show @Eq Bool _ _ ∨ _); focus (simp only [hd2, (hkg (PV.int .i64)).1, List.length_map, hd3, hug, hus, SA, Nat.reduceAdd, reduceIte, Nat.reduceEqDiff, Nat.reduceBEq, reduceCtorEq]; (try go_unwrap; try simp only [hd2, (hkg (PV.int .i64)).1, List.length_map, hd3, hug, hus, RR, reduceCtorEq]))) | refine And.intro ?_ ?_ | exact Or.inr ⟨rfl, Nat.le_refl _⟩ | exact (fun h => Bool.noConfusion h))
          all_goals exact ⟨(j + 1, u.set k.toNat true), rfl, rfl, ⟨h', by simpa using hul, hk⟩, by simp only; omega⟩
    · have hd2 : decide ((j : Int) < n.kids.length) = false := by simp only [decide_eq_false_iff_not]; omega
      rw [List.drop_eq_nil_of_le h', kidsStep] at hk
      rw [hk] at hr
      repeat' (first | exact True.intro | (refine PW.seqK ?_; intro K hK) | refine pwB ?_ | refine pwS ?_ | refine pwL ?_ | refine pwE ?_ | refine pwR ?_ | refine pwK ?_ | refine seqK_n ‹_› ?_ | refine seqK_r ‹_› ?_ | refine seqK_e ‹_› ?_ | refine PW.regionA ?_ | exact schedW_stop_i | refine schK_n ‹_› ?_ | (refine schedW_alt_k ?_ ?_; focus (intro K hK; simp only [hd2, hgb, List.length_map, SA, Nat.reduceAdd, reduceIte, Nat.reduceEqDiff, Nat.reduceBEq, reduceCtorEq]; (try go_unwrap; try simp only [hd2, hgb, List.length_map, RR, reduceCtorEq]))) | (refine PW.cond rfl ?_ ?_ <;> intro hcond <;> (try contradiction) <;> try simp only [DD] at hcond) | (refine gd_i ?_; intro hg; try simp only [hg]) | ((first | show (_ : Nat) ≤ _ | show (_ : Nat) < _ | show (_ : Int) ≤ _ | show (_ : Int) < _ | show (_ : Nat) = _ | show (_ : Int) = _ | show (_ : Bool) = _ | show _ ∨ _ | show ¬ _); first | omega | (simp only [DD, LL] <;> omega) | (go_unwrap; omega)) | ((first | refine PW.region ?_ | refine PW.regionQ ?_ | refine schedW_done_i ?_ | show (_ : Post) _ _ _ | show @Eq (List PV) _ _ | show @Eq Bool _ _ | show opsW _ _ _ _ _ _ _ _ | show okAll _ | show @Eq Bool _ _ ∨ _); focus (simp only [hd2, hgb, List.length_map, SA, Nat.reduceAdd, reduceIte, Nat.reduceEqDiff, Nat.reduceBEq, reduceCtorEq]; (try go_unwrap; try simp only [hd2, hgb, List.length_map, RR, reduceCtorEq]))) | refine And.intro ?_ ?_ | exact Or.inr ⟨rfl, Nat.le_refl _⟩ | exact (fun h => Bool.noConfusion h))
      all_goals first
        | (have hR := rest_A ⟨ho0, ho9⟩ (by assumption); rw [hR, if_pos (by decide)] at hr; rw [hC, hr]; done)
        | (have hR := rest_B ⟨ho0, ho9⟩ (by assumption) (by assumption); rw [hR, if_pos (by decide)] at hr; rw [hC, hr]; done)
        | (have hR := rest_C ⟨ho0, ho9⟩ (by assumption) (by assumption); simp only [hR, ne_eq, not_true_eq_false, if_false] at hr; exact ⟨(i + 1, u), (by first | rfl | (simp only [trimE, trimM, List.take_succ_cons, List.take_zero, List.take_nil, List.map_cons, List.map_nil, Option.map_some, Option.map_none, MObj.kill, PV.kill, Nat.reduceLeDiff, decide_true, decide_false, dec_true, dec_false, Bool.false_eq_true, if_false, if_true, reduceIte, List.zip_cons_cons, List.zip_nil_left, Nat.le_refl, Nat.zero_le, Nat.not_le, Nat.lt_irrefl]; done) | (simp [trimE, trimM, MObj.kill, PV.kill]; done)), (by first | rfl | (simp only [trimE, trimM, List.take_succ_cons, List.take_zero, List.take_nil, List.map_cons, List.map_nil, Option.map_some, Option.map_none, MObj.kill, PV.kill, Nat.reduceLeDiff, decide_true, decide_false, dec_true, dec_false, Bool.false_eq_true, if_false, if_true, reduceIte, List.zip_cons_cons, List.zip_nil_left, Nat.le_refl, Nat.zero_le, Nat.not_le, Nat.lt_irrefl]; done) | (simp [trimE, trimM, MObj.kill, PV.kill]; done)), ⟨h, hul, hr⟩, by simp only; omega⟩)
  · have hd' : decide ((i : Int) < l.length) = false := by simp only [decide_eq_false_iff_not]; omega
    rw [List.drop_eq_nil_of_le h, checkNodes] at hr
    obtain ⟨-, hwf, hall⟩ := checkNodes_ok hr
    have h52 := v52 (G := G0) l (by omega) (by intro hh; simp [hh] at h0) hwf (fun n hn => by have := (formE_ok (hall n hn).1).2.2.2; omega)
    rw [hr] at hC
    simp only at hC
    repeat' (first | exact True.intro | (refine PW.seqK ?_; intro K hK) | refine pwB ?_ | refine pwS ?_ | refine pwL ?_ | refine pwE ?_ | refine pwR ?_ | refine pwK ?_ | refine seqK_n ‹_› ?_ | refine seqK_r ‹_› ?_ | refine seqK_e ‹_› ?_ | refine PW.regionA ?_ | exact schedW_stop_i | refine schK_n ‹_› ?_ | (refine schedW_alt_k ?_ ?_; focus (intro K hK; simp only [hd', List.length_map, SA, Nat.reduceAdd, reduceIte, Nat.reduceEqDiff, Nat.reduceBEq, reduceCtorEq]; (try go_unwrap; try simp only [hd', List.length_map, RR, reduceCtorEq]))) | (refine PW.cond rfl ?_ ?_ <;> intro hcond <;> (try contradiction) <;> try simp only [DD] at hcond) | (refine gd_i ?_; intro hg; try simp only [hg]) | ((first | show (_ : Nat) ≤ _ | show (_ : Nat) < _ | show (_ : Int) ≤ _ | show (_ : Int) < _ | show (_ : Nat) = _ | show (_ : Int) = _ | show (_ : Bool) = _ | show _ ∨ _ | show ¬ _); first | omega | (simp only [DD, LL] <;> omega) | (go_unwrap; omega)) | ((first | refine PW.region ?_ | refine PW.regionQ ?_ | refine schedW_done_i ?_ | show (_ : Post) _ _ _ | show @Eq (List PV) _ _ | show @Eq Bool _ _ | show opsW _ _ _ _ _ _ _ _ | show okAll _ | show @Eq Bool _ _ ∨ _); focus (simp only [hd', List.length_map, SA, Nat.reduceAdd, reduceIte, Nat.reduceEqDiff, Nat.reduceBEq, reduceCtorEq]; (try go_unwrap; try simp only [hd', List.length_map, RR, reduceCtorEq]))) | refine And.intro ?_ ?_ | exact Or.inr ⟨rfl, Nat.le_refl _⟩ | exact (fun h => Bool.noConfusion h))
    refine PW.loopG (σ := Nat) 1 (fun _ _ => rfl) [0, 1, 5, 10] (fun j => [.list (some 4) (l.map ndP), .list none ((l.map fun n => isName n.name).map PV.bool), .sl none 0 l.length, .int .i64 j])
      (fun _ => [some (.row none (t.map PV.bool))]) (fun j => j ≤ l.length - 1 ∧ (t.take j).contains false = false) (fun j => l.length - 1 - j) 0 ?_ rfl ⟨by omega, by simp⟩ ?_
    · simp only [SA, Nat.reduceAdd, reduceIte, Nat.reduceEqDiff, Nat.reduceBEq, reduceCtorEq]; rfl
    rintro j ⟨hj, hjc⟩
    simp only [List.zip_cons_cons, List.zip_nil_left]
    rcases Nat.lt_or_ge j (l.length - 1) with h' | h'
    · have hd2 : decide ((j : Int) < (l.length : Int) - 1) = true := by simp only [decide_eq_true_eq]; omega
      have htj : (t.map PV.bool)[j]? = some (.bool (t.getD j false)) := by simp [List.getD, show j < t.length by omega]
      have htt : t.take (j + 1) = t.take j ++ [t.getD j false] := by rw [List.take_succ_eq_append_getElem (by omega)]; simp [List.getD, show j < t.length by omega]
      cases hb : t.getD j false with
      | true =>
        rw [hb] at htj htt
        repeat' (first | exact True.intro | (refine PW.seqK ?_; intro K hK) | refine pwB ?_ | refine pwS ?_ | refine pwL ?_ | refine pwE ?_ | refine pwR ?_ | refine pwK ?_ | refine seqK_n ‹_› ?_ | refine seqK_r ‹_› ?_ | refine seqK_e ‹_› ?_ | refine PW.regionA ?_ | exact schedW_stop_i | refine schK_n ‹_› ?_ | (refine schedW_alt_k ?_ ?_; focus (intro K hK; simp only [hd2, htj, List.length_map, SA, Nat.reduceAdd, reduceIte, Nat.reduceEqDiff, Nat.reduceBEq, reduceCtorEq]; (try go_unwrap; try simp only [hd2, htj, List.length_map, RR, reduceCtorEq]))) | (refine PW.cond rfl ?_ ?_ <;> intro hcond <;> (try contradiction) <;> try simp only [DD] at hcond) | (refine gd_i ?_; intro hg; try simp only [hg]) | ((first | show (_ : Nat) ≤ _ | show (_ : Nat) < _ | show (_ : Int) ≤ _ | show (_ : Int) < _ | show (_ : Nat) = _ | show (_ : Int) = _ | show (_ : Bool) = _ | show _ ∨ _ | show ¬ _); first | omega | (simp only [DD, LL] <;> omega) | (go_unwrap; omega)) | ((first | refine PW.region ?_ | refine PW.regionQ ?_ | refine schedW_done_i ?_ | show (_ : Post) _ _ _ | show @Eq (List PV) _ _ | show @Eq Bool _ _ | show opsW _ _ _ _ _ _ _ _ | show okAll _ | show @Eq Bool _ _ ∨ _); focus (simp only [hd2, htj, List.length_map, SA, Nat.reduceAdd, reduceIte, Nat.reduceEqDiff, Nat.reduceBEq, reduceCtorEq]; (try go_unwrap; try simp only [hd2, htj, List.length_map, RR, reduceCtorEq]))) | refine And.intro ?_ ?_ | exact Or.inr ⟨rfl, Nat.le_refl _⟩ | exact (fun h => Bool.noConfusion h))
        all_goals exact ⟨j + 1, (by first | rfl | (simp only [trimE, trimM, List.take_succ_cons, List.take_zero, List.take_nil, List.map_cons, List.map_nil, Option.map_some, Option.map_none, MObj.kill, PV.kill, Nat.reduceLeDiff, decide_true, decide_false, dec_true, dec_false, Bool.false_eq_true, if_false, if_true, reduceIte, List.zip_cons_cons, List.zip_nil_left, Nat.le_refl, Nat.zero_le, Nat.not_le, Nat.lt_irrefl]; done) | (simp [trimE, trimM, MObj.kill, PV.kill]; done)), (by first | rfl | (simp only [trimE, trimM, List.take_succ_cons, List.take_zero, List.take_nil, List.map_cons, List.map_nil, Option.map_some, Option.map_none, MObj.kill, PV.kill, Nat.reduceLeDiff, decide_true, decide_false, dec_true, dec_false, Bool.false_eq_true, if_false, if_true, reduceIte, List.zip_cons_cons, List.zip_nil_left, Nat.le_refl, Nat.zero_le, Nat.not_le, Nat.lt_irrefl]; done) | (simp [trimE, trimM, MObj.kill, PV.kill]; done)), ⟨by omega, by rw [htt]; simpa using hjc⟩, by omega⟩
      | false =>
        rw [hb] at htj htt
        have hct : (t.take (l.length - 1)).contains false = true := by
          have e1 : t.take (j + 1) = (t.take (l.length - 1)).take (j + 1) := by rw [List.take_take]; congr 1; omega
          have : false ∈ (t.take (l.length - 1)).take (j + 1) := by rw [← e1, htt]; simp
          simpa using List.mem_of_mem_take this
        rw [if_pos hct] at hC
        repeat' (first | exact True.intro | (refine PW.seqK ?_; intro K hK) | refine pwB ?_ | refine pwS ?_ | refine pwL ?_ | refine pwE ?_ | refine pwR ?_ | refine pwK ?_ | refine seqK_n ‹_› ?_ | refine seqK_r ‹_› ?_ | refine seqK_e ‹_› ?_ | refine PW.regionA ?_ | exact schedW_stop_i | refine schK_n ‹_› ?_ | (refine schedW_alt_k ?_ ?_; focus (intro K hK; simp only [hd2, htj, List.length_map, SA, Nat.reduceAdd, reduceIte, Nat.reduceEqDiff, Nat.reduceBEq, reduceCtorEq]; (try go_unwrap; try simp only [hd2, htj, List.length_map, RR, reduceCtorEq]))) | (refine PW.cond rfl ?_ ?_ <;> intro hcond <;> (try contradiction) <;> try simp only [DD] at hcond) | (refine gd_i ?_; intro hg; try simp only [hg]) | ((first | show (_ : Nat) ≤ _ | show (_ : Nat) < _ | show (_ : Int) ≤ _ | show (_ : Int) < _ | show (_ : Nat) = _ | show (_ : Int) = _ | show (_ : Bool) = _ | show _ ∨ _ | show ¬ _); first | omega | (simp only [DD, LL] <;> omega) | (go_unwrap; omega)) | ((first | refine PW.region ?_ | refine PW.regionQ ?_ | refine schedW_done_i ?_ | show (_ : Post) _ _ _ | show @Eq (List PV) _ _ | show @Eq Bool _ _ | show opsW _ _ _ _ _ _ _ _ | show okAll _ | show @Eq Bool _ _ ∨ _); focus (simp only [hd2, htj, List.length_map, SA, Nat.reduceAdd, reduceIte, Nat.reduceEqDiff, Nat.reduceBEq, reduceCtorEq]; (try go_unwrap; try simp only [hd2, htj, List.length_map, RR, reduceCtorEq]))) | refine And.intro ?_ ?_ | exact Or.inr ⟨rfl, Nat.le_refl _⟩ | exact (fun h => Bool.noConfusion h))
        all_goals rw [hC]
    · have hd2 : decide ((j : Int) < (l.length : Int) - 1) = false := by simp only [decide_eq_false_iff_not]; omega
      have hje : j = l.length - 1 := by omega
      subst hje
      rw [if_neg (by rw [hjc]; simp)] at hC
      repeat' (first | exact True.intro | (refine PW.seqK ?_; intro K hK) | refine pwB ?_ | refine pwS ?_ | refine pwL ?_ | refine pwE ?_ | refine pwR ?_ | refine pwK ?_ | refine seqK_n ‹_› ?_ | refine seqK_r ‹_› ?_ | refine seqK_e ‹_› ?_ | refine PW.regionA ?_ | exact schedW_stop_i | refine schK_n ‹_› ?_ | (refine schedW_alt_k ?_ ?_; focus (intro K hK; simp only [hd2, List.length_map, SA, Nat.reduceAdd, reduceIte, Nat.reduceEqDiff, Nat.reduceBEq, reduceCtorEq]; (try go_unwrap; try simp only [hd2, List.length_map, RR, reduceCtorEq]))) | (refine PW.cond rfl ?_ ?_ <;> intro hcond <;> (try contradiction) <;> try simp only [DD] at hcond) | (refine gd_i ?_; intro hg; try simp only [hg]) | refine goCall_W e52 (h52) ?_ ?_ ?_ ?_ | ((first | show (_ : Nat) ≤ _ | show (_ : Nat) < _ | show (_ : Int) ≤ _ | show (_ : Int) < _ | show (_ : Nat) = _ | show (_ : Int) = _ | show (_ : Bool) = _ | show _ ∨ _ | show ¬ _); first | omega | (simp only [DD, LL] <;> omega) | (go_unwrap; omega)) | ((first | refine PW.region ?_ | refine PW.regionQ ?_ | refine schedW_done_i ?_ | show (_ : Post) _ _ _ | show @Eq (List PV) _ _ | show @Eq Bool _ _ | show opsW _ _ _ _ _ _ _ _ | show okAll _ | show @Eq Bool _ _ ∨ _); focus (simp only [hd2, List.length_map, SA, Nat.reduceAdd, reduceIte, Nat.reduceEqDiff, Nat.reduceBEq, reduceCtorEq]; (try go_unwrap; try simp only [hd2, List.length_map, RR, reduceCtorEq]))) | refine And.intro ?_ ?_ | exact Or.inr ⟨rfl, Nat.le_refl _⟩ | exact (fun h => Bool.noConfusion h))
      all_goals first | (rw [hC, if_pos (by simpa using hcond)]; done) | (rw [hC, if_neg (by simpa using hcond)]; done)
end Go.Proofs.YthekpjhffciakaaDoor

