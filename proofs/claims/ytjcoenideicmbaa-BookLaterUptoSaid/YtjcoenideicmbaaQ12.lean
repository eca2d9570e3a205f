import Derived.Handy
import Derived.Shelf.Strings.Search1
import Derived.RangeFuncNested
import Derived.RangeFuncBound
import Derived.RangeFuncCalls
import Derived.RangeFuncLeaves
import Derived.RangeFuncBox
import Derived.Shelf.Abstract
import Derived.Shelf.RegionOpen
import Derived.WalkKit
import Derived.OwnWalkIn
import Derived.TacticsInMore
import Derived.LoopNIn
import Derived.LoopIn
import Derived.Maps.AppendAt
import Derived.Test.YtjcoenideicmbaaQ8
import Derived.Test.YtjcoenideicmbaaQ11
import Derived.Test.YtjcoenideicmbaaQ7
namespace Go.Proofs.Ytjcoenideicmbaa
open Go PG Go.Proofs
set_option linter.unusedSimpArgs false
set_option linter.unusedVariables false
set_option maxHeartbeats 4000000
set_option maxRecDepth 100000
/-! Texts -/
theorem VCalls.shelf {P : Program} {G : Globs} {f : Nat} {as_ : List PV} {res : PV} {va : Array Value} {v : Value}
  (hva : ∀ w ex vs, RepCs w ex vs as_ → vs = va) (hv : ∀ w ex, RepC w ex v res) (h : ∀ w, Calls P f va w fun e w' => e = .returned v ∧ w' = w) : VCalls P G f as_ res := by
  intro w ex vs _ _ hr
  rw [hva w ex vs hr]
  refine (h w).mono ?_
  rintro e w' ⟨rfl, rfl⟩
  exact ⟨v, rfl, RowKit.Below.refl _ _, hv _ _⟩
theorem repCs_str_int {w ex vs} {s : List UInt8} {k : IntKind} {c : Int} (h : RepCs w ex vs [.str s, .int k c]) : vs = #[.string ⟨⟨s⟩⟩, .int k c] := by
  obtain ⟨hs, hr⟩ := h
  obtain ⟨l⟩ := vs
  match l, hs with
  | [x, y], _ =>
    have h0 := hr 0 x _ rfl rfl
    have h1 := hr 1 y _ rfl rfl
    cases h0; cases h1; rfl
theorem w88 (s : ByteArray) (c : Int) (w : World) :
    Calls Try.prog 88 #[.string s, .int .u8 c] w fun e w' => e = .returned (.int .i64 (Lib.indexByte s.data.toList c.toNat.toUInt8)) ∧ w' = w := by
  go_enter Try.func88, Try.ntmps88
  go_wp2
  rw [run_callFunc_extern Try.func102 (by kernel_rfl) (by kernel_rfl) (by kernel_rfl) (e := Extern.BytealgIndexByte.indexByte) (by kernel_rfl), Lib.run_indexByteString]
  simp only [Result.andThen]
  rw [Oper.upon_value]
  go_wp2
  go_ret
  exact ⟨rfl, rfl⟩
theorem v88 (s : List UInt8) (b : UInt8) : VCalls Try.prog G0 88 [.str s, .int .u8 b.toNat] (.int .i64 (Lib.indexByte s b)) := by
  refine VCalls.shelf (fun w ex vs h => repCs_str_int h) (fun w ex => .int _ _) (fun w => ?_)
  have h := w88 ⟨⟨s⟩⟩ (b.toNat : Int) w
  simpa using h
theorem e80 : Ent Try.prog 80 := ⟨Try.f80, Try.func80, by kernel_rfl, by kernel_rfl⟩
theorem e88 : Ent Try.prog 88 := ⟨Try.f88, Try.func88, by kernel_rfl, by kernel_rfl⟩
theorem e65 : Ent Try.prog 65 := ⟨Try.f65, Try.func65, by kernel_rfl, by kernel_rfl⟩
theorem e64 : Ent Try.prog 64 := ⟨Try.f64, Try.func64, by kernel_rfl, by kernel_rfl⟩
theorem e79 : Ent Try.prog 79 := ⟨Try.f79, Try.func79, by kernel_rfl, by kernel_rfl⟩
theorem e54 : Ent Try.prog 54 := ⟨Try.f54, Try.func54, by kernel_rfl, by kernel_rfl⟩
theorem e55 : Ent Try.prog 55 := ⟨Try.f55, Try.func55, by kernel_rfl, by kernel_rfl⟩
theorem len1 (b : UInt8) : (([b].length : Nat) : Int) = 1 := rfl
theorem d10 : decide ((1 : Int) = 0) = false := rfl
theorem d11 : decide ((1 : Int) = 1) = true := rfl
theorem zt : (0 : Int).toNat = 0 := rfl
theorem getD0 (b : UInt8) (l : List UInt8) : (b :: l).getD 0 0 = b := rfl
theorem v80 (s : List UInt8) (b : UInt8) : VCalls Try.prog G0 80 [.str s, .str [b]] (.int .i64 (Lib.indexByte s b)) := by
  refine VCalls.of_PW Try.func80 k80 mix (by simp [c80]) ?_
  simp only [c80, L80, argE]
  have h88 := v88 s b
  repeat' (first | exact True.intro | (refine PW.seqK ?_; intro K hK) | refine PW.block ?_ | refine PW.exit ?_ | refine PW.ret ?_ | refine PW.skip ?_ | refine seqK_n (by assumption) ?_ | refine seqK_r (by assumption) ?_ | refine seqK_e (by assumption) ?_ | refine PW.regionA ?_ | exact schedW_stop_i | refine schK_n (by assumption) ?_ | (refine schedW_alt_k ?_ ?_; focus (intro K hK; simp only [len1, d10, d11, zt, getD0, Bool.not_false, Bool.not_true, SS, SS2, SS3, SS4, Option.map_some, Bool.not_false, Bool.not_true, gArgs, gOk, Nat.reduceAdd, PV.shift, MObj.shift, rdV, rdD, reduceIte, Nat.reduceEqDiff, Nat.reduceBEq, PV.bin, PV.binOk, binI, binS, PV.withInt, PV.withIntP, okAll, PV.under, PV.okUnder, eq_self, implies_true, deadOk, ne_eq, allOk, RVar.val, RVar.ok, retV, PV.seen, PV.view, beq_self_eq_true, PV.flat, PV.noOwn, id_eq, behind, PV.kill, MObj.kill, killTag, reduceCtorEq, nilB]; (try go_unwrap; try simp only [len1, d10, d11, zt, getD0, Bool.not_false, Bool.not_true, toNat_add2, toNat_add1, Int.toNat_natCast, Bool.false_and, Bool.true_and, true_implies, true_and, Bool.false_eq_true, reduceCtorEq, false_implies, Bool.not_false, Bool.not_true, Bool.true_or, Bool.false_or]))) | (refine PW.cond rfl ?_ ?_ <;> intro hcond <;> (try contradiction) <;> try simp only [decide_eq_true_eq, decide_eq_false_iff_not] at hcond) | (refine gd_i ?_; intro hg; try simp only [hg]) | refine goCall_W e88 (h88) ?_ ?_ ?_ ?_ | ((first | show @LE.le Nat _ _ _ | show @LT.lt Nat _ _ _ | show @LE.le Int _ _ _ | show @LT.lt Int _ _ _ | show @Eq Nat _ _ | show @Eq Int _ _ | show @Eq Bool _ _ | show _ ∨ _ | show ¬ _); first | omega | (simp only [decide_eq_true_eq, decide_eq_false_iff_not, List.length_cons, List.length_nil, List.length_append, List.length_map, Sh.size] <;> omega) | (go_unwrap; omega)) | ((first | refine PW.region ?_ | refine PW.regionQ ?_ | refine schedW_done_i ?_ | show (_ : Post) _ _ _ | show @Eq (List PV) _ _ | show @Eq Bool _ _ | show opsW _ _ _ _ _ _ _ _ | show okAll _ | show @Eq Bool _ _ ∨ _); focus (simp only [len1, d10, d11, zt, getD0, Bool.not_false, Bool.not_true, SS, SS2, SS3, SS4, Option.map_some, Bool.not_false, Bool.not_true, gArgs, gOk, Nat.reduceAdd, PV.shift, MObj.shift, rdV, rdD, reduceIte, Nat.reduceEqDiff, Nat.reduceBEq, PV.bin, PV.binOk, binI, binS, PV.withInt, PV.withIntP, okAll, PV.under, PV.okUnder, eq_self, implies_true, deadOk, ne_eq, allOk, RVar.val, RVar.ok, retV, PV.seen, PV.view, beq_self_eq_true, PV.flat, PV.noOwn, id_eq, behind, PV.kill, MObj.kill, killTag, reduceCtorEq, nilB]; (try go_unwrap; try simp only [len1, d10, d11, zt, getD0, Bool.not_false, Bool.not_true, toNat_add2, toNat_add1, Int.toNat_natCast, Bool.false_and, Bool.true_and, true_implies, true_and, Bool.false_eq_true, reduceCtorEq, false_implies, Bool.not_false, Bool.not_true, Bool.true_or, Bool.false_or]))) | refine And.intro ?_ ?_ | exact Or.inr ⟨rfl, Nat.le_refl _⟩ | exact (fun h => Bool.noConfusion h))
  · try simp only [Bool.false_or, decide_eq_true_eq] at hcond
    simp [← hcond, Lib.indexByte]
theorem index_part (b : UInt8) : ∀ (s : List UInt8), (Lib.indexByte s b < 0 ∧ (s.takeWhile fun c => decide (c ≠ b)) = s) ∨ (∃ m : Nat, Lib.indexByte s b = m ∧ m < s.length ∧ (s.takeWhile fun c => decide (c ≠ b)) = s.take m)
  | [] => .inl ⟨by simp [Lib.indexByte], rfl⟩
  | x :: l => by
    by_cases hx : x = b
    · subst hx
      exact .inr ⟨0, by simp [Lib.indexByte], by simp, by simp⟩
    · have hb : (x == b) = false := by simp [hx]
      rcases index_part b l with ⟨h1, h2⟩ | ⟨m, h1, h2, h3⟩
      · refine .inl ⟨?_, by simp [hx, List.takeWhile_cons]; simpa using h2⟩
        have hge := Lib.indexByte_ge l b
        simp only [Lib.indexByte, hb, Bool.false_eq_true, if_false]
        split
        · decide
        · rename_i h; simp at h; omega
      · refine .inr ⟨m + 1, ?_, by simp; omega, by simp [hx, List.takeWhile_cons]; simpa using h3⟩
        simp only [Lib.indexByte, hb, Bool.false_eq_true, if_false, h1]
        split
        · rename_i h; simp at h
        · omega
/-- What stands ahead of the first point; the rest plays no part. -/
theorem v65 (s : List UInt8) (hs : s.length ≤ 1000000000) : ∃ b c, VCalls Try.prog G0 65 [.str s, .str [46]] (.tup [.str (partM s), .str b, .bool c]) := by
  have h80 := v80 s 46
  have hp := index_part 46 s
  generalize Lib.indexByte s 46 = x at h80 hp
  rcases hp with ⟨h1, h2⟩ | ⟨m, h1, h2, h3⟩
  · refine ⟨[], false, ?_⟩
    have e : partM s = s := h2
    rw [e]
    refine VCalls.of_PW Try.func65 k65 mix (by simp [c65]) ?_
    simp only [c65, L65, argE]
    have d1 : decide (0 ≤ x) = false := by simp only [decide_eq_false_iff_not]; omega
    repeat' (first | exact True.intro | (refine PW.seqK ?_; intro K hK) | refine PW.block ?_ | refine PW.exit ?_ | refine PW.ret ?_ | refine PW.skip ?_ | refine seqK_n (by assumption) ?_ | refine seqK_r (by assumption) ?_ | refine seqK_e (by assumption) ?_ | refine PW.regionA ?_ | exact schedW_stop_i | refine schK_n (by assumption) ?_ | (refine schedW_alt_k ?_ ?_; focus (intro K hK; simp only [d1, SS, SS2, SS3, SS4, Option.map_some, Bool.not_false, Bool.not_true, gArgs, gOk, Nat.reduceAdd, PV.shift, MObj.shift, rdV, rdD, reduceIte, Nat.reduceEqDiff, Nat.reduceBEq, PV.bin, PV.binOk, binI, binS, PV.withInt, PV.withIntP, okAll, PV.under, PV.okUnder, eq_self, implies_true, deadOk, ne_eq, allOk, RVar.val, RVar.ok, retV, PV.seen, PV.view, beq_self_eq_true, PV.flat, PV.noOwn, id_eq, behind, PV.kill, MObj.kill, killTag, reduceCtorEq, nilB]; (try go_unwrap; try simp only [d1, toNat_add2, toNat_add1, Int.toNat_natCast, Bool.false_and, Bool.true_and, true_implies, true_and, Bool.false_eq_true, reduceCtorEq, false_implies, Bool.not_false, Bool.not_true, Bool.true_or, Bool.false_or]))) | (refine PW.cond rfl ?_ ?_ <;> intro hcond <;> (try contradiction) <;> try simp only [decide_eq_true_eq, decide_eq_false_iff_not] at hcond) | (refine gd_i ?_; intro hg; try simp only [hg]) | refine goCall_W e80 (h80) ?_ ?_ ?_ ?_ | ((first | show @LE.le Nat _ _ _ | show @LT.lt Nat _ _ _ | show @LE.le Int _ _ _ | show @LT.lt Int _ _ _ | show @Eq Nat _ _ | show @Eq Int _ _ | show @Eq Bool _ _ | show _ ∨ _ | show ¬ _); first | omega | (simp only [decide_eq_true_eq, decide_eq_false_iff_not, List.length_cons, List.length_nil, List.length_append, List.length_map, Sh.size] <;> omega) | (go_unwrap; omega)) | ((first | refine PW.region ?_ | refine PW.regionQ ?_ | refine schedW_done_i ?_ | show (_ : Post) _ _ _ | show @Eq (List PV) _ _ | show @Eq Bool _ _ | show opsW _ _ _ _ _ _ _ _ | show okAll _ | show @Eq Bool _ _ ∨ _); focus (simp only [d1, SS, SS2, SS3, SS4, Option.map_some, Bool.not_false, Bool.not_true, gArgs, gOk, Nat.reduceAdd, PV.shift, MObj.shift, rdV, rdD, reduceIte, Nat.reduceEqDiff, Nat.reduceBEq, PV.bin, PV.binOk, binI, binS, PV.withInt, PV.withIntP, okAll, PV.under, PV.okUnder, eq_self, implies_true, deadOk, ne_eq, allOk, RVar.val, RVar.ok, retV, PV.seen, PV.view, beq_self_eq_true, PV.flat, PV.noOwn, id_eq, behind, PV.kill, MObj.kill, killTag, reduceCtorEq, nilB]; (try go_unwrap; try simp only [d1, toNat_add2, toNat_add1, Int.toNat_natCast, Bool.false_and, Bool.true_and, true_implies, true_and, Bool.false_eq_true, reduceCtorEq, false_implies, Bool.not_false, Bool.not_true, Bool.true_or, Bool.false_or]))) | refine And.intro ?_ ?_ | exact Or.inr ⟨rfl, Nat.le_refl _⟩ | exact (fun h => Bool.noConfusion h))
  · refine ⟨s.drop (m + 1), true, ?_⟩
    have e : partM s = s.take m := h3
    rw [e]
    subst h1
    refine VCalls.of_PW Try.func65 k65 mix (by simp [c65]) ?_
    simp only [c65, L65, argE]
    have d1 : decide (0 ≤ (m : Int)) = true := by simp
    have w1 : IntKind.i64.wrap ((m : Int) + 1) = ((m + 1 : Nat) : Int) := (IntWalk.i64_in _ (by omega)).trans (by omega)
    repeat' (first | exact True.intro | (refine PW.seqK ?_; intro K hK) | refine PW.block ?_ | refine PW.exit ?_ | refine PW.ret ?_ | refine PW.skip ?_ | refine seqK_n (by assumption) ?_ | refine seqK_r (by assumption) ?_ | refine seqK_e (by assumption) ?_ | refine PW.regionA ?_ | exact schedW_stop_i | refine schK_n (by assumption) ?_ | (refine schedW_alt_k ?_ ?_; focus (intro K hK; simp only [d1, len1, w1, SS, SS2, SS3, SS4, Option.map_some, Bool.not_false, Bool.not_true, gArgs, gOk, Nat.reduceAdd, PV.shift, MObj.shift, rdV, rdD, reduceIte, Nat.reduceEqDiff, Nat.reduceBEq, PV.bin, PV.binOk, binI, binS, PV.withInt, PV.withIntP, okAll, PV.under, PV.okUnder, eq_self, implies_true, deadOk, ne_eq, allOk, RVar.val, RVar.ok, retV, PV.seen, PV.view, beq_self_eq_true, PV.flat, PV.noOwn, id_eq, behind, PV.kill, MObj.kill, killTag, reduceCtorEq, nilB]; (try go_unwrap; try simp only [d1, len1, w1, toNat_add2, toNat_add1, Int.toNat_natCast, Bool.false_and, Bool.true_and, true_implies, true_and, Bool.false_eq_true, reduceCtorEq, false_implies, Bool.not_false, Bool.not_true, Bool.true_or, Bool.false_or]))) | (refine PW.cond rfl ?_ ?_ <;> intro hcond <;> (try contradiction) <;> try simp only [decide_eq_true_eq, decide_eq_false_iff_not] at hcond) | (refine gd_i ?_; intro hg; try simp only [hg]) | refine goCall_W e80 (h80) ?_ ?_ ?_ ?_ | ((first | show @LE.le Nat _ _ _ | show @LT.lt Nat _ _ _ | show @LE.le Int _ _ _ | show @LT.lt Int _ _ _ | show @Eq Nat _ _ | show @Eq Int _ _ | show @Eq Bool _ _ | show _ ∨ _ | show ¬ _); first | omega | (simp only [decide_eq_true_eq, decide_eq_false_iff_not, List.length_cons, List.length_nil, List.length_append, List.length_map, Sh.size] <;> omega) | (go_unwrap; omega)) | ((first | refine PW.region ?_ | refine PW.regionQ ?_ | refine schedW_done_i ?_ | show (_ : Post) _ _ _ | show @Eq (List PV) _ _ | show @Eq Bool _ _ | show opsW _ _ _ _ _ _ _ _ | show okAll _ | show @Eq Bool _ _ ∨ _); focus (simp only [d1, len1, w1, SS, SS2, SS3, SS4, Option.map_some, Bool.not_false, Bool.not_true, gArgs, gOk, Nat.reduceAdd, PV.shift, MObj.shift, rdV, rdD, reduceIte, Nat.reduceEqDiff, Nat.reduceBEq, PV.bin, PV.binOk, binI, binS, PV.withInt, PV.withIntP, okAll, PV.under, PV.okUnder, eq_self, implies_true, deadOk, ne_eq, allOk, RVar.val, RVar.ok, retV, PV.seen, PV.view, beq_self_eq_true, PV.flat, PV.noOwn, id_eq, behind, PV.kill, MObj.kill, killTag, reduceCtorEq, nilB]; (try go_unwrap; try simp only [d1, len1, w1, toNat_add2, toNat_add1, Int.toNat_natCast, Bool.false_and, Bool.true_and, true_implies, true_and, Bool.false_eq_true, reduceCtorEq, false_implies, Bool.not_false, Bool.not_true, Bool.true_or, Bool.false_or]))) | refine And.intro ?_ ?_ | exact Or.inr ⟨rfl, Nat.le_refl _⟩ | exact (fun h => Bool.noConfusion h))
theorem v55 (s : List UInt8) (hs : s.length ≤ 1000000000) : ∃ b c, VCalls Try.prog G0 55 [.str s, .str [46]] (.tup [.str (partM s), .str b, .bool c]) := by
  obtain ⟨b, c, h65⟩ := v65 s hs
  refine ⟨b, c, ?_⟩
  refine VCalls.of_PW Try.func55 k55 mix (by simp [c55]) ?_
  simp only [c55, L55, argE]
  repeat' (first | exact True.intro | (refine PW.seqK ?_; intro K hK) | refine PW.block ?_ | refine PW.exit ?_ | refine PW.ret ?_ | refine PW.skip ?_ | refine seqK_n (by assumption) ?_ | refine seqK_r (by assumption) ?_ | refine seqK_e (by assumption) ?_ | refine PW.regionA ?_ | exact schedW_stop_i | refine schK_n (by assumption) ?_ | (refine schedW_alt_k ?_ ?_; focus (intro K hK; simp only [getC4, SS, SS2, SS3, SS4, Option.map_some, Bool.not_false, Bool.not_true, gArgs, gOk, Nat.reduceAdd, PV.shift, MObj.shift, rdV, rdD, reduceIte, Nat.reduceEqDiff, Nat.reduceBEq, PV.bin, PV.binOk, binI, binS, PV.withInt, PV.withIntP, okAll, PV.under, PV.okUnder, eq_self, implies_true, deadOk, ne_eq, allOk, RVar.val, RVar.ok, retV, PV.seen, PV.view, beq_self_eq_true, PV.flat, PV.noOwn, id_eq, behind, PV.kill, MObj.kill, killTag, reduceCtorEq, nilB]; (try go_unwrap; try simp only [getC4, toNat_add2, toNat_add1, Int.toNat_natCast, Bool.false_and, Bool.true_and, true_implies, true_and, Bool.false_eq_true, reduceCtorEq, false_implies, Bool.not_false, Bool.not_true, Bool.true_or, Bool.false_or]))) | (refine PW.cond rfl ?_ ?_ <;> intro hcond <;> (try contradiction) <;> try simp only [decide_eq_true_eq, decide_eq_false_iff_not] at hcond) | (refine gd_i ?_; intro hg; try simp only [hg]) | refine goCall_W e65 (h65) ?_ ?_ ?_ ?_ | ((first | show @LE.le Nat _ _ _ | show @LT.lt Nat _ _ _ | show @LE.le Int _ _ _ | show @LT.lt Int _ _ _ | show @Eq Nat _ _ | show @Eq Int _ _ | show @Eq Bool _ _ | show _ ∨ _ | show ¬ _); first | omega | (simp only [decide_eq_true_eq, decide_eq_false_iff_not, List.length_cons, List.length_nil, List.length_append, List.length_map, Sh.size] <;> omega) | (go_unwrap; omega)) | ((first | refine PW.region ?_ | refine PW.regionQ ?_ | refine schedW_done_i ?_ | show (_ : Post) _ _ _ | show @Eq (List PV) _ _ | show @Eq Bool _ _ | show opsW _ _ _ _ _ _ _ _ | show okAll _ | show @Eq Bool _ _ ∨ _); focus (simp only [getC4, SS, SS2, SS3, SS4, Option.map_some, Bool.not_false, Bool.not_true, gArgs, gOk, Nat.reduceAdd, PV.shift, MObj.shift, rdV, rdD, reduceIte, Nat.reduceEqDiff, Nat.reduceBEq, PV.bin, PV.binOk, binI, binS, PV.withInt, PV.withIntP, okAll, PV.under, PV.okUnder, eq_self, implies_true, deadOk, ne_eq, allOk, RVar.val, RVar.ok, retV, PV.seen, PV.view, beq_self_eq_true, PV.flat, PV.noOwn, id_eq, behind, PV.kill, MObj.kill, killTag, reduceCtorEq, nilB]; (try go_unwrap; try simp only [getC4, toNat_add2, toNat_add1, Int.toNat_natCast, Bool.false_and, Bool.true_and, true_implies, true_and, Bool.false_eq_true, reduceCtorEq, false_implies, Bool.not_false, Bool.not_true, Bool.true_or, Bool.false_or]))) | refine And.intro ?_ ?_ | exact Or.inr ⟨rfl, Nat.le_refl _⟩ | exact (fun h => Bool.noConfusion h))
def hasP (s p : List UInt8) : Bool := decide (s.take p.length = p)
theorem v79 (s p : List UInt8) : VCalls Try.prog G0 79 [.str s, .str p] (.bool (hasP s p)) := by
  refine VCalls.of_PW Try.func79 k79 mix (by simp [c79]) ?_
  simp only [c79, L79, argE]
  by_cases c1 : p.length ≤ s.length
  · have d1 : decide ((p.length : Int) ≤ s.length) = true := by simp only [decide_eq_true_eq]; omega
    repeat' (first | exact True.intro | (refine PW.seqK ?_; intro K hK) | refine PW.block ?_ | refine PW.exit ?_ | refine PW.ret ?_ | refine PW.skip ?_ | refine seqK_n (by assumption) ?_ | refine seqK_r (by assumption) ?_ | refine seqK_e (by assumption) ?_ | refine PW.regionA ?_ | exact schedW_stop_i | refine schK_n (by assumption) ?_ | (refine schedW_alt_k ?_ ?_; focus (intro K hK; simp only [d1, SS, SS2, SS3, SS4, Option.map_some, Bool.not_false, Bool.not_true, gArgs, gOk, Nat.reduceAdd, PV.shift, MObj.shift, rdV, rdD, reduceIte, Nat.reduceEqDiff, Nat.reduceBEq, PV.bin, PV.binOk, binI, binS, PV.withInt, PV.withIntP, okAll, PV.under, PV.okUnder, eq_self, implies_true, deadOk, ne_eq, allOk, RVar.val, RVar.ok, retV, PV.seen, PV.view, beq_self_eq_true, PV.flat, PV.noOwn, id_eq, behind, PV.kill, MObj.kill, killTag, reduceCtorEq, nilB]; (try go_unwrap; try simp only [d1, toNat_add2, toNat_add1, Int.toNat_natCast, Bool.false_and, Bool.true_and, true_implies, true_and, Bool.false_eq_true, reduceCtorEq, false_implies, Bool.not_false, Bool.not_true, Bool.true_or, Bool.false_or]))) | (refine PW.cond rfl ?_ ?_ <;> intro hcond <;> (try contradiction) <;> try simp only [decide_eq_true_eq, decide_eq_false_iff_not] at hcond) | (refine gd_i ?_; intro hg; try simp only [hg]) | ((first | show @LE.le Nat _ _ _ | show @LT.lt Nat _ _ _ | show @LE.le Int _ _ _ | show @LT.lt Int _ _ _ | show @Eq Nat _ _ | show @Eq Int _ _ | show @Eq Bool _ _ | show _ ∨ _ | show ¬ _); first | omega | (simp only [decide_eq_true_eq, decide_eq_false_iff_not, List.length_cons, List.length_nil, List.length_append, List.length_map, Sh.size] <;> omega) | (go_unwrap; omega)) | ((first | refine PW.region ?_ | refine PW.regionQ ?_ | refine schedW_done_i ?_ | show (_ : Post) _ _ _ | show @Eq (List PV) _ _ | show @Eq Bool _ _ | show opsW _ _ _ _ _ _ _ _ | show okAll _ | show @Eq Bool _ _ ∨ _); focus (simp only [d1, SS, SS2, SS3, SS4, Option.map_some, Bool.not_false, Bool.not_true, gArgs, gOk, Nat.reduceAdd, PV.shift, MObj.shift, rdV, rdD, reduceIte, Nat.reduceEqDiff, Nat.reduceBEq, PV.bin, PV.binOk, binI, binS, PV.withInt, PV.withIntP, okAll, PV.under, PV.okUnder, eq_self, implies_true, deadOk, ne_eq, allOk, RVar.val, RVar.ok, retV, PV.seen, PV.view, beq_self_eq_true, PV.flat, PV.noOwn, id_eq, behind, PV.kill, MObj.kill, killTag, reduceCtorEq, nilB]; (try go_unwrap; try simp only [d1, toNat_add2, toNat_add1, Int.toNat_natCast, Bool.false_and, Bool.true_and, true_implies, true_and, Bool.false_eq_true, reduceCtorEq, false_implies, Bool.not_false, Bool.not_true, Bool.true_or, Bool.false_or]))) | refine And.intro ?_ ?_ | exact Or.inr ⟨rfl, Nat.le_refl _⟩ | exact (fun h => Bool.noConfusion h))
    all_goals rfl
  · have d1 : decide ((p.length : Int) ≤ s.length) = false := by simp only [decide_eq_false_iff_not]; omega
    have hX : hasP s p = false := by
      unfold hasP
      simp only [decide_eq_false_iff_not]
      intro e; have := congrArg List.length e; simp at this; omega
    repeat' (first | exact True.intro | (refine PW.seqK ?_; intro K hK) | refine PW.block ?_ | refine PW.exit ?_ | refine PW.ret ?_ | refine PW.skip ?_ | refine seqK_n (by assumption) ?_ | refine seqK_r (by assumption) ?_ | refine seqK_e (by assumption) ?_ | refine PW.regionA ?_ | exact schedW_stop_i | refine schK_n (by assumption) ?_ | (refine schedW_alt_k ?_ ?_; focus (intro K hK; simp only [d1, SS, SS2, SS3, SS4, Option.map_some, Bool.not_false, Bool.not_true, gArgs, gOk, Nat.reduceAdd, PV.shift, MObj.shift, rdV, rdD, reduceIte, Nat.reduceEqDiff, Nat.reduceBEq, PV.bin, PV.binOk, binI, binS, PV.withInt, PV.withIntP, okAll, PV.under, PV.okUnder, eq_self, implies_true, deadOk, ne_eq, allOk, RVar.val, RVar.ok, retV, PV.seen, PV.view, beq_self_eq_true, PV.flat, PV.noOwn, id_eq, behind, PV.kill, MObj.kill, killTag, reduceCtorEq, nilB]; (try go_unwrap; try simp only [d1, toNat_add2, toNat_add1, Int.toNat_natCast, Bool.false_and, Bool.true_and, true_implies, true_and, Bool.false_eq_true, reduceCtorEq, false_implies, Bool.not_false, Bool.not_true, Bool.true_or, Bool.false_or]))) | (refine PW.cond rfl ?_ ?_ <;> intro hcond <;> (try contradiction) <;> try simp only [decide_eq_true_eq, decide_eq_false_iff_not] at hcond) | (refine gd_i ?_; intro hg; try simp only [hg]) | ((first | show @LE.le Nat _ _ _ | show @LT.lt Nat _ _ _ | show @LE.le Int _ _ _ | show @LT.lt Int _ _ _ | show @Eq Nat _ _ | show @Eq Int _ _ | show @Eq Bool _ _ | show _ ∨ _ | show ¬ _); first | omega | (simp only [decide_eq_true_eq, decide_eq_false_iff_not, List.length_cons, List.length_nil, List.length_append, List.length_map, Sh.size] <;> omega) | (go_unwrap; omega)) | ((first | refine PW.region ?_ | refine PW.regionQ ?_ | refine schedW_done_i ?_ | show (_ : Post) _ _ _ | show @Eq (List PV) _ _ | show @Eq Bool _ _ | show opsW _ _ _ _ _ _ _ _ | show okAll _ | show @Eq Bool _ _ ∨ _); focus (simp only [d1, SS, SS2, SS3, SS4, Option.map_some, Bool.not_false, Bool.not_true, gArgs, gOk, Nat.reduceAdd, PV.shift, MObj.shift, rdV, rdD, reduceIte, Nat.reduceEqDiff, Nat.reduceBEq, PV.bin, PV.binOk, binI, binS, PV.withInt, PV.withIntP, okAll, PV.under, PV.okUnder, eq_self, implies_true, deadOk, ne_eq, allOk, RVar.val, RVar.ok, retV, PV.seen, PV.view, beq_self_eq_true, PV.flat, PV.noOwn, id_eq, behind, PV.kill, MObj.kill, killTag, reduceCtorEq, nilB]; (try go_unwrap; try simp only [d1, toNat_add2, toNat_add1, Int.toNat_natCast, Bool.false_and, Bool.true_and, true_implies, true_and, Bool.false_eq_true, reduceCtorEq, false_implies, Bool.not_false, Bool.not_true, Bool.true_or, Bool.false_or]))) | refine And.intro ?_ ?_ | exact Or.inr ⟨rfl, Nat.le_refl _⟩ | exact (fun h => Bool.noConfusion h))
    all_goals (rw [hX])
theorem v64 (s p : List UInt8) : VCalls Try.prog G0 64 [.str s, .str p] (.tup [.str (if hasP s p = true then s.drop p.length else s), .bool (hasP s p)]) := by
  refine VCalls.of_PW Try.func64 k64 mix (by simp [c64]) ?_
  simp only [c64, L64, argE]
  have h79 := v79 s p
  have hle : hasP s p = true → p.length ≤ s.length := by
    unfold hasP; simp only [decide_eq_true_eq]; intro e; have := congrArg List.length e; simp at this; omega
  generalize hasP s p = b at h79 hle
  cases b
  · repeat' (first | exact True.intro | (refine PW.seqK ?_; intro K hK) | refine PW.block ?_ | refine PW.exit ?_ | refine PW.ret ?_ | refine PW.skip ?_ | refine seqK_n (by assumption) ?_ | refine seqK_r (by assumption) ?_ | refine seqK_e (by assumption) ?_ | refine PW.regionA ?_ | exact schedW_stop_i | refine schK_n (by assumption) ?_ | (refine schedW_alt_k ?_ ?_; focus (intro K hK; simp only [SS, SS2, SS3, SS4, Option.map_some, Bool.not_false, Bool.not_true, gArgs, gOk, Nat.reduceAdd, PV.shift, MObj.shift, rdV, rdD, reduceIte, Nat.reduceEqDiff, Nat.reduceBEq, PV.bin, PV.binOk, binI, binS, PV.withInt, PV.withIntP, okAll, PV.under, PV.okUnder, eq_self, implies_true, deadOk, ne_eq, allOk, RVar.val, RVar.ok, retV, PV.seen, PV.view, beq_self_eq_true, PV.flat, PV.noOwn, id_eq, behind, PV.kill, MObj.kill, killTag, reduceCtorEq, nilB]; (try go_unwrap; try simp only [toNat_add2, toNat_add1, Int.toNat_natCast, Bool.false_and, Bool.true_and, true_implies, true_and, Bool.false_eq_true, reduceCtorEq, false_implies, Bool.not_false, Bool.not_true, Bool.true_or, Bool.false_or]))) | (refine PW.cond rfl ?_ ?_ <;> intro hcond <;> (try contradiction) <;> try simp only [decide_eq_true_eq, decide_eq_false_iff_not] at hcond) | (refine gd_i ?_; intro hg; try simp only [hg]) | refine goCall_W e79 (h79) ?_ ?_ ?_ ?_ | ((first | show @LE.le Nat _ _ _ | show @LT.lt Nat _ _ _ | show @LE.le Int _ _ _ | show @LT.lt Int _ _ _ | show @Eq Nat _ _ | show @Eq Int _ _ | show @Eq Bool _ _ | show _ ∨ _ | show ¬ _); first | omega | (simp only [decide_eq_true_eq, decide_eq_false_iff_not, List.length_cons, List.length_nil, List.length_append, List.length_map, Sh.size] <;> omega) | (go_unwrap; omega)) | ((first | refine PW.region ?_ | refine PW.regionQ ?_ | refine schedW_done_i ?_ | show (_ : Post) _ _ _ | show @Eq (List PV) _ _ | show @Eq Bool _ _ | show opsW _ _ _ _ _ _ _ _ | show okAll _ | show @Eq Bool _ _ ∨ _); focus (simp only [SS, SS2, SS3, SS4, Option.map_some, Bool.not_false, Bool.not_true, gArgs, gOk, Nat.reduceAdd, PV.shift, MObj.shift, rdV, rdD, reduceIte, Nat.reduceEqDiff, Nat.reduceBEq, PV.bin, PV.binOk, binI, binS, PV.withInt, PV.withIntP, okAll, PV.under, PV.okUnder, eq_self, implies_true, deadOk, ne_eq, allOk, RVar.val, RVar.ok, retV, PV.seen, PV.view, beq_self_eq_true, PV.flat, PV.noOwn, id_eq, behind, PV.kill, MObj.kill, killTag, reduceCtorEq, nilB]; (try go_unwrap; try simp only [toNat_add2, toNat_add1, Int.toNat_natCast, Bool.false_and, Bool.true_and, true_implies, true_and, Bool.false_eq_true, reduceCtorEq, false_implies, Bool.not_false, Bool.not_true, Bool.true_or, Bool.false_or]))) | refine And.intro ?_ ?_ | exact Or.inr ⟨rfl, Nat.le_refl _⟩ | exact (fun h => Bool.noConfusion h))
    all_goals rfl
  · have hle := hle rfl
    repeat' (first | exact True.intro | (refine PW.seqK ?_; intro K hK) | refine PW.block ?_ | refine PW.exit ?_ | refine PW.ret ?_ | refine PW.skip ?_ | refine seqK_n (by assumption) ?_ | refine seqK_r (by assumption) ?_ | refine seqK_e (by assumption) ?_ | refine PW.regionA ?_ | exact schedW_stop_i | refine schK_n (by assumption) ?_ | (refine schedW_alt_k ?_ ?_; focus (intro K hK; simp only [SS, SS2, SS3, SS4, Option.map_some, Bool.not_false, Bool.not_true, gArgs, gOk, Nat.reduceAdd, PV.shift, MObj.shift, rdV, rdD, reduceIte, Nat.reduceEqDiff, Nat.reduceBEq, PV.bin, PV.binOk, binI, binS, PV.withInt, PV.withIntP, okAll, PV.under, PV.okUnder, eq_self, implies_true, deadOk, ne_eq, allOk, RVar.val, RVar.ok, retV, PV.seen, PV.view, beq_self_eq_true, PV.flat, PV.noOwn, id_eq, behind, PV.kill, MObj.kill, killTag, reduceCtorEq, nilB]; (try go_unwrap; try simp only [toNat_add2, toNat_add1, Int.toNat_natCast, Bool.false_and, Bool.true_and, true_implies, true_and, Bool.false_eq_true, reduceCtorEq, false_implies, Bool.not_false, Bool.not_true, Bool.true_or, Bool.false_or]))) | (refine PW.cond rfl ?_ ?_ <;> intro hcond <;> (try contradiction) <;> try simp only [decide_eq_true_eq, decide_eq_false_iff_not] at hcond) | (refine gd_i ?_; intro hg; try simp only [hg]) | refine goCall_W e79 (h79) ?_ ?_ ?_ ?_ | ((first | show @LE.le Nat _ _ _ | show @LT.lt Nat _ _ _ | show @LE.le Int _ _ _ | show @LT.lt Int _ _ _ | show @Eq Nat _ _ | show @Eq Int _ _ | show @Eq Bool _ _ | show _ ∨ _ | show ¬ _); first | omega | (simp only [decide_eq_true_eq, decide_eq_false_iff_not, List.length_cons, List.length_nil, List.length_append, List.length_map, Sh.size] <;> omega) | (go_unwrap; omega)) | ((first | refine PW.region ?_ | refine PW.regionQ ?_ | refine schedW_done_i ?_ | show (_ : Post) _ _ _ | show @Eq (List PV) _ _ | show @Eq Bool _ _ | show opsW _ _ _ _ _ _ _ _ | show okAll _ | show @Eq Bool _ _ ∨ _); focus (simp only [SS, SS2, SS3, SS4, Option.map_some, Bool.not_false, Bool.not_true, gArgs, gOk, Nat.reduceAdd, PV.shift, MObj.shift, rdV, rdD, reduceIte, Nat.reduceEqDiff, Nat.reduceBEq, PV.bin, PV.binOk, binI, binS, PV.withInt, PV.withIntP, okAll, PV.under, PV.okUnder, eq_self, implies_true, deadOk, ne_eq, allOk, RVar.val, RVar.ok, retV, PV.seen, PV.view, beq_self_eq_true, PV.flat, PV.noOwn, id_eq, behind, PV.kill, MObj.kill, killTag, reduceCtorEq, nilB]; (try go_unwrap; try simp only [toNat_add2, toNat_add1, Int.toNat_natCast, Bool.false_and, Bool.true_and, true_implies, true_and, Bool.false_eq_true, reduceCtorEq, false_implies, Bool.not_false, Bool.not_true, Bool.true_or, Bool.false_or]))) | refine And.intro ?_ ?_ | exact Or.inr ⟨rfl, Nat.le_refl _⟩ | exact (fun h => Bool.noConfusion h))
    all_goals rfl
theorem v54 (s p : List UInt8) : VCalls Try.prog G0 54 [.str s, .str p] (.tup [.str (if hasP s p = true then s.drop p.length else s), .bool (hasP s p)]) := by
  refine VCalls.of_PW Try.func54 k54 mix (by simp [c54]) ?_
  simp only [c54, L54, argE]
  have h64 := v64 s p
  generalize (if hasP s p = true then s.drop p.length else s) = r at h64
  repeat' (first | exact True.intro | (refine PW.seqK ?_; intro K hK) | refine PW.block ?_ | refine PW.exit ?_ | refine PW.ret ?_ | refine PW.skip ?_ | refine seqK_n (by assumption) ?_ | refine seqK_r (by assumption) ?_ | refine seqK_e (by assumption) ?_ | refine PW.regionA ?_ | exact schedW_stop_i | refine schK_n (by assumption) ?_ | (refine schedW_alt_k ?_ ?_; focus (intro K hK; simp only [SS, SS2, SS3, SS4, Option.map_some, Bool.not_false, Bool.not_true, gArgs, gOk, Nat.reduceAdd, PV.shift, MObj.shift, rdV, rdD, reduceIte, Nat.reduceEqDiff, Nat.reduceBEq, PV.bin, PV.binOk, binI, binS, PV.withInt, PV.withIntP, okAll, PV.under, PV.okUnder, eq_self, implies_true, deadOk, ne_eq, allOk, RVar.val, RVar.ok, retV, PV.seen, PV.view, beq_self_eq_true, PV.flat, PV.noOwn, id_eq, behind, PV.kill, MObj.kill, killTag, reduceCtorEq, nilB]; (try go_unwrap; try simp only [toNat_add2, toNat_add1, Int.toNat_natCast, Bool.false_and, Bool.true_and, true_implies, true_and, Bool.false_eq_true, reduceCtorEq, false_implies, Bool.not_false, Bool.not_true, Bool.true_or, Bool.false_or]))) | (refine PW.cond rfl ?_ ?_ <;> intro hcond <;> (try contradiction) <;> try simp only [decide_eq_true_eq, decide_eq_false_iff_not] at hcond) | (refine gd_i ?_; intro hg; try simp only [hg]) | refine goCall_W e64 (h64) ?_ ?_ ?_ ?_ | ((first | show @LE.le Nat _ _ _ | show @LT.lt Nat _ _ _ | show @LE.le Int _ _ _ | show @LT.lt Int _ _ _ | show @Eq Nat _ _ | show @Eq Int _ _ | show @Eq Bool _ _ | show _ ∨ _ | show ¬ _); first | omega | (simp only [decide_eq_true_eq, decide_eq_false_iff_not, List.length_cons, List.length_nil, List.length_append, List.length_map, Sh.size] <;> omega) | (go_unwrap; omega)) | ((first | refine PW.region ?_ | refine PW.regionQ ?_ | refine schedW_done_i ?_ | show (_ : Post) _ _ _ | show @Eq (List PV) _ _ | show @Eq Bool _ _ | show opsW _ _ _ _ _ _ _ _ | show okAll _ | show @Eq Bool _ _ ∨ _); focus (simp only [SS, SS2, SS3, SS4, Option.map_some, Bool.not_false, Bool.not_true, gArgs, gOk, Nat.reduceAdd, PV.shift, MObj.shift, rdV, rdD, reduceIte, Nat.reduceEqDiff, Nat.reduceBEq, PV.bin, PV.binOk, binI, binS, PV.withInt, PV.withIntP, okAll, PV.under, PV.okUnder, eq_self, implies_true, deadOk, ne_eq, allOk, RVar.val, RVar.ok, retV, PV.seen, PV.view, beq_self_eq_true, PV.flat, PV.noOwn, id_eq, behind, PV.kill, MObj.kill, killTag, reduceCtorEq, nilB]; (try go_unwrap; try simp only [toNat_add2, toNat_add1, Int.toNat_natCast, Bool.false_and, Bool.true_and, true_implies, true_and, Bool.false_eq_true, reduceCtorEq, false_implies, Bool.not_false, Bool.not_true, Bool.true_or, Bool.false_or]))) | refine And.intro ?_ ?_ | exact Or.inr ⟨rfl, Nat.le_refl _⟩ | exact (fun h => Bool.noConfusion h))
/-! Sorting, and dropping doubles, of a row of texts of one's own -/
theorem encStr_rep (w : World) (ex : Nat → Prop) (a : List UInt8) : RepC w ex (Value.string ⟨a.toArray⟩) (.str a) := RepC.str (w := w) (ex := ex) ⟨a.toArray⟩
theorem e53 : Ent Try.prog 53 := ⟨Try.f53, Try.func53, by kernel_rfl, by kernel_rfl⟩
theorem e56 : Ent Try.prog 56 := ⟨Try.f56, Try.func56, by kernel_rfl, by kernel_rfl⟩
abbrev sortT (ds : List (List UInt8)) : List (List UInt8) := ds.mergeSort fun x y => decide (x ≤ y)
theorem v53 {μ : Mem} {t : Nat} (ds : List (List UInt8)) (hl : ds.length ≤ 4000000000) (hm : μ.get t = some (.row none (ds.map PV.str))) :
    PCalls Try.prog G0 53 [.sl none t ds.length] μ (fun _ => false) (fun p μ' => p = .tup [] ∧ μ' = μ.set t (some (.row none ((sortT ds).map PV.str)))) := by
  refine PCalls.row (enc := fun (l : List UInt8) => Value.string ⟨l.toArray⟩) (pv := PV.str) encStr_rep (fun a => ⟨by simp [PV.flat], rfl⟩) (d := ds) (d' := sortT ds) (List.length_mergeSort _) hm (rv := fun _ _ => .tuple #[]) ?_ ?_ (fun w κ a cap _ => .closed (.tup _ _ rfl (fun i v p a b => by simp at a)))
  · intro blk off cap w hH hblk hcap
    exact AnyM.slices_Sort_string Try.sortS blk off cap ds w hH hblk (by omega)
  · intro h w
    exact AnyM.slices_Sort_string_none Try.sortS none 0 w
theorem compactT_len (ds : List (List UInt8)) : (Lib.compact ds).length ≤ ds.length := Lib.compact_length_le ds
def cmpT (ds : List (List UInt8)) : List (List UInt8) := Lib.compact ds ++ List.replicate (ds.length - (Lib.compact ds).length) []
theorem cmpT_len (ds : List (List UInt8)) : (cmpT ds).length = ds.length := by
  have := compactT_len ds
  simp [cmpT]; omega
theorem v56 {μ : Mem} {t : Nat} (ds : List (List UInt8)) (hl : ds.length ≤ 4000000000) (hm : μ.get t = some (.row none (ds.map PV.str))) :
    PCalls Try.prog G0 56 [.sl none t ds.length] μ (fun _ => false) (fun p μ' => p = .sl none t (Lib.compact ds).length ∧ μ' = μ.set t (some (.row none ((cmpT ds).map PV.str)))) := by
  have hle := compactT_len ds
  refine PCalls.row (enc := fun (l : List UInt8) => Value.string ⟨l.toArray⟩) (pv := PV.str) encStr_rep (fun a => ⟨by simp [PV.flat], rfl⟩) (d := ds) (d' := cmpT ds) (cmpT_len ds) hm (rv := fun a cap => .slice a (Lib.compact ds).length cap) ?_ ?_ ?_
  · intro blk off cap w hH hblk hcap
    refine (AnyG.slices_Compact_string Try.cmpS blk off cap ds w hH (by omega) hcap).mono ?_
    rintro e w' ⟨rfl, q, rfl⟩
    refine ⟨rfl, q, #[], ?_⟩
    have hg : ∀ w : World, Sort.grow w #[] = w := fun w => by cases w; simp [Sort.grow]
    rw [hg]; rfl
  · intro h w
    subst h
    exact AnyG.slices_Compact_string_empty Try.cmpS none 0 w
  · intro w κ a cap h
    generalize hn : ds.length = n at h hle
    cases h with
    | closed h => cases h
    | sl _ _ _ b _ hb hs hl' hm' => exact .sl _ _ _ _ _ hb hs (by omega) hm'
    | slnil _ _ hb =>
      rw [show (Lib.compact ds).length = 0 by omega]
      exact .slnil _ _ hb
end Go.Proofs.Ytjcoenideicmbaa

namespace Go.Proofs.Ytjcoenideicmbaa
open Go PG Go.Proofs Go.RowKit Go.Shelf
attribute [local go_sem] Oper.semAt_some
set_option linter.unusedSimpArgs false
set_option linter.unusedVariables false
set_option maxRecDepth 100000
set_option maxHeartbeats 2000000
theorem w48 (fv : Value) (a b : Int) (w : World) : Calls Try.prog 48 #[.agg #[fv], .agg #[.int .i64 a, .int .i64 b]] w fun e w' =>
    e = .returned (.func (.func 60) #[] #[.pointer (some ⟨w.heap.size + 1, 0, none⟩), .pointer (some ⟨w.heap.size, 0, none⟩)]) ∧ w' = (w.alloc (.cells #[fv] 32)).alloc (.cells #[.int .i64 a, .int .i64 b] 27) := by
  refine (callsIn_wide (n := 3)).1 ?_
  refine callsIn_of_wp Try.func48 rfl trivial ?_ rfl
  simp only [Try.ntmps48, List.size_toArray, List.length_cons, List.length_nil, Nat.reduceAdd, Nat.reduceSub, Array.replicate_succ, Array.replicate_zero, List.push_toArray, List.append_toArray, List.nil_append, List.cons_append]
  gi_wp2
  go_ret
  exact ⟨rfl, rfl⟩
/-! What a round keeps: all but the loop's own variable, and the row that lies in it -/
def rowIs (W : World) (B b : Nat) : Prop := b < W.heap.size ∧ ∃ len cap, W.cell? ⟨B, 0, none⟩ = some (.slice (some ⟨b, 0, none⟩) len cap)
def busy (n₀ B : Nat) (W : World) (b : Nat) : Prop := b = B ∨ rowIs W B b ∨ (n₀ ≤ b ∧ ∃ o : Obj, W.heap[b]? = some o ∧ o.isCells = false)
def wfB (B : Nat) (W : World) : Prop := ∀ b len cap, W.cell? ⟨B, 0, none⟩ = some (.slice (some ⟨b, 0, none⟩) len cap) → b < W.heap.size
structure KpB (n₀ B : Nat) (W W' : World) : Prop where
  bel : Below n₀ W W'
  agr : Agree W (busy n₀ B W) W' (busy n₀ B W')
  wf : wfB B W → wfB B W'
theorem KpB.t {n₀ B : Nat} {X Y Z : World} (h : KpB n₀ B X Y) (k : KpB n₀ B Y Z) : KpB n₀ B X Z :=
  ⟨h.1.trans k.1, ⟨fun b hb ho => (k.2.block b (Nat.lt_of_lt_of_le hb h.1.size) (h.2.out b hb ho)).trans (h.2.block b hb ho), fun b hb ho => k.2.out b (Nat.lt_of_lt_of_le hb h.1.size) (h.2.out b hb ho)⟩, fun x => k.3 (h.3 x)⟩
theorem grownBy_below {W W' : World} (h : Below W.heap.size W W') : W.grownBy W' none := ⟨h.os, h.tape, h.output, h.size, fun k hk _ => h.block k hk⟩
theorem KpB.below {n₀ B : Nat} {W W' : World} (hB : B < W.heap.size) (hn : n₀ ≤ W.heap.size) (h : Below W.heap.size W W') : KpB n₀ B W W' := by
  refine ⟨h.mono hn, ⟨fun b hb _ => h.block b hb, fun b hb ho hb' => ho ?_⟩, fun x b len cap hc => Nat.lt_of_lt_of_le (x b len cap (by rw [← h.cell (p := ⟨B, 0, none⟩) hB]; exact hc)) h.size⟩
  rcases hb' with rfl | ⟨_, len, cap, hc⟩ | ⟨h1, o, h2, h3⟩
  · exact .inl rfl
  · refine .inr (.inl ⟨hb, len, cap, ?_⟩)
    rw [← h.cell (p := ⟨B, 0, none⟩) hB]; exact hc
  · exact .inr (.inr ⟨h1, o, by rw [← h.block b hb]; exact h2, h3⟩)
theorem KpB.b {n₀ B : Nat} {w : World} (hn : n₀ ≤ w.heap.size) (hB : B < w.heap.size) (W : World) (l : Nat) (o o' : Obj) (hl : w.heap.size ≤ l) (h : W.heap[l]? = some o) (ho : o.isCells = false) (hw : o.isWalk = false) : KpB n₀ B W (W.putObj l o') := by
  have hsz : (W.putObj l o').heap.size = W.heap.size := by simp [World.putObj]
  refine ⟨belowK_b hn W l o o' hl h ho hw, ⟨fun b hb hnb => ?_, fun b hb hnb hb' => hnb ?_⟩, fun x b len cap hc => ?_⟩
  · by_cases e : b = l
    · subst e; exact absurd (.inr (.inr ⟨Nat.le_trans hn hl, o, h, ho⟩)) hnb
    · exact World.putObj_heap_other e
  · have hBl : B ≠ l := by omega
    rcases hb' with rfl | ⟨_, len, cap, hc⟩ | ⟨h1, o2, h2, h3⟩
    · exact .inl rfl
    · refine .inr (.inl ⟨hb, len, cap, ?_⟩)
      rw [World.cell?_of_block (w := W) (a := ⟨B, 0, none⟩) (World.putObj_heap_other hBl)] at hc; exact hc
    · by_cases e : b = l
      · subst e; exact .inr (.inr ⟨Nat.le_trans hn hl, o, h, ho⟩)
      · rw [World.putObj_heap_other e] at h2
        exact .inr (.inr ⟨h1, o2, h2, h3⟩)
  · rw [World.cell?_of_block (w := W) (a := ⟨B, 0, none⟩) (World.putObj_heap_other (show B ≠ l by omega))] at hc
    rw [hsz]; exact x b len cap hc
theorem busy_lt {n₀ B : Nat} {W : World} (hB : B < W.heap.size) : ∀ b, busy n₀ B W b → b < W.heap.size := by
  rintro b (rfl | ⟨h, _⟩ | ⟨_, o, h, _⟩)
  · exact hB
  · exact h
  · exact (Array.getElem?_eq_some_iff.1 h).1
/-- What an iterator over a line leans on. -/
structure ItS (n₀ B Bl Bs : Nat) (fv : Value) (fs : List Kn) (a b : Int) (W : World) : Prop where
  hB : B < W.heap.size
  hn : n₀ ≤ W.heap.size
  facts : RepC W (busy n₀ B W) fv (knL fs)
  cl : W.cell? ⟨Bl, 0, none⟩ = some fv
  cs0 : W.cell? ⟨Bs, 0, none⟩ = some (.int .i64 a)
  cs1 : W.cell? ⟨Bs, 1, none⟩ = some (.int .i64 b)
  nl : ¬ busy n₀ B W Bl
  ns : ¬ busy n₀ B W Bs
  wf : wfB B W
theorem ItS.kp {n₀ B Bl Bs : Nat} {fv : Value} {fs : List Kn} {a b : Int} {W W' : World} (h : ItS n₀ B Bl Bs fv fs a b W) (k : KpB n₀ B W W') : ItS n₀ B Bl Bs fv fs a b W' := by
  have hbl := World.block_lt_of_cell? _ _ h.cl
  have hbs := World.block_lt_of_cell? _ _ h.cs0
  refine ⟨Nat.lt_of_lt_of_le h.hB k.1.size, Nat.le_trans h.hn k.1.size, h.facts.mono k.2, ?_, ?_, ?_, k.2.out _ hbl h.nl, k.2.out _ hbs h.ns, k.3 h.wf⟩
  · rw [World.cell?_of_block (k.2.block _ hbl h.nl)]; exact h.cl
  · rw [World.cell?_of_block (k.2.block _ hbs h.ns)]; exact h.cs0
  · rw [World.cell?_of_block (a := ⟨Bs, 1, none⟩) (k.2.block _ hbs h.ns)]; exact h.cs1
/-- A closed list of numbers, made by a callee, is none of what is busy. -/
theorem list_busy {n₀ B : Nat} {W W' : World} (hB : B < W.heap.size) (hwf : wfB B W) (h : Below W.heap.size W W') {v : Value} {ds : List Int} (hr : RepC W' (busy n₀ B W) v (.list none (ds.map (PV.int .i64)))) :
    RepC W' (busy n₀ B W') v (.list none (ds.map (PV.int .i64))) := by
  cases hr with
  | list ad len cap _ _ b off val hlen hcap hmax hfit ha hc hr =>
    have hfl : flat (ds.map (PV.int .i64)) = ds.map (PV.int .i64) := flat_scal fun x hx => by obtain ⟨y, -, rfl⟩ := List.mem_map.1 hx; rfl
    refine .list ad len cap _ _ b off val hlen hcap hmax hfit ha (fun j hj => ?_) (fun j p hp => ?_)
    · obtain ⟨h1, h2⟩ := hc j hj
      refine ⟨fun hb => h1 ?_, h2⟩
      rcases hb with rfl | ⟨_, l2, c2, hcb⟩ | ⟨_, o, ho, hn⟩
      · exact .inl rfl
      · have hcb' : W.cell? ⟨B, 0, none⟩ = some (.slice (some ⟨b, 0, none⟩) l2 c2) := by rw [← h.cell (p := ⟨B, 0, none⟩) hB]; exact hcb
        exact .inr (.inl ⟨hwf _ _ _ hcb', l2, c2, hcb'⟩)
      · exfalso
        obtain ⟨o2, ho2, hc2⟩ := cells_of_cell h2
        simp only at ho2
        rw [ho] at ho2; cases ho2; rw [hn] at hc2; cases hc2
    · have h3 := hr j p hp
      rw [hfl] at hp
      rw [List.getElem?_map] at hp
      cases hq : ds[j]? with
      | none => rw [hq] at hp; cases hp
      | some d =>
        rw [hq] at hp; simp at hp; subst hp
        generalize val j = u at h3 ⊢
        cases h3; exact .int _ _
theorem globs0 (w : World) (ex : Nat → Prop) : GlobsIn w ex G0 := by intro g sh x h; cases h
theorem reps2 {w : World} {ex : Nat → Prop} {u v : Value} {p q : PV} (h1 : RepC w ex u p) (h2 : RepC w ex v q) : RepCs w ex #[u, v] [p, q] := by
  refine ⟨rfl, fun i x y hx hy => ?_⟩
  match i, hx, hy with
  | 0, hx, hy => simp at hx hy; subst hx; subst hy; exact h1
  | 1, hx, hy => simp at hx hy; subst hx; subst hy; exact h2
theorem repAgg1 {w : World} {ex : Nat → Prop} {u : Value} {p : PV} (h : RepC w ex u p) : RepC w ex (.agg #[u]) (.agg [p]) := by
  refine .agg _ _ rfl fun i x y hx hy => ?_
  match i, hx, hy with
  | 0, hx, hy => simp at hx hy; subst hx; subst hy; exact h
theorem repAgg2 {w : World} {ex : Nat → Prop} {u v : Value} {p q : PV} (h : RepC w ex u p) (h2 : RepC w ex v q) : RepC w ex (.agg #[u, v]) (.agg [p, q]) := by
  refine .agg _ _ rfl fun i x y hx hy => ?_
  match i, hx, hy with
  | 0, hx, hy => simp at hx hy; subst hx; subst hy; exact h
  | 1, hx, hy => simp at hx hy; subst hx; subst hy; exact h2
theorem place_w {W : World} {ex : Nat → Prop} (hex : ∀ b, ex b → b < W.heap.size) {fv : Value} {fs : List Kn} (hl : fs.length ≤ 1000000000) (h : RepC W ex fv (knL fs)) (d : Int) :
    Calls Try.prog 50 #[.agg #[fv], .int .i64 d] W fun e W' => e = .returned (.int .i64 (placeM fs d)) ∧ Below W.heap.size W W' := by
  refine (v50 fs hl d W ex #[.agg #[fv], .int .i64 d] hex (globs0 _ _) (reps2 (repAgg1 h) (.int _ _))).mono ?_
  rintro e W' ⟨v, rfl, hB, hr⟩
  cases hr
  exact ⟨rfl, hB⟩
end Go.Proofs.Ytjcoenideicmbaa

namespace PG
/-- From a on, up to b: each stretch is as long as it can be. -/
inductive IsRuns (f : Int → Int) (b : Int) : Int → List (Int × Int × Int) → Prop
  | one (a : Int) (h : a < b) (hf : ∀ d, a ≤ d → d < b → f d = f a) : IsRuns f b a [(a, b, f a)]
  | cons (a c : Int) (l : List (Int × Int × Int)) (h : a < c) (hf : ∀ d, a ≤ d → d < c → f d = f a) (hn : f c ≠ f a) (ht : IsRuns f b c l) : IsRuns f b a ((a, c, f a) :: l)

theorem IsRuns.lt {f : Int → Int} {b a : Int} {l : List (Int × Int × Int)} (h : IsRuns f b a l) : a < b := by
  induction h with
  | one a h hf => exact h
  | cons a c l h hf hn ht ih => omega

/-- They hang on the function's values there alone. -/
theorem IsRuns.congr {f g : Int → Int} {b a : Int} {l : List (Int × Int × Int)} (h : IsRuns f b a l) : (∀ d, a ≤ d → d < b → f d = g d) → IsRuns g b a l := by
  induction h with
  | one a h hf =>
    intro hg
    rw [hg a (by omega) h]
    exact .one a h fun d h1 h2 => by rw [← hg d h1 h2, hf d h1 h2, hg a (by omega) h]
  | cons a c l h hf hn ht ih =>
    intro hg
    have hc := ht.lt
    have ha := hg a (by omega) (by omega)
    rw [ha]
    refine .cons a c l h (fun d h1 h2 => ?_) ?_ (ih fun d h1 h2 => hg d (by omega) h2)
    · rw [← hg d h1 (by omega), hf d h1 h2, ha]
    · rw [← hg c (by omega) hc, ← ha]; exact hn

/-- The stretches, by the days at which the function may change. -/
def cutR (f : Int → Int) (b : Int) : Int → Int → List Int → List (Int × Int × Int)
  | a, v, [] => [(a, b, v)]
  | a, v, d :: ds => if f d = v then cutR f b a v ds else (a, d, v) :: cutR f b d (f d) ds

/-- Cut at a day. -/
theorem IsRuns.append {f : Int → Int} {b c a : Int} {l : List (Int × Int × Int)} (h : IsRuns f b a l) : ∀ {r : List (Int × Int × Int)}, IsRuns f c b r → f b ≠ f (b - 1) → IsRuns f c a (l ++ r) := by
  induction h with
  | one a h hf =>
    intro r hr hn
    refine .cons a b _ h hf ?_ hr
    rw [hf (b - 1) (by omega) (by omega)] at hn; exact hn
  | cons a c1 l h hf hn ht ih =>
    intro r hr hne
    exact .cons a c1 _ h hf hn (ih hr hne)

end PG

