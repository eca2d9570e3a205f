import Derived.Handy
import Derived.Shelf.Strings.Search1
import Derived.Shelf.Strings.Count
import Derived.Test.YtdemgegpnlngeaaDoorQ5
import Derived.Test.YtdemgegpnlngeaaDoorP4
namespace Go.Proofs.YtdemgegpnlngeaaDoor
open Go PG Go.Proofs
set_option linter.unusedSimpArgs false
set_option linter.unusedVariables false
set_option maxHeartbeats 1000000
set_option maxRecDepth 100000
abbrev G0 : Globs := fun _ => none
theorem mix : Tryd.prog.follows .mixedOrders = true := by kernel_rfl
theorem VCalls.shelf {P : Program} {G : Globs} {f : Nat} {as_ : List PV} {res : PV} {va : Array Value} {v : Value}
  (hva : ∀ w ex vs, RepCs w ex vs as_ → vs = va) (hv : ∀ w ex, RepC w ex v res) (h : ∀ w, Calls P f va w fun e w' => e = .returned v ∧ w' = w) : VCalls P G f as_ res := by
  intro w ex vs _ _ hr
  rw [hva w ex vs hr]
  refine (h w).mono ?_
  rintro e w' ⟨rfl, rfl⟩
  exact ⟨v, rfl, RowKit.Below.refl _ _, hv _ _⟩
theorem repCs_str_int {w ex vs} {s : List UInt8} {k : IntKind} {c : Int} (h : RepCs w ex vs [.str s, .int k c]) : vs = #[.string ⟨⟨s⟩⟩, .int k c] := by
  obtain ⟨hs, hr⟩ := h
  obtain ⟨l⟩ := vs
  match l, hs with
  | [x, y], _ =>
    have h0 := hr 0 x _ rfl rfl
    have h1 := hr 1 y _ rfl rfl
    cases h0; cases h1; rfl
theorem repCs_str_str {w ex vs} {s t : List UInt8} (h : RepCs w ex vs [.str s, .str t]) : vs = #[.string ⟨⟨s⟩⟩, .string ⟨⟨t⟩⟩] := by
  obtain ⟨hs, hr⟩ := h
  obtain ⟨l⟩ := vs
  match l, hs with
  | [x, y], _ =>
    have h0 := hr 0 x _ rfl rfl
    have h1 := hr 1 y _ rfl rfl
    cases h0; cases h1; rfl
theorem w95 (s : ByteArray) (c : Int) (w : World) :
    Calls Tryd.prog 95 #[.string s, .int .u8 c] w fun e w' => e = .returned (.int .i64 (Lib.indexByte s.data.toList c.toNat.toUInt8)) ∧ w' = w := by
  go_enter Tryd.func95, Tryd.ntmps95
  go_wp2
  rw [run_callFunc_extern Tryd.func99 (by kernel_rfl) (by kernel_rfl) (by kernel_rfl) (e := Extern.BytealgIndexByte.indexByte) (by kernel_rfl), Lib.run_indexByteString]
  simp only [Result.andThen]
  rw [Oper.upon_value]
  go_wp2
  go_ret
  exact ⟨rfl, rfl⟩
theorem w81 (s : ByteArray) (c : UInt8) (w : World) :
    Calls Tryd.prog 81 #[.string s, .string ⟨#[c]⟩] w fun e w' => e = .returned (.int .i64 (Lib.countByte s.data.toList c)) ∧ w' = w := by
  go_enter Tryd.func81, Tryd.ntmps81
  go_wp2
  rw [run_callFunc_extern Tryd.func91 (by kernel_rfl) (by kernel_rfl) (by kernel_rfl) (e := Extern.BytealgCount.count) (by kernel_rfl), Lib.run_countString]
  simp only [Result.andThen]
  rw [Oper.upon_value]
  go_wp2
  go_ret
  exact ⟨rfl, rfl⟩
theorem v95 (s : List UInt8) (b : UInt8) : VCalls Tryd.prog G0 95 [.str s, .int .u8 b.toNat] (.int .i64 (Lib.indexByte s b)) := by
  refine VCalls.shelf (fun w ex vs h => repCs_str_int h) (fun w ex => .int _ _) (fun w => ?_)
  have h := w95 ⟨⟨s⟩⟩ (b.toNat : Int) w
  simpa using h
theorem v81 (s : List UInt8) (b : UInt8) : VCalls Tryd.prog G0 81 [.str s, .str [b]] (.int .i64 (Lib.countByte s b)) := by
  exact VCalls.shelf (fun w ex vs h => repCs_str_str h) (fun w ex => .int _ _) (fun w => w81 ⟨⟨s⟩⟩ b w)
theorem e81 : Ent Tryd.prog 81 := ⟨Tryd.f81, Tryd.func81, by kernel_rfl, by kernel_rfl⟩
theorem e82 : Ent Tryd.prog 82 := ⟨Tryd.f82, Tryd.func82, by kernel_rfl, by kernel_rfl⟩
theorem e92 : Ent Tryd.prog 92 := ⟨Tryd.f92, Tryd.func92, by kernel_rfl, by kernel_rfl⟩
theorem e95 : Ent Tryd.prog 95 := ⟨Tryd.f95, Tryd.func95, by kernel_rfl, by kernel_rfl⟩
theorem e68 : Ent Tryd.prog 68 := ⟨Tryd.f68, Tryd.func68, by kernel_rfl, by kernel_rfl⟩
theorem e63 : Ent Tryd.prog 63 := ⟨Tryd.f63, Tryd.func63, by kernel_rfl, by kernel_rfl⟩
theorem len1 (b : UInt8) : (([b].length : Nat) : Int) = 1 := rfl
theorem d10 : decide ((1 : Int) = 0) = false := rfl
theorem d11 : decide ((1 : Int) = 1) = true := rfl
theorem zt : (0 : Int).toNat = 0 := rfl
theorem getD0 (b : UInt8) (l : List UInt8) : (b :: l).getD 0 0 = b := rfl
theorem v92 (s : List UInt8) (b : UInt8) : VCalls Tryd.prog G0 92 [.str s, .str [b]] (.int .i64 (Lib.indexByte s b)) := by
  refine VCalls.of_PW Tryd.func92 k92 mix (by simp [c92]) ?_
  simp only [c92, L92, argE]
  repeat' (first | (refine PW.seqK ?_; intro K hK) | refine PW.block ?_ | ((first | refine PW.region ?_ | refine PW.regionQ ?_); simp only [len1, d10, d11, zt, getD0, Bool.not_false, Bool.not_true, SS, SS2, SS3, SS4, Option.map_some, Bool.not_false, Bool.not_true, gArgs, gOk, Nat.reduceAdd, PV.shift, MObj.shift, rdV, rdD, reduceIte, Nat.reduceEqDiff, Nat.reduceBEq, PV.bin, PV.binOk, binI, binS, PV.withInt, PV.withIntP, okAll, PV.under, PV.okUnder, eq_self, implies_true, deadOk, ne_eq, allOk, RVar.val, RVar.ok, retV, PV.seen, PV.view, beq_self_eq_true, PV.flat, PV.noOwn, id_eq, behind, PV.kill, MObj.kill, killTag, reduceCtorEq, nilB]; (try go_unwrap; try simp only [len1, d10, d11, zt, getD0, Bool.not_false, Bool.not_true, toNat_add2, toNat_add1, Int.toNat_natCast, Bool.false_and, Bool.true_and, true_implies, true_and, Bool.false_eq_true, reduceCtorEq, false_implies, Bool.not_false, Bool.not_true, Bool.true_or, Bool.false_or])) | refine PW.exit ?_ | refine PW.ret ?_ | refine PW.skip ?_ | refine seqK_n (by assumption) ?_ | refine seqK_r (by assumption) ?_ | refine seqK_e (by assumption) ?_ | (show (_ : Post) _ _ _; simp only [len1, d10, d11, zt, getD0, Bool.not_false, Bool.not_true, SS, SS2, SS3, SS4, Option.map_some, Bool.not_false, Bool.not_true, gArgs, gOk, Nat.reduceAdd, PV.shift, MObj.shift, rdV, rdD, reduceIte, Nat.reduceEqDiff, Nat.reduceBEq, PV.bin, PV.binOk, binI, binS, PV.withInt, PV.withIntP, okAll, PV.under, PV.okUnder, eq_self, implies_true, deadOk, ne_eq, allOk, RVar.val, RVar.ok, retV, PV.seen, PV.view, beq_self_eq_true, PV.flat, PV.noOwn, id_eq, behind, PV.kill, MObj.kill, killTag, reduceCtorEq, nilB]; (try go_unwrap; try simp only [len1, d10, d11, zt, getD0, Bool.not_false, Bool.not_true, toNat_add2, toNat_add1, Int.toNat_natCast, Bool.false_and, Bool.true_and, true_implies, true_and, Bool.false_eq_true, reduceCtorEq, false_implies, Bool.not_false, Bool.not_true, Bool.true_or, Bool.false_or])) | refine PW.regionA ?_ | exact schedW_stop_i | ((first | refine schedW_alt_i ?_ ?_ | refine schedW_done_i ?_); focus (simp only [len1, d10, d11, zt, getD0, Bool.not_false, Bool.not_true, SS, SS2, SS3, SS4, Option.map_some, Bool.not_false, Bool.not_true, gArgs, gOk, Nat.reduceAdd, PV.shift, MObj.shift, rdV, rdD, reduceIte, Nat.reduceEqDiff, Nat.reduceBEq, PV.bin, PV.binOk, binI, binS, PV.withInt, PV.withIntP, okAll, PV.under, PV.okUnder, eq_self, implies_true, deadOk, ne_eq, allOk, RVar.val, RVar.ok, retV, PV.seen, PV.view, beq_self_eq_true, PV.flat, PV.noOwn, id_eq, behind, PV.kill, MObj.kill, killTag, reduceCtorEq, nilB]; (try go_unwrap; try simp only [len1, d10, d11, zt, getD0, Bool.not_false, Bool.not_true, toNat_add2, toNat_add1, Int.toNat_natCast, Bool.false_and, Bool.true_and, true_implies, true_and, Bool.false_eq_true, reduceCtorEq, false_implies, Bool.not_false, Bool.not_true, Bool.true_or, Bool.false_or]))) | (refine PW.cond rfl ?_ ?_ <;> intro hcond <;> (try contradiction) <;> try simp only [decide_eq_true_eq, decide_eq_false_iff_not] at hcond) | (apply goCall_V e95; (case hV => (simp only [len1, d10, d11, zt, getD0, Bool.not_false, Bool.not_true, SS, SS2, SS3, SS4, Option.map_some, Bool.not_false, Bool.not_true, gArgs, gOk, Nat.reduceAdd, PV.shift, MObj.shift, rdV, rdD, reduceIte, Nat.reduceEqDiff, Nat.reduceBEq, PV.bin, PV.binOk, binI, binS, PV.withInt, PV.withIntP, okAll, PV.under, PV.okUnder, eq_self, implies_true, deadOk, ne_eq, allOk, RVar.val, RVar.ok, retV, PV.seen, PV.view, beq_self_eq_true, PV.flat, PV.noOwn, id_eq, behind, PV.kill, MObj.kill, killTag, reduceCtorEq, nilB]; (try go_unwrap; try simp only [len1, d10, d11, zt, getD0, Bool.not_false, Bool.not_true, toNat_add2, toNat_add1, Int.toNat_natCast, Bool.false_and, Bool.true_and, true_implies, true_and, Bool.false_eq_true, reduceCtorEq, false_implies, Bool.not_false, Bool.not_true, Bool.true_or, Bool.false_or]); exact v95 _ _)); (try (case hs => rfl)); (try (case hf => first | exact Or.inl rfl | exact Or.inr ⟨rfl, rfl⟩ | (refine Or.inl ?_; simp only [len1, d10, d11, zt, getD0, Bool.not_false, Bool.not_true, SS, SS2, SS3, SS4, Option.map_some, Bool.not_false, Bool.not_true, gArgs, gOk, Nat.reduceAdd, PV.shift, MObj.shift, rdV, rdD, reduceIte, Nat.reduceEqDiff, Nat.reduceBEq, PV.bin, PV.binOk, binI, binS, PV.withInt, PV.withIntP, okAll, PV.under, PV.okUnder, eq_self, implies_true, deadOk, ne_eq, allOk, RVar.val, RVar.ok, retV, PV.seen, PV.view, beq_self_eq_true, PV.flat, PV.noOwn, id_eq, behind, PV.kill, MObj.kill, killTag, reduceCtorEq, nilB]; done) | (refine Or.inr ⟨rfl, ?_⟩; simp only [len1, d10, d11, zt, getD0, Bool.not_false, Bool.not_true, SS, SS2, SS3, SS4, Option.map_some, Bool.not_false, Bool.not_true, gArgs, gOk, Nat.reduceAdd, PV.shift, MObj.shift, rdV, rdD, reduceIte, Nat.reduceEqDiff, Nat.reduceBEq, PV.bin, PV.binOk, binI, binS, PV.withInt, PV.withIntP, okAll, PV.under, PV.okUnder, eq_self, implies_true, deadOk, ne_eq, allOk, RVar.val, RVar.ok, retV, PV.seen, PV.view, beq_self_eq_true, PV.flat, PV.noOwn, id_eq, behind, PV.kill, MObj.kill, killTag, reduceCtorEq, nilB]; done))); all_goals (first | (simp only [len1, d10, d11, zt, getD0, Bool.not_false, Bool.not_true, SS, SS2, SS3, SS4, Option.map_some, Bool.not_false, Bool.not_true, gArgs, gOk, Nat.reduceAdd, PV.shift, MObj.shift, rdV, rdD, reduceIte, Nat.reduceEqDiff, Nat.reduceBEq, PV.bin, PV.binOk, binI, binS, PV.withInt, PV.withIntP, okAll, PV.under, PV.okUnder, eq_self, implies_true, deadOk, ne_eq, allOk, RVar.val, RVar.ok, retV, PV.seen, PV.view, beq_self_eq_true, PV.flat, PV.noOwn, id_eq, behind, PV.kill, MObj.kill, killTag, reduceCtorEq, nilB]; (try go_unwrap; try simp only [len1, d10, d11, zt, getD0, Bool.not_false, Bool.not_true, toNat_add2, toNat_add1, Int.toNat_natCast, Bool.false_and, Bool.true_and, true_implies, true_and, Bool.false_eq_true, reduceCtorEq, false_implies, Bool.not_false, Bool.not_true, Bool.true_or, Bool.false_or])) | (show Env; skip) | (show Mem; skip))) | refine And.intro ?_ ?_ | exact Or.inr ⟨rfl, Nat.le_refl _⟩ | exact (fun h => Bool.noConfusion h) | ((first | show @LE.le Nat _ _ _ | show @LT.lt Nat _ _ _ | show @LE.le Int _ _ _ | show @LT.lt Int _ _ _ | show @Eq Nat _ _ | show @Eq Int _ _ | show @Eq Bool _ _ | show _ ∨ _ | show ¬ _); first | omega | (simp only [decide_eq_true_eq, decide_eq_false_iff_not, List.length_cons, List.length_nil, List.length_append, List.length_map, Sh.size] <;> omega) | (go_unwrap; omega)))
  · try simp only [Bool.false_or, decide_eq_true_eq] at hcond
    simp [← hcond, Lib.indexByte]
theorem v82 (s : List UInt8) (b : UInt8) : VCalls Tryd.prog G0 82 [.str s, .str [b]] (.int .i64 (Lib.indexByte s b)) := by
  refine VCalls.of_PW Tryd.func82 k82 mix (by simp [c82]) ?_
  simp only [c82, L82, argE]
  repeat' (first | (refine PW.seqK ?_; intro K hK) | refine PW.block ?_ | ((first | refine PW.region ?_ | refine PW.regionQ ?_); simp only [SS, SS2, SS3, SS4, Option.map_some, Bool.not_false, Bool.not_true, gArgs, gOk, Nat.reduceAdd, PV.shift, MObj.shift, rdV, rdD, reduceIte, Nat.reduceEqDiff, Nat.reduceBEq, PV.bin, PV.binOk, binI, binS, PV.withInt, PV.withIntP, okAll, PV.under, PV.okUnder, eq_self, implies_true, deadOk, ne_eq, allOk, RVar.val, RVar.ok, retV, PV.seen, PV.view, beq_self_eq_true, PV.flat, PV.noOwn, id_eq, behind, PV.kill, MObj.kill, killTag, reduceCtorEq, nilB]; (try go_unwrap; try simp only [toNat_add2, toNat_add1, Int.toNat_natCast, Bool.false_and, Bool.true_and, true_implies, true_and, Bool.false_eq_true, reduceCtorEq, false_implies, Bool.not_false, Bool.not_true, Bool.true_or, Bool.false_or])) | refine PW.exit ?_ | refine PW.ret ?_ | refine PW.skip ?_ | refine seqK_n (by assumption) ?_ | refine seqK_r (by assumption) ?_ | refine seqK_e (by assumption) ?_ | (show (_ : Post) _ _ _; simp only [SS, SS2, SS3, SS4, Option.map_some, Bool.not_false, Bool.not_true, gArgs, gOk, Nat.reduceAdd, PV.shift, MObj.shift, rdV, rdD, reduceIte, Nat.reduceEqDiff, Nat.reduceBEq, PV.bin, PV.binOk, binI, binS, PV.withInt, PV.withIntP, okAll, PV.under, PV.okUnder, eq_self, implies_true, deadOk, ne_eq, allOk, RVar.val, RVar.ok, retV, PV.seen, PV.view, beq_self_eq_true, PV.flat, PV.noOwn, id_eq, behind, PV.kill, MObj.kill, killTag, reduceCtorEq, nilB]; (try go_unwrap; try simp only [toNat_add2, toNat_add1, Int.toNat_natCast, Bool.false_and, Bool.true_and, true_implies, true_and, Bool.false_eq_true, reduceCtorEq, false_implies, Bool.not_false, Bool.not_true, Bool.true_or, Bool.false_or])) | refine PW.regionA ?_ | exact schedW_stop_i | ((first | refine schedW_alt_i ?_ ?_ | refine schedW_done_i ?_); focus (simp only [SS, SS2, SS3, SS4, Option.map_some, Bool.not_false, Bool.not_true, gArgs, gOk, Nat.reduceAdd, PV.shift, MObj.shift, rdV, rdD, reduceIte, Nat.reduceEqDiff, Nat.reduceBEq, PV.bin, PV.binOk, binI, binS, PV.withInt, PV.withIntP, okAll, PV.under, PV.okUnder, eq_self, implies_true, deadOk, ne_eq, allOk, RVar.val, RVar.ok, retV, PV.seen, PV.view, beq_self_eq_true, PV.flat, PV.noOwn, id_eq, behind, PV.kill, MObj.kill, killTag, reduceCtorEq, nilB]; (try go_unwrap; try simp only [toNat_add2, toNat_add1, Int.toNat_natCast, Bool.false_and, Bool.true_and, true_implies, true_and, Bool.false_eq_true, reduceCtorEq, false_implies, Bool.not_false, Bool.not_true, Bool.true_or, Bool.false_or]))) | (refine PW.cond rfl ?_ ?_ <;> intro hcond <;> (try contradiction) <;> try simp only [decide_eq_true_eq, decide_eq_false_iff_not] at hcond) | (apply goCall_V e92; (case hV => (simp only [SS, SS2, SS3, SS4, Option.map_some, Bool.not_false, Bool.not_true, gArgs, gOk, Nat.reduceAdd, PV.shift, MObj.shift, rdV, rdD, reduceIte, Nat.reduceEqDiff, Nat.reduceBEq, PV.bin, PV.binOk, binI, binS, PV.withInt, PV.withIntP, okAll, PV.under, PV.okUnder, eq_self, implies_true, deadOk, ne_eq, allOk, RVar.val, RVar.ok, retV, PV.seen, PV.view, beq_self_eq_true, PV.flat, PV.noOwn, id_eq, behind, PV.kill, MObj.kill, killTag, reduceCtorEq, nilB]; (try go_unwrap; try simp only [toNat_add2, toNat_add1, Int.toNat_natCast, Bool.false_and, Bool.true_and, true_implies, true_and, Bool.false_eq_true, reduceCtorEq, false_implies, Bool.not_false, Bool.not_true, Bool.true_or, Bool.false_or]); exact v92 _ _)); (try (case hs => rfl)); (try (case hf => first | exact Or.inl rfl | exact Or.inr ⟨rfl, rfl⟩ | (refine Or.inl ?_; simp only [SS, SS2, SS3, SS4, Option.map_some, Bool.not_false, Bool.not_true, gArgs, gOk, Nat.reduceAdd, PV.shift, MObj.shift, rdV, rdD, reduceIte, Nat.reduceEqDiff, Nat.reduceBEq, PV.bin, PV.binOk, binI, binS, PV.withInt, PV.withIntP, okAll, PV.under, PV.okUnder, eq_self, implies_true, deadOk, ne_eq, allOk, RVar.val, RVar.ok, retV, PV.seen, PV.view, beq_self_eq_true, PV.flat, PV.noOwn, id_eq, behind, PV.kill, MObj.kill, killTag, reduceCtorEq, nilB]; done) | (refine Or.inr ⟨rfl, ?_⟩; simp only [SS, SS2, SS3, SS4, Option.map_some, Bool.not_false, Bool.not_true, gArgs, gOk, Nat.reduceAdd, PV.shift, MObj.shift, rdV, rdD, reduceIte, Nat.reduceEqDiff, Nat.reduceBEq, PV.bin, PV.binOk, binI, binS, PV.withInt, PV.withIntP, okAll, PV.under, PV.okUnder, eq_self, implies_true, deadOk, ne_eq, allOk, RVar.val, RVar.ok, retV, PV.seen, PV.view, beq_self_eq_true, PV.flat, PV.noOwn, id_eq, behind, PV.kill, MObj.kill, killTag, reduceCtorEq, nilB]; done))); all_goals (first | (simp only [SS, SS2, SS3, SS4, Option.map_some, Bool.not_false, Bool.not_true, gArgs, gOk, Nat.reduceAdd, PV.shift, MObj.shift, rdV, rdD, reduceIte, Nat.reduceEqDiff, Nat.reduceBEq, PV.bin, PV.binOk, binI, binS, PV.withInt, PV.withIntP, okAll, PV.under, PV.okUnder, eq_self, implies_true, deadOk, ne_eq, allOk, RVar.val, RVar.ok, retV, PV.seen, PV.view, beq_self_eq_true, PV.flat, PV.noOwn, id_eq, behind, PV.kill, MObj.kill, killTag, reduceCtorEq, nilB]; (try go_unwrap; try simp only [toNat_add2, toNat_add1, Int.toNat_natCast, Bool.false_and, Bool.true_and, true_implies, true_and, Bool.false_eq_true, reduceCtorEq, false_implies, Bool.not_false, Bool.not_true, Bool.true_or, Bool.false_or])) | (show Env; skip) | (show Mem; skip))) | refine And.intro ?_ ?_ | exact Or.inr ⟨rfl, Nat.le_refl _⟩ | exact (fun h => Bool.noConfusion h) | ((first | show @LE.le Nat _ _ _ | show @LT.lt Nat _ _ _ | show @LE.le Int _ _ _ | show @LT.lt Int _ _ _ | show @Eq Nat _ _ | show @Eq Int _ _ | show @Eq Bool _ _ | show _ ∨ _ | show ¬ _); first | omega | (simp only [decide_eq_true_eq, decide_eq_false_iff_not, List.length_cons, List.length_nil, List.length_append, List.length_map, Sh.size] <;> omega) | (go_unwrap; omega)))
end Go.Proofs.YtdemgegpnlngeaaDoor

namespace Go.Proofs.YtdemgegpnlngeaaDoor
open Go PG Go.Proofs
set_option linter.unusedSimpArgs false
set_option linter.unusedVariables false
set_option maxHeartbeats 4000000
set_option maxRecDepth 100000
def splitB (b : UInt8) : List UInt8 → List (List UInt8)
  | [] => [[]]
  | x :: l => if x = b then [] :: splitB b l else
    match splitB b l with
    | [] => [[x]]
    | p :: ps => (x :: p) :: ps
theorem splitB_ne (b : UInt8) (l : List UInt8) : splitB b l ≠ [] := by
  cases l with
  | nil => simp [splitB]
  | cons x l =>
    simp only [splitB]
    split
    · simp
    · split <;> simp
theorem index_split (b : UInt8) : ∀ (s : List UInt8), (Lib.indexByte s b < 0 ∧ splitB b s = [s] ∧ s.count b = 0) ∨
    (∃ m : Nat, Lib.indexByte s b = m ∧ m < s.length ∧ splitB b s = s.take m :: splitB b (s.drop (m + 1)) ∧ s.count b = (s.drop (m + 1)).count b + 1)
  | [] => .inl ⟨by simp [Lib.indexByte], rfl, rfl⟩
  | x :: l => by
    by_cases hx : x = b
    · subst hx
      exact .inr ⟨0, by simp [Lib.indexByte], by simp, by simp [splitB], by simp⟩
    · rcases index_split b l with ⟨h1, h2, h3⟩ | ⟨m, h1, h2, h3, h4⟩
      · refine .inl ⟨?_, by simp [splitB, hx, h2], by simp [List.count_cons, hx, h3]⟩
        have hb : (x == b) = false := by simp [hx]
        have hge := Lib.indexByte_ge l b
        simp only [Lib.indexByte, hb, Bool.false_eq_true, if_false]
        split
        · decide
        · rename_i h; simp at h; omega
      · refine .inr ⟨m + 1, ?_, by simp; omega, ?_, ?_⟩
        · have hb : (x == b) = false := by simp [hx]
          simp only [Lib.indexByte, hb, Bool.false_eq_true, if_false, h1]
          split
          · rename_i h; simp at h
          · omega
        · simp [splitB, hx, h3]
        · simp [List.count_cons, hx, h4]
theorem split_len (b : UInt8) : ∀ s : List UInt8, (splitB b s).length = s.count b + 1
  | [] => rfl
  | x :: l => by
    have := split_len b l
    by_cases hx : x = b
    · simp [splitB, hx, this]
    · simp only [splitB, hx, if_false]
      split
      · rename_i h; exact absurd h (splitB_ne b l)
      · rename_i p ps h; rw [h] at this; simp [List.count_cons, hx] at this ⊢; exact this
def rowS (acc : List (List UInt8)) (N : Nat) : List PV := acc.map PV.str ++ List.replicate (N - acc.length) (.str [])
theorem rowS_len {acc : List (List UInt8)} {N : Nat} (h : acc.length ≤ N) : (rowS acc N).length = N := by simp [rowS]; omega
theorem rowS_set {acc : List (List UInt8)} {N : Nat} (h : acc.length < N) (s : List UInt8) : (rowS acc N).set acc.length (.str s) = rowS (acc ++ [s]) N := by
  obtain ⟨d, hd⟩ : ∃ d, N - acc.length = d + 1 := ⟨N - acc.length - 1, by omega⟩
  have : N - (acc ++ [s]).length = d := by simp; omega
  simp only [rowS, hd, this, List.map_append, List.map_cons, List.map_nil, List.append_assoc, List.replicate_succ]
  rw [List.set_append_right _ _ (by simp)]
  simp
theorem v68 (s : List UInt8) (b : UInt8) (hs : s.length ≤ 1048576) : VCalls Tryd.prog G0 68 [.str s, .str [b], .int .i64 0, .int .i64 (-1)] (.list none ((splitB b s).map PV.str)) := by
  refine VCalls.of_PW Tryd.func68 k68 mix (by simp [c68]) ?_
  simp only [c68, L68, argE]
  have hc : Lib.countByte s b = s.count b := rfl
  have hcl : s.count b ≤ s.length := List.count_le_length
  have h81 := v81 s b
  rw [hc] at h81
  obtain ⟨N, hN⟩ : ∃ N, N = s.count b + 1 := ⟨_, rfl⟩
  have f1 : decide ((-1 : Int) = 0) = false := rfl
  have f2 : decide ((-1 : Int) < 0) = true := rfl
  have f3 : min ((s.count b : Int) + 1) ((s.length : Int) + 1) = (N : Int) := by omega
  have f4 : decide ([b] = []) = false := by simp
  have f5 : (16 : Nat) * (N : Int) ≤ 281474976710656 := by omega
  have f6 : 0 ≤ (N : Int) := by omega
  have f7 : (N : Int) ≤ 9223372036854775807 := by omega
  repeat' (first | exact True.intro | (refine PW.seqK ?_; intro K hK) | refine PW.block ?_ | refine PW.exit ?_ | refine PW.ret ?_ | refine PW.skip ?_ | refine seqK_n (by assumption) ?_ | refine seqK_r (by assumption) ?_ | refine seqK_e (by assumption) ?_ | refine PW.regionA ?_ | exact schedW_stop_i | (refine PW.cond rfl ?_ ?_ <;> intro hcond <;> (try contradiction) <;> try simp only [decide_eq_true_eq, decide_eq_false_iff_not] at hcond) | (refine gd_i ?_; intro hg; try simp only [hg]) | refine goCall_W e81 (h81) ?_ ?_ ?_ ?_ | ((first | show @LE.le Nat _ _ _ | show @LT.lt Nat _ _ _ | show @LE.le Int _ _ _ | show @LT.lt Int _ _ _ | show @Eq Nat _ _ | show @Eq Int _ _ | show @Eq Bool _ _ | show _ ∨ _ | show ¬ _); first | omega | (simp only [decide_eq_true_eq, decide_eq_false_iff_not, List.length_cons, List.length_nil, List.length_append, List.length_map, Sh.size] <;> omega) | (go_unwrap; omega)) | ((first | refine PW.region ?_ | refine PW.regionQ ?_ | refine schedW_alt_i ?_ ?_ | refine schedW_done_i ?_ | show (_ : Post) _ _ _ | show @Eq (List PV) _ _ | show @Eq Bool _ _ | show opsW _ _ _ _ _ _ _ _ | show okAll _ | show @Eq Bool _ _ ∨ _); focus (simp only [f1, f2, f3, f4, f5, f6, f7, Int.le_refl, SS, SS2, SS3, SS4, Option.map_some, Bool.not_false, Bool.not_true, gArgs, gOk, Nat.reduceAdd, PV.shift, MObj.shift, rdV, rdD, reduceIte, Nat.reduceEqDiff, Nat.reduceBEq, PV.bin, PV.binOk, binI, binS, PV.withInt, PV.withIntP, okAll, PV.under, PV.okUnder, eq_self, implies_true, deadOk, ne_eq, allOk, RVar.val, RVar.ok, retV, PV.seen, PV.view, beq_self_eq_true, PV.flat, PV.noOwn, id_eq, behind, PV.kill, MObj.kill, killTag, reduceCtorEq, nilB]; (try go_unwrap; try simp only [f1, f2, f3, f4, f5, f6, f7, Int.le_refl, toNat_add2, toNat_add1, Int.toNat_natCast, Bool.false_and, Bool.true_and, true_implies, true_and, Bool.false_eq_true, reduceCtorEq, false_implies, Bool.not_false, Bool.not_true, Bool.true_or, Bool.false_or]))) | refine And.intro ?_ ?_ | exact Or.inr ⟨rfl, Nat.le_refl _⟩ | exact (fun h => Bool.noConfusion h))
  refine PW.loop (σ := List (List UInt8) × List UInt8) [0, 1, 2, 3, 9, 10] (fun q => [.str q.2, .str [b], .int .i64 0, .int .i64 ((N : Int) - 1), .sl none 0 N, .int .i64 q.1.length]) (fun q => [some (.row none (rowS q.1 N))])
    (fun q => splitB b s = q.1 ++ splitB b q.2 ∧ q.1.length + q.2.count b + 1 = N ∧ q.2.length ≤ 1048576) (fun q => q.2.count b) ([], s) ?_ ?_ ⟨by simp, by simp; omega, hs⟩ ?_
  · simp only [SS, SS2, SS3, SS4, Option.map_some, Bool.not_false, Bool.not_true, gArgs, gOk, Nat.reduceAdd, PV.shift, MObj.shift, rdV, rdD, reduceIte, Nat.reduceEqDiff, Nat.reduceBEq, PV.bin, PV.binOk, binI, binS, PV.withInt, PV.withIntP, okAll, PV.under, PV.okUnder, eq_self, implies_true, deadOk, ne_eq, allOk, RVar.val, RVar.ok, retV, PV.seen, PV.view, beq_self_eq_true, PV.flat, PV.noOwn, id_eq, behind, PV.kill, MObj.kill, killTag, reduceCtorEq, nilB]; rfl
  · simp [rowS]
  rintro ⟨acc, u⟩ ⟨h1, h2, h3⟩
  simp only at h1 h2 h3
  simp only [List.zip_cons_cons, List.zip_nil_left]
  have hlen := rowS_len (acc := acc) (N := N) (by omega)
  have h82 := v82 u b
  have i0 : (0 : Int) ≤ (acc.length : Int) := by omega
  have i1 : (acc.length : Int) < (N : Int) := by omega
  rcases index_split b u with ⟨g1, g2, g3⟩ | ⟨m, g1, g2, g3, g4⟩
  · have d1 : decide ((acc.length : Int) < (N : Int) - 1) = false := by simp only [decide_eq_false_iff_not]; omega
    have hset := rowS_set (acc := acc) (N := N) (by omega) u
    have hacc : (acc ++ [u]).length = N := by simp; omega
    have hfin : (rowS (acc ++ [u]) N).take (acc.length + 1) = (splitB b s).map PV.str := by
      rw [h1, g2, rowS, hacc, Nat.sub_self, List.replicate_zero, List.append_nil]
      exact List.take_of_length_le (by simp)
    have hl2 : (rowS (acc ++ [u]) N).length = N := rowS_len (by omega)
    have i2 : (acc.length : Int) + 1 ≤ (N : Int) := by omega
    have i3 : 0 ≤ (acc.length : Int) + 1 := by omega
    have i4 : acc.length + 1 ≤ N := by omega
    repeat' (first | exact True.intro | (refine PW.seqK ?_; intro K hK) | refine PW.block ?_ | refine PW.exit ?_ | refine PW.ret ?_ | refine PW.skip ?_ | refine seqK_n (by assumption) ?_ | refine seqK_r (by assumption) ?_ | refine seqK_e (by assumption) ?_ | refine PW.regionA ?_ | exact schedW_stop_i | (refine PW.cond rfl ?_ ?_ <;> intro hcond <;> (try contradiction) <;> try simp only [decide_eq_true_eq, decide_eq_false_iff_not] at hcond) | (refine gd_i ?_; intro hg; try simp only [hg]) | ((first | show @LE.le Nat _ _ _ | show @LT.lt Nat _ _ _ | show @LE.le Int _ _ _ | show @LT.lt Int _ _ _ | show @Eq Nat _ _ | show @Eq Int _ _ | show @Eq Bool _ _ | show _ ∨ _ | show ¬ _); first | omega | (simp only [decide_eq_true_eq, decide_eq_false_iff_not, List.length_cons, List.length_nil, List.length_append, List.length_map, Sh.size] <;> omega) | (go_unwrap; omega)) | ((first | refine PW.region ?_ | refine PW.regionQ ?_ | refine schedW_alt_i ?_ ?_ | refine schedW_done_i ?_ | show (_ : Post) _ _ _ | show @Eq (List PV) _ _ | show @Eq Bool _ _ | show opsW _ _ _ _ _ _ _ _ | show okAll _ | show @Eq Bool _ _ ∨ _); focus (simp only [d1, hlen, hset, hl2, hfin, i0, i1, i2, i3, i4, SS, SS2, SS3, SS4, Option.map_some, Bool.not_false, Bool.not_true, gArgs, gOk, Nat.reduceAdd, PV.shift, MObj.shift, rdV, rdD, reduceIte, Nat.reduceEqDiff, Nat.reduceBEq, PV.bin, PV.binOk, binI, binS, PV.withInt, PV.withIntP, okAll, PV.under, PV.okUnder, eq_self, implies_true, deadOk, ne_eq, allOk, RVar.val, RVar.ok, retV, PV.seen, PV.view, beq_self_eq_true, PV.flat, PV.noOwn, id_eq, behind, PV.kill, MObj.kill, killTag, reduceCtorEq, nilB]; (try go_unwrap; try simp only [d1, hlen, hset, hl2, hfin, i0, i1, i2, i3, i4, toNat_add2, toNat_add1, Int.toNat_natCast, Bool.false_and, Bool.true_and, true_implies, true_and, Bool.false_eq_true, reduceCtorEq, false_implies, Bool.not_false, Bool.not_true, Bool.true_or, Bool.false_or]))) | refine And.intro ?_ ?_ | exact Or.inr ⟨rfl, Nat.le_refl _⟩ | exact (fun h => Bool.noConfusion h))
  · have d1 : decide ((acc.length : Int) < (N : Int) - 1) = true := by simp only [decide_eq_true_eq]; omega
    have d2 : decide ((m : Int) < 0) = false := by simp only [decide_eq_false_iff_not]; omega
    rw [g1] at h82
    have hset := rowS_set (acc := acc) (N := N) (by omega) (u.take m)
    have e1 : (m : Int) ≤ (u.length : Int) := by omega
    have e2 : (m : Int) + 1 ≤ (u.length : Int) := by omega
    have e3 : 0 ≤ (m : Int) + 1 := by omega
    have e4 : 0 ≤ (m : Int) := by omega
    repeat' (first | exact True.intro | (refine PW.seqK ?_; intro K hK) | refine PW.block ?_ | refine PW.exit ?_ | refine PW.ret ?_ | refine PW.skip ?_ | refine seqK_n (by assumption) ?_ | refine seqK_r (by assumption) ?_ | refine seqK_e (by assumption) ?_ | refine PW.regionA ?_ | exact schedW_stop_i | (refine PW.cond rfl ?_ ?_ <;> intro hcond <;> (try contradiction) <;> try simp only [decide_eq_true_eq, decide_eq_false_iff_not] at hcond) | (refine gd_i ?_; intro hg; try simp only [hg]) | refine goCall_W e82 (h82) ?_ ?_ ?_ ?_ | ((first | show @LE.le Nat _ _ _ | show @LT.lt Nat _ _ _ | show @LE.le Int _ _ _ | show @LT.lt Int _ _ _ | show @Eq Nat _ _ | show @Eq Int _ _ | show @Eq Bool _ _ | show _ ∨ _ | show ¬ _); first | omega | (simp only [decide_eq_true_eq, decide_eq_false_iff_not, List.length_cons, List.length_nil, List.length_append, List.length_map, Sh.size] <;> omega) | (go_unwrap; omega)) | ((first | refine PW.region ?_ | refine PW.regionQ ?_ | refine schedW_alt_i ?_ ?_ | refine schedW_done_i ?_ | show (_ : Post) _ _ _ | show @Eq (List PV) _ _ | show @Eq Bool _ _ | show opsW _ _ _ _ _ _ _ _ | show okAll _ | show @Eq Bool _ _ ∨ _); focus (simp only [d1, d2, hlen, hset, i0, i1, e1, e2, e3, e4, Int.add_zero, List.length_cons, List.length_nil, SS, SS2, SS3, SS4, Option.map_some, Bool.not_false, Bool.not_true, gArgs, gOk, Nat.reduceAdd, PV.shift, MObj.shift, rdV, rdD, reduceIte, Nat.reduceEqDiff, Nat.reduceBEq, PV.bin, PV.binOk, binI, binS, PV.withInt, PV.withIntP, okAll, PV.under, PV.okUnder, eq_self, implies_true, deadOk, ne_eq, allOk, RVar.val, RVar.ok, retV, PV.seen, PV.view, beq_self_eq_true, PV.flat, PV.noOwn, id_eq, behind, PV.kill, MObj.kill, killTag, reduceCtorEq, nilB]; (try go_unwrap; try simp only [d1, d2, hlen, hset, i0, i1, e1, e2, e3, e4, Int.add_zero, List.length_cons, List.length_nil, toNat_add2, toNat_add1, Int.toNat_natCast, Bool.false_and, Bool.true_and, true_implies, true_and, Bool.false_eq_true, reduceCtorEq, false_implies, Bool.not_false, Bool.not_true, Bool.true_or, Bool.false_or]))) | refine And.intro ?_ ?_ | exact Or.inr ⟨rfl, Nat.le_refl _⟩ | exact (fun h => Bool.noConfusion h))
    refine ⟨(acc ++ [u.take m], u.drop (m + 1)), ?_, rfl, ⟨?_, ?_, ?_⟩, ?_⟩
    · simp
    · rw [h1, g3]; simp
    · simp only [List.length_append, List.length_cons, List.length_nil]; omega
    · simp only [List.length_drop]; omega
    · simp only; omega
theorem v63 (s : List UInt8) (b : UInt8) (hs : s.length ≤ 1048576) : VCalls Tryd.prog G0 63 [.str s, .str [b]] (.list none ((splitB b s).map PV.str)) := by
  refine VCalls.of_PW Tryd.func63 k63 mix (by simp [c63]) ?_
  simp only [c63, L63, argE]
  repeat' (first | exact True.intro | (refine PW.seqK ?_; intro K hK) | refine PW.block ?_ | refine PW.exit ?_ | refine PW.ret ?_ | refine PW.skip ?_ | refine seqK_n (by assumption) ?_ | refine seqK_r (by assumption) ?_ | refine seqK_e (by assumption) ?_ | refine PW.regionA ?_ | exact schedW_stop_i | (refine PW.cond rfl ?_ ?_ <;> intro hcond <;> (try contradiction) <;> try simp only [decide_eq_true_eq, decide_eq_false_iff_not] at hcond) | (refine gd_i ?_; intro hg; try simp only [hg]) | refine goCall_W e68 (v68 s b hs) ?_ ?_ ?_ ?_ | ((first | show @LE.le Nat _ _ _ | show @LT.lt Nat _ _ _ | show @LE.le Int _ _ _ | show @LT.lt Int _ _ _ | show @Eq Nat _ _ | show @Eq Int _ _ | show @Eq Bool _ _ | show _ ∨ _ | show ¬ _); first | omega | (simp only [decide_eq_true_eq, decide_eq_false_iff_not, List.length_cons, List.length_nil, List.length_append, List.length_map, Sh.size] <;> omega) | (go_unwrap; omega)) | ((first | refine PW.region ?_ | refine PW.regionQ ?_ | refine schedW_alt_i ?_ ?_ | refine schedW_done_i ?_ | show (_ : Post) _ _ _ | show @Eq (List PV) _ _ | show @Eq Bool _ _ | show opsW _ _ _ _ _ _ _ _ | show okAll _ | show @Eq Bool _ _ ∨ _); focus (simp only [SS, SS2, SS3, SS4, Option.map_some, Bool.not_false, Bool.not_true, gArgs, gOk, Nat.reduceAdd, PV.shift, MObj.shift, rdV, rdD, reduceIte, Nat.reduceEqDiff, Nat.reduceBEq, PV.bin, PV.binOk, binI, binS, PV.withInt, PV.withIntP, okAll, PV.under, PV.okUnder, eq_self, implies_true, deadOk, ne_eq, allOk, RVar.val, RVar.ok, retV, PV.seen, PV.view, beq_self_eq_true, PV.flat, PV.noOwn, id_eq, behind, PV.kill, MObj.kill, killTag, reduceCtorEq, nilB]; (try go_unwrap; try simp only [toNat_add2, toNat_add1, Int.toNat_natCast, Bool.false_and, Bool.true_and, true_implies, true_and, Bool.false_eq_true, reduceCtorEq, false_implies, Bool.not_false, Bool.not_true, Bool.true_or, Bool.false_or]))) | refine And.intro ?_ ?_ | exact Or.inr ⟨rfl, Nat.le_refl _⟩ | exact (fun h => Bool.noConfusion h))
end Go.Proofs.YtdemgegpnlngeaaDoor

namespace Go.Proofs.YtdemgegpnlngeaaDoor
open Go PG Go.Proofs
set_option linter.unusedSimpArgs false
set_option linter.unusedVariables false
set_option maxHeartbeats 4000000
set_option maxRecDepth 100000
def okB (b : UInt8) : Bool := (decide (97 ≤ (b.toNat : Int)) && decide ((b.toNat : Int) ≤ 122)) || (decide (48 ≤ (b.toNat : Int)) && decide ((b.toNat : Int) ≤ 57)) || decide ((b.toNat : Int) = 46) || decide ((b.toNat : Int) = 95) || decide ((b.toNat : Int) = 45)
def partOk (p : List UInt8) : Bool := decide (p ≠ []) && decide (p.length ≤ 32) && p.all okB
theorem e67 : Ent Tryd.prog 67 := ⟨Tryd.f67, Tryd.func67, by kernel_rfl, by kernel_rfl⟩
theorem all_from {p : UInt8 → Bool} {s : List UInt8} {i : Nat} (h : i < s.length) : (s.drop i).all p = (p (s.getD i 0) && (s.drop (i + 1)).all p) := by
  rw [List.drop_eq_getElem_cons h]
  have e : s.getD i 0 = s[i] := by simp [List.getD, h]
  rw [e, List.all_cons]
theorem v67 (s : List UInt8) (hs : s.length ≤ 1048576) : VCalls Tryd.prog G0 67 [.str s] (.bool (partOk s)) := by
  refine VCalls.of_PW Tryd.func67 k67 mix (by simp [c67]) ?_
  simp only [c67, L67, argE]
  have hm : s.length ≤ 9223372036854775807 := by omega
  repeat' (first | refine PW.seq ?_ | refine PW.block ?_ | ((first | refine PW.region ?_ | refine PW.regionQ ?_ | refine PW.exit ?_ | refine PW.ret ?_ | refine PW.skip ?_); simp only [hm, SS, SS2, SS3, SS4, Option.map_some, Bool.not_false, Bool.not_true, gArgs, gOk, Nat.reduceAdd, PV.shift, MObj.shift, rdV, rdD, reduceIte, Nat.reduceEqDiff, Nat.reduceBEq, PV.bin, PV.binOk, binI, binS, PV.withInt, PV.withIntP, okAll, PV.under, PV.okUnder, eq_self, implies_true, deadOk, ne_eq, allOk, RVar.val, RVar.ok, retV, PV.seen, PV.view, beq_self_eq_true, PV.flat, PV.noOwn, id_eq, behind, PV.kill, MObj.kill, killTag, reduceCtorEq, nilB]; (try go_unwrap; try simp only [hm, toNat_add2, toNat_add1, Int.toNat_natCast, Bool.false_and, Bool.true_and, true_implies, true_and, Bool.false_eq_true, reduceCtorEq, false_implies, Bool.not_false, Bool.not_true, Bool.true_or, Bool.false_or])) | refine PW.regionA ?_ | exact schedW_stop_i | ((first | refine schedW_alt_i ?_ ?_ | refine schedW_done_i ?_); focus (simp only [hm, SS, SS2, SS3, SS4, Option.map_some, Bool.not_false, Bool.not_true, gArgs, gOk, Nat.reduceAdd, PV.shift, MObj.shift, rdV, rdD, reduceIte, Nat.reduceEqDiff, Nat.reduceBEq, PV.bin, PV.binOk, binI, binS, PV.withInt, PV.withIntP, okAll, PV.under, PV.okUnder, eq_self, implies_true, deadOk, ne_eq, allOk, RVar.val, RVar.ok, retV, PV.seen, PV.view, beq_self_eq_true, PV.flat, PV.noOwn, id_eq, behind, PV.kill, MObj.kill, killTag, reduceCtorEq, nilB]; (try go_unwrap; try simp only [hm, toNat_add2, toNat_add1, Int.toNat_natCast, Bool.false_and, Bool.true_and, true_implies, true_and, Bool.false_eq_true, reduceCtorEq, false_implies, Bool.not_false, Bool.not_true, Bool.true_or, Bool.false_or]))) | (refine PW.cond rfl ?_ ?_ <;> intro hcond <;> (try contradiction) <;> try simp only [decide_eq_true_eq, decide_eq_false_iff_not] at hcond) | refine And.intro ?_ ?_ | exact Or.inr ⟨rfl, Nat.le_refl _⟩ | exact (fun h => Bool.noConfusion h) | omega | (simp only [decide_eq_true_eq, decide_eq_false_iff_not, List.length_cons, List.length_nil, List.length_append, List.length_map, Sh.size] <;> omega) | (go_unwrap; omega))
  · simp only [Bool.or_eq_true, decide_eq_true_eq] at hcond
    simp only [partOk, PV.bool.injEq]
    rcases hcond with h | h
    · simp [h]
    · have : ¬ s.length ≤ 32 := by omega
      simp [this]
  simp only [Bool.or_eq_false_iff, decide_eq_false_iff_not] at hcond
  obtain ⟨hn, hl⟩ := hcond
  have hpo : partOk s = s.all okB := by simp [partOk, hn]; omega
  rw [hpo]
  refine PW.loop (σ := Nat) [0, 2, 13, 14, 15] (fun j => [.str s, .bool false, .list none (u8s s), .int .i64 s.length, .int .i64 j]) (fun _ => []) (fun j => j ≤ s.length ∧ s.all okB = (s.drop j).all okB) (fun j => s.length - j) 0 ?_ rfl ⟨by omega, by simp⟩ ?_
  · simp only [SS, SS2, SS3, SS4, Option.map_some, Bool.not_false, Bool.not_true, gArgs, gOk, Nat.reduceAdd, PV.shift, MObj.shift, rdV, rdD, reduceIte, Nat.reduceEqDiff, Nat.reduceBEq, PV.bin, PV.binOk, binI, binS, PV.withInt, PV.withIntP, okAll, PV.under, PV.okUnder, eq_self, implies_true, deadOk, ne_eq, allOk, RVar.val, RVar.ok, retV, PV.seen, PV.view, beq_self_eq_true, PV.flat, PV.noOwn, id_eq, behind, PV.kill, MObj.kill, killTag, reduceCtorEq, nilB]; rfl
  rintro j ⟨hj, hr⟩
  simp only [List.zip_cons_cons, List.zip_nil_left]
  rcases Nat.lt_or_ge j s.length with h | h
  · have hd : decide ((j : Int) < s.length) = true := by simp only [decide_eq_true_eq]; omega
    have hg := u8s_getD s j h
    rw [all_from h] at hr
    generalize s.getD j 0 = b at hg hr
    repeat' (first | refine PW.seq ?_ | refine PW.block ?_ | ((first | refine PW.region ?_ | refine PW.regionQ ?_ | refine PW.exit ?_ | refine PW.ret ?_ | refine PW.skip ?_); simp only [hd, hg, SS, SS2, SS3, SS4, Option.map_some, Bool.not_false, Bool.not_true, gArgs, gOk, Nat.reduceAdd, PV.shift, MObj.shift, rdV, rdD, reduceIte, Nat.reduceEqDiff, Nat.reduceBEq, PV.bin, PV.binOk, binI, binS, PV.withInt, PV.withIntP, okAll, PV.under, PV.okUnder, eq_self, implies_true, deadOk, ne_eq, allOk, RVar.val, RVar.ok, retV, PV.seen, PV.view, beq_self_eq_true, PV.flat, PV.noOwn, id_eq, behind, PV.kill, MObj.kill, killTag, reduceCtorEq, nilB]; (try go_unwrap; try simp only [hd, hg, toNat_add2, toNat_add1, Int.toNat_natCast, Bool.false_and, Bool.true_and, true_implies, true_and, Bool.false_eq_true, reduceCtorEq, false_implies, Bool.not_false, Bool.not_true, Bool.true_or, Bool.false_or])) | refine PW.regionA ?_ | exact schedW_stop_i | ((first | refine schedW_alt_i ?_ ?_ | refine schedW_done_i ?_); focus (simp only [hd, hg, SS, SS2, SS3, SS4, Option.map_some, Bool.not_false, Bool.not_true, gArgs, gOk, Nat.reduceAdd, PV.shift, MObj.shift, rdV, rdD, reduceIte, Nat.reduceEqDiff, Nat.reduceBEq, PV.bin, PV.binOk, binI, binS, PV.withInt, PV.withIntP, okAll, PV.under, PV.okUnder, eq_self, implies_true, deadOk, ne_eq, allOk, RVar.val, RVar.ok, retV, PV.seen, PV.view, beq_self_eq_true, PV.flat, PV.noOwn, id_eq, behind, PV.kill, MObj.kill, killTag, reduceCtorEq, nilB]; (try go_unwrap; try simp only [hd, hg, toNat_add2, toNat_add1, Int.toNat_natCast, Bool.false_and, Bool.true_and, true_implies, true_and, Bool.false_eq_true, reduceCtorEq, false_implies, Bool.not_false, Bool.not_true, Bool.true_or, Bool.false_or]))) | (refine PW.cond rfl ?_ ?_ <;> intro hcond <;> (try contradiction) <;> try simp only [decide_eq_true_eq, decide_eq_false_iff_not] at hcond) | refine And.intro ?_ ?_ | exact Or.inr ⟨rfl, Nat.le_refl _⟩ | exact (fun h => Bool.noConfusion h) | omega | (simp only [decide_eq_true_eq, decide_eq_false_iff_not, List.length_cons, List.length_nil, List.length_append, List.length_map, Sh.size] <;> omega) | (go_unwrap; omega))
    all_goals first
      | (have hb : okB b = true := by simp_all [okB]
         refine ⟨j + 1, rfl, ⟨by omega, by rw [hr, hb]; rfl⟩, by omega⟩)
      | (have hb : okB b = false := by simp_all [okB]
         rw [hr, hb]; rfl)
      | (exfalso; simp_all)
  · have hd : decide ((j : Int) < s.length) = false := by simp only [decide_eq_false_iff_not]; omega
    repeat' (first | refine PW.seq ?_ | refine PW.block ?_ | ((first | refine PW.region ?_ | refine PW.regionQ ?_ | refine PW.exit ?_ | refine PW.ret ?_ | refine PW.skip ?_); simp only [hd, SS, SS2, SS3, SS4, Option.map_some, Bool.not_false, Bool.not_true, gArgs, gOk, Nat.reduceAdd, PV.shift, MObj.shift, rdV, rdD, reduceIte, Nat.reduceEqDiff, Nat.reduceBEq, PV.bin, PV.binOk, binI, binS, PV.withInt, PV.withIntP, okAll, PV.under, PV.okUnder, eq_self, implies_true, deadOk, ne_eq, allOk, RVar.val, RVar.ok, retV, PV.seen, PV.view, beq_self_eq_true, PV.flat, PV.noOwn, id_eq, behind, PV.kill, MObj.kill, killTag, reduceCtorEq, nilB]; (try go_unwrap; try simp only [hd, toNat_add2, toNat_add1, Int.toNat_natCast, Bool.false_and, Bool.true_and, true_implies, true_and, Bool.false_eq_true, reduceCtorEq, false_implies, Bool.not_false, Bool.not_true, Bool.true_or, Bool.false_or])) | refine PW.regionA ?_ | exact schedW_stop_i | ((first | refine schedW_alt_i ?_ ?_ | refine schedW_done_i ?_); focus (simp only [hd, SS, SS2, SS3, SS4, Option.map_some, Bool.not_false, Bool.not_true, gArgs, gOk, Nat.reduceAdd, PV.shift, MObj.shift, rdV, rdD, reduceIte, Nat.reduceEqDiff, Nat.reduceBEq, PV.bin, PV.binOk, binI, binS, PV.withInt, PV.withIntP, okAll, PV.under, PV.okUnder, eq_self, implies_true, deadOk, ne_eq, allOk, RVar.val, RVar.ok, retV, PV.seen, PV.view, beq_self_eq_true, PV.flat, PV.noOwn, id_eq, behind, PV.kill, MObj.kill, killTag, reduceCtorEq, nilB]; (try go_unwrap; try simp only [hd, toNat_add2, toNat_add1, Int.toNat_natCast, Bool.false_and, Bool.true_and, true_implies, true_and, Bool.false_eq_true, reduceCtorEq, false_implies, Bool.not_false, Bool.not_true, Bool.true_or, Bool.false_or]))) | (refine PW.cond rfl ?_ ?_ <;> intro hcond <;> (try contradiction) <;> try simp only [decide_eq_true_eq, decide_eq_false_iff_not] at hcond) | refine And.intro ?_ ?_ | exact Or.inr ⟨rfl, Nat.le_refl _⟩ | exact (fun h => Bool.noConfusion h) | omega | (simp only [decide_eq_true_eq, decide_eq_false_iff_not, List.length_cons, List.length_nil, List.length_append, List.length_map, Sh.size] <;> omega) | (go_unwrap; omega))
    rw [hr, List.drop_eq_nil_of_le h]; rfl
def accOk (s : List UInt8) : Bool := decide ((splitB 47 s).length ≤ 3) && (splitB 47 s).all partOk
theorem e61 : Ent Tryd.prog 61 := ⟨Tryd.f61, Tryd.func61, by kernel_rfl, by kernel_rfl⟩
theorem allL_from {α} {p : α → Bool} {s : List α} {i : Nat} (h : i < s.length) : (s.drop i).all p = (p (s[i]) && (s.drop (i + 1)).all p) := by
  rw [List.drop_eq_getElem_cons h, List.all_cons]
theorem strs_getD (l : List (List UInt8)) (i : Nat) (h : i < l.length) : (l.map PV.str).getD i .junk = .str l[i] := by simp [List.getD, h]
theorem split_sub (b : UInt8) : ∀ s : List UInt8, ∀ p ∈ splitB b s, p.length ≤ s.length
  | [], p, h => by simp [splitB] at h; simp [h]
  | x :: l, p, h => by
    have ih := split_sub b l
    by_cases hx : x = b
    · simp only [splitB, hx, if_true, List.mem_cons] at h
      rcases h with h | h
      · simp [h]
      · have := ih p h; simp only [List.length_cons]; omega
    · simp only [splitB, hx, if_false] at h
      split at h
      · rename_i h'; exact absurd h' (splitB_ne b l)
      · rename_i q qs h'
        rw [h'] at ih
        simp only [List.mem_cons] at h
        rcases h with h | h
        · have := ih q (by simp); simp only [h, List.length_cons]; omega
        · have := ih p (by simp [h]); simp only [List.length_cons]; omega
theorem v61 (s : List UInt8) (hs : s.length ≤ 1048576) : VCalls Tryd.prog G0 61 [.str s] (.bool (accOk s)) := by
  refine VCalls.of_PW Tryd.func61 k61 mix (by simp [c61]) ?_
  simp only [c61, L61, argE]
  have hsub := split_sub 47 s
  have hacc : accOk s = (decide ((splitB 47 s).length ≤ 3) && (splitB 47 s).all partOk) := rfl
  have hln := split_len 47 s
  have hcl : s.count 47 ≤ s.length := List.count_le_length
  have h63 := v63 s 47 hs
  generalize splitB 47 s = l at hsub hacc hln h63
  have hL : l.length ≤ 1048577 := by omega
  have hm : ((l.map PV.str).length : Nat) = l.length := by simp
  repeat' (first | refine PW.seq ?_ | refine PW.block ?_ | ((first | refine PW.region ?_ | refine PW.regionQ ?_ | refine PW.exit ?_ | refine PW.ret ?_ | refine PW.skip ?_); simp only [hm, SS, SS2, SS3, SS4, Option.map_some, Bool.not_false, Bool.not_true, gArgs, gOk, Nat.reduceAdd, PV.shift, MObj.shift, rdV, rdD, reduceIte, Nat.reduceEqDiff, Nat.reduceBEq, PV.bin, PV.binOk, binI, binS, PV.withInt, PV.withIntP, okAll, PV.under, PV.okUnder, eq_self, implies_true, deadOk, ne_eq, allOk, RVar.val, RVar.ok, retV, PV.seen, PV.view, beq_self_eq_true, PV.flat, PV.noOwn, id_eq, behind, PV.kill, MObj.kill, killTag, reduceCtorEq, nilB]; (try go_unwrap; try simp only [hm, toNat_add2, toNat_add1, Int.toNat_natCast, Bool.false_and, Bool.true_and, true_implies, true_and, Bool.false_eq_true, reduceCtorEq, false_implies, Bool.not_false, Bool.not_true, Bool.true_or, Bool.false_or])) | refine PW.regionA ?_ | exact schedW_stop_i | ((first | refine schedW_alt_i ?_ ?_ | refine schedW_done_i ?_); focus (simp only [hm, SS, SS2, SS3, SS4, Option.map_some, Bool.not_false, Bool.not_true, gArgs, gOk, Nat.reduceAdd, PV.shift, MObj.shift, rdV, rdD, reduceIte, Nat.reduceEqDiff, Nat.reduceBEq, PV.bin, PV.binOk, binI, binS, PV.withInt, PV.withIntP, okAll, PV.under, PV.okUnder, eq_self, implies_true, deadOk, ne_eq, allOk, RVar.val, RVar.ok, retV, PV.seen, PV.view, beq_self_eq_true, PV.flat, PV.noOwn, id_eq, behind, PV.kill, MObj.kill, killTag, reduceCtorEq, nilB]; (try go_unwrap; try simp only [hm, toNat_add2, toNat_add1, Int.toNat_natCast, Bool.false_and, Bool.true_and, true_implies, true_and, Bool.false_eq_true, reduceCtorEq, false_implies, Bool.not_false, Bool.not_true, Bool.true_or, Bool.false_or]))) | (refine PW.cond rfl ?_ ?_ <;> intro hcond <;> (try contradiction) <;> try simp only [decide_eq_true_eq, decide_eq_false_iff_not] at hcond) | (apply goCall_V e63; (case hV => (simp only [hm, SS, SS2, SS3, SS4, Option.map_some, Bool.not_false, Bool.not_true, gArgs, gOk, Nat.reduceAdd, PV.shift, MObj.shift, rdV, rdD, reduceIte, Nat.reduceEqDiff, Nat.reduceBEq, PV.bin, PV.binOk, binI, binS, PV.withInt, PV.withIntP, okAll, PV.under, PV.okUnder, eq_self, implies_true, deadOk, ne_eq, allOk, RVar.val, RVar.ok, retV, PV.seen, PV.view, beq_self_eq_true, PV.flat, PV.noOwn, id_eq, behind, PV.kill, MObj.kill, killTag, reduceCtorEq, nilB]; (try go_unwrap; try simp only [hm, toNat_add2, toNat_add1, Int.toNat_natCast, Bool.false_and, Bool.true_and, true_implies, true_and, Bool.false_eq_true, reduceCtorEq, false_implies, Bool.not_false, Bool.not_true, Bool.true_or, Bool.false_or]); exact h63)); (try (case hs => rfl)); (try (case hf => first | exact Or.inl rfl | exact Or.inr ⟨rfl, rfl⟩ | (refine Or.inl ?_; simp only [hm, SS, SS2, SS3, SS4, Option.map_some, Bool.not_false, Bool.not_true, gArgs, gOk, Nat.reduceAdd, PV.shift, MObj.shift, rdV, rdD, reduceIte, Nat.reduceEqDiff, Nat.reduceBEq, PV.bin, PV.binOk, binI, binS, PV.withInt, PV.withIntP, okAll, PV.under, PV.okUnder, eq_self, implies_true, deadOk, ne_eq, allOk, RVar.val, RVar.ok, retV, PV.seen, PV.view, beq_self_eq_true, PV.flat, PV.noOwn, id_eq, behind, PV.kill, MObj.kill, killTag, reduceCtorEq, nilB]; done) | (refine Or.inr ⟨rfl, ?_⟩; simp only [hm, SS, SS2, SS3, SS4, Option.map_some, Bool.not_false, Bool.not_true, gArgs, gOk, Nat.reduceAdd, PV.shift, MObj.shift, rdV, rdD, reduceIte, Nat.reduceEqDiff, Nat.reduceBEq, PV.bin, PV.binOk, binI, binS, PV.withInt, PV.withIntP, okAll, PV.under, PV.okUnder, eq_self, implies_true, deadOk, ne_eq, allOk, RVar.val, RVar.ok, retV, PV.seen, PV.view, beq_self_eq_true, PV.flat, PV.noOwn, id_eq, behind, PV.kill, MObj.kill, killTag, reduceCtorEq, nilB]; done))); all_goals (simp only [hm, SS, SS2, SS3, SS4, Option.map_some, Bool.not_false, Bool.not_true, gArgs, gOk, Nat.reduceAdd, PV.shift, MObj.shift, rdV, rdD, reduceIte, Nat.reduceEqDiff, Nat.reduceBEq, PV.bin, PV.binOk, binI, binS, PV.withInt, PV.withIntP, okAll, PV.under, PV.okUnder, eq_self, implies_true, deadOk, ne_eq, allOk, RVar.val, RVar.ok, retV, PV.seen, PV.view, beq_self_eq_true, PV.flat, PV.noOwn, id_eq, behind, PV.kill, MObj.kill, killTag, reduceCtorEq, nilB]; (try go_unwrap; try simp only [hm, toNat_add2, toNat_add1, Int.toNat_natCast, Bool.false_and, Bool.true_and, true_implies, true_and, Bool.false_eq_true, reduceCtorEq, false_implies, Bool.not_false, Bool.not_true, Bool.true_or, Bool.false_or]))) | refine And.intro ?_ ?_ | exact Or.inr ⟨rfl, Nat.le_refl _⟩ | exact (fun h => Bool.noConfusion h) | omega | (simp only [decide_eq_true_eq, decide_eq_false_iff_not, List.length_cons, List.length_nil, List.length_append, List.length_map, Sh.size] <;> omega) | (go_unwrap; omega))
  · have : ¬ l.length ≤ 3 := by omega
    rw [hacc]; simp [this]
  have hacc' : accOk s = l.all partOk := by rw [hacc]; simp; omega
  rw [hacc']
  refine PW.loop (σ := Nat) [0, 2, 11, 12, 13] (fun j => [.str s, .bool false, .list none (l.map PV.str), .int .i64 l.length, .int .i64 j]) (fun _ => []) (fun j => j ≤ l.length ∧ l.all partOk = (l.drop j).all partOk) (fun j => l.length - j) 0 ?_ rfl ⟨by omega, by simp⟩ ?_
  · simp only [SS, SS2, SS3, SS4, Option.map_some, Bool.not_false, Bool.not_true, gArgs, gOk, Nat.reduceAdd, PV.shift, MObj.shift, rdV, rdD, reduceIte, Nat.reduceEqDiff, Nat.reduceBEq, PV.bin, PV.binOk, binI, binS, PV.withInt, PV.withIntP, okAll, PV.under, PV.okUnder, eq_self, implies_true, deadOk, ne_eq, allOk, RVar.val, RVar.ok, retV, PV.seen, PV.view, beq_self_eq_true, PV.flat, PV.noOwn, id_eq, behind, PV.kill, MObj.kill, killTag, reduceCtorEq, nilB]; rfl
  rintro j ⟨hj, hr⟩
  simp only [List.zip_cons_cons, List.zip_nil_left]
  rcases Nat.lt_or_ge j l.length with h | h
  · have hd : decide ((j : Int) < l.length) = true := by simp only [decide_eq_true_eq]; omega
    have hg := strs_getD l j h
    rw [allL_from h] at hr
    have hp := hsub l[j] (by simp)
    generalize l[j] = b at hg hr hp
    repeat' (first | refine PW.seq ?_ | refine PW.block ?_ | ((first | refine PW.region ?_ | refine PW.regionQ ?_ | refine PW.exit ?_ | refine PW.ret ?_ | refine PW.skip ?_); simp only [hd, hg, SS, SS2, SS3, SS4, Option.map_some, Bool.not_false, Bool.not_true, gArgs, gOk, Nat.reduceAdd, PV.shift, MObj.shift, rdV, rdD, reduceIte, Nat.reduceEqDiff, Nat.reduceBEq, PV.bin, PV.binOk, binI, binS, PV.withInt, PV.withIntP, okAll, PV.under, PV.okUnder, eq_self, implies_true, deadOk, ne_eq, allOk, RVar.val, RVar.ok, retV, PV.seen, PV.view, beq_self_eq_true, PV.flat, PV.noOwn, id_eq, behind, PV.kill, MObj.kill, killTag, reduceCtorEq, nilB]; (try go_unwrap; try simp only [hd, hg, toNat_add2, toNat_add1, Int.toNat_natCast, Bool.false_and, Bool.true_and, true_implies, true_and, Bool.false_eq_true, reduceCtorEq, false_implies, Bool.not_false, Bool.not_true, Bool.true_or, Bool.false_or])) | refine PW.regionA ?_ | exact schedW_stop_i | ((first | refine schedW_alt_i ?_ ?_ | refine schedW_done_i ?_); focus (simp only [hd, hg, SS, SS2, SS3, SS4, Option.map_some, Bool.not_false, Bool.not_true, gArgs, gOk, Nat.reduceAdd, PV.shift, MObj.shift, rdV, rdD, reduceIte, Nat.reduceEqDiff, Nat.reduceBEq, PV.bin, PV.binOk, binI, binS, PV.withInt, PV.withIntP, okAll, PV.under, PV.okUnder, eq_self, implies_true, deadOk, ne_eq, allOk, RVar.val, RVar.ok, retV, PV.seen, PV.view, beq_self_eq_true, PV.flat, PV.noOwn, id_eq, behind, PV.kill, MObj.kill, killTag, reduceCtorEq, nilB]; (try go_unwrap; try simp only [hd, hg, toNat_add2, toNat_add1, Int.toNat_natCast, Bool.false_and, Bool.true_and, true_implies, true_and, Bool.false_eq_true, reduceCtorEq, false_implies, Bool.not_false, Bool.not_true, Bool.true_or, Bool.false_or]))) | (refine PW.cond rfl ?_ ?_ <;> intro hcond <;> (try contradiction) <;> try simp only [decide_eq_true_eq, decide_eq_false_iff_not] at hcond) | (apply goCall_V e67; (case hV => (simp only [hd, hg, SS, SS2, SS3, SS4, Option.map_some, Bool.not_false, Bool.not_true, gArgs, gOk, Nat.reduceAdd, PV.shift, MObj.shift, rdV, rdD, reduceIte, Nat.reduceEqDiff, Nat.reduceBEq, PV.bin, PV.binOk, binI, binS, PV.withInt, PV.withIntP, okAll, PV.under, PV.okUnder, eq_self, implies_true, deadOk, ne_eq, allOk, RVar.val, RVar.ok, retV, PV.seen, PV.view, beq_self_eq_true, PV.flat, PV.noOwn, id_eq, behind, PV.kill, MObj.kill, killTag, reduceCtorEq, nilB]; (try go_unwrap; try simp only [hd, hg, toNat_add2, toNat_add1, Int.toNat_natCast, Bool.false_and, Bool.true_and, true_implies, true_and, Bool.false_eq_true, reduceCtorEq, false_implies, Bool.not_false, Bool.not_true, Bool.true_or, Bool.false_or]); exact v67 b (by omega))); (try (case hs => rfl)); (try (case hf => first | exact Or.inl rfl | exact Or.inr ⟨rfl, rfl⟩ | (refine Or.inl ?_; simp only [hd, hg, SS, SS2, SS3, SS4, Option.map_some, Bool.not_false, Bool.not_true, gArgs, gOk, Nat.reduceAdd, PV.shift, MObj.shift, rdV, rdD, reduceIte, Nat.reduceEqDiff, Nat.reduceBEq, PV.bin, PV.binOk, binI, binS, PV.withInt, PV.withIntP, okAll, PV.under, PV.okUnder, eq_self, implies_true, deadOk, ne_eq, allOk, RVar.val, RVar.ok, retV, PV.seen, PV.view, beq_self_eq_true, PV.flat, PV.noOwn, id_eq, behind, PV.kill, MObj.kill, killTag, reduceCtorEq, nilB]; done) | (refine Or.inr ⟨rfl, ?_⟩; simp only [hd, hg, SS, SS2, SS3, SS4, Option.map_some, Bool.not_false, Bool.not_true, gArgs, gOk, Nat.reduceAdd, PV.shift, MObj.shift, rdV, rdD, reduceIte, Nat.reduceEqDiff, Nat.reduceBEq, PV.bin, PV.binOk, binI, binS, PV.withInt, PV.withIntP, okAll, PV.under, PV.okUnder, eq_self, implies_true, deadOk, ne_eq, allOk, RVar.val, RVar.ok, retV, PV.seen, PV.view, beq_self_eq_true, PV.flat, PV.noOwn, id_eq, behind, PV.kill, MObj.kill, killTag, reduceCtorEq, nilB]; done))); all_goals (simp only [hd, hg, SS, SS2, SS3, SS4, Option.map_some, Bool.not_false, Bool.not_true, gArgs, gOk, Nat.reduceAdd, PV.shift, MObj.shift, rdV, rdD, reduceIte, Nat.reduceEqDiff, Nat.reduceBEq, PV.bin, PV.binOk, binI, binS, PV.withInt, PV.withIntP, okAll, PV.under, PV.okUnder, eq_self, implies_true, deadOk, ne_eq, allOk, RVar.val, RVar.ok, retV, PV.seen, PV.view, beq_self_eq_true, PV.flat, PV.noOwn, id_eq, behind, PV.kill, MObj.kill, killTag, reduceCtorEq, nilB]; (try go_unwrap; try simp only [hd, hg, toNat_add2, toNat_add1, Int.toNat_natCast, Bool.false_and, Bool.true_and, true_implies, true_and, Bool.false_eq_true, reduceCtorEq, false_implies, Bool.not_false, Bool.not_true, Bool.true_or, Bool.false_or]))) | refine And.intro ?_ ?_ | exact Or.inr ⟨rfl, Nat.le_refl _⟩ | exact (fun h => Bool.noConfusion h) | omega | (simp only [decide_eq_true_eq, decide_eq_false_iff_not, List.length_cons, List.length_nil, List.length_append, List.length_map, Sh.size] <;> omega) | (go_unwrap; omega))
    all_goals first
      | (have hb : partOk b = true := by simp_all
         refine ⟨j + 1, rfl, ⟨by omega, by rw [hr, hb]; rfl⟩, by omega⟩)
      | (have hb : partOk b = false := by simp_all
         rw [hr, hb]; rfl)
      | (exfalso; simp_all)
  · have hd : decide ((j : Int) < l.length) = false := by simp only [decide_eq_false_iff_not]; omega
    repeat' (first | refine PW.seq ?_ | refine PW.block ?_ | ((first | refine PW.region ?_ | refine PW.regionQ ?_ | refine PW.exit ?_ | refine PW.ret ?_ | refine PW.skip ?_); simp only [hd, SS, SS2, SS3, SS4, Option.map_some, Bool.not_false, Bool.not_true, gArgs, gOk, Nat.reduceAdd, PV.shift, MObj.shift, rdV, rdD, reduceIte, Nat.reduceEqDiff, Nat.reduceBEq, PV.bin, PV.binOk, binI, binS, PV.withInt, PV.withIntP, okAll, PV.under, PV.okUnder, eq_self, implies_true, deadOk, ne_eq, allOk, RVar.val, RVar.ok, retV, PV.seen, PV.view, beq_self_eq_true, PV.flat, PV.noOwn, id_eq, behind, PV.kill, MObj.kill, killTag, reduceCtorEq, nilB]; (try go_unwrap; try simp only [hd, toNat_add2, toNat_add1, Int.toNat_natCast, Bool.false_and, Bool.true_and, true_implies, true_and, Bool.false_eq_true, reduceCtorEq, false_implies, Bool.not_false, Bool.not_true, Bool.true_or, Bool.false_or])) | refine PW.regionA ?_ | exact schedW_stop_i | ((first | refine schedW_alt_i ?_ ?_ | refine schedW_done_i ?_); focus (simp only [hd, SS, SS2, SS3, SS4, Option.map_some, Bool.not_false, Bool.not_true, gArgs, gOk, Nat.reduceAdd, PV.shift, MObj.shift, rdV, rdD, reduceIte, Nat.reduceEqDiff, Nat.reduceBEq, PV.bin, PV.binOk, binI, binS, PV.withInt, PV.withIntP, okAll, PV.under, PV.okUnder, eq_self, implies_true, deadOk, ne_eq, allOk, RVar.val, RVar.ok, retV, PV.seen, PV.view, beq_self_eq_true, PV.flat, PV.noOwn, id_eq, behind, PV.kill, MObj.kill, killTag, reduceCtorEq, nilB]; (try go_unwrap; try simp only [hd, toNat_add2, toNat_add1, Int.toNat_natCast, Bool.false_and, Bool.true_and, true_implies, true_and, Bool.false_eq_true, reduceCtorEq, false_implies, Bool.not_false, Bool.not_true, Bool.true_or, Bool.false_or]))) | (refine PW.cond rfl ?_ ?_ <;> intro hcond <;> (try contradiction) <;> try simp only [decide_eq_true_eq, decide_eq_false_iff_not] at hcond) | refine And.intro ?_ ?_ | exact Or.inr ⟨rfl, Nat.le_refl _⟩ | exact (fun h => Bool.noConfusion h) | omega | (simp only [decide_eq_true_eq, decide_eq_false_iff_not, List.length_cons, List.length_nil, List.length_append, List.length_map, Sh.size] <;> omega) | (go_unwrap; omega))
    rw [hr, List.drop_eq_nil_of_le h]; rfl
end Go.Proofs.YtdemgegpnlngeaaDoor

