import Derived.Test.YthekpjhffciakaaDoorProg
import Derived.KernelRfl
import Derived.Test.YthekpjhffciakaaDoorP4
namespace Go.Proofs.YthekpjhffciakaaDoor
open PG Go.Proofs
-- wagebook/eval.Eval
def L16 : List Nat := [0, 1, 2, 4, 5, 6, 7, 8, 9, 10, 12, 13, 14, 18, 25, 26, 27, 28, 33, 34, 35, 36, 54, 64, 73]
def c16 : CF := ⟨85,
 .seq (.region false [⟨some 2, none, .eff (.box (some 1)) [.tmp 0]⟩,
 ⟨some 4, none, .rd .mov [.pv (.int .i64 0)]⟩,
 ⟨some 5, none, .rd .mov [.pv (.int .i64 0)]⟩] L16)
 (.seq (.seq (.region false [⟨some 15, none, .rd (.load (some 1)) [.tmp 2]⟩,
 ⟨some 16, none, .call (.pv (.fn 29 [] [])) [.tmp 15]⟩,
 oM 6 16] L16)
 (.seq (.region false [oM 17 6,
 ⟨some 18, none, .rd (.bin .neq) [.tmp 17, .pv (.int .i64 0)]⟩] L16)
 (.cond (.tmp 18)
 (.seq (.region false [oM 19 6,
 ⟨some 4, none, .rd .mov [.pv (.int .i64 0)]⟩,
 oM 5 19] L16)
 (.ret))
 (.skip))))
 (.seq (.region false [oF 0 20 2,
 oL 21 20,
 ⟨some 22, none, .rd .lenL [.tmp 21]⟩,
 ⟨some 23, none, .eff (.make none (.int .i64 0) 8) [.tmp 22, .tmp 22]⟩,
 oM 7 23] L16)
 (.seq (.seq (.region false [oF 0 24 2,
 oL 25 24,
 ⟨some 26, none, .rd .lenL [.tmp 25]⟩,
 ⟨some 27, none, .rd .mov [.pv (.int .i64 0)]⟩] L16)
 (.block 0
 (.loop
 (.seq (.region false [⟨some 28, none, .rd (.bin .lss) [.tmp 27, .tmp 26]⟩] L16)
 (.seq (.cond (.tmp 28)
 (.skip)
 (.exit 0))
 (.seq (.block 1
 (.seq (.region false [oM 29 27,
 ⟨some 30, none, .rd (.idxAddr (some 4)) [.tmp 25, .tmp 27]⟩,
 ⟨some 31, none, .rd (.load (some 4)) [.tmp 30]⟩,
 ⟨some 9, none, .eff (.alloc (some 4) (.agg [(.int .i64 0), (.int .i64 0), (.str []), .nilSl])) []⟩,
 oM 8 29,
 ⟨none, none, .eff (.store (some 4)) [.tmp 9, .tmp 31]⟩] L16)
 (.seq (.region false [⟨some 10, none, .rd .mov [.pv .nilSl]⟩] L16)
 (.seq (.seq (.region false [oF 3 32 9,
 oL 33 32,
 ⟨some 34, none, .rd .lenL [.tmp 33]⟩,
 ⟨some 35, none, .rd .mov [.pv (.int .i64 0)]⟩] L16)
 (.block 2
 (.loop
 (.seq (.region false [⟨some 36, none, .rd (.bin .lss) [.tmp 35, .tmp 34]⟩] L16)
 (.seq (.cond (.tmp 36)
 (.skip)
 (.exit 2))
 (.seq (.block 3
 (.seq (.region false [⟨some 37, none, .rd (.idxAddr none) [.tmp 33, .tmp 35]⟩,
 oL 38 37,
 oM 12 38] L16)
 (.region false [oM 39 10,
 oM 40 7,
 oM 41 12,
 ⟨some 42, none, .rd (.idxAddr none) [.tmp 40, .tmp 41]⟩,
 oL 43 42,
 ⟨some 44, none, .eff (.lit none false) [.tmp 43]⟩,
 ⟨some 45, none, .eff (.append none 8) [.tmp 39, .tmp 44]⟩,
 oM 10 45] L16)))
 (.region false [⟨some 46, none, .rd (.bin .add) [.tmp 35, .pv (.int .i64 1)]⟩,
 oM 35 46] L16)))))))
 (.seq (.region false [oM 48 1,
 oF 2 49 9,
 oL 50 49,
 ⟨some 51, none, .rd (.look .str true (.int .i64 0)) [.tmp 48, .tmp 50]⟩,
 oM 47 51,
 ⟨some 52, none, .rd (.ext 0) [.tmp 47]⟩,
 ⟨some 53, none, .rd (.ext 1) [.tmp 47]⟩,
 oM 13 52,
 oM 14 53] L16)
 (.seq (.block 4
 (.seq (.region false [oF 0 55 9,
 oL 56 55,
 ⟨some 57, none, .rd (.bin .neq) [.tmp 56, .pv (.int .i64 1)]⟩,
 oM 54 57] L16)
 (.cond (.tmp 54)
 (.region false [⟨some 59, none, .rd (.load (some 4)) [.tmp 9]⟩,
 oM 60 10,
 ⟨some 61, none, .call (.pv (.fn 38 [] [])) [.tmp 59, .tmp 60]⟩,
 oM 58 61,
 ⟨some 62, none, .rd (.ext 0) [.tmp 58]⟩,
 ⟨some 63, none, .rd (.ext 1) [.tmp 58]⟩,
 oM 13 62,
 oM 14 63] L16)
 (.seq (.region false [oM 65 14,
 ⟨some 66, none, .rd (.un .not) [.tmp 65]⟩,
 oM 64 66] L16)
 (.cond (.tmp 64)
 (.seq (.region false [⟨some 4, none, .rd .mov [.pv (.int .i64 0)]⟩,
 ⟨some 5, none, .rd .mov [.pv (.int .i64 21)]⟩] L16)
 (.ret))
 (.skip))))))
 (.seq (.seq (.region false [oM 67 14,
 ⟨some 68, none, .rd (.un .not) [.tmp 67]⟩,
 oM 69 68,
 qM 69 false 70 13,
 ⟨some 71, some (69, false), .call (.pv (.fn 39 [] [])) [.tmp 70]⟩,
 ⟨some 72, some (69, false), .rd (.un .not) [.tmp 71]⟩,
 ⟨some 73, none, .rd .pick [.tmp 69, .pv (.bool true), .tmp 72]⟩] L16)
 (.cond (.tmp 73)
 (.seq (.region false [⟨some 4, none, .rd .mov [.pv (.int .i64 0)]⟩,
 ⟨some 5, none, .rd .mov [.pv (.int .i64 9)]⟩] L16)
 (.ret))
 (.skip)))
 (.region false [oM 74 7,
 oM 75 8,
 oM 76 13,
 ⟨some 77, none, .rd (.idxAddr none) [.tmp 74, .tmp 75]⟩,
 ⟨none, none, .eff (.store none) [.tmp 77, .tmp 76]⟩] L16))))))))
 (.region false [⟨some 78, none, .rd (.bin .add) [.tmp 27, .pv (.int .i64 1)]⟩,
 oM 27 78] L16)))))))
 (.seq (.region false [oM 79 7,
 oM 80 7,
 ⟨some 81, none, .rd .lenL [.tmp 80]⟩,
 ⟨some 82, none, .rd (.bin .sub) [.tmp 81, .pv (.int .i64 1)]⟩,
 ⟨some 83, none, .rd (.idxAddr none) [.tmp 79, .tmp 82]⟩,
 oL 84 83,
 oM 4 84,
 ⟨some 5, none, .rd .mov [.pv (.int .i64 0)]⟩] L16)
 (.ret))))),
 [.tmp 4, .tmp 5]⟩

-- wagebook/eval.node
def L38 : List Nat := [0, 1, 2, 4, 5, 7, 8, 12, 21, 30, 41, 50, 59, 69, 82]
def c38 : CF := ⟨89,
 .seq (.region false [⟨some 2, none, .eff (.box (some 4)) [.tmp 0]⟩,
 ⟨some 4, none, .rd .mov [.pv (.int .i64 0)]⟩,
 ⟨some 5, none, .rd .mov [.pv (.bool false)]⟩] L38)
 (.seq (.seq (.region false [oF 0 6 2,
 oL 7 6] L38)
 (.block 0
 (.seq (.region false [⟨some 9, none, .rd (.bin .eql) [.tmp 7, .pv (.int .i64 0)]⟩,
 oM 8 9] L38)
 (.cond (.tmp 8)
 (.seq (.region false [oF 1 10 2,
 oL 11 10,
 oM 4 11,
 ⟨some 5, none, .rd .mov [.pv (.bool true)]⟩] L38)
 (.ret))
 (.seq (.region false [⟨some 13, none, .rd (.bin .eql) [.tmp 7, .pv (.int .i64 2)]⟩,
 oM 12 13] L38)
 (.cond (.tmp 12)
 (.seq (.region true [oM 14 1,
 ⟨some 15, none, .rd (.idxAddr none) [.tmp 14, .pv (.int .i64 0)]⟩,
 oL 16 15,
 oM 17 1,
 ⟨some 18, none, .rd (.idxAddr none) [.tmp 17, .pv (.int .i64 1)]⟩,
 oL 19 18,
 ⟨some 20, none, .rd (.bin .add) [.tmp 16, .tmp 19]⟩,
 oM 4 20,
 ⟨some 5, none, .rd .mov [.pv (.bool true)]⟩] L38)
 (.ret))
 (.seq (.region false [⟨some 22, none, .rd (.bin .eql) [.tmp 7, .pv (.int .i64 3)]⟩,
 oM 21 22] L38)
 (.cond (.tmp 21)
 (.seq (.region true [oM 23 1,
 ⟨some 24, none, .rd (.idxAddr none) [.tmp 23, .pv (.int .i64 0)]⟩,
 oL 25 24,
 oM 26 1,
 ⟨some 27, none, .rd (.idxAddr none) [.tmp 26, .pv (.int .i64 1)]⟩,
 oL 28 27,
 ⟨some 29, none, .rd (.bin .sub) [.tmp 25, .tmp 28]⟩,
 oM 4 29,
 ⟨some 5, none, .rd .mov [.pv (.bool true)]⟩] L38)
 (.ret))
 (.seq (.region false [⟨some 31, none, .rd (.bin .eql) [.tmp 7, .pv (.int .i64 4)]⟩,
 oM 30 31] L38)
 (.cond (.tmp 30)
 (.seq (.region true [oM 32 1,
 ⟨some 33, none, .rd (.idxAddr none) [.tmp 32, .pv (.int .i64 0)]⟩,
 oL 34 33,
 oM 35 1,
 ⟨some 36, none, .rd (.idxAddr none) [.tmp 35, .pv (.int .i64 1)]⟩,
 oL 37 36,
 ⟨some 38, none, .call (.pv (.fn 69 [] [])) [.tmp 34, .tmp 37]⟩,
 ⟨some 39, none, .rd (.ext 0) [.tmp 38]⟩,
 ⟨some 40, none, .rd (.ext 1) [.tmp 38]⟩,
 oM 4 39,
 oM 5 40] L38)
 (.ret))
 (.seq (.region false [⟨some 42, none, .rd (.bin .eql) [.tmp 7, .pv (.int .i64 5)]⟩,
 oM 41 42] L38)
 (.cond (.tmp 41)
 (.seq (.region true [oM 43 1,
 ⟨some 44, none, .rd (.idxAddr none) [.tmp 43, .pv (.int .i64 0)]⟩,
 oL 45 44,
 oM 46 1,
 ⟨some 47, none, .rd (.idxAddr none) [.tmp 46, .pv (.int .i64 1)]⟩,
 oL 48 47,
 ⟨some 49, none, .rd .min [.tmp 45, .tmp 48]⟩,
 oM 4 49,
 ⟨some 5, none, .rd .mov [.pv (.bool true)]⟩] L38)
 (.ret))
 (.seq (.region false [⟨some 51, none, .rd (.bin .eql) [.tmp 7, .pv (.int .i64 6)]⟩,
 oM 50 51] L38)
 (.cond (.tmp 50)
 (.seq (.region true [oM 52 1,
 ⟨some 53, none, .rd (.idxAddr none) [.tmp 52, .pv (.int .i64 0)]⟩,
 oL 54 53,
 oM 55 1,
 ⟨some 56, none, .rd (.idxAddr none) [.tmp 55, .pv (.int .i64 1)]⟩,
 oL 57 56,
 ⟨some 58, none, .rd .max [.tmp 54, .tmp 57]⟩,
 oM 4 58,
 ⟨some 5, none, .rd .mov [.pv (.bool true)]⟩] L38)
 (.ret))
 (.seq (.region false [⟨some 60, none, .rd (.bin .eql) [.tmp 7, .pv (.int .i64 8)]⟩,
 oM 59 60] L38)
 (.cond (.tmp 59)
 (.seq (.region true [oM 61 1,
 ⟨some 62, none, .rd (.idxAddr none) [.tmp 61, .pv (.int .i64 0)]⟩,
 oL 63 62,
 oM 64 1,
 ⟨some 65, none, .rd (.idxAddr none) [.tmp 64, .pv (.int .i64 1)]⟩,
 oL 66 65,
 ⟨some 67, none, .rd (.bin .lss) [.tmp 63, .tmp 66]⟩,
 ⟨some 68, none, .call (.pv (.fn 70 [] [])) [.tmp 67]⟩,
 oM 4 68,
 ⟨some 5, none, .rd .mov [.pv (.bool true)]⟩] L38)
 (.ret))
 (.seq (.region false [⟨some 70, none, .rd (.bin .eql) [.tmp 7, .pv (.int .i64 9)]⟩,
 oM 69 70] L38)
 (.cond (.tmp 69)
 (.seq (.region true [oM 71 1,
 ⟨some 72, none, .rd (.idxAddr none) [.tmp 71, .pv (.int .i64 0)]⟩,
 oL 73 72,
 oM 74 1,
 ⟨some 75, none, .rd (.idxAddr none) [.tmp 74, .pv (.int .i64 1)]⟩,
 oL 76 75,
 ⟨some 77, none, .rd (.bin .eql) [.tmp 73, .tmp 76]⟩,
 ⟨some 78, none, .call (.pv (.fn 70 [] [])) [.tmp 77]⟩,
 oM 4 78,
 ⟨some 5, none, .rd .mov [.pv (.bool true)]⟩] L38)
 (.ret))
 (.skip)))))))))))))))))))
 (.seq (.seq (.region false [oM 79 1,
 ⟨some 80, none, .rd (.idxAddr none) [.tmp 79, .pv (.int .i64 0)]⟩,
 oL 81 80,
 ⟨some 82, none, .rd (.bin .neq) [.tmp 81, .pv (.int .i64 0)]⟩] L38)
 (.cond (.tmp 82)
 (.seq (.region false [oM 83 1,
 ⟨some 84, none, .rd (.idxAddr none) [.tmp 83, .pv (.int .i64 1)]⟩,
 oL 85 84,
 oM 4 85,
 ⟨some 5, none, .rd .mov [.pv (.bool true)]⟩] L38)
 (.ret))
 (.skip)))
 (.seq (.region false [oM 86 1,
 ⟨some 87, none, .rd (.idxAddr none) [.tmp 86, .pv (.int .i64 2)]⟩,
 oL 88 87,
 oM 4 88,
 ⟨some 5, none, .rd .mov [.pv (.bool true)]⟩] L38)
 (.ret)))),
 [.tmp 4, .tmp 5]⟩

-- wagebook/eval.fits
def L39 : List Nat := [0, 2]
def c39 : CF := ⟨9,
 .seq (.region false [⟨some 2, none, .rd .mov [.pv (.bool false)]⟩] L39)
 (.seq (.region false [oM 3 0,
 ⟨some 4, none, .rd (.bin .geq) [.tmp 3, .pv (.int .i64 (-1000000000000000000))]⟩,
 oM 5 4,
 qM 5 true 6 0,
 ⟨some 7, some (5, true), .rd (.bin .leq) [.tmp 6, .pv (.int .i64 1000000000000000000)]⟩,
 ⟨some 8, none, .rd .pick [.tmp 5, .tmp 7, .pv (.bool false)]⟩,
 oM 2 8] L39)
 (.ret)),
 [.tmp 2]⟩

-- wagebook/eval.times
def L69 : List Nat := [0, 1, 4, 5, 6, 7, 8, 9, 19, 28, 32, 37]
def c69 : CF := ⟨43,
 .seq (.region false [⟨some 4, none, .rd .mov [.pv (.int .i64 0)]⟩,
 ⟨some 5, none, .rd .mov [.pv (.bool false)]⟩] L69)
 (.seq (.region false [oM 11 0,
 ⟨some 12, none, .call (.pv (.fn 96 [] [])) [.tmp 11]⟩,
 oM 13 1,
 ⟨some 14, none, .call (.pv (.fn 96 [] [])) [.tmp 13]⟩,
 ⟨some 15, none, .call (.pv (.fn 95 [] [])) [.tmp 12, .tmp 14]⟩,
 oM 10 15,
 ⟨some 16, none, .rd (.ext 0) [.tmp 10]⟩,
 ⟨some 17, none, .rd (.ext 1) [.tmp 10]⟩,
 oM 6 16,
 oM 7 17] L69)
 (.seq (.seq (.region false [oM 18 6,
 ⟨some 19, none, .rd (.bin .geq) [.tmp 18, .pv (.int .u64 1000000)]⟩] L69)
 (.cond (.tmp 19)
 (.seq (.region false [⟨some 4, none, .rd .mov [.pv (.int .i64 0)]⟩,
 ⟨some 5, none, .rd .mov [.pv (.bool false)]⟩] L69)
 (.ret))
 (.skip)))
 (.seq (.region false [oM 21 6,
 oM 22 7,
 ⟨some 23, none, .call (.pv (.fn 97 [] [])) [.tmp 21, .tmp 22, .pv (.int .u64 1000000)]⟩,
 oM 20 23,
 ⟨some 24, none, .rd (.ext 0) [.tmp 20]⟩,
 ⟨some 25, none, .rd (.ext 1) [.tmp 20]⟩,
 oM 8 24,
 oM 9 25] L69)
 (.seq (.seq (.region false [oM 26 9,
 ⟨some 27, none, .rd (.bin .mul) [.pv (.int .u64 2), .tmp 26]⟩,
 ⟨some 28, none, .rd (.bin .geq) [.tmp 27, .pv (.int .u64 1000000)]⟩] L69)
 (.cond (.tmp 28)
 (.region false [oM 29 8,
 ⟨some 30, none, .rd (.bin .add) [.tmp 29, .pv (.int .u64 1)]⟩,
 oM 8 30] L69)
 (.skip)))
 (.seq (.seq (.region false [oM 31 8,
 ⟨some 32, none, .rd (.bin .gtr) [.tmp 31, .pv (.int .u64 1000000000000000000)]⟩] L69)
 (.cond (.tmp 32)
 (.seq (.region false [⟨some 4, none, .rd .mov [.pv (.int .i64 0)]⟩,
 ⟨some 5, none, .rd .mov [.pv (.bool false)]⟩] L69)
 (.ret))
 (.skip)))
 (.seq (.seq (.region false [oM 33 0,
 ⟨some 34, none, .rd (.bin .lss) [.tmp 33, .pv (.int .i64 0)]⟩,
 oM 35 1,
 ⟨some 36, none, .rd (.bin .lss) [.tmp 35, .pv (.int .i64 0)]⟩,
 ⟨some 37, none, .rd (.eqB true) [.tmp 34, .tmp 36]⟩] L69)
 (.cond (.tmp 37)
 (.seq (.region false [oM 38 8,
 ⟨some 39, none, .rd (.conv .i64) [.tmp 38]⟩,
 ⟨some 40, none, .rd (.un .neg) [.tmp 39]⟩,
 oM 4 40,
 ⟨some 5, none, .rd .mov [.pv (.bool true)]⟩] L69)
 (.ret))
 (.skip)))
 (.seq (.region false [oM 41 8,
 ⟨some 42, none, .rd (.conv .i64) [.tmp 41]⟩,
 oM 4 42,
 ⟨some 5, none, .rd .mov [.pv (.bool true)]⟩] L69)
 (.ret)))))))),
 [.tmp 4, .tmp 5]⟩

-- wagebook/eval.yes
def L70 : List Nat := [0, 2, 3]
def c70 : CF := ⟨4,
 .seq (.region false [⟨some 2, none, .rd .mov [.pv (.int .i64 0)]⟩] L70)
 (.seq (.seq (.region false [oM 3 0] L70)
 (.cond (.tmp 3)
 (.seq (.region false [⟨some 2, none, .rd .mov [.pv (.int .i64 1000000)]⟩] L70)
 (.ret))
 (.skip)))
 (.seq (.region false [⟨some 2, none, .rd .mov [.pv (.int .i64 0)]⟩] L70)
 (.ret))),
 [.tmp 2]⟩

-- math/bits.Mul64
def L95 : List Nat := [0, 1, 4, 5, 6, 7, 8, 9, 10, 11, 12, 13]
def c95 : CF := ⟨51,
 .seq (.region false [⟨some 4, none, .rd .mov [.pv (.int .u64 0)]⟩,
 ⟨some 5, none, .rd .mov [.pv (.int .u64 0)]⟩] L95)
 (.seq (.region false [oM 14 0,
 ⟨some 15, none, .rd (.bin .and) [.tmp 14, .pv (.int .u64 4294967295)]⟩,
 oM 6 15] L95)
 (.seq (.region false [oM 16 0,
 ⟨some 17, none, .rd (.bin .shr) [.tmp 16, .pv (.int .u64 32)]⟩,
 oM 7 17] L95)
 (.seq (.region false [oM 18 1,
 ⟨some 19, none, .rd (.bin .and) [.tmp 18, .pv (.int .u64 4294967295)]⟩,
 oM 8 19] L95)
 (.seq (.region false [oM 20 1,
 ⟨some 21, none, .rd (.bin .shr) [.tmp 20, .pv (.int .u64 32)]⟩,
 oM 9 21] L95)
 (.seq (.region false [oM 22 6,
 oM 23 8,
 ⟨some 24, none, .rd (.bin .mul) [.tmp 22, .tmp 23]⟩,
 oM 10 24] L95)
 (.seq (.region false [oM 25 7,
 oM 26 8,
 ⟨some 27, none, .rd (.bin .mul) [.tmp 25, .tmp 26]⟩,
 oM 28 10,
 ⟨some 29, none, .rd (.bin .shr) [.tmp 28, .pv (.int .u64 32)]⟩,
 ⟨some 30, none, .rd (.bin .add) [.tmp 27, .tmp 29]⟩,
 oM 11 30] L95)
 (.seq (.region false [oM 31 11,
 ⟨some 32, none, .rd (.bin .and) [.tmp 31, .pv (.int .u64 4294967295)]⟩,
 oM 12 32] L95)
 (.seq (.region false [oM 33 11,
 ⟨some 34, none, .rd (.bin .shr) [.tmp 33, .pv (.int .u64 32)]⟩,
 oM 13 34] L95)
 (.seq (.region false [oM 35 12,
 oM 36 6,
 oM 37 9,
 ⟨some 38, none, .rd (.bin .mul) [.tmp 36, .tmp 37]⟩,
 ⟨some 39, none, .rd (.bin .add) [.tmp 35, .tmp 38]⟩,
 oM 12 39] L95)
 (.seq (.region false [oM 40 7,
 oM 41 9,
 ⟨some 42, none, .rd (.bin .mul) [.tmp 40, .tmp 41]⟩,
 oM 43 13,
 ⟨some 44, none, .rd (.bin .add) [.tmp 42, .tmp 43]⟩,
 oM 45 12,
 ⟨some 46, none, .rd (.bin .shr) [.tmp 45, .pv (.int .u64 32)]⟩,
 ⟨some 47, none, .rd (.bin .add) [.tmp 44, .tmp 46]⟩,
 oM 4 47] L95)
 (.seq (.region false [oM 48 0,
 oM 49 1,
 ⟨some 50, none, .rd (.bin .mul) [.tmp 48, .tmp 49]⟩,
 oM 5 50] L95)
 (.ret)))))))))))),
 [.tmp 4, .tmp 5]⟩

-- wagebook/eval.size
def L96 : List Nat := [0, 2, 4]
def c96 : CF := ⟨10,
 .seq (.region false [⟨some 2, none, .rd .mov [.pv (.int .u64 0)]⟩] L96)
 (.seq (.seq (.region false [oM 3 0,
 ⟨some 4, none, .rd (.bin .lss) [.tmp 3, .pv (.int .i64 0)]⟩] L96)
 (.cond (.tmp 4)
 (.seq (.region false [oM 5 0,
 ⟨some 6, none, .rd (.un .neg) [.tmp 5]⟩,
 ⟨some 7, none, .rd (.conv .u64) [.tmp 6]⟩,
 oM 2 7] L96)
 (.ret))
 (.skip)))
 (.seq (.region false [oM 8 0,
 ⟨some 9, none, .rd (.conv .u64) [.tmp 8]⟩,
 oM 2 9] L96)
 (.ret))),
 [.tmp 2]⟩

-- math/bits.Div64
def L97 : List Nat := [0, 1, 2, 6, 7, 8, 9, 10, 11, 12, 13, 14, 15, 16, 17, 18, 20, 24, 27, 78, 85, 113, 120]
def c97 : CF := ⟨135,
 .seq (.region false [⟨some 6, none, .rd .mov [.pv (.int .u64 0)]⟩,
 ⟨some 7, none, .rd .mov [.pv (.int .u64 0)]⟩] L97)
 (.seq (.seq (.region false [oM 19 2,
 ⟨some 20, none, .rd (.bin .eql) [.tmp 19, .pv (.int .u64 0)]⟩] L97)
 (.cond (.tmp 20)
 (.region false [⟨some 21, none, .rd (.load none) [.glob 3]⟩,
 ⟨none, none, .rd .dead [.tmp 21]⟩] L97)
 (.skip)))
 (.seq (.seq (.region false [oM 22 2,
 oM 23 0,
 ⟨some 24, none, .rd (.bin .leq) [.tmp 22, .tmp 23]⟩] L97)
 (.cond (.tmp 24)
 (.region false [⟨some 25, none, .rd (.load none) [.glob 4]⟩,
 ⟨none, none, .rd .dead [.tmp 25]⟩] L97)
 (.skip)))
 (.seq (.seq (.region false [oM 26 0,
 ⟨some 27, none, .rd (.bin .eql) [.tmp 26, .pv (.int .u64 0)]⟩] L97)
 (.cond (.tmp 27)
 (.seq (.region true [oM 28 1,
 oM 29 2,
 ⟨some 30, none, .rd (.bin .quo) [.tmp 28, .tmp 29]⟩,
 oM 31 1,
 oM 32 2,
 ⟨some 33, none, .rd (.bin .rem) [.tmp 31, .tmp 32]⟩,
 oM 6 30,
 oM 7 33] L97)
 (.ret))
 (.skip)))
 (.seq (.region false [oM 34 2,
 ⟨some 35, none, .call (.pv (.fn 125 [] [])) [.tmp 34]⟩,
 ⟨some 36, none, .rd (.conv .u64) [.tmp 35]⟩,
 oM 8 36] L97)
 (.seq (.region false [oM 37 2,
 oM 38 8,
 ⟨some 39, none, .rd (.bin .shl) [.tmp 37, .tmp 38]⟩,
 oM 2 39] L97)
 (.seq (.region false [oM 40 2,
 ⟨some 41, none, .rd (.bin .shr) [.tmp 40, .pv (.int .u64 32)]⟩,
 oM 9 41] L97)
 (.seq (.region false [oM 42 2,
 ⟨some 43, none, .rd (.bin .and) [.tmp 42, .pv (.int .u64 4294967295)]⟩,
 oM 10 43] L97)
 (.seq (.region false [oM 44 0,
 oM 45 8,
 ⟨some 46, none, .rd (.bin .shl) [.tmp 44, .tmp 45]⟩,
 oM 47 1,
 oM 48 8,
 ⟨some 49, none, .rd (.bin .sub) [.pv (.int .u64 64), .tmp 48]⟩,
 ⟨some 50, none, .rd (.bin .shr) [.tmp 47, .tmp 49]⟩,
 ⟨some 51, none, .rd (.bin .or) [.tmp 46, .tmp 50]⟩,
 oM 11 51] L97)
 (.seq (.region false [oM 52 1,
 oM 53 8,
 ⟨some 54, none, .rd (.bin .shl) [.tmp 52, .tmp 53]⟩,
 oM 12 54] L97)
 (.seq (.region false [oM 55 12,
 ⟨some 56, none, .rd (.bin .shr) [.tmp 55, .pv (.int .u64 32)]⟩,
 oM 13 56] L97)
 (.seq (.region false [oM 57 12,
 ⟨some 58, none, .rd (.bin .and) [.tmp 57, .pv (.int .u64 4294967295)]⟩,
 oM 14 58] L97)
 (.seq (.region false [oM 59 11,
 oM 60 9,
 ⟨some 61, none, .rd (.bin .quo) [.tmp 59, .tmp 60]⟩,
 oM 15 61] L97)
 (.seq (.region false [oM 62 11,
 oM 63 15,
 oM 64 9,
 ⟨some 65, none, .rd (.bin .mul) [.tmp 63, .tmp 64]⟩,
 ⟨some 66, none, .rd (.bin .sub) [.tmp 62, .tmp 65]⟩,
 oM 16 66] L97)
 (.seq (.block 0
 (.loop
 (.seq (.seq (.region false [oM 67 15,
 ⟨some 68, none, .rd (.bin .geq) [.tmp 67, .pv (.int .u64 4294967296)]⟩,
 oM 69 68,
 qM 69 false 70 15,
 qM 69 false 71 10,
 ⟨some 72, some (69, false), .rd (.bin .mul) [.tmp 70, .tmp 71]⟩,
 qM 69 false 73 16,
 ⟨some 74, some (69, false), .rd (.bin .mul) [.pv (.int .u64 4294967296), .tmp 73]⟩,
 qM 69 false 75 13,
 ⟨some 76, some (69, false), .rd (.bin .add) [.tmp 74, .tmp 75]⟩,
 ⟨some 77, some (69, false), .rd (.bin .gtr) [.tmp 72, .tmp 76]⟩,
 ⟨some 78, none, .rd .pick [.tmp 69, .pv (.bool true), .tmp 77]⟩] L97)
 (.cond (.tmp 78)
 (.skip)
 (.exit 0)))
 (.block 1
 (.seq (.region false [oM 79 15,
 ⟨some 80, none, .rd (.bin .sub) [.tmp 79, .pv (.int .u64 1)]⟩,
 oM 15 80] L97)
 (.seq (.region false [oM 81 16,
 oM 82 9,
 ⟨some 83, none, .rd (.bin .add) [.tmp 81, .tmp 82]⟩,
 oM 16 83] L97)
 (.seq (.region false [oM 84 16,
 ⟨some 85, none, .rd (.bin .geq) [.tmp 84, .pv (.int .u64 4294967296)]⟩] L97)
 (.cond (.tmp 85)
 (.exit 0)
 (.skip)))))))))
 (.seq (.region false [oM 86 11,
 ⟨some 87, none, .rd (.bin .mul) [.tmp 86, .pv (.int .u64 4294967296)]⟩,
 oM 88 13,
 ⟨some 89, none, .rd (.bin .add) [.tmp 87, .tmp 88]⟩,
 oM 90 15,
 oM 91 2,
 ⟨some 92, none, .rd (.bin .mul) [.tmp 90, .tmp 91]⟩,
 ⟨some 93, none, .rd (.bin .sub) [.tmp 89, .tmp 92]⟩,
 oM 17 93] L97)
 (.seq (.region false [oM 94 17,
 oM 95 9,
 ⟨some 96, none, .rd (.bin .quo) [.tmp 94, .tmp 95]⟩,
 oM 18 96] L97)
 (.seq (.region false [oM 97 17,
 oM 98 18,
 oM 99 9,
 ⟨some 100, none, .rd (.bin .mul) [.tmp 98, .tmp 99]⟩,
 ⟨some 101, none, .rd (.bin .sub) [.tmp 97, .tmp 100]⟩,
 oM 16 101] L97)
 (.seq (.block 2
 (.loop
 (.seq (.seq (.region false [oM 102 18,
 ⟨some 103, none, .rd (.bin .geq) [.tmp 102, .pv (.int .u64 4294967296)]⟩,
 oM 104 103,
 qM 104 false 105 18,
 qM 104 false 106 10,
 ⟨some 107, some (104, false), .rd (.bin .mul) [.tmp 105, .tmp 106]⟩,
 qM 104 false 108 16,
 ⟨some 109, some (104, false), .rd (.bin .mul) [.pv (.int .u64 4294967296), .tmp 108]⟩,
 qM 104 false 110 14,
 ⟨some 111, some (104, false), .rd (.bin .add) [.tmp 109, .tmp 110]⟩,
 ⟨some 112, some (104, false), .rd (.bin .gtr) [.tmp 107, .tmp 111]⟩,
 ⟨some 113, none, .rd .pick [.tmp 104, .pv (.bool true), .tmp 112]⟩] L97)
 (.cond (.tmp 113)
 (.skip)
 (.exit 2)))
 (.block 3
 (.seq (.region false [oM 114 18,
 ⟨some 115, none, .rd (.bin .sub) [.tmp 114, .pv (.int .u64 1)]⟩,
 oM 18 115] L97)
 (.seq (.region false [oM 116 16,
 oM 117 9,
 ⟨some 118, none, .rd (.bin .add) [.tmp 116, .tmp 117]⟩,
 oM 16 118] L97)
 (.seq (.region false [oM 119 16,
 ⟨some 120, none, .rd (.bin .geq) [.tmp 119, .pv (.int .u64 4294967296)]⟩] L97)
 (.cond (.tmp 120)
 (.exit 2)
 (.skip)))))))))
 (.seq (.region false [oM 121 15,
 ⟨some 122, none, .rd (.bin .mul) [.tmp 121, .pv (.int .u64 4294967296)]⟩,
 oM 123 18,
 ⟨some 124, none, .rd (.bin .add) [.tmp 122, .tmp 123]⟩,
 oM 125 17,
 ⟨some 126, none, .rd (.bin .mul) [.tmp 125, .pv (.int .u64 4294967296)]⟩,
 oM 127 14,
 ⟨some 128, none, .rd (.bin .add) [.tmp 126, .tmp 127]⟩,
 oM 129 18,
 oM 130 2,
 ⟨some 131, none, .rd (.bin .mul) [.tmp 129, .tmp 130]⟩,
 ⟨some 132, none, .rd (.bin .sub) [.tmp 128, .tmp 131]⟩,
 oM 133 8,
 ⟨some 134, none, .rd (.bin .shr) [.tmp 132, .tmp 133]⟩,
 oM 6 124,
 oM 7 134] L97)
 (.ret)))))))))))))))))))),
 [.tmp 6, .tmp 7]⟩

-- math/bits.Len64
def L117 : List Nat := [0, 2, 4, 8, 14]
def c117 : CF := ⟨25,
 .seq (.region false [⟨some 2, none, .rd .mov [.pv (.int .i64 0)]⟩] L117)
 (.seq (.seq (.region false [oM 3 0,
 ⟨some 4, none, .rd (.bin .geq) [.tmp 3, .pv (.int .u64 4294967296)]⟩] L117)
 (.cond (.tmp 4)
 (.seq (.region false [oM 5 0,
 ⟨some 6, none, .rd (.bin .shr) [.tmp 5, .pv (.int .u64 32)]⟩,
 oM 0 6] L117)
 (.region false [⟨some 2, none, .rd .mov [.pv (.int .i64 32)]⟩] L117))
 (.skip)))
 (.seq (.seq (.region false [oM 7 0,
 ⟨some 8, none, .rd (.bin .geq) [.tmp 7, .pv (.int .u64 65536)]⟩] L117)
 (.cond (.tmp 8)
 (.seq (.region false [oM 9 0,
 ⟨some 10, none, .rd (.bin .shr) [.tmp 9, .pv (.int .u64 16)]⟩,
 oM 0 10] L117)
 (.region false [oM 11 2,
 ⟨some 12, none, .rd (.bin .add) [.tmp 11, .pv (.int .i64 16)]⟩,
 oM 2 12] L117))
 (.skip)))
 (.seq (.seq (.region false [oM 13 0,
 ⟨some 14, none, .rd (.bin .geq) [.tmp 13, .pv (.int .u64 256)]⟩] L117)
 (.cond (.tmp 14)
 (.seq (.region false [oM 15 0,
 ⟨some 16, none, .rd (.bin .shr) [.tmp 15, .pv (.int .u64 8)]⟩,
 oM 0 16] L117)
 (.region false [oM 17 2,
 ⟨some 18, none, .rd (.bin .add) [.tmp 17, .pv (.int .i64 8)]⟩,
 oM 2 18] L117))
 (.skip)))
 (.seq (.region false [oM 19 2,
 oM 20 0,
 ⟨some 21, none, .rd (.conv .u8) [.tmp 20]⟩,
 ⟨some 22, none, .rd .idxS [.pv (.str [0, 1, 2, 2, 3, 3, 3, 3, 4, 4, 4, 4, 4, 4, 4, 4, 5, 5, 5, 5, 5, 5, 5, 5, 5, 5, 5, 5, 5, 5, 5, 5, 6, 6, 6, 6, 6, 6, 6, 6, 6, 6, 6, 6, 6, 6, 6, 6, 6, 6, 6, 6, 6, 6, 6, 6, 6, 6, 6, 6, 6, 6, 6, 6, 7, 7, 7, 7, 7, 7, 7, 7, 7, 7, 7, 7, 7, 7, 7, 7, 7, 7, 7, 7, 7, 7, 7, 7, 7, 7, 7, 7, 7, 7, 7, 7, 7, 7, 7, 7, 7, 7, 7, 7, 7, 7, 7, 7, 7, 7, 7, 7, 7, 7, 7, 7, 7, 7, 7, 7, 7, 7, 7, 7, 7, 7, 7, 7, 8, 8, 8, 8, 8, 8, 8, 8, 8, 8, 8, 8, 8, 8, 8, 8, 8, 8, 8, 8, 8, 8, 8, 8, 8, 8, 8, 8, 8, 8, 8, 8, 8, 8, 8, 8, 8, 8, 8, 8, 8, 8, 8, 8, 8, 8, 8, 8, 8, 8, 8, 8, 8, 8, 8, 8, 8, 8, 8, 8, 8, 8, 8, 8, 8, 8, 8, 8, 8, 8, 8, 8, 8, 8, 8, 8, 8, 8, 8, 8, 8, 8, 8, 8, 8, 8, 8, 8, 8, 8, 8, 8, 8, 8, 8, 8, 8, 8, 8, 8, 8, 8, 8, 8, 8, 8, 8, 8, 8, 8, 8, 8, 8, 8, 8, 8, 8, 8, 8, 8, 8, 8, 8, 8, 8, 8, 8, 8]), .tmp 21]⟩,
 ⟨some 23, none, .rd (.conv .i64) [.tmp 22]⟩,
 ⟨some 24, none, .rd (.bin .add) [.tmp 19, .tmp 23]⟩,
 oM 2 24] L117)
 (.ret))))),
 [.tmp 2]⟩

-- math/bits.LeadingZeros64
def L125 : List Nat := [0, 2]
def c125 : CF := ⟨6,
 .seq (.region false [⟨some 2, none, .rd .mov [.pv (.int .i64 0)]⟩] L125)
 (.seq (.region false [oM 3 0,
 ⟨some 4, none, .call (.pv (.fn 117 [] [])) [.tmp 3]⟩,
 ⟨some 5, none, .rd (.bin .sub) [.pv (.int .i64 64), .tmp 4]⟩,
 oM 2 5] L125)
 (.ret)),
 [.tmp 2]⟩

-- math/bits.Len32
def L13 : List Nat := [0, 2, 3, 4, 6, 8, 9, 10, 11]
def c13 : CF := ⟨26,
 .seq (.region false [⟨some 2, none, .rd .mov [.pv .nilMap]⟩,
 ⟨some 3, none, .rd .mov [.pv (.bool false)]⟩] L13)
 (.seq (.region false [⟨some 7, none, .eff (.mmk .str) []⟩,
 oM 4 7] L13)
 (.seq (.seq (.region false [oM 8 0,
 ⟨some 9, none, .rd .lenL [.tmp 8]⟩,
 ⟨some 10, none, .rd .mov [.pv (.int .i64 0)]⟩] L13)
 (.block 0
 (.loop
 (.seq (.region false [⟨some 11, none, .rd (.bin .lss) [.tmp 10, .tmp 9]⟩] L13)
 (.seq (.cond (.tmp 11)
 (.skip)
 (.exit 0))
 (.seq (.block 1
 (.seq (.region false [⟨some 12, none, .rd (.idxAddr (some 2)) [.tmp 8, .tmp 10]⟩,
 ⟨some 13, none, .rd (.load (some 2)) [.tmp 12]⟩,
 ⟨some 6, none, .eff (.alloc (some 2) (.agg [(.str []), (.int .i64 0)])) []⟩,
 ⟨none, none, .eff (.store (some 2)) [.tmp 6, .tmp 13]⟩] L13)
 (.region false [oM 14 4,
 oF 0 15 6,
 oL 16 15,
 oF 1 17 6,
 oL 18 17,
 ⟨none, none, .eff (.mupd .str) [.tmp 14, .tmp 16, .tmp 18]⟩] L13)))
 (.region false [⟨some 19, none, .rd (.bin .add) [.tmp 10, .pv (.int .i64 1)]⟩,
 oM 10 19] L13)))))))
 (.seq (.region false [oM 20 4,
 oM 21 4,
 ⟨some 22, none, .rd .lenM [.tmp 21]⟩,
 oM 23 0,
 ⟨some 24, none, .rd .lenL [.tmp 23]⟩,
 ⟨some 25, none, .rd (.bin .eql) [.tmp 22, .tmp 24]⟩,
 oM 2 20,
 oM 3 25] L13)
 (.ret)))),
 [.tmp 2, .tmp 3]⟩

-- wagebook/wagebooklaw15.small
def L14 : List Nat := [0, 1, 2, 3, 5, 7, 8, 9, 10]
def c14 : CF := ⟨26,
 .seq (.region false [⟨some 1, none, .eff (.box (some 1)) [.tmp 0]⟩,
 ⟨some 2, none, .rd .mov [.pv (.bool false)]⟩] L14)
 (.seq (.region false [⟨some 3, none, .rd .mov [.pv (.int .i64 0)]⟩] L14)
 (.seq (.seq (.region false [oF 0 6 1,
 oL 7 6,
 ⟨some 8, none, .rd .lenL [.tmp 7]⟩,
 ⟨some 9, none, .rd .mov [.pv (.int .i64 0)]⟩] L14)
 (.block 0
 (.loop
 (.seq (.region false [⟨some 10, none, .rd (.bin .lss) [.tmp 9, .tmp 8]⟩] L14)
 (.seq (.cond (.tmp 10)
 (.skip)
 (.exit 0))
 (.seq (.block 1
 (.seq (.region false [⟨some 11, none, .rd (.idxAddr (some 4)) [.tmp 7, .tmp 9]⟩,
 ⟨some 12, none, .rd (.load (some 4)) [.tmp 11]⟩,
 ⟨some 5, none, .eff (.alloc (some 4) (.agg [(.int .i64 0), (.int .i64 0), (.str []), .nilSl])) []⟩,
 ⟨none, none, .eff (.store (some 4)) [.tmp 5, .tmp 12]⟩] L14)
 (.region false [oM 13 3,
 oF 3 14 5,
 oL 15 14,
 ⟨some 16, none, .rd .lenL [.tmp 15]⟩,
 ⟨some 17, none, .rd (.bin .add) [.pv (.int .i64 1), .tmp 16]⟩,
 oF 2 18 5,
 oL 19 18,
 ⟨some 20, none, .rd .lenS [.tmp 19]⟩,
 ⟨some 21, none, .rd (.bin .add) [.tmp 17, .tmp 20]⟩,
 ⟨some 22, none, .rd (.bin .add) [.tmp 13, .tmp 21]⟩,
 oM 3 22] L14)))
 (.region false [⟨some 23, none, .rd (.bin .add) [.tmp 9, .pv (.int .i64 1)]⟩,
 oM 9 23] L14)))))))
 (.seq (.region false [oM 24 3,
 ⟨some 25, none, .rd (.bin .leq) [.tmp 24, .pv (.int .i64 1500)]⟩,
 oM 2 25] L14)
 (.ret)))),
 [.tmp 2]⟩

-- wagebook/wagebooklaw15.awake
def L15 : List Nat := [0, 1, 2, 3]
def c15 : CF := ⟨29,
 .seq (.region false [⟨some 0, none, .rd .mov [.pv (.bool false)]⟩] L15)
 (.seq (.region false [⟨some 4, none, .rd (.build [(.int .i64 0), (.int .i64 0), (.str []), .nilSl] [(0, 1), (2, 1)]) [.pv (.int .i64 1), .pv (.str [97])]⟩,
 ⟨some 5, none, .rd (.build [(.int .i64 0), (.int .i64 0), (.str []), .nilSl] [(0, 1), (1, 1)]) [.pv (.int .i64 0), .pv (.int .i64 2000000)]⟩,
 ⟨some 6, none, .rd (.build [(.int .i64 0), (.int .i64 0), (.str []), .nilSl] [(0, 1), (2, 1)]) [.pv (.int .i64 1), .pv (.str [98])]⟩,
 ⟨some 7, none, .rd (.build [(.int .i64 0), (.int .i64 0), (.str []), .nilSl] [(0, 1), (2, 1)]) [.pv (.int .i64 1), .pv (.str [99])]⟩,
 ⟨some 8, none, .eff (.lit none false) [.pv (.int .i64 2), .pv (.int .i64 3)]⟩,
 ⟨some 9, none, .rd (.build [(.int .i64 0), (.int .i64 0), (.str []), .nilSl] [(0, 1), (3, 1)]) [.pv (.int .i64 3), .tmp 8]⟩,
 ⟨some 10, none, .eff (.lit none false) [.pv (.int .i64 1), .pv (.int .i64 4)]⟩,
 ⟨some 11, none, .rd (.build [(.int .i64 0), (.int .i64 0), (.str []), .nilSl] [(0, 1), (3, 1)]) [.pv (.int .i64 4), .tmp 10]⟩,
 ⟨some 12, none, .eff (.lit none false) [.pv (.int .i64 0), .pv (.int .i64 5)]⟩,
 ⟨some 13, none, .rd (.build [(.int .i64 0), (.int .i64 0), (.str []), .nilSl] [(0, 1), (3, 1)]) [.pv (.int .i64 2), .tmp 12]⟩,
 ⟨some 14, none, .eff (.lit (some 4) false) [.tmp 4, .tmp 5, .tmp 6, .tmp 7, .tmp 9, .tmp 11, .tmp 13]⟩,
 ⟨some 15, none, .rd (.build [.nilSl] [(0, 1)]) [.tmp 14]⟩,
 ⟨some 1, none, .eff (.alloc (some 1) (.agg [.nilSl])) []⟩,
 ⟨none, none, .eff (.store (some 1)) [.tmp 1, .tmp 15]⟩] L15)
 (.seq (.region false [⟨some 17, none, .rd (.load (some 1)) [.tmp 1]⟩,
 ⟨some 18, none, .eff (.mmk .str) []⟩,
 ⟨none, none, .eff (.mupd .str) [.tmp 18, .pv (.str [97]), .pv (.int .i64 1000000)]⟩,
 ⟨none, none, .eff (.mupd .str) [.tmp 18, .pv (.str [98]), .pv (.int .i64 2500000)]⟩,
 ⟨none, none, .eff (.mupd .str) [.tmp 18, .pv (.str [99]), .pv (.int .i64 500000)]⟩,
 oM 19 18,
 ⟨some 20, none, .call (.pv (.fn 16 [] [])) [.tmp 17, .tmp 19]⟩,
 oM 16 20,
 ⟨some 21, none, .rd (.ext 0) [.tmp 16]⟩,
 ⟨some 22, none, .rd (.ext 1) [.tmp 16]⟩,
 oM 2 21,
 oM 3 22] L15)
 (.seq (.region false [oM 23 2,
 ⟨some 24, none, .rd (.bin .eql) [.tmp 23, .pv (.int .i64 5000000)]⟩,
 oM 25 24,
 qM 25 true 26 3,
 ⟨some 27, some (25, true), .rd (.bin .eql) [.tmp 26, .pv (.int .i64 0)]⟩,
 ⟨some 28, none, .rd .pick [.tmp 25, .tmp 27, .pv (.bool false)]⟩,
 oM 0 28] L15)
 (.ret)))),
 [.tmp 0]⟩

-- wagebook/wagebooklaw15.tree
def L65 : List Nat := [0, 1, 4, 6, 8, 9, 12, 13, 14, 15, 16, 22, 30, 35]
def c65 : CF := ⟨38,
 .seq (.region false [⟨some 4, none, .rd .mov [.pv (.int .i64 0)]⟩] L65)
 (.seq (.seq (.region false [oM 10 1,
 ⟨some 11, none, .rd .lenL [.tmp 10]⟩,
 ⟨some 12, none, .rd (.bin .gtr) [.tmp 11, .pv (.int .i64 64)]⟩] L65)
 (.cond (.tmp 12)
 (.seq (.region false [⟨some 4, none, .rd .mov [.pv (.int .i64 5)]⟩] L65)
 (.ret))
 (.skip)))
 (.seq (.seq (.region false [oM 13 1,
 ⟨some 14, none, .rd .lenL [.tmp 13]⟩,
 ⟨some 15, none, .rd .mov [.pv (.int .i64 0)]⟩] L65)
 (.block 0
 (.loop
 (.seq (.region false [⟨some 16, none, .rd (.bin .lss) [.tmp 15, .tmp 14]⟩] L65)
 (.seq (.cond (.tmp 16)
 (.skip)
 (.exit 0))
 (.seq (.block 1
 (.seq (.region false [⟨some 17, none, .rd (.idxAddr (some 2)) [.tmp 13, .tmp 15]⟩,
 ⟨some 18, none, .rd (.load (some 2)) [.tmp 17]⟩,
 ⟨some 6, none, .eff (.alloc (some 2) (.agg [(.str []), .nilSl])) []⟩,
 ⟨none, none, .eff (.store (some 2)) [.tmp 6, .tmp 18]⟩] L65)
 (.seq (.seq (.region false [oF 0 19 6,
 oL 20 19,
 ⟨some 21, none, .call (.pv (.fn 53 [] [])) [.tmp 20]⟩,
 ⟨some 22, none, .rd (.un .not) [.tmp 21]⟩] L65)
 (.cond (.tmp 22)
 (.seq (.region false [⟨some 4, none, .rd .mov [.pv (.int .i64 12)]⟩] L65)
 (.ret))
 (.skip)))
 (.seq (.seq (.region false [oM 24 0,
 oF 0 25 6,
 oL 26 25,
 ⟨some 27, none, .rd (.look .str true (.int .i64 0)) [.tmp 24, .tmp 26]⟩,
 oM 23 27,
 ⟨some 28, none, .rd (.ext 0) [.tmp 23]⟩,
 ⟨some 29, none, .rd (.ext 1) [.tmp 23]⟩,
 oM 7 28,
 oM 8 29] L65)
 (.seq (.region false [oM 30 8] L65)
 (.cond (.tmp 30)
 (.seq (.region false [⟨some 4, none, .rd .mov [.pv (.int .i64 7)]⟩] L65)
 (.ret))
 (.skip))))
 (.seq (.region false [oF 1 31 6,
 ⟨some 32, none, .rd (.load (some 1)) [.tmp 31]⟩,
 ⟨some 33, none, .call (.pv (.fn 29 [] [])) [.tmp 32]⟩,
 oM 9 33] L65)
 (.seq (.region false [oM 34 9,
 ⟨some 35, none, .rd (.bin .neq) [.tmp 34, .pv (.int .i64 0)]⟩] L65)
 (.cond (.tmp 35)
 (.seq (.region false [oM 36 9,
 oM 4 36] L65)
 (.ret))
 (.skip))))))))
 (.region false [⟨some 37, none, .rd (.bin .add) [.tmp 15, .pv (.int .i64 1)]⟩,
 oM 15 37] L65)))))))
 (.seq (.region false [⟨some 4, none, .rd .mov [.pv (.int .i64 0)]⟩] L65)
 (.ret)))),
 [.tmp 4]⟩

-- wagebook/eval.sorted
def L66 : List Nat := [0, 2, 3, 4, 6, 7, 8, 9, 10]
def c66 : CF := ⟨27,
 .seq (.region false [⟨some 2, none, .rd .mov [.pv .nilSl]⟩,
 ⟨some 3, none, .rd .mov [.pv (.int .i64 0)]⟩] L66)
 (.seq (.region false [⟨some 4, none, .rd .mov [.pv .nilSl]⟩] L66)
 (.seq (.seq (.region false [oM 7 0,
 ⟨some 8, none, .rd .lenL [.tmp 7]⟩,
 ⟨some 9, none, .rd .mov [.pv (.int .i64 0)]⟩] L66)
 (.block 0
 (.loop
 (.seq (.region false [⟨some 10, none, .rd (.bin .lss) [.tmp 9, .tmp 8]⟩] L66)
 (.seq (.cond (.tmp 10)
 (.skip)
 (.exit 0))
 (.seq (.block 1
 (.seq (.region false [⟨some 11, none, .rd (.idxAddr (some 2)) [.tmp 7, .tmp 9]⟩,
 ⟨some 12, none, .rd (.load (some 2)) [.tmp 11]⟩,
 ⟨some 6, none, .eff (.alloc (some 2) (.agg [(.str []), .nilSl])) []⟩,
 ⟨none, none, .eff (.store (some 2)) [.tmp 6, .tmp 12]⟩] L66)
 (.regionA (.alt [oM 13 4,
 oF 0 14 6,
 oF 1 16 6]
 (.alt [oL 15 14,
 ⟨some 17, none, .rd (.load (some 1)) [.tmp 16]⟩,
 ⟨some 18, none, .call (.pv (.fn 34 [] [])) [.tmp 17]⟩,
 ⟨some 19, none, .rd (.build [(.str []), .nilSl] [(0, 1), (1, 1)]) [.tmp 15, .tmp 18]⟩,
 ⟨some 20, none, .eff (.lit (some 2) false) [.tmp 19]⟩,
 ⟨some 21, none, .eff (.append (some 2) 40) [.tmp 13, .tmp 20]⟩,
 oM 4 21]
 .done
 (.alt [⟨some 17, none, .rd (.load (some 1)) [.tmp 16]⟩]
 (.alt [oL 15 14,
 ⟨some 18, none, .call (.pv (.fn 34 [] [])) [.tmp 17]⟩,
 ⟨some 19, none, .rd (.build [(.str []), .nilSl] [(0, 1), (1, 1)]) [.tmp 15, .tmp 18]⟩,
 ⟨some 20, none, .eff (.lit (some 2) false) [.tmp 19]⟩,
 ⟨some 21, none, .eff (.append (some 2) 40) [.tmp 13, .tmp 20]⟩,
 oM 4 21]
 .done
 (.alt [⟨some 18, none, .call (.pv (.fn 34 [] [])) [.tmp 17]⟩,
 oL 15 14,
 ⟨some 19, none, .rd (.build [(.str []), .nilSl] [(0, 1), (1, 1)]) [.tmp 15, .tmp 18]⟩,
 ⟨some 20, none, .eff (.lit (some 2) false) [.tmp 19]⟩,
 ⟨some 21, none, .eff (.append (some 2) 40) [.tmp 13, .tmp 20]⟩,
 oM 4 21]
 .done
 .stop))
 .stop))
 .stop) L66)))
 (.region false [⟨some 22, none, .rd (.bin .add) [.tmp 9, .pv (.int .i64 1)]⟩,
 oM 9 22] L66)))))))
 (.seq (.region false [oM 23 4,
 ⟨some 24, none, .call (.pv (.fn 94 [] [])) [.tmp 23]⟩,
 ⟨some 25, none, .rd (.ext 0) [.tmp 24]⟩,
 ⟨some 26, none, .rd (.ext 1) [.tmp 24]⟩,
 oM 2 25,
 oM 3 26] L66)
 (.ret)))),
 [.tmp 2, .tmp 3]⟩

-- slices.IndexFunc[[]wagebook/eval.Rule,wagebook/eval.Rule]
def L67 : List Nat := [0, 1, 4, 5, 7, 8, 9, 16]
def c67 : CF := ⟨19,
 .seq (.region false [⟨some 4, none, .rd .mov [.pv (.int .i64 0)]⟩] L67)
 (.seq (.seq (.region false [oM 6 0,
 ⟨some 7, none, .rd .lenL [.tmp 6]⟩,
 ⟨some 8, none, .rd .mov [.pv (.int .i64 0)]⟩] L67)
 (.block 0
 (.loop
 (.seq (.region false [⟨some 9, none, .rd (.bin .lss) [.tmp 8, .tmp 7]⟩] L67)
 (.seq (.cond (.tmp 9)
 (.skip)
 (.exit 0))
 (.seq (.block 1
 (.seq (.region false [oM 10 8,
 oM 5 10] L67)
 (.seq (.region false [oM 11 1,
 oM 12 0,
 oM 13 5,
 ⟨some 14, none, .rd (.idxAddr (some 2)) [.tmp 12, .tmp 13]⟩,
 ⟨some 15, none, .rd (.load (some 2)) [.tmp 14]⟩,
 ⟨some 16, none, .call (.tmp 11) [.tmp 15]⟩] L67)
 (.cond (.tmp 16)
 (.seq (.region false [oM 17 5,
 oM 4 17] L67)
 (.ret))
 (.skip)))))
 (.region false [⟨some 18, none, .rd (.bin .add) [.tmp 8, .pv (.int .i64 1)]⟩,
 oM 8 18] L67)))))))
 (.seq (.region false [⟨some 4, none, .rd .mov [.pv (.int .i64 (-1))]⟩] L67)
 (.ret))),
 [.tmp 4]⟩

-- wagebook/eval.All$1
def L68 : List Nat := [0, 1, 2, 3]
def c68 : CF := ⟨8,
 .seq (.region false [⟨some 2, none, .eff (.box (some 2)) [.tmp 0]⟩,
 ⟨some 3, none, .rd .mov [.pv (.bool false)]⟩] L68)
 (.seq (.region false [oF 0 4 2,
 oL 5 4,
 oL 6 1,
 ⟨some 7, none, .rd (.bin .eql) [.tmp 5, .tmp 6]⟩,
 oM 3 7] L68)
 (.ret)),
 [.tmp 3]⟩

-- wagebook/eval.All
def L33 : List Nat := [0, 1, 4, 5, 6, 7, 8, 9, 10, 11, 13, 14, 15, 16, 21, 29, 33, 35, 42, 43, 44, 45, 52, 64]
def c33 : CF := ⟨71,
 .seq (.region false [⟨some 4, none, .rd .mov [.pv .nilMap]⟩,
 ⟨some 5, none, .rd .mov [.pv (.int .i64 0)]⟩] L33)
 (.seq (.seq (.region false [oM 17 0,
 oM 18 1,
 ⟨some 19, none, .call (.pv (.fn 65 [] [])) [.tmp 17, .tmp 18]⟩,
 oM 6 19] L33)
 (.seq (.region false [oM 20 6,
 ⟨some 21, none, .rd (.bin .neq) [.tmp 20, .pv (.int .i64 0)]⟩] L33)
 (.cond (.tmp 21)
 (.seq (.region false [oM 22 6,
 ⟨some 4, none, .rd .mov [.pv .nilMap]⟩,
 oM 5 22] L33)
 (.ret))
 (.skip))))
 (.seq (.region false [oM 24 1,
 ⟨some 25, none, .call (.pv (.fn 66 [] [])) [.tmp 24]⟩,
 oM 23 25,
 ⟨some 26, none, .rd (.ext 0) [.tmp 23]⟩,
 ⟨some 27, none, .rd (.ext 1) [.tmp 23]⟩,
 oM 7 26,
 oM 8 27] L33)
 (.seq (.seq (.region false [oM 28 8,
 ⟨some 29, none, .rd (.bin .neq) [.tmp 28, .pv (.int .i64 0)]⟩] L33)
 (.cond (.tmp 29)
 (.seq (.region false [oM 30 8,
 ⟨some 4, none, .rd .mov [.pv .nilMap]⟩,
 oM 5 30] L33)
 (.ret))
 (.skip)))
 (.seq (.region false [⟨some 31, none, .eff (.mmk .str) []⟩,
 oM 9 31] L33)
 (.seq (.seq (.region false [oM 32 0,
 ⟨some 33, none, .eff (.rng .str) [.tmp 32]⟩] L33)
 (.block 0
 (.loop
 (.seq (.region false [⟨some 34, none, .eff .nxt [.tmp 33]⟩,
 ⟨some 35, none, .rd (.ext 0) [.tmp 34]⟩] L33)
 (.seq (.cond (.tmp 35)
 (.skip)
 (.exit 0))
 (.block 1
 (.seq (.region false [⟨some 36, none, .eff .ent [.tmp 33]⟩,
 ⟨some 37, none, .rd (.ext 0) [.tmp 36]⟩,
 ⟨some 38, none, .rd (.ext 1) [.tmp 36]⟩,
 oM 10 37,
 oM 11 38] L33)
 (.region false [oM 39 9,
 oM 40 10,
 oM 41 11,
 ⟨none, none, .eff (.mupd .str) [.tmp 39, .tmp 40, .tmp 41]⟩] L33))))))))
 (.seq (.seq (.region false [oM 42 7,
 ⟨some 43, none, .rd .lenL [.tmp 42]⟩,
 ⟨some 44, none, .rd .mov [.pv (.int .i64 0)]⟩] L33)
 (.block 2
 (.loop
 (.seq (.region false [⟨some 45, none, .rd (.bin .lss) [.tmp 44, .tmp 43]⟩] L33)
 (.seq (.cond (.tmp 45)
 (.skip)
 (.exit 2))
 (.seq (.block 3
 (.seq (.region false [⟨some 46, none, .rd (.idxAddr none) [.tmp 42, .tmp 44]⟩,
 oL 47 46,
 ⟨some 13, none, .eff (.alloc none (.str [])) []⟩,
 ⟨none, none, .eff (.store none) [.tmp 13, .tmp 47]⟩] L33)
 (.seq (.region false [oM 48 1,
 ⟨some 49, none, .rd (.mkFn 68 0) [.tmp 13]⟩,
 ⟨some 50, none, .call (.pv (.fn 67 [] [])) [.tmp 48, .tmp 49]⟩,
 oM 14 50] L33)
 (.seq (.seq (.region false [oM 51 14,
 ⟨some 52, none, .rd (.bin .lss) [.tmp 51, .pv (.int .i64 0)]⟩] L33)
 (.cond (.tmp 52)
 (.exit 3)
 (.skip)))
 (.seq (.region false [oM 54 1,
 oM 55 14,
 ⟨some 56, none, .rd (.idxAddr (some 2)) [.tmp 54, .tmp 55]⟩,
 oF 1 57 56,
 ⟨some 58, none, .rd (.load (some 1)) [.tmp 57]⟩,
 oM 59 9,
 ⟨some 60, none, .call (.pv (.fn 16 [] [])) [.tmp 58, .tmp 59]⟩,
 oM 53 60,
 ⟨some 61, none, .rd (.ext 0) [.tmp 53]⟩,
 ⟨some 62, none, .rd (.ext 1) [.tmp 53]⟩,
 oM 15 61,
 oM 16 62] L33)
 (.seq (.seq (.region false [oM 63 16,
 ⟨some 64, none, .rd (.bin .neq) [.tmp 63, .pv (.int .i64 0)]⟩] L33)
 (.cond (.tmp 64)
 (.seq (.region false [oM 65 16,
 ⟨some 4, none, .rd .mov [.pv .nilMap]⟩,
 oM 5 65] L33)
 (.ret))
 (.skip)))
 (.region false [oM 66 9,
 oL 67 13,
 oM 68 15,
 ⟨none, none, .eff (.mupd .str) [.tmp 66, .tmp 67, .tmp 68]⟩] L33)))))))
 (.region false [⟨some 69, none, .rd (.bin .add) [.tmp 44, .pv (.int .i64 1)]⟩,
 oM 44 69] L33)))))))
 (.seq (.region false [oM 70 9,
 oM 4 70,
 ⟨some 5, none, .rd .mov [.pv (.int .i64 0)]⟩] L33)
 (.ret)))))))),
 [.tmp 4, .tmp 5]⟩

-- wagebook/eval.Reads
theorem k16 : compileF Tryd.prog [] L16 Tryd.f16 = some c16 := by kernel_rfl
theorem k38 : compileF Tryd.prog [] L38 Tryd.f38 = some c38 := by kernel_rfl
theorem k39 : compileF Tryd.prog [] L39 Tryd.f39 = some c39 := by kernel_rfl
theorem k69 : compileF Tryd.prog [] L69 Tryd.f69 = some c69 := by kernel_rfl
theorem k70 : compileF Tryd.prog [] L70 Tryd.f70 = some c70 := by kernel_rfl
theorem k95 : compileF Tryd.prog [] L95 Tryd.f95 = some c95 := by kernel_rfl
theorem k96 : compileF Tryd.prog [] L96 Tryd.f96 = some c96 := by kernel_rfl
theorem k97 : compileF Tryd.prog [] L97 Tryd.f97 = some c97 := by kernel_rfl
theorem k117 : compileF Tryd.prog [] L117 Tryd.f117 = some c117 := by kernel_rfl
theorem k125 : compileF Tryd.prog [] L125 Tryd.f125 = some c125 := by kernel_rfl
theorem k13 : compileF Tryd.prog [] L13 Tryd.f13 = some c13 := by kernel_rfl
theorem k14 : compileF Tryd.prog [] L14 Tryd.f14 = some c14 := by kernel_rfl
theorem k15 : compileF Tryd.prog [] L15 Tryd.f15 = some c15 := by kernel_rfl
theorem k65 : compileF Tryd.prog [] L65 Tryd.f65 = some c65 := by kernel_rfl
theorem k66 : compileF Tryd.prog [] L66 Tryd.f66 = some c66 := by kernel_rfl
theorem k67 : compileF Tryd.prog [] L67 Tryd.f67 = some c67 := by kernel_rfl
theorem k68 : compileF Tryd.prog [] L68 Tryd.f68 = some c68 := by kernel_rfl
theorem k33 : compileF Tryd.prog [] L33 Tryd.f33 = some c33 := by kernel_rfl
end Go.Proofs.YthekpjhffciakaaDoor

namespace Go.Proofs.YthekpjhffciakaaDoor
open PG Go.Proofs
-- wagebook/wagebooklaw13.ExprBrackets
def L7 : List Nat := [0, 1, 4, 5, 7, 8, 10, 11, 13, 14, 16, 24, 43, 62, 80]
def c7 : CF := ⟨123,
 .seq (.region false [⟨some 4, none, .rd .mov [.pv (.bool false)]⟩] L7)
 (.seq (.seq (.region false [oM 17 0,
 ⟨some 18, none, .rd .lenS [.tmp 17]⟩,
 ⟨some 19, none, .rd (.bin .gtr) [.tmp 18, .pv (.int .i64 300)]⟩,
 oM 20 19,
 qM 20 false 21 1,
 ⟨some 22, some (20, false), .rd .lenS [.tmp 21]⟩,
 ⟨some 23, some (20, false), .rd (.bin .gtr) [.tmp 22, .pv (.int .i64 300)]⟩,
 ⟨some 24, none, .rd .pick [.tmp 20, .pv (.bool true), .tmp 23]⟩] L7)
 (.cond (.tmp 24)
 (.seq (.region false [⟨some 25, none, .call (.pv (.fn 17 [] [])) []⟩,
 oM 4 25] L7)
 (.ret))
 (.skip)))
 (.seq (.region false [oM 27 0,
 ⟨some 28, none, .call (.pv (.fn 18 [] [])) [.tmp 27]⟩,
 oM 26 28,
 ⟨some 29, none, .rd (.ext 0) [.tmp 26]⟩,
 ⟨some 30, none, .rd (.ext 1) [.tmp 26]⟩,
 ⟨some 31, none, .rd (.ext 2) [.tmp 26]⟩,
 ⟨some 5, none, .eff (.alloc (some 1) (.agg [.nilSl])) []⟩,
 ⟨none, none, .eff (.store (some 1)) [.tmp 5, .tmp 29]⟩,
 oM 6 30,
 oM 7 31] L7)
 (.seq (.region false [oM 33 1,
 ⟨some 34, none, .call (.pv (.fn 18 [] [])) [.tmp 33]⟩,
 oM 32 34,
 ⟨some 35, none, .rd (.ext 0) [.tmp 32]⟩,
 ⟨some 36, none, .rd (.ext 1) [.tmp 32]⟩,
 ⟨some 37, none, .rd (.ext 2) [.tmp 32]⟩,
 ⟨some 8, none, .eff (.alloc (some 1) (.agg [.nilSl])) []⟩,
 ⟨none, none, .eff (.store (some 1)) [.tmp 8, .tmp 35]⟩,
 oM 9 36,
 oM 10 37] L7)
 (.seq (.seq (.region false [oM 38 7,
 ⟨some 39, none, .rd (.bin .neq) [.tmp 38, .pv (.int .i64 0)]⟩,
 oM 40 39,
 qM 40 false 41 10,
 ⟨some 42, some (40, false), .rd (.bin .neq) [.tmp 41, .pv (.int .i64 0)]⟩,
 ⟨some 43, none, .rd .pick [.tmp 40, .pv (.bool true), .tmp 42]⟩] L7)
 (.cond (.tmp 43)
 (.seq (.region false [⟨some 44, none, .call (.pv (.fn 17 [] [])) []⟩,
 oM 4 44] L7)
 (.ret))
 (.skip)))
 (.seq (.region false [oM 46 0,
 ⟨some 47, none, .rd (.bin .add) [.pv (.str [40]), .tmp 46]⟩,
 ⟨some 48, none, .rd (.bin .add) [.tmp 47, .pv (.str [41])]⟩,
 ⟨some 49, none, .call (.pv (.fn 18 [] [])) [.tmp 48]⟩,
 oM 45 49,
 ⟨some 50, none, .rd (.ext 0) [.tmp 45]⟩,
 ⟨some 51, none, .rd (.ext 1) [.tmp 45]⟩,
 ⟨some 52, none, .rd (.ext 2) [.tmp 45]⟩,
 ⟨some 11, none, .eff (.alloc (some 1) (.agg [.nilSl])) []⟩,
 ⟨none, none, .eff (.store (some 1)) [.tmp 11, .tmp 50]⟩,
 oM 12 51,
 oM 13 52] L7)
 (.seq (.seq (.regionA (.alt [oM 53 13,
 ⟨some 54, none, .rd (.bin .neq) [.tmp 53, .pv (.int .i64 0)]⟩,
 oM 55 54]
 (.alt [⟨some 56, some (55, false), .rd (.load (some 1)) [.tmp 11]⟩]
 (.alt [⟨some 57, some (55, false), .call (.pv (.fn 23 [] [])) [.tmp 56]⟩,
 ⟨some 58, some (55, false), .rd (.load (some 1)) [.tmp 5]⟩,
 ⟨some 59, some (55, false), .call (.pv (.fn 23 [] [])) [.tmp 58]⟩,
 ⟨some 60, some (55, false), .call (.pv (.fn 22 [] [])) [.tmp 57, .tmp 59]⟩,
 ⟨some 61, some (55, false), .rd (.un .not) [.tmp 60]⟩,
 ⟨some 62, none, .rd .pick [.tmp 55, .pv (.bool true), .tmp 61]⟩]
 .done
 (.alt [⟨some 58, some (55, false), .rd (.load (some 1)) [.tmp 5]⟩,
 ⟨some 57, some (55, false), .call (.pv (.fn 23 [] [])) [.tmp 56]⟩,
 ⟨some 59, some (55, false), .call (.pv (.fn 23 [] [])) [.tmp 58]⟩,
 ⟨some 60, some (55, false), .call (.pv (.fn 22 [] [])) [.tmp 57, .tmp 59]⟩,
 ⟨some 61, some (55, false), .rd (.un .not) [.tmp 60]⟩,
 ⟨some 62, none, .rd .pick [.tmp 55, .pv (.bool true), .tmp 61]⟩]
 .done
 .stop))
 (.alt [⟨some 58, some (55, false), .rd (.load (some 1)) [.tmp 5]⟩,
 ⟨some 56, some (55, false), .rd (.load (some 1)) [.tmp 11]⟩,
 ⟨some 57, some (55, false), .call (.pv (.fn 23 [] [])) [.tmp 56]⟩,
 ⟨some 59, some (55, false), .call (.pv (.fn 23 [] [])) [.tmp 58]⟩,
 ⟨some 60, some (55, false), .call (.pv (.fn 22 [] [])) [.tmp 57, .tmp 59]⟩,
 ⟨some 61, some (55, false), .rd (.un .not) [.tmp 60]⟩,
 ⟨some 62, none, .rd .pick [.tmp 55, .pv (.bool true), .tmp 61]⟩]
 .done
 .stop))
 .stop) L7)
 (.cond (.tmp 62)
 (.seq (.region false [⟨some 4, none, .rd .mov [.pv (.bool false)]⟩] L7)
 (.ret))
 (.skip)))
 (.seq (.seq (.region false [oF 0 63 5,
 oL 64 63,
 ⟨some 65, none, .rd .lenL [.tmp 64]⟩,
 oF 0 66 8,
 oL 67 66,
 ⟨some 68, none, .rd .lenL [.tmp 67]⟩,
 ⟨some 69, none, .rd (.bin .add) [.tmp 65, .tmp 68]⟩,
 ⟨some 70, none, .rd (.bin .geq) [.tmp 69, .pv (.int .i64 256)]⟩,
 oM 71 70,
 ⟨some 72, some (71, false), .rd (.load (some 1)) [.tmp 5]⟩,
 ⟨some 73, some (71, false), .call (.pv (.fn 30 [] [])) [.tmp 72]⟩,
 ⟨some 74, some (71, false), .rd (.bin .geq) [.tmp 73, .pv (.int .i64 16)]⟩,
 ⟨some 75, none, .rd .pick [.tmp 71, .pv (.bool true), .tmp 74]⟩,
 oM 76 75,
 ⟨some 77, some (76, false), .rd (.load (some 1)) [.tmp 8]⟩,
 ⟨some 78, some (76, false), .call (.pv (.fn 30 [] [])) [.tmp 77]⟩,
 ⟨some 79, some (76, false), .rd (.bin .geq) [.tmp 78, .pv (.int .i64 16)]⟩,
 ⟨some 80, none, .rd .pick [.tmp 76, .pv (.bool true), .tmp 79]⟩] L7)
 (.cond (.tmp 80)
 (.seq (.region false [⟨some 81, none, .call (.pv (.fn 17 [] [])) []⟩,
 oM 4 81] L7)
 (.ret))
 (.skip)))
 (.seq (.region false [oM 83 0,
 ⟨some 84, none, .rd (.bin .add) [.pv (.str [40]), .tmp 83]⟩,
 ⟨some 85, none, .rd (.bin .add) [.tmp 84, .pv (.str [41, 42, 40])]⟩,
 oM 86 1,
 ⟨some 87, none, .rd (.bin .add) [.tmp 85, .tmp 86]⟩,
 ⟨some 88, none, .rd (.bin .add) [.tmp 87, .pv (.str [41])]⟩,
 ⟨some 89, none, .call (.pv (.fn 18 [] [])) [.tmp 88]⟩,
 oM 82 89,
 ⟨some 90, none, .rd (.ext 0) [.tmp 82]⟩,
 ⟨some 91, none, .rd (.ext 1) [.tmp 82]⟩,
 ⟨some 92, none, .rd (.ext 2) [.tmp 82]⟩,
 ⟨some 14, none, .eff (.alloc (some 1) (.agg [.nilSl])) []⟩,
 ⟨none, none, .eff (.store (some 1)) [.tmp 14, .tmp 90]⟩,
 oM 15 91,
 oM 16 92] L7)
 (.seq (.region true [oM 93 16,
 ⟨some 94, none, .rd (.bin .eql) [.tmp 93, .pv (.int .i64 0)]⟩,
 oM 95 94,
 qF 0 95 true 96 14,
 qL 95 true 97 96,
 ⟨some 98, some (95, true), .rd .lenL [.tmp 97]⟩,
 qF 0 95 true 99 5,
 qL 95 true 100 99,
 ⟨some 101, some (95, true), .rd .lenL [.tmp 100]⟩,
 qF 0 95 true 102 8,
 qL 95 true 103 102,
 ⟨some 104, some (95, true), .rd .lenL [.tmp 103]⟩,
 ⟨some 105, some (95, true), .rd (.bin .add) [.tmp 101, .tmp 104]⟩,
 ⟨some 106, some (95, true), .rd (.bin .add) [.tmp 105, .pv (.int .i64 1)]⟩,
 ⟨some 107, some (95, true), .rd (.bin .eql) [.tmp 98, .tmp 106]⟩,
 ⟨some 108, none, .rd .pick [.tmp 95, .tmp 107, .pv (.bool false)]⟩,
 oM 109 108,
 ⟨some 110, some (109, true), .rd (.load (some 1)) [.tmp 14]⟩,
 ⟨some 111, some (109, true), .call (.pv (.fn 30 [] [])) [.tmp 110]⟩,
 ⟨some 112, some (109, true), .rd (.load (some 1)) [.tmp 5]⟩,
 ⟨some 113, some (109, true), .call (.pv (.fn 30 [] [])) [.tmp 112]⟩,
 ⟨some 114, some (109, true), .rd (.load (some 1)) [.tmp 8]⟩,
 ⟨some 115, some (109, true), .call (.pv (.fn 30 [] [])) [.tmp 114]⟩,
 ⟨some 116, some (109, true), .rd .max [.tmp 113, .tmp 115]⟩,
 ⟨some 117, some (109, true), .rd (.bin .add) [.pv (.int .i64 1), .tmp 116]⟩,
 ⟨some 118, some (109, true), .rd (.bin .eql) [.tmp 111, .tmp 117]⟩,
 ⟨some 119, none, .rd .pick [.tmp 109, .tmp 118, .pv (.bool false)]⟩,
 oM 120 119,
 ⟨some 121, some (120, true), .call (.pv (.fn 17 [] [])) []⟩,
 ⟨some 122, none, .rd .pick [.tmp 120, .tmp 121, .pv (.bool false)]⟩,
 oM 4 122] L7)
 (.ret)))))))))),
 [.tmp 4]⟩

-- (wagebook/expr.Tree).Depth
theorem k7 : compileF Tryd.prog [700062] L7 Tryd.f7 = some c7 := by kernel_rfl
end Go.Proofs.YthekpjhffciakaaDoor

