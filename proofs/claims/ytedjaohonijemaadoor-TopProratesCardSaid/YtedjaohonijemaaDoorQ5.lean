import Derived.Test.YtedjaohonijemaaDoorProg
import Derived.KernelRfl
import Derived.Test.YtedjaohonijemaaDoorP4
namespace Go.Proofs.YtedjaohonijemaaDoor
open PG Go.Proofs
-- wagebook/span.Length
def L12 : List Nat := [0, 1, 2, 4]
def c12 : CF := ⟨14,
 .seq (.region false [⟨some 1, none, .eff (.box (some 2)) [.tmp 0]⟩,
 ⟨some 2, none, .rd .mov [.pv (.int .i64 0)]⟩] L12)
 (.seq (.seq (.region false [⟨some 3, none, .rd (.load (some 2)) [.tmp 1]⟩,
 ⟨some 4, none, .call (.pv (.fn 30 [] [])) [.tmp 3]⟩] L12)
 (.cond (.tmp 4)
 (.seq (.region false [⟨some 2, none, .rd .mov [.pv (.int .i64 0)]⟩] L12)
 (.ret))
 (.skip)))
 (.seq (.region false [oF 1 5 1,
 oL 6 5,
 ⟨some 7, none, .rd (.conv .u64) [.tmp 6]⟩,
 oF 0 8 1,
 oL 9 8,
 ⟨some 10, none, .rd (.conv .u64) [.tmp 9]⟩,
 ⟨some 11, none, .rd (.bin .sub) [.tmp 7, .tmp 10]⟩,
 ⟨some 12, none, .rd .min [.tmp 11, .pv (.int .u64 4611686018427387904)]⟩,
 ⟨some 13, none, .rd (.conv .i64) [.tmp 12]⟩,
 oM 2 13] L12)
 (.ret))),
 [.tmp 2]⟩

-- wagebook/span.Cross
def L13 : List Nat := [0, 1, 2, 3, 4, 5, 18]
def c13 : CF := ⟨21,
 .seq (.region false [⟨some 2, none, .eff (.box (some 2)) [.tmp 0]⟩,
 ⟨some 3, none, .eff (.box (some 2)) [.tmp 1]⟩,
 ⟨some 4, none, .eff (.alloc (some 2) (.agg [(.int .i64 0), (.int .i64 0)])) []⟩] L13)
 (.seq (.region false [oF 0 6 2,
 oL 7 6,
 oF 0 8 3,
 oL 9 8,
 ⟨some 10, none, .rd .max [.tmp 7, .tmp 9]⟩,
 oF 1 11 2,
 oL 12 11,
 oF 1 13 3,
 oL 14 13,
 ⟨some 15, none, .rd .min [.tmp 12, .tmp 14]⟩,
 ⟨some 16, none, .rd (.build [(.int .i64 0), (.int .i64 0)] [(0, 1), (1, 1)]) [.tmp 10, .tmp 15]⟩,
 ⟨some 5, none, .eff (.alloc (some 2) (.agg [(.int .i64 0), (.int .i64 0)])) []⟩,
 ⟨none, none, .eff (.store (some 2)) [.tmp 5, .tmp 16]⟩] L13)
 (.seq (.seq (.region false [⟨some 17, none, .rd (.load (some 2)) [.tmp 5]⟩,
 ⟨some 18, none, .call (.pv (.fn 30 [] [])) [.tmp 17]⟩] L13)
 (.cond (.tmp 18)
 (.seq (.region false [⟨some 19, none, .rd (.build [(.int .i64 0), (.int .i64 0)] []) []⟩,
 ⟨none, none, .eff (.store (some 2)) [.tmp 4, .tmp 19]⟩] L13)
 (.ret))
 (.skip)))
 (.seq (.region false [⟨some 20, none, .rd (.load (some 2)) [.tmp 5]⟩,
 ⟨none, none, .eff (.store (some 2)) [.tmp 4, .tmp 20]⟩] L13)
 (.ret)))),
 [.cell 4 (some 2)]⟩

-- (wagebook/span.Set).Days
def L14 : List Nat := [0, 1, 2, 3, 5, 7, 8, 9, 10]
def c14 : CF := ⟨23,
 .seq (.region false [⟨some 1, none, .eff (.box (some 1)) [.tmp 0]⟩,
 ⟨some 2, none, .rd .mov [.pv (.int .i64 0)]⟩] L14)
 (.seq (.region false [⟨some 3, none, .rd .mov [.pv (.int .i64 0)]⟩] L14)
 (.seq (.seq (.region false [oF 0 6 1,
 oL 7 6,
 ⟨some 8, none, .rd .lenL [.tmp 7]⟩,
 ⟨some 9, none, .rd .mov [.pv (.int .i64 0)]⟩] L14)
 (.block 0
 (.loop
 (.seq (.region false [⟨some 10, none, .rd (.bin .lss) [.tmp 9, .tmp 8]⟩] L14)
 (.seq (.cond (.tmp 10)
 (.skip)
 (.exit 0))
 (.seq (.block 1
 (.seq (.region false [⟨some 11, none, .rd (.idxAddr (some 2)) [.tmp 7, .tmp 9]⟩,
 ⟨some 12, none, .rd (.load (some 2)) [.tmp 11]⟩,
 ⟨some 5, none, .eff (.alloc (some 2) (.agg [(.int .i64 0), (.int .i64 0)])) []⟩,
 ⟨none, none, .eff (.store (some 2)) [.tmp 5, .tmp 12]⟩] L14)
 (.region true [oM 13 3,
 ⟨some 14, none, .rd (.load (some 2)) [.tmp 5]⟩,
 ⟨some 15, none, .call (.pv (.fn 12 [] [])) [.tmp 14]⟩,
 ⟨some 16, none, .rd (.bin .sub) [.pv (.int .i64 4611686018427387904), .tmp 15]⟩,
 ⟨some 17, none, .rd .min [.tmp 13, .tmp 16]⟩,
 ⟨some 18, none, .rd (.load (some 2)) [.tmp 5]⟩,
 ⟨some 19, none, .call (.pv (.fn 12 [] [])) [.tmp 18]⟩,
 ⟨some 20, none, .rd (.bin .add) [.tmp 17, .tmp 19]⟩,
 oM 3 20] L14)))
 (.region false [⟨some 21, none, .rd (.bin .add) [.tmp 9, .pv (.int .i64 1)]⟩,
 oM 9 21] L14)))))))
 (.seq (.region false [oM 22 3,
 oM 2 22] L14)
 (.ret)))),
 [.tmp 2]⟩

-- wagebook/cents.Add
def L17 : List Nat := [0, 1, 4, 5]
def c17 : CF := ⟨14,
 .seq (.region false [⟨some 4, none, .rd .mov [.pv (.int .i64 0)]⟩,
 ⟨some 5, none, .rd .mov [.pv (.int .i64 0)]⟩] L17)
 (.seq (.region false [oM 6 0,
 oM 7 1,
 oM 8 0,
 oM 9 1,
 ⟨some 10, none, .rd (.bin .add) [.tmp 8, .tmp 9]⟩,
 ⟨some 11, none, .call (.pv (.fn 33 [] [])) [.tmp 6, .tmp 7, .tmp 10]⟩,
 ⟨some 12, none, .rd (.ext 0) [.tmp 11]⟩,
 ⟨some 13, none, .rd (.ext 1) [.tmp 11]⟩,
 oM 4 12,
 oM 5 13] L17)
 (.ret)),
 [.tmp 4, .tmp 5]⟩

-- wagebook/share.Between
def L18 : List Nat := [0, 1, 2, 3, 8, 9, 10, 14, 18, 35]
def c18 : CF := ⟨48,
 .seq (.region false [⟨some 8, none, .rd .mov [.pv (.int .i64 0)]⟩,
 ⟨some 9, none, .rd .mov [.pv (.int .i64 0)]⟩] L18)
 (.seq (.region false [oM 11 0,
 oM 12 3,
 ⟨some 13, none, .call (.pv (.fn 34 [] [])) [.tmp 11, .tmp 12]⟩,
 oM 10 13] L18)
 (.seq (.block 0
 (.seq (.region false [oM 15 10,
 ⟨some 16, none, .rd (.bin .neq) [.tmp 15, .pv (.int .i64 0)]⟩,
 oM 14 16] L18)
 (.cond (.tmp 14)
 (.seq (.region false [oM 17 10,
 ⟨some 8, none, .rd .mov [.pv (.int .i64 0)]⟩,
 oM 9 17] L18)
 (.ret))
 (.seq (.region false [oM 19 1,
 ⟨some 20, none, .rd (.bin .lss) [.tmp 19, .pv (.int .i64 0)]⟩,
 oM 21 20,
 qM 21 false 22 1,
 qM 21 false 23 3,
 ⟨some 24, some (21, false), .rd (.bin .gtr) [.tmp 22, .tmp 23]⟩,
 ⟨some 25, none, .rd .pick [.tmp 21, .pv (.bool true), .tmp 24]⟩,
 oM 26 25,
 qM 26 false 27 2,
 ⟨some 28, some (26, false), .rd (.bin .lss) [.tmp 27, .pv (.int .i64 0)]⟩,
 ⟨some 29, none, .rd .pick [.tmp 26, .pv (.bool true), .tmp 28]⟩,
 oM 30 29,
 qM 30 false 31 2,
 qM 30 false 32 3,
 ⟨some 33, some (30, false), .rd (.bin .gtr) [.tmp 31, .tmp 32]⟩,
 ⟨some 34, none, .rd .pick [.tmp 30, .pv (.bool true), .tmp 33]⟩,
 oM 18 34] L18)
 (.cond (.tmp 18)
 (.seq (.region false [⟨some 8, none, .rd .mov [.pv (.int .i64 0)]⟩,
 ⟨some 9, none, .rd .mov [.pv (.int .i64 2)]⟩] L18)
 (.ret))
 (.seq (.region false [oM 36 1,
 oM 37 2,
 ⟨some 38, none, .rd (.bin .gtr) [.tmp 36, .tmp 37]⟩,
 oM 35 38] L18)
 (.cond (.tmp 35)
 (.seq (.region false [⟨some 8, none, .rd .mov [.pv (.int .i64 0)]⟩,
 ⟨some 9, none, .rd .mov [.pv (.int .i64 8)]⟩] L18)
 (.ret))
 (.skip))))))))
 (.seq (.region false [oM 39 0,
 oM 40 2,
 oM 41 3,
 ⟨some 42, none, .call (.pv (.fn 35 [] [])) [.tmp 39, .tmp 40, .tmp 41]⟩,
 oM 43 0,
 oM 44 1,
 oM 45 3,
 ⟨some 46, none, .call (.pv (.fn 35 [] [])) [.tmp 43, .tmp 44, .tmp 45]⟩,
 ⟨some 47, none, .rd (.bin .sub) [.tmp 42, .tmp 46]⟩,
 oM 8 47,
 ⟨some 9, none, .rd .mov [.pv (.int .i64 0)]⟩] L18)
 (.ret)))),
 [.tmp 8, .tmp 9]⟩

-- wagebook/period.is
def L19 : List Nat := [0, 2]
def c19 : CF := ⟨9,
 .seq (.region false [⟨some 2, none, .rd .mov [.pv (.bool false)]⟩] L19)
 (.seq (.region false [oM 3 0,
 ⟨some 4, none, .rd (.bin .geq) [.tmp 3, .pv (.int .i64 (-25567))]⟩,
 oM 5 4,
 qM 5 true 6 0,
 ⟨some 7, some (5, true), .rd (.bin .lss) [.tmp 6, .pv (.int .i64 84006)]⟩,
 ⟨some 8, none, .rd .pick [.tmp 5, .tmp 7, .pv (.bool false)]⟩,
 oM 2 8] L19)
 (.ret)),
 [.tmp 2]⟩

-- wagebook/period.whole
def L22 : List Nat := [0, 1, 2]
def c22 : CF := ⟨11,
 .seq (.region false [⟨some 1, none, .eff (.box (some 2)) [.tmp 0]⟩,
 ⟨some 2, none, .rd .mov [.pv (.bool false)]⟩] L22)
 (.seq (.region false [oF 0 3 1,
 oL 4 3,
 ⟨some 5, none, .rd (.bin .geq) [.tmp 4, .pv (.int .i64 (-25567))]⟩,
 oM 6 5,
 qF 1 6 true 7 1,
 qL 6 true 8 7,
 ⟨some 9, some (6, true), .rd (.bin .leq) [.tmp 8, .pv (.int .i64 84006)]⟩,
 ⟨some 10, none, .rd .pick [.tmp 6, .tmp 9, .pv (.bool false)]⟩,
 oM 2 10] L22)
 (.ret)),
 [.tmp 2]⟩

-- wagebook/span.empty
def L30 : List Nat := [0, 1, 2]
def c30 : CF := ⟨8,
 .seq (.region false [⟨some 1, none, .eff (.box (some 2)) [.tmp 0]⟩,
 ⟨some 2, none, .rd .mov [.pv (.bool false)]⟩] L30)
 (.seq (.region false [oF 1 3 1,
 oL 4 3,
 oF 0 5 1,
 oL 6 5,
 ⟨some 7, none, .rd (.bin .leq) [.tmp 4, .tmp 6]⟩,
 oM 2 7] L30)
 (.ret)),
 [.tmp 2]⟩

-- wagebook/rate.Of
def L32 : List Nat := [0, 1, 2, 6, 7, 15]
def c32 : CF := ⟨22,
 .seq (.region false [⟨some 6, none, .rd .mov [.pv (.int .i64 0)]⟩,
 ⟨some 7, none, .rd .mov [.pv (.int .i64 0)]⟩] L32)
 (.seq (.seq (.region false [oM 8 0,
 ⟨some 9, none, .call (.pv (.fn 45 [] [])) [.tmp 8]⟩,
 ⟨some 10, none, .rd (.un .not) [.tmp 9]⟩,
 oM 11 10,
 qM 11 false 12 1,
 ⟨some 13, some (11, false), .call (.pv (.fn 46 [] [])) [.tmp 12]⟩,
 ⟨some 14, some (11, false), .rd (.un .not) [.tmp 13]⟩,
 ⟨some 15, none, .rd .pick [.tmp 11, .pv (.bool true), .tmp 14]⟩] L32)
 (.cond (.tmp 15)
 (.seq (.region false [⟨some 6, none, .rd .mov [.pv (.int .i64 0)]⟩,
 ⟨some 7, none, .rd .mov [.pv (.int .i64 2)]⟩] L32)
 (.ret))
 (.skip)))
 (.seq (.region false [oM 16 0,
 oM 17 1,
 oM 18 2,
 ⟨some 19, none, .call (.pv (.fn 47 [] [])) [.tmp 16, .tmp 17, .pv (.int .i64 1000000), .tmp 18]⟩,
 ⟨some 20, none, .rd (.ext 0) [.tmp 19]⟩,
 ⟨some 21, none, .rd (.ext 1) [.tmp 19]⟩,
 oM 6 20,
 oM 7 21] L32)
 (.ret))),
 [.tmp 6, .tmp 7]⟩

-- wagebook/cents.told
def L33 : List Nat := [0, 1, 2, 6, 7, 8, 15]
def c33 : CF := ⟨20,
 .seq (.region false [⟨some 6, none, .rd .mov [.pv (.int .i64 0)]⟩,
 ⟨some 7, none, .rd .mov [.pv (.int .i64 0)]⟩] L33)
 (.seq (.block 0
 (.seq (.seq (.region false [oM 9 0,
 ⟨some 10, none, .call (.pv (.fn 48 [] [])) [.tmp 9]⟩,
 ⟨some 11, none, .rd (.un .not) [.tmp 10]⟩,
 oM 8 11] L33)
 (.cond (.tmp 8)
 (.skip)
 (.region false [oM 12 1,
 ⟨some 13, none, .call (.pv (.fn 48 [] [])) [.tmp 12]⟩,
 ⟨some 14, none, .rd (.un .not) [.tmp 13]⟩,
 oM 8 14] L33)))
 (.cond (.tmp 8)
 (.seq (.region false [⟨some 6, none, .rd .mov [.pv (.int .i64 0)]⟩,
 ⟨some 7, none, .rd .mov [.pv (.int .i64 2)]⟩] L33)
 (.ret))
 (.seq (.region false [oM 16 2,
 ⟨some 17, none, .call (.pv (.fn 48 [] [])) [.tmp 16]⟩,
 ⟨some 18, none, .rd (.un .not) [.tmp 17]⟩,
 oM 15 18] L33)
 (.cond (.tmp 15)
 (.seq (.region false [⟨some 6, none, .rd .mov [.pv (.int .i64 0)]⟩,
 ⟨some 7, none, .rd .mov [.pv (.int .i64 9)]⟩] L33)
 (.ret))
 (.skip))))))
 (.seq (.region false [oM 19 2,
 oM 6 19,
 ⟨some 7, none, .rd .mov [.pv (.int .i64 0)]⟩] L33)
 (.ret))),
 [.tmp 6, .tmp 7]⟩

-- wagebook/share.whole
def L34 : List Nat := [0, 1, 4, 5, 9, 12]
def c34 : CF := ⟨19,
 .seq (.region false [⟨some 4, none, .rd .mov [.pv (.int .i64 0)]⟩] L34)
 (.seq (.block 0
 (.seq (.region false [oM 6 0,
 ⟨some 7, none, .call (.pv (.fn 49 [] [])) [.tmp 6]⟩,
 ⟨some 8, none, .rd (.un .not) [.tmp 7]⟩,
 oM 5 8] L34)
 (.cond (.tmp 5)
 (.seq (.region false [⟨some 4, none, .rd .mov [.pv (.int .i64 9)]⟩] L34)
 (.ret))
 (.seq (.region false [oM 10 1,
 ⟨some 11, none, .rd (.bin .eql) [.tmp 10, .pv (.int .i64 0)]⟩,
 oM 9 11] L34)
 (.cond (.tmp 9)
 (.seq (.region false [⟨some 4, none, .rd .mov [.pv (.int .i64 22)]⟩] L34)
 (.ret))
 (.seq (.region false [oM 13 1,
 ⟨some 14, none, .rd (.bin .lss) [.tmp 13, .pv (.int .i64 0)]⟩,
 oM 15 14,
 qM 15 false 16 1,
 ⟨some 17, some (15, false), .rd (.bin .gtr) [.tmp 16, .pv (.int .i64 1125899906842624)]⟩,
 ⟨some 18, none, .rd .pick [.tmp 15, .pv (.bool true), .tmp 17]⟩,
 oM 12 18] L34)
 (.cond (.tmp 12)
 (.seq (.region false [⟨some 4, none, .rd .mov [.pv (.int .i64 2)]⟩] L34)
 (.ret))
 (.skip))))))))
 (.seq (.region false [⟨some 4, none, .rd .mov [.pv (.int .i64 0)]⟩] L34)
 (.ret))),
 [.tmp 4]⟩

-- wagebook/share.upTo
def L35 : List Nat := [0, 1, 2, 4, 5, 6]
def c35 : CF := ⟨10,
 .seq (.region false [⟨some 4, none, .eff (.box none) [.tmp 1]⟩,
 ⟨some 5, none, .eff (.box none) [.tmp 2]⟩,
 ⟨some 6, none, .rd .mov [.pv (.int .i64 0)]⟩] L35)
 (.seq (.region false [oM 7 0,
 ⟨some 8, none, .rd (.mkFn 51 0) [.tmp 4, .tmp 5]⟩,
 ⟨some 9, none, .call (.pv (.fn 50 [] [])) [.tmp 7, .tmp 8]⟩,
 oM 6 9] L35)
 (.ret)),
 [.tmp 6]⟩

-- wagebook/rate.amount
def L45 : List Nat := [0, 2]
def c45 : CF := ⟨9,
 .seq (.region false [⟨some 2, none, .rd .mov [.pv (.bool false)]⟩] L45)
 (.seq (.region false [oM 3 0,
 ⟨some 4, none, .rd (.bin .geq) [.tmp 3, .pv (.int .i64 (-1125899906842624))]⟩,
 oM 5 4,
 qM 5 true 6 0,
 ⟨some 7, some (5, true), .rd (.bin .leq) [.tmp 6, .pv (.int .i64 1125899906842624)]⟩,
 ⟨some 8, none, .rd .pick [.tmp 5, .tmp 7, .pv (.bool false)]⟩,
 oM 2 8] L45)
 (.ret)),
 [.tmp 2]⟩

-- wagebook/rate.right
def L46 : List Nat := [0, 2]
def c46 : CF := ⟨9,
 .seq (.region false [⟨some 2, none, .rd .mov [.pv (.bool false)]⟩] L46)
 (.seq (.region false [oM 3 0,
 ⟨some 4, none, .rd (.bin .geq) [.tmp 3, .pv (.int .i64 (-1000000000))]⟩,
 oM 5 4,
 qM 5 true 6 0,
 ⟨some 7, some (5, true), .rd (.bin .leq) [.tmp 6, .pv (.int .i64 1000000000)]⟩,
 ⟨some 8, none, .rd .pick [.tmp 5, .tmp 7, .pv (.bool false)]⟩,
 oM 2 8] L46)
 (.ret)),
 [.tmp 2]⟩

-- wagebook/rate.Part
def L47 : List Nat := [0, 1, 2, 3, 8, 9, 10, 11, 12, 16, 19, 22, 39]
def c47 : CF := ⟨41,
 .seq (.region false [⟨some 8, none, .rd .mov [.pv (.int .i64 0)]⟩,
 ⟨some 9, none, .rd .mov [.pv (.int .i64 0)]⟩] L47)
 (.seq (.block 0
 (.seq (.region false [oM 13 0,
 ⟨some 14, none, .call (.pv (.fn 45 [] [])) [.tmp 13]⟩,
 ⟨some 15, none, .rd (.un .not) [.tmp 14]⟩,
 oM 12 15] L47)
 (.cond (.tmp 12)
 (.seq (.region false [⟨some 8, none, .rd .mov [.pv (.int .i64 0)]⟩,
 ⟨some 9, none, .rd .mov [.pv (.int .i64 2)]⟩] L47)
 (.ret))
 (.seq (.region false [oM 17 2,
 ⟨some 18, none, .rd (.bin .eql) [.tmp 17, .pv (.int .i64 0)]⟩,
 oM 16 18] L47)
 (.cond (.tmp 16)
 (.seq (.region false [⟨some 8, none, .rd .mov [.pv (.int .i64 0)]⟩,
 ⟨some 9, none, .rd .mov [.pv (.int .i64 22)]⟩] L47)
 (.ret))
 (.seq (.region false [oM 20 2,
 ⟨some 21, none, .rd (.bin .lss) [.tmp 20, .pv (.int .i64 0)]⟩,
 oM 19 21] L47)
 (.cond (.tmp 19)
 (.seq (.region false [⟨some 8, none, .rd .mov [.pv (.int .i64 0)]⟩,
 ⟨some 9, none, .rd .mov [.pv (.int .i64 2)]⟩] L47)
 (.ret))
 (.seq (.region false [oM 23 3,
 ⟨some 24, none, .rd (.bin .lss) [.tmp 23, .pv (.int .i64 0)]⟩,
 oM 25 24,
 qM 25 false 26 3,
 ⟨some 27, some (25, false), .rd (.bin .gtr) [.tmp 26, .pv (.int .i64 4)]⟩,
 ⟨some 28, none, .rd .pick [.tmp 25, .pv (.bool true), .tmp 27]⟩,
 oM 22 28] L47)
 (.cond (.tmp 22)
 (.seq (.region false [⟨some 8, none, .rd .mov [.pv (.int .i64 0)]⟩,
 ⟨some 9, none, .rd .mov [.pv (.int .i64 11)]⟩] L47)
 (.ret))
 (.skip))))))))))
 (.seq (.region false [oM 30 0,
 oM 31 1,
 oM 32 2,
 ⟨some 33, none, .rd (.conv .u64) [.tmp 32]⟩,
 oM 34 3,
 ⟨some 35, none, .call (.pv (.fn 69 [] [])) [.tmp 30, .tmp 31, .tmp 33, .pv (.int .u64 1125899906842624), .tmp 34]⟩,
 oM 29 35,
 ⟨some 36, none, .rd (.ext 0) [.tmp 29]⟩,
 ⟨some 37, none, .rd (.ext 1) [.tmp 29]⟩,
 oM 10 36,
 oM 11 37] L47)
 (.seq (.seq (.region false [oM 38 11,
 ⟨some 39, none, .rd (.un .not) [.tmp 38]⟩] L47)
 (.cond (.tmp 39)
 (.seq (.region false [⟨some 8, none, .rd .mov [.pv (.int .i64 0)]⟩,
 ⟨some 9, none, .rd .mov [.pv (.int .i64 9)]⟩] L47)
 (.ret))
 (.skip)))
 (.seq (.region false [oM 40 10,
 oM 8 40,
 ⟨some 9, none, .rd .mov [.pv (.int .i64 0)]⟩] L47)
 (.ret))))),
 [.tmp 8, .tmp 9]⟩

-- wagebook/cents.Fits
def L48 : List Nat := [0, 2]
def c48 : CF := ⟨9,
 .seq (.region false [⟨some 2, none, .rd .mov [.pv (.bool false)]⟩] L48)
 (.seq (.region false [oM 3 0,
 ⟨some 4, none, .rd (.bin .geq) [.tmp 3, .pv (.int .i64 (-1125899906842624))]⟩,
 oM 5 4,
 qM 5 true 6 0,
 ⟨some 7, some (5, true), .rd (.bin .leq) [.tmp 6, .pv (.int .i64 1125899906842624)]⟩,
 ⟨some 8, none, .rd .pick [.tmp 5, .tmp 7, .pv (.bool false)]⟩,
 oM 2 8] L48)
 (.ret)),
 [.tmp 2]⟩

-- wagebook/share.fits
def L49 : List Nat := [0, 2]
def c49 : CF := ⟨9,
 .seq (.region false [⟨some 2, none, .rd .mov [.pv (.bool false)]⟩] L49)
 (.seq (.region false [oM 3 0,
 ⟨some 4, none, .rd (.bin .geq) [.tmp 3, .pv (.int .i64 (-1125899906842624))]⟩,
 oM 5 4,
 qM 5 true 6 0,
 ⟨some 7, some (5, true), .rd (.bin .leq) [.tmp 6, .pv (.int .i64 1125899906842624)]⟩,
 ⟨some 8, none, .rd .pick [.tmp 5, .tmp 7, .pv (.bool false)]⟩,
 oM 2 8] L49)
 (.ret)),
 [.tmp 2]⟩

-- wagebook/share.turned
def L50 : List Nat := [0, 1, 4, 6]
def c50 : CF := ⟨17,
 .seq (.region false [⟨some 4, none, .rd .mov [.pv (.int .i64 0)]⟩] L50)
 (.seq (.seq (.region false [oM 5 0,
 ⟨some 6, none, .rd (.bin .lss) [.tmp 5, .pv (.int .i64 0)]⟩] L50)
 (.cond (.tmp 6)
 (.seq (.region false [oM 7 1,
 oM 8 0,
 ⟨some 9, none, .rd (.un .neg) [.tmp 8]⟩,
 ⟨some 10, none, .rd (.conv .u64) [.tmp 9]⟩,
 ⟨some 11, none, .call (.tmp 7) [.tmp 10]⟩,
 ⟨some 12, none, .rd (.un .neg) [.tmp 11]⟩,
 oM 4 12] L50)
 (.ret))
 (.skip)))
 (.seq (.region false [oM 13 1,
 oM 14 0,
 ⟨some 15, none, .rd (.conv .u64) [.tmp 14]⟩,
 ⟨some 16, none, .call (.tmp 13) [.tmp 15]⟩,
 oM 4 16] L50)
 (.ret))),
 [.tmp 4]⟩

-- wagebook/share.upTo$1
def L51 : List Nat := [0, 1, 2, 4, 5, 6, 20]
def c51 : CF := ⟨25,
 .seq (.region false [⟨some 4, none, .rd .mov [.pv (.int .i64 0)]⟩] L51)
 (.seq (.region false [oM 8 0,
 oL 9 1,
 ⟨some 10, none, .rd (.conv .u64) [.tmp 9]⟩,
 oL 11 2,
 ⟨some 12, none, .rd (.conv .u64) [.tmp 11]⟩,
 ⟨some 13, none, .call (.pv (.fn 52 [] [])) [.tmp 8, .tmp 10, .tmp 12]⟩,
 oM 7 13,
 ⟨some 14, none, .rd (.ext 0) [.tmp 7]⟩,
 ⟨some 15, none, .rd (.ext 1) [.tmp 7]⟩,
 oM 5 14,
 oM 6 15] L51)
 (.seq (.seq (.region false [oM 16 6,
 ⟨some 17, none, .rd (.bin .mul) [.pv (.int .u64 2), .tmp 16]⟩,
 oL 18 2,
 ⟨some 19, none, .rd (.conv .u64) [.tmp 18]⟩,
 ⟨some 20, none, .rd (.bin .geq) [.tmp 17, .tmp 19]⟩] L51)
 (.cond (.tmp 20)
 (.region false [oM 21 5,
 ⟨some 22, none, .rd (.bin .add) [.tmp 21, .pv (.int .u64 1)]⟩,
 oM 5 22] L51)
 (.skip)))
 (.seq (.region false [oM 23 5,
 ⟨some 24, none, .rd (.conv .i64) [.tmp 23]⟩,
 oM 4 24] L51)
 (.ret)))),
 [.tmp 4]⟩

-- wagebook/share.part
def L52 : List Nat := [0, 1, 2, 6, 7, 8, 9]
def c52 : CF := ⟨22,
 .seq (.region false [⟨some 6, none, .rd .mov [.pv (.int .u64 0)]⟩,
 ⟨some 7, none, .rd .mov [.pv (.int .u64 0)]⟩] L52)
 (.seq (.region false [oM 11 0,
 oM 12 1,
 ⟨some 13, none, .call (.pv (.fn 70 [] [])) [.tmp 11, .tmp 12]⟩,
 oM 10 13,
 ⟨some 14, none, .rd (.ext 0) [.tmp 10]⟩,
 ⟨some 15, none, .rd (.ext 1) [.tmp 10]⟩,
 oM 8 14,
 oM 9 15] L52)
 (.seq (.region false [oM 16 8,
 oM 17 9,
 oM 18 2,
 ⟨some 19, none, .call (.pv (.fn 71 [] [])) [.tmp 16, .tmp 17, .tmp 18]⟩,
 ⟨some 20, none, .rd (.ext 0) [.tmp 19]⟩,
 ⟨some 21, none, .rd (.ext 1) [.tmp 19]⟩,
 oM 6 20,
 oM 7 21] L52)
 (.ret))),
 [.tmp 6, .tmp 7]⟩

-- wagebook/rate.quotient
def L69 : List Nat := [0, 1, 2, 3, 4, 10, 11, 12, 13, 14, 15, 16, 32, 42, 48, 53, 54]
def c69 : CF := ⟨60,
 .seq (.region false [⟨some 10, none, .rd .mov [.pv (.int .i64 0)]⟩,
 ⟨some 11, none, .rd .mov [.pv (.bool false)]⟩] L69)
 (.seq (.region false [oM 17 0,
 ⟨some 18, none, .rd (.bin .lss) [.tmp 17, .pv (.int .i64 0)]⟩,
 oM 19 1,
 ⟨some 20, none, .rd (.bin .lss) [.tmp 19, .pv (.int .i64 0)]⟩,
 ⟨some 21, none, .rd (.eqB true) [.tmp 18, .tmp 20]⟩,
 oM 12 21] L69)
 (.seq (.region false [oM 23 0,
 ⟨some 24, none, .call (.pv (.fn 86 [] [])) [.tmp 23]⟩,
 oM 25 1,
 ⟨some 26, none, .call (.pv (.fn 86 [] [])) [.tmp 25]⟩,
 ⟨some 27, none, .call (.pv (.fn 70 [] [])) [.tmp 24, .tmp 26]⟩,
 oM 22 27,
 ⟨some 28, none, .rd (.ext 0) [.tmp 22]⟩,
 ⟨some 29, none, .rd (.ext 1) [.tmp 22]⟩,
 oM 13 28,
 oM 14 29] L69)
 (.seq (.seq (.region false [oM 30 13,
 oM 31 2,
 ⟨some 32, none, .rd (.bin .geq) [.tmp 30, .tmp 31]⟩] L69)
 (.cond (.tmp 32)
 (.seq (.region false [⟨some 10, none, .rd .mov [.pv (.int .i64 0)]⟩,
 ⟨some 11, none, .rd .mov [.pv (.bool false)]⟩] L69)
 (.ret))
 (.skip)))
 (.seq (.region false [oM 34 13,
 oM 35 14,
 oM 36 2,
 ⟨some 37, none, .call (.pv (.fn 71 [] [])) [.tmp 34, .tmp 35, .tmp 36]⟩,
 oM 33 37,
 ⟨some 38, none, .rd (.ext 0) [.tmp 33]⟩,
 ⟨some 39, none, .rd (.ext 1) [.tmp 33]⟩,
 oM 15 38,
 oM 16 39] L69)
 (.seq (.seq (.region false [oM 40 15,
 oM 41 3,
 ⟨some 42, none, .rd (.bin .gtr) [.tmp 40, .tmp 41]⟩] L69)
 (.cond (.tmp 42)
 (.seq (.region false [⟨some 10, none, .rd .mov [.pv (.int .i64 0)]⟩,
 ⟨some 11, none, .rd .mov [.pv (.bool false)]⟩] L69)
 (.ret))
 (.skip)))
 (.seq (.seq (.region false [oM 43 12,
 oM 44 15,
 oM 45 16,
 oM 46 2,
 oM 47 4,
 ⟨some 48, none, .call (.pv (.fn 87 [] [])) [.tmp 43, .tmp 44, .tmp 45, .tmp 46, .tmp 47]⟩] L69)
 (.cond (.tmp 48)
 (.region false [oM 49 15,
 ⟨some 50, none, .rd (.bin .add) [.tmp 49, .pv (.int .u64 1)]⟩,
 oM 15 50] L69)
 (.skip)))
 (.seq (.seq (.region false [oM 51 15,
 oM 52 3,
 ⟨some 53, none, .rd (.bin .gtr) [.tmp 51, .tmp 52]⟩] L69)
 (.cond (.tmp 53)
 (.seq (.region false [⟨some 10, none, .rd .mov [.pv (.int .i64 0)]⟩,
 ⟨some 11, none, .rd .mov [.pv (.bool false)]⟩] L69)
 (.ret))
 (.skip)))
 (.seq (.seq (.region false [oM 54 12] L69)
 (.cond (.tmp 54)
 (.seq (.region false [oM 55 15,
 ⟨some 56, none, .rd (.conv .i64) [.tmp 55]⟩,
 ⟨some 57, none, .rd (.un .neg) [.tmp 56]⟩,
 oM 10 57,
 ⟨some 11, none, .rd .mov [.pv (.bool true)]⟩] L69)
 (.ret))
 (.skip)))
 (.seq (.region false [oM 58 15,
 ⟨some 59, none, .rd (.conv .i64) [.tmp 58]⟩,
 oM 10 59,
 ⟨some 11, none, .rd .mov [.pv (.bool true)]⟩] L69)
 (.ret)))))))))),
 [.tmp 10, .tmp 11]⟩

-- math/bits.Mul64
def L70 : List Nat := [0, 1, 4, 5, 6, 7, 8, 9, 10, 11, 12, 13]
def c70 : CF := ⟨51,
 .seq (.region false [⟨some 4, none, .rd .mov [.pv (.int .u64 0)]⟩,
 ⟨some 5, none, .rd .mov [.pv (.int .u64 0)]⟩] L70)
 (.seq (.region false [oM 14 0,
 ⟨some 15, none, .rd (.bin .and) [.tmp 14, .pv (.int .u64 4294967295)]⟩,
 oM 6 15] L70)
 (.seq (.region false [oM 16 0,
 ⟨some 17, none, .rd (.bin .shr) [.tmp 16, .pv (.int .u64 32)]⟩,
 oM 7 17] L70)
 (.seq (.region false [oM 18 1,
 ⟨some 19, none, .rd (.bin .and) [.tmp 18, .pv (.int .u64 4294967295)]⟩,
 oM 8 19] L70)
 (.seq (.region false [oM 20 1,
 ⟨some 21, none, .rd (.bin .shr) [.tmp 20, .pv (.int .u64 32)]⟩,
 oM 9 21] L70)
 (.seq (.region false [oM 22 6,
 oM 23 8,
 ⟨some 24, none, .rd (.bin .mul) [.tmp 22, .tmp 23]⟩,
 oM 10 24] L70)
 (.seq (.region false [oM 25 7,
 oM 26 8,
 ⟨some 27, none, .rd (.bin .mul) [.tmp 25, .tmp 26]⟩,
 oM 28 10,
 ⟨some 29, none, .rd (.bin .shr) [.tmp 28, .pv (.int .u64 32)]⟩,
 ⟨some 30, none, .rd (.bin .add) [.tmp 27, .tmp 29]⟩,
 oM 11 30] L70)
 (.seq (.region false [oM 31 11,
 ⟨some 32, none, .rd (.bin .and) [.tmp 31, .pv (.int .u64 4294967295)]⟩,
 oM 12 32] L70)
 (.seq (.region false [oM 33 11,
 ⟨some 34, none, .rd (.bin .shr) [.tmp 33, .pv (.int .u64 32)]⟩,
 oM 13 34] L70)
 (.seq (.region false [oM 35 12,
 oM 36 6,
 oM 37 9,
 ⟨some 38, none, .rd (.bin .mul) [.tmp 36, .tmp 37]⟩,
 ⟨some 39, none, .rd (.bin .add) [.tmp 35, .tmp 38]⟩,
 oM 12 39] L70)
 (.seq (.region false [oM 40 7,
 oM 41 9,
 ⟨some 42, none, .rd (.bin .mul) [.tmp 40, .tmp 41]⟩,
 oM 43 13,
 ⟨some 44, none, .rd (.bin .add) [.tmp 42, .tmp 43]⟩,
 oM 45 12,
 ⟨some 46, none, .rd (.bin .shr) [.tmp 45, .pv (.int .u64 32)]⟩,
 ⟨some 47, none, .rd (.bin .add) [.tmp 44, .tmp 46]⟩,
 oM 4 47] L70)
 (.seq (.region false [oM 48 0,
 oM 49 1,
 ⟨some 50, none, .rd (.bin .mul) [.tmp 48, .tmp 49]⟩,
 oM 5 50] L70)
 (.ret)))))))))))),
 [.tmp 4, .tmp 5]⟩

-- math/bits.Div64
def L71 : List Nat := [0, 1, 2, 6, 7, 8, 9, 10, 11, 12, 13, 14, 15, 16, 17, 18, 20, 24, 27, 78, 85, 113, 120]
def c71 : CF := ⟨135,
 .seq (.region false [⟨some 6, none, .rd .mov [.pv (.int .u64 0)]⟩,
 ⟨some 7, none, .rd .mov [.pv (.int .u64 0)]⟩] L71)
 (.seq (.seq (.region false [oM 19 2,
 ⟨some 20, none, .rd (.bin .eql) [.tmp 19, .pv (.int .u64 0)]⟩] L71)
 (.cond (.tmp 20)
 (.region false [⟨some 21, none, .rd (.load none) [.glob 2]⟩,
 ⟨none, none, .rd .dead [.tmp 21]⟩] L71)
 (.skip)))
 (.seq (.seq (.region false [oM 22 2,
 oM 23 0,
 ⟨some 24, none, .rd (.bin .leq) [.tmp 22, .tmp 23]⟩] L71)
 (.cond (.tmp 24)
 (.region false [⟨some 25, none, .rd (.load none) [.glob 3]⟩,
 ⟨none, none, .rd .dead [.tmp 25]⟩] L71)
 (.skip)))
 (.seq (.seq (.region false [oM 26 0,
 ⟨some 27, none, .rd (.bin .eql) [.tmp 26, .pv (.int .u64 0)]⟩] L71)
 (.cond (.tmp 27)
 (.seq (.region true [oM 28 1,
 oM 29 2,
 ⟨some 30, none, .rd (.bin .quo) [.tmp 28, .tmp 29]⟩,
 oM 31 1,
 oM 32 2,
 ⟨some 33, none, .rd (.bin .rem) [.tmp 31, .tmp 32]⟩,
 oM 6 30,
 oM 7 33] L71)
 (.ret))
 (.skip)))
 (.seq (.region false [oM 34 2,
 ⟨some 35, none, .call (.pv (.fn 88 [] [])) [.tmp 34]⟩,
 ⟨some 36, none, .rd (.conv .u64) [.tmp 35]⟩,
 oM 8 36] L71)
 (.seq (.region false [oM 37 2,
 oM 38 8,
 ⟨some 39, none, .rd (.bin .shl) [.tmp 37, .tmp 38]⟩,
 oM 2 39] L71)
 (.seq (.region false [oM 40 2,
 ⟨some 41, none, .rd (.bin .shr) [.tmp 40, .pv (.int .u64 32)]⟩,
 oM 9 41] L71)
 (.seq (.region false [oM 42 2,
 ⟨some 43, none, .rd (.bin .and) [.tmp 42, .pv (.int .u64 4294967295)]⟩,
 oM 10 43] L71)
 (.seq (.region false [oM 44 0,
 oM 45 8,
 ⟨some 46, none, .rd (.bin .shl) [.tmp 44, .tmp 45]⟩,
 oM 47 1,
 oM 48 8,
 ⟨some 49, none, .rd (.bin .sub) [.pv (.int .u64 64), .tmp 48]⟩,
 ⟨some 50, none, .rd (.bin .shr) [.tmp 47, .tmp 49]⟩,
 ⟨some 51, none, .rd (.bin .or) [.tmp 46, .tmp 50]⟩,
 oM 11 51] L71)
 (.seq (.region false [oM 52 1,
 oM 53 8,
 ⟨some 54, none, .rd (.bin .shl) [.tmp 52, .tmp 53]⟩,
 oM 12 54] L71)
 (.seq (.region false [oM 55 12,
 ⟨some 56, none, .rd (.bin .shr) [.tmp 55, .pv (.int .u64 32)]⟩,
 oM 13 56] L71)
 (.seq (.region false [oM 57 12,
 ⟨some 58, none, .rd (.bin .and) [.tmp 57, .pv (.int .u64 4294967295)]⟩,
 oM 14 58] L71)
 (.seq (.region false [oM 59 11,
 oM 60 9,
 ⟨some 61, none, .rd (.bin .quo) [.tmp 59, .tmp 60]⟩,
 oM 15 61] L71)
 (.seq (.region false [oM 62 11,
 oM 63 15,
 oM 64 9,
 ⟨some 65, none, .rd (.bin .mul) [.tmp 63, .tmp 64]⟩,
 ⟨some 66, none, .rd (.bin .sub) [.tmp 62, .tmp 65]⟩,
 oM 16 66] L71)
 (.seq (.block 0
 (.loop
 (.seq (.seq (.region false [oM 67 15,
 ⟨some 68, none, .rd (.bin .geq) [.tmp 67, .pv (.int .u64 4294967296)]⟩,
 oM 69 68,
 qM 69 false 70 15,
 qM 69 false 71 10,
 ⟨some 72, some (69, false), .rd (.bin .mul) [.tmp 70, .tmp 71]⟩,
 qM 69 false 73 16,
 ⟨some 74, some (69, false), .rd (.bin .mul) [.pv (.int .u64 4294967296), .tmp 73]⟩,
 qM 69 false 75 13,
 ⟨some 76, some (69, false), .rd (.bin .add) [.tmp 74, .tmp 75]⟩,
 ⟨some 77, some (69, false), .rd (.bin .gtr) [.tmp 72, .tmp 76]⟩,
 ⟨some 78, none, .rd .pick [.tmp 69, .pv (.bool true), .tmp 77]⟩] L71)
 (.cond (.tmp 78)
 (.skip)
 (.exit 0)))
 (.block 1
 (.seq (.region false [oM 79 15,
 ⟨some 80, none, .rd (.bin .sub) [.tmp 79, .pv (.int .u64 1)]⟩,
 oM 15 80] L71)
 (.seq (.region false [oM 81 16,
 oM 82 9,
 ⟨some 83, none, .rd (.bin .add) [.tmp 81, .tmp 82]⟩,
 oM 16 83] L71)
 (.seq (.region false [oM 84 16,
 ⟨some 85, none, .rd (.bin .geq) [.tmp 84, .pv (.int .u64 4294967296)]⟩] L71)
 (.cond (.tmp 85)
 (.exit 0)
 (.skip)))))))))
 (.seq (.region false [oM 86 11,
 ⟨some 87, none, .rd (.bin .mul) [.tmp 86, .pv (.int .u64 4294967296)]⟩,
 oM 88 13,
 ⟨some 89, none, .rd (.bin .add) [.tmp 87, .tmp 88]⟩,
 oM 90 15,
 oM 91 2,
 ⟨some 92, none, .rd (.bin .mul) [.tmp 90, .tmp 91]⟩,
 ⟨some 93, none, .rd (.bin .sub) [.tmp 89, .tmp 92]⟩,
 oM 17 93] L71)
 (.seq (.region false [oM 94 17,
 oM 95 9,
 ⟨some 96, none, .rd (.bin .quo) [.tmp 94, .tmp 95]⟩,
 oM 18 96] L71)
 (.seq (.region false [oM 97 17,
 oM 98 18,
 oM 99 9,
 ⟨some 100, none, .rd (.bin .mul) [.tmp 98, .tmp 99]⟩,
 ⟨some 101, none, .rd (.bin .sub) [.tmp 97, .tmp 100]⟩,
 oM 16 101] L71)
 (.seq (.block 2
 (.loop
 (.seq (.seq (.region false [oM 102 18,
 ⟨some 103, none, .rd (.bin .geq) [.tmp 102, .pv (.int .u64 4294967296)]⟩,
 oM 104 103,
 qM 104 false 105 18,
 qM 104 false 106 10,
 ⟨some 107, some (104, false), .rd (.bin .mul) [.tmp 105, .tmp 106]⟩,
 qM 104 false 108 16,
 ⟨some 109, some (104, false), .rd (.bin .mul) [.pv (.int .u64 4294967296), .tmp 108]⟩,
 qM 104 false 110 14,
 ⟨some 111, some (104, false), .rd (.bin .add) [.tmp 109, .tmp 110]⟩,
 ⟨some 112, some (104, false), .rd (.bin .gtr) [.tmp 107, .tmp 111]⟩,
 ⟨some 113, none, .rd .pick [.tmp 104, .pv (.bool true), .tmp 112]⟩] L71)
 (.cond (.tmp 113)
 (.skip)
 (.exit 2)))
 (.block 3
 (.seq (.region false [oM 114 18,
 ⟨some 115, none, .rd (.bin .sub) [.tmp 114, .pv (.int .u64 1)]⟩,
 oM 18 115] L71)
 (.seq (.region false [oM 116 16,
 oM 117 9,
 ⟨some 118, none, .rd (.bin .add) [.tmp 116, .tmp 117]⟩,
 oM 16 118] L71)
 (.seq (.region false [oM 119 16,
 ⟨some 120, none, .rd (.bin .geq) [.tmp 119, .pv (.int .u64 4294967296)]⟩] L71)
 (.cond (.tmp 120)
 (.exit 2)
 (.skip)))))))))
 (.seq (.region false [oM 121 15,
 ⟨some 122, none, .rd (.bin .mul) [.tmp 121, .pv (.int .u64 4294967296)]⟩,
 oM 123 18,
 ⟨some 124, none, .rd (.bin .add) [.tmp 122, .tmp 123]⟩,
 oM 125 17,
 ⟨some 126, none, .rd (.bin .mul) [.tmp 125, .pv (.int .u64 4294967296)]⟩,
 oM 127 14,
 ⟨some 128, none, .rd (.bin .add) [.tmp 126, .tmp 127]⟩,
 oM 129 18,
 oM 130 2,
 ⟨some 131, none, .rd (.bin .mul) [.tmp 129, .tmp 130]⟩,
 ⟨some 132, none, .rd (.bin .sub) [.tmp 128, .tmp 131]⟩,
 oM 133 8,
 ⟨some 134, none, .rd (.bin .shr) [.tmp 132, .tmp 133]⟩,
 oM 6 124,
 oM 7 134] L71)
 (.ret)))))))))))))))))))),
 [.tmp 6, .tmp 7]⟩

-- wagebook/rate.size
def L86 : List Nat := [0, 2, 4]
def c86 : CF := ⟨10,
 .seq (.region false [⟨some 2, none, .rd .mov [.pv (.int .u64 0)]⟩] L86)
 (.seq (.seq (.region false [oM 3 0,
 ⟨some 4, none, .rd (.bin .lss) [.tmp 3, .pv (.int .i64 0)]⟩] L86)
 (.cond (.tmp 4)
 (.seq (.region false [oM 5 0,
 ⟨some 6, none, .rd (.conv .u64) [.tmp 5]⟩,
 ⟨some 7, none, .rd (.un .neg) [.tmp 6]⟩,
 oM 2 7] L86)
 (.ret))
 (.skip)))
 (.seq (.region false [oM 8 0,
 ⟨some 9, none, .rd (.conv .u64) [.tmp 8]⟩,
 oM 2 9] L86)
 (.ret))),
 [.tmp 2]⟩

-- wagebook/rate.up
def L87 : List Nat := [0, 1, 2, 3, 4, 10, 11, 12, 13, 15, 17, 19, 22, 29]
def c87 : CF := ⟨39,
 .seq (.region false [⟨some 10, none, .rd .mov [.pv (.bool false)]⟩] L87)
 (.seq (.region false [⟨some 11, none, .rd .mov [.pv (.bool false)]⟩] L87)
 (.seq (.seq (.region false [oM 12 4] L87)
 (.block 0
 (.seq (.block 4
 (.seq (.block 3
 (.seq (.block 2
 (.seq (.block 1
 (.seq (.seq (.seq (.region false [⟨some 14, none, .rd (.bin .eql) [.tmp 12, .pv (.int .i64 4)]⟩,
 oM 13 14] L87)
 (.cond (.tmp 13)
 (.exit 1)
 (.skip)))
 (.seq (.seq (.region false [⟨some 16, none, .rd (.bin .eql) [.tmp 12, .pv (.int .i64 3)]⟩,
 oM 15 16] L87)
 (.cond (.tmp 15)
 (.exit 2)
 (.skip)))
 (.seq (.seq (.region false [⟨some 18, none, .rd (.bin .eql) [.tmp 12, .pv (.int .i64 2)]⟩,
 oM 17 18] L87)
 (.cond (.tmp 17)
 (.exit 3)
 (.skip)))
 (.seq (.region false [⟨some 20, none, .rd (.bin .eql) [.tmp 12, .pv (.int .i64 1)]⟩,
 oM 19 20] L87)
 (.cond (.tmp 19)
 (.exit 4)
 (.skip))))))
 (.exit 0)))
 (.seq (.region false [oM 21 0,
 ⟨some 22, none, .rd (.un .not) [.tmp 21]⟩] L87)
 (.cond (.tmp 22)
 (.exit 0)
 (.skip)))))
 (.seq (.region false [oM 23 2,
 ⟨some 24, none, .rd (.bin .gtr) [.tmp 23, .pv (.int .u64 0)]⟩,
 oM 11 24] L87)
 (.exit 0))))
 (.seq (.region false [oM 25 2,
 oM 26 3,
 oM 27 2,
 ⟨some 28, none, .rd (.bin .sub) [.tmp 26, .tmp 27]⟩,
 ⟨some 29, none, .rd (.bin .eql) [.tmp 25, .tmp 28]⟩] L87)
 (.cond (.tmp 29)
 (.seq (.region false [oM 30 1,
 ⟨some 31, none, .rd (.bin .rem) [.tmp 30, .pv (.int .u64 2)]⟩,
 ⟨some 32, none, .rd (.bin .eql) [.tmp 31, .pv (.int .u64 1)]⟩,
 oM 11 32] L87)
 (.exit 0))
 (.skip)))))
 (.seq (.region false [oM 33 2,
 oM 34 3,
 oM 35 2,
 ⟨some 36, none, .rd (.bin .sub) [.tmp 34, .tmp 35]⟩,
 ⟨some 37, none, .rd (.bin .geq) [.tmp 33, .tmp 36]⟩,
 oM 11 37] L87)
 (.exit 0)))))
 (.seq (.region false [oM 38 11,
 oM 10 38] L87)
 (.ret)))),
 [.tmp 10]⟩

-- wagebook/prorate.Period
def L6 : List Nat := [0, 1, 2, 4, 5]
def c6 : CF := ⟨17,
 .seq (.region false [⟨some 2, none, .eff (.box (some 6)) [.tmp 0]⟩,
 ⟨some 4, none, .rd .mov [.pv (.int .i64 0)]⟩,
 ⟨some 5, none, .rd .mov [.pv (.int .i64 0)]⟩] L6)
 (.seq (.region false [oM 6 1,
 oF 1 7 2,
 oL 8 7,
 ⟨some 9, none, .rd (.bin .sub) [.tmp 8, .pv (.int .i64 1)]⟩,
 oF 1 10 2,
 oL 11 10,
 oF 2 12 2,
 oL 13 12,
 ⟨some 14, none, .call (.pv (.fn 18 [] [])) [.tmp 6, .tmp 9, .tmp 11, .tmp 13]⟩,
 ⟨some 15, none, .rd (.ext 0) [.tmp 14]⟩,
 ⟨some 16, none, .rd (.ext 1) [.tmp 14]⟩,
 oM 4 15,
 oM 5 16] L6)
 (.ret)),
 [.tmp 4, .tmp 5]⟩

-- wagebook/prorate.piece
def L16 : List Nat := [0, 1, 2, 3, 4, 5, 6, 7, 8, 18, 27]
def c16 : CF := ⟨50,
 .seq (.region false [⟨some 2, none, .eff (.box (some 6)) [.tmp 0]⟩,
 ⟨some 3, none, .eff (.box (some 4)) [.tmp 1]⟩,
 ⟨some 4, none, .rd .mov [.pv (.int .i64 0)]⟩,
 ⟨some 5, none, .rd .mov [.pv (.int .i64 0)]⟩] L16)
 (.seq (.region false [oF 2 10 3,
 oL 11 10,
 oF 3 12 3,
 oL 13 12,
 ⟨some 14, none, .call (.pv (.fn 32 [] [])) [.tmp 11, .tmp 13, .pv (.int .i64 1)]⟩,
 oM 9 14,
 ⟨some 15, none, .rd (.ext 0) [.tmp 9]⟩,
 ⟨some 16, none, .rd (.ext 1) [.tmp 9]⟩,
 oM 6 15,
 oM 7 16] L16)
 (.seq (.seq (.region false [oM 17 7,
 ⟨some 18, none, .rd (.bin .neq) [.tmp 17, .pv (.int .i64 0)]⟩] L16)
 (.cond (.tmp 18)
 (.seq (.region false [oM 19 7,
 ⟨some 4, none, .rd .mov [.pv (.int .i64 0)]⟩,
 oM 5 19] L16)
 (.ret))
 (.skip)))
 (.seq (.region false [⟨some 21, none, .rd (.load (some 6)) [.tmp 2]⟩,
 oM 22 6,
 ⟨some 23, none, .call (.pv (.fn 6 [] [])) [.tmp 21, .tmp 22]⟩,
 oM 20 23,
 ⟨some 24, none, .rd (.ext 0) [.tmp 20]⟩,
 ⟨some 25, none, .rd (.ext 1) [.tmp 20]⟩,
 oM 8 24,
 oM 7 25] L16)
 (.seq (.seq (.region false [oM 26 7,
 ⟨some 27, none, .rd (.bin .neq) [.tmp 26, .pv (.int .i64 0)]⟩] L16)
 (.cond (.tmp 27)
 (.seq (.region false [oM 28 7,
 ⟨some 4, none, .rd .mov [.pv (.int .i64 0)]⟩,
 oM 5 28] L16)
 (.ret))
 (.skip)))
 (.seq (.region true [oM 29 8,
 oF 0 30 3,
 oF 0 31 30,
 oL 32 31,
 oF 3 33 2,
 oF 0 34 33,
 oL 35 34,
 ⟨some 36, none, .rd (.bin .sub) [.tmp 32, .tmp 35]⟩,
 oF 0 37 3,
 oF 1 38 37,
 oL 39 38,
 oF 3 40 2,
 oF 0 41 40,
 oL 42 41,
 ⟨some 43, none, .rd (.bin .sub) [.tmp 39, .tmp 42]⟩,
 oF 3 44 2,
 ⟨some 45, none, .rd (.load (some 2)) [.tmp 44]⟩,
 ⟨some 46, none, .call (.pv (.fn 12 [] [])) [.tmp 45]⟩,
 ⟨some 47, none, .call (.pv (.fn 18 [] [])) [.tmp 29, .tmp 36, .tmp 43, .tmp 46]⟩,
 ⟨some 48, none, .rd (.ext 0) [.tmp 47]⟩,
 ⟨some 49, none, .rd (.ext 1) [.tmp 47]⟩,
 oM 4 48,
 oM 5 49] L16)
 (.ret)))))),
 [.tmp 4, .tmp 5]⟩
theorem k12 : compileF Tryd.prog [] L12 Tryd.f12 = some c12 := by kernel_rfl
theorem k13 : compileF Tryd.prog [] L13 Tryd.f13 = some c13 := by kernel_rfl
theorem k14 : compileF Tryd.prog [] L14 Tryd.f14 = some c14 := by kernel_rfl
theorem k17 : compileF Tryd.prog [] L17 Tryd.f17 = some c17 := by kernel_rfl
theorem k18 : compileF Tryd.prog [] L18 Tryd.f18 = some c18 := by kernel_rfl
theorem k19 : compileF Tryd.prog [] L19 Tryd.f19 = some c19 := by kernel_rfl
theorem k22 : compileF Tryd.prog [] L22 Tryd.f22 = some c22 := by kernel_rfl
theorem k30 : compileF Tryd.prog [] L30 Tryd.f30 = some c30 := by kernel_rfl
theorem k32 : compileF Tryd.prog [] L32 Tryd.f32 = some c32 := by kernel_rfl
theorem k33 : compileF Tryd.prog [] L33 Tryd.f33 = some c33 := by kernel_rfl
theorem k34 : compileF Tryd.prog [] L34 Tryd.f34 = some c34 := by kernel_rfl
theorem k35 : compileF Tryd.prog [] L35 Tryd.f35 = some c35 := by kernel_rfl
theorem k45 : compileF Tryd.prog [] L45 Tryd.f45 = some c45 := by kernel_rfl
theorem k46 : compileF Tryd.prog [] L46 Tryd.f46 = some c46 := by kernel_rfl
theorem k47 : compileF Tryd.prog [] L47 Tryd.f47 = some c47 := by kernel_rfl
theorem k48 : compileF Tryd.prog [] L48 Tryd.f48 = some c48 := by kernel_rfl
theorem k49 : compileF Tryd.prog [] L49 Tryd.f49 = some c49 := by kernel_rfl
theorem k50 : compileF Tryd.prog [] L50 Tryd.f50 = some c50 := by kernel_rfl
theorem k51 : compileF Tryd.prog [] L51 Tryd.f51 = some c51 := by kernel_rfl
theorem k52 : compileF Tryd.prog [] L52 Tryd.f52 = some c52 := by kernel_rfl
theorem k69 : compileF Tryd.prog [] L69 Tryd.f69 = some c69 := by kernel_rfl
theorem k70 : compileF Tryd.prog [] L70 Tryd.f70 = some c70 := by kernel_rfl
theorem k71 : compileF Tryd.prog [] L71 Tryd.f71 = some c71 := by kernel_rfl
theorem k86 : compileF Tryd.prog [] L86 Tryd.f86 = some c86 := by kernel_rfl
theorem k87 : compileF Tryd.prog [] L87 Tryd.f87 = some c87 := by kernel_rfl
theorem k6 : compileF Tryd.prog [] L6 Tryd.f6 = some c6 := by kernel_rfl
theorem k16 : compileF Tryd.prog [] L16 Tryd.f16 = some c16 := by kernel_rfl
end Go.Proofs.YtedjaohonijemaaDoor

