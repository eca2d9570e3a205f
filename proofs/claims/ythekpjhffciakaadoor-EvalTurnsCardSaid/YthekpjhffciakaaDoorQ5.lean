import Derived.Test.YthekpjhffciakaaDoorProg
import Derived.KernelRfl
import Derived.Handy
import Derived.Test.YthekpjhffciakaaDoorP4
namespace Go.Proofs.YthekpjhffciakaaDoor
open PG Go.Proofs
-- wagebook/lex.All
def L44 : List Nat := [0, 2]
def c44 : CF := ⟨9,
 .seq (.region false [⟨some 2, none, .rd .mov [.pv (.bool false)]⟩] L44)
 (.seq (.region false [oM 3 0,
 ⟨some 4, none, .rd (.bin .geq) [.tmp 3, .pv (.int .u8 48)]⟩,
 oM 5 4,
 qM 5 true 6 0,
 ⟨some 7, some (5, true), .rd (.bin .leq) [.tmp 6, .pv (.int .u8 57)]⟩,
 ⟨some 8, none, .rd .pick [.tmp 5, .tmp 7, .pv (.bool false)]⟩,
 oM 2 8] L44)
 (.ret)),
 [.tmp 2]⟩

-- wagebook/lex.number
def L46 : List Nat := [0, 1, 2, 6, 7, 22]
def c46 : CF := ⟨26,
 .seq (.region false [⟨some 6, none, .rd .mov [.pv (.int .i64 0)]⟩] L46)
 (.seq (.region false [⟨some 7, none, .rd .mov [.pv (.int .i64 0)]⟩] L46)
 (.seq (.block 0
 (.loop
 (.seq (.seq (.region false [oM 8 1,
 oM 9 7,
 ⟨some 10, none, .rd (.bin .add) [.tmp 8, .tmp 9]⟩,
 oM 11 0,
 ⟨some 12, none, .rd .lenS [.tmp 11]⟩,
 ⟨some 13, none, .rd (.bin .lss) [.tmp 10, .tmp 12]⟩,
 oM 14 13,
 qM 14 true 15 2,
 qM 14 true 16 0,
 qM 14 true 17 1,
 qM 14 true 18 7,
 ⟨some 19, some (14, true), .rd (.bin .add) [.tmp 17, .tmp 18]⟩,
 ⟨some 20, some (14, true), .rd .idxS [.tmp 16, .tmp 19]⟩,
 ⟨some 21, some (14, true), .call (.tmp 15) [.tmp 20]⟩,
 ⟨some 22, none, .rd .pick [.tmp 14, .tmp 21, .pv (.bool false)]⟩] L46)
 (.cond (.tmp 22)
 (.skip)
 (.exit 0)))
 (.block 1
 (.region false [oM 23 7,
 ⟨some 24, none, .rd (.bin .add) [.tmp 23, .pv (.int .i64 1)]⟩,
 oM 7 24] L46)))))
 (.seq (.region false [oM 25 7,
 oM 6 25] L46)
 (.ret)))),
 [.tmp 6]⟩

-- wagebook/lex.NumberOf$1
def L74 : List Nat := [0, 2]
def c74 : CF := ⟨9,
 .seq (.region false [⟨some 2, none, .rd .mov [.pv (.bool false)]⟩] L74)
 (.seq (.region false [oM 3 0,
 ⟨some 4, none, .rd (.bin .geq) [.tmp 3, .pv (.int .u8 97)]⟩,
 oM 5 4,
 qM 5 true 6 0,
 ⟨some 7, some (5, true), .rd (.bin .leq) [.tmp 6, .pv (.int .u8 122)]⟩,
 ⟨some 8, none, .rd .pick [.tmp 5, .tmp 7, .pv (.bool false)]⟩,
 oM 2 8] L74)
 (.ret)),
 [.tmp 2]⟩

-- wagebook/lex.name
def L84 : List Nat := [0, 2]
def c84 : CF := ⟨21,
 .seq (.region false [⟨some 2, none, .rd .mov [.pv (.bool false)]⟩] L84)
 (.seq (.region false [oM 3 0,
 ⟨some 4, none, .call (.pv (.fn 74 [] [])) [.tmp 3]⟩,
 oM 5 4,
 qM 5 false 6 0,
 ⟨some 7, some (5, false), .call (.pv (.fn 44 [] [])) [.tmp 6]⟩,
 ⟨some 8, none, .rd .pick [.tmp 5, .pv (.bool true), .tmp 7]⟩,
 oM 9 8,
 qM 9 false 10 0,
 ⟨some 11, some (9, false), .rd (.bin .eql) [.tmp 10, .pv (.int .u8 46)]⟩,
 ⟨some 12, none, .rd .pick [.tmp 9, .pv (.bool true), .tmp 11]⟩,
 oM 13 12,
 qM 13 false 14 0,
 ⟨some 15, some (13, false), .rd (.bin .eql) [.tmp 14, .pv (.int .u8 95)]⟩,
 ⟨some 16, none, .rd .pick [.tmp 13, .pv (.bool true), .tmp 15]⟩,
 oM 17 16,
 qM 17 false 18 0,
 ⟨some 19, some (17, false), .rd (.bin .eql) [.tmp 18, .pv (.int .u8 58)]⟩,
 ⟨some 20, none, .rd .pick [.tmp 17, .pv (.bool true), .tmp 19]⟩,
 oM 2 20] L84)
 (.ret)),
 [.tmp 2]⟩

-- internal/stringslite.IndexByte
def L53 : List Nat := [0, 2]
def c53 : CF := ⟨22,
 .seq (.region false [⟨some 2, none, .rd .mov [.pv (.bool false)]⟩] L53)
 (.seq (.region false [oM 3 0,
 ⟨some 4, none, .rd (.bin .neq) [.tmp 3, .pv (.str [])]⟩,
 oM 5 4,
 qM 5 true 6 0,
 ⟨some 7, some (5, true), .rd .lenS [.tmp 6]⟩,
 ⟨some 8, some (5, true), .rd (.bin .leq) [.tmp 7, .pv (.int .i64 32)]⟩,
 ⟨some 9, none, .rd .pick [.tmp 5, .tmp 8, .pv (.bool false)]⟩,
 oM 10 9,
 qM 10 true 11 0,
 ⟨some 12, some (10, true), .rd .idxS [.tmp 11, .pv (.int .i64 0)]⟩,
 ⟨some 13, some (10, true), .call (.pv (.fn 74 [] [])) [.tmp 12]⟩,
 ⟨some 14, none, .rd .pick [.tmp 10, .tmp 13, .pv (.bool false)]⟩,
 oM 15 14,
 qM 15 true 16 0,
 ⟨some 17, some (15, true), .call (.pv (.fn 46 [] [])) [.tmp 16, .pv (.int .i64 0), .pv (.fn 84 [] [])]⟩,
 qM 15 true 18 0,
 ⟨some 19, some (15, true), .rd .lenS [.tmp 18]⟩,
 ⟨some 20, some (15, true), .rd (.bin .eql) [.tmp 17, .tmp 19]⟩,
 ⟨some 21, none, .rd .pick [.tmp 15, .tmp 20, .pv (.bool false)]⟩,
 oM 2 21] L53)
 (.ret)),
 [.tmp 2]⟩

-- (wagebook/expr.Node).check
def L60 : List Nat := [0, 1, 2, 3, 4, 5, 6, 15, 24, 52]
def c60 : CF := ⟨72,
 .seq (.region false [⟨some 1, none, .eff (.box (some 4)) [.tmp 0]⟩,
 ⟨some 2, none, .rd .mov [.pv (.int .i64 0)]⟩,
 ⟨some 3, none, .rd .mov [.pv (.int .i64 0)]⟩] L60)
 (.seq (.region false [⟨some 4, none, .rd .mov [.pv (.int .i64 0)]⟩,
 ⟨some 5, none, .rd .mov [.pv (.int .i64 0)]⟩] L60)
 (.seq (.block 0
 (.seq (.region false [oF 0 7 1,
 oL 8 7,
 ⟨some 9, none, .rd (.bin .lss) [.tmp 8, .pv (.int .i64 0)]⟩,
 oM 10 9,
 qF 0 10 false 11 1,
 qL 10 false 12 11,
 ⟨some 13, some (10, false), .rd (.bin .gtr) [.tmp 12, .pv (.int .i64 9)]⟩,
 ⟨some 14, none, .rd .pick [.tmp 10, .pv (.bool true), .tmp 13]⟩,
 oM 6 14] L60)
 (.cond (.tmp 6)
 (.seq (.region false [⟨some 2, none, .rd .mov [.pv (.int .i64 11)]⟩,
 ⟨some 3, none, .rd .mov [.pv (.int .i64 0)]⟩] L60)
 (.ret))
 (.seq (.region true [oF 3 16 1,
 oL 17 16,
 ⟨some 18, none, .rd .lenL [.tmp 17]⟩,
 oF 0 19 1,
 oL 20 19,
 ⟨some 21, none, .rd (.idxAddrA 10 none) [.glob 1, .tmp 20]⟩,
 oL 22 21,
 ⟨some 23, none, .rd (.bin .neq) [.tmp 18, .tmp 22]⟩,
 oM 15 23] L60)
 (.cond (.tmp 15)
 (.region false [⟨some 4, none, .rd .mov [.pv (.int .i64 3)]⟩] L60)
 (.skip))))))
 (.seq (.block 1
 (.seq (.seq (.region false [oF 0 25 1,
 oL 26 25,
 ⟨some 27, none, .rd (.bin .eql) [.tmp 26, .pv (.int .i64 0)]⟩,
 oM 28 27,
 qF 1 28 true 29 1,
 qL 28 true 30 29,
 ⟨some 31, some (28, true), .rd (.bin .lss) [.tmp 30, .pv (.int .i64 0)]⟩,
 qM 28 true 32 31,
 qF 1 32 false 33 1,
 qL 32 false 34 33,
 ⟨some 35, some (32, false), .rd (.bin .gtr) [.tmp 34, .pv (.int .i64 1000000000000000000)]⟩,
 ⟨some 36, some (28, true), .rd .pick [.tmp 32, .pv (.bool true), .tmp 35]⟩,
 qM 28 true 37 36,
 qF 1 37 false 38 1,
 qL 37 false 39 38,
 ⟨some 40, some (37, false), .rd (.bin .rem) [.tmp 39, .pv (.int .i64 100)]⟩,
 ⟨some 41, some (37, false), .rd (.bin .neq) [.tmp 40, .pv (.int .i64 0)]⟩,
 ⟨some 42, some (28, true), .rd .pick [.tmp 37, .pv (.bool true), .tmp 41]⟩,
 ⟨some 43, none, .rd .pick [.tmp 28, .tmp 42, .pv (.bool false)]⟩,
 oM 24 43] L60)
 (.cond (.tmp 24)
 (.skip)
 (.region false [oF 0 44 1,
 oL 45 44,
 ⟨some 46, none, .rd (.bin .neq) [.tmp 45, .pv (.int .i64 0)]⟩,
 oM 47 46,
 qF 1 47 true 48 1,
 qL 47 true 49 48,
 ⟨some 50, some (47, true), .rd (.bin .neq) [.tmp 49, .pv (.int .i64 0)]⟩,
 ⟨some 51, none, .rd .pick [.tmp 47, .tmp 50, .pv (.bool false)]⟩,
 oM 24 51] L60)))
 (.cond (.tmp 24)
 (.region false [⟨some 5, none, .rd .mov [.pv (.int .i64 2)]⟩] L60)
 (.seq (.seq (.region false [oF 0 53 1,
 oL 54 53,
 ⟨some 55, none, .rd (.bin .eql) [.tmp 54, .pv (.int .i64 1)]⟩,
 oM 56 55,
 qF 2 56 true 57 1,
 qL 56 true 58 57,
 ⟨some 59, some (56, true), .call (.pv (.fn 53 [] [])) [.tmp 58]⟩,
 ⟨some 60, some (56, true), .rd (.un .not) [.tmp 59]⟩,
 ⟨some 61, none, .rd .pick [.tmp 56, .tmp 60, .pv (.bool false)]⟩,
 oM 52 61] L60)
 (.cond (.tmp 52)
 (.skip)
 (.region false [oF 0 62 1,
 oL 63 62,
 ⟨some 64, none, .rd (.bin .neq) [.tmp 63, .pv (.int .i64 1)]⟩,
 oM 65 64,
 qF 2 65 true 66 1,
 qL 65 true 67 66,
 ⟨some 68, some (65, true), .rd (.bin .neq) [.tmp 67, .pv (.str [])]⟩,
 ⟨some 69, none, .rd .pick [.tmp 65, .tmp 68, .pv (.bool false)]⟩,
 oM 52 69] L60)))
 (.cond (.tmp 52)
 (.region false [⟨some 5, none, .rd .mov [.pv (.int .i64 12)]⟩] L60)
 (.skip))))))
 (.seq (.region false [oM 70 4,
 oM 71 5,
 oM 2 70,
 oM 3 71] L60)
 (.ret))))),
 [.tmp 2, .tmp 3]⟩

-- slices.Contains[[]bool,bool]
def L61 : List Nat := [0, 1, 4]
def c61 : CF := ⟨9,
 .seq (.region false [⟨some 4, none, .rd .mov [.pv (.bool false)]⟩] L61)
 (.seq (.region false [oM 5 0,
 oM 6 1,
 ⟨some 7, none, .call (.pv (.fn 89 [] [])) [.tmp 5, .tmp 6]⟩,
 ⟨some 8, none, .rd (.bin .geq) [.tmp 7, .pv (.int .i64 0)]⟩,
 oM 4 8] L61)
 (.ret)),
 [.tmp 4]⟩

-- slices.Index[[]bool,bool]
def L89 : List Nat := [0, 1, 4, 5, 7, 8, 9, 16]
def c89 : CF := ⟨19,
 .seq (.region false [⟨some 4, none, .rd .mov [.pv (.int .i64 0)]⟩] L89)
 (.seq (.seq (.region false [oM 6 0,
 ⟨some 7, none, .rd .lenL [.tmp 6]⟩,
 ⟨some 8, none, .rd .mov [.pv (.int .i64 0)]⟩] L89)
 (.block 0
 (.loop
 (.seq (.region false [⟨some 9, none, .rd (.bin .lss) [.tmp 8, .tmp 7]⟩] L89)
 (.seq (.cond (.tmp 9)
 (.skip)
 (.exit 0))
 (.seq (.block 1
 (.seq (.region false [oM 10 8,
 oM 5 10] L89)
 (.seq (.region false [oM 11 1,
 oM 12 0,
 oM 13 5,
 ⟨some 14, none, .rd (.idxAddr none) [.tmp 12, .tmp 13]⟩,
 oL 15 14,
 ⟨some 16, none, .rd (.eqB false) [.tmp 11, .tmp 15]⟩] L89)
 (.cond (.tmp 16)
 (.seq (.region false [oM 17 5,
 oM 4 17] L89)
 (.ret))
 (.skip)))))
 (.region false [⟨some 18, none, .rd (.bin .add) [.tmp 8, .pv (.int .i64 1)]⟩,
 oM 8 18] L89)))))))
 (.seq (.region false [⟨some 4, none, .rd .mov [.pv (.int .i64 (-1))]⟩] L89)
 (.ret))),
 [.tmp 4]⟩

-- (wagebook/expr.Tree).depth
def L42 : List Nat := [0, 1, 2, 3, 4, 5, 7, 13, 14, 15, 16, 21, 22, 23, 24]
def c42 : CF := ⟨53,
 .seq (.region false [⟨some 1, none, .eff (.box (some 1)) [.tmp 0]⟩,
 ⟨some 2, none, .rd .mov [.pv (.int .i64 0)]⟩] L42)
 (.seq (.region false [oF 0 8 1,
 oL 9 8,
 ⟨some 10, none, .rd .lenL [.tmp 9]⟩,
 ⟨some 11, none, .eff (.make none (.int .i64 0) 8) [.tmp 10, .tmp 10]⟩,
 oM 3 11] L42)
 (.seq (.seq (.region false [oF 0 12 1,
 oL 13 12,
 ⟨some 14, none, .rd .lenL [.tmp 13]⟩,
 ⟨some 15, none, .rd .mov [.pv (.int .i64 0)]⟩] L42)
 (.block 0
 (.loop
 (.seq (.region false [⟨some 16, none, .rd (.bin .lss) [.tmp 15, .tmp 14]⟩] L42)
 (.seq (.cond (.tmp 16)
 (.skip)
 (.exit 0))
 (.seq (.block 1
 (.seq (.region false [oM 17 15,
 ⟨some 18, none, .rd (.idxAddr (some 4)) [.tmp 13, .tmp 15]⟩,
 ⟨some 19, none, .rd (.load (some 4)) [.tmp 18]⟩,
 ⟨some 5, none, .eff (.alloc (some 4) (.agg [(.int .i64 0), (.int .i64 0), (.str []), .nilSl])) []⟩,
 oM 4 17,
 ⟨none, none, .eff (.store (some 4)) [.tmp 5, .tmp 19]⟩] L42)
 (.seq (.seq (.region false [oF 3 20 5,
 oL 21 20,
 ⟨some 22, none, .rd .lenL [.tmp 21]⟩,
 ⟨some 23, none, .rd .mov [.pv (.int .i64 0)]⟩] L42)
 (.block 2
 (.loop
 (.seq (.region false [⟨some 24, none, .rd (.bin .lss) [.tmp 23, .tmp 22]⟩] L42)
 (.seq (.cond (.tmp 24)
 (.skip)
 (.exit 2))
 (.seq (.block 3
 (.seq (.region false [⟨some 25, none, .rd (.idxAddr none) [.tmp 21, .tmp 23]⟩,
 oL 26 25,
 oM 7 26] L42)
 (.regionA (.alt [oM 27 3,
 oM 28 4,
 oM 29 3,
 oM 30 4,
 ⟨some 31, none, .rd (.idxAddr none) [.tmp 29, .tmp 30]⟩,
 oM 33 3,
 oM 34 7,
 ⟨some 35, none, .rd (.idxAddr none) [.tmp 33, .tmp 34]⟩]
 (.alt [oL 32 31,
 oL 36 35,
 ⟨some 37, none, .rd .max [.tmp 32, .tmp 36]⟩,
 ⟨some 38, none, .rd (.idxAddr none) [.tmp 27, .tmp 28]⟩,
 ⟨none, none, .eff (.store none) [.tmp 38, .tmp 37]⟩]
 .done
 (.alt [oL 36 35,
 oL 32 31,
 ⟨some 37, none, .rd .max [.tmp 32, .tmp 36]⟩,
 ⟨some 38, none, .rd (.idxAddr none) [.tmp 27, .tmp 28]⟩,
 ⟨none, none, .eff (.store none) [.tmp 38, .tmp 37]⟩]
 .done
 .stop))
 .stop) L42)))
 (.region false [⟨some 39, none, .rd (.bin .add) [.tmp 23, .pv (.int .i64 1)]⟩,
 oM 23 39] L42)))))))
 (.region false [oM 40 3,
 oM 41 4,
 ⟨some 42, none, .rd (.idxAddr none) [.tmp 40, .tmp 41]⟩,
 oL 43 42,
 ⟨some 44, none, .rd (.bin .add) [.tmp 43, .pv (.int .i64 1)]⟩,
 ⟨some 45, none, .rd (.idxAddr none) [.tmp 40, .tmp 41]⟩,
 ⟨none, none, .eff (.store none) [.tmp 45, .tmp 44]⟩] L42))))
 (.region false [⟨some 46, none, .rd (.bin .add) [.tmp 15, .pv (.int .i64 1)]⟩,
 oM 15 46] L42)))))))
 (.seq (.region false [oM 47 3,
 oM 48 3,
 ⟨some 49, none, .rd .lenL [.tmp 48]⟩,
 ⟨some 50, none, .rd (.bin .sub) [.tmp 49, .pv (.int .i64 1)]⟩,
 ⟨some 51, none, .rd (.idxAddr none) [.tmp 47, .tmp 50]⟩,
 oL 52 51,
 oM 2 52] L42)
 (.ret)))),
 [.tmp 2]⟩

-- (wagebook/expr.Tree).Check
def L29 : List Nat := [0, 1, 2, 3, 4, 5, 6, 7, 9, 10, 15, 25, 26, 27, 28, 38, 41, 42, 43, 44, 59, 65, 73, 76]
def c29 : CF := ⟨77,
 .seq (.region false [⟨some 1, none, .eff (.box (some 1)) [.tmp 0]⟩,
 ⟨some 2, none, .rd .mov [.pv (.int .i64 0)]⟩] L29)
 (.seq (.block 0
 (.seq (.region false [oF 0 11 1,
 oL 12 11,
 ⟨some 13, none, .rd .lenL [.tmp 12]⟩,
 ⟨some 14, none, .rd (.bin .eql) [.tmp 13, .pv (.int .i64 0)]⟩,
 oM 10 14] L29)
 (.cond (.tmp 10)
 (.seq (.region false [⟨some 2, none, .rd .mov [.pv (.int .i64 10)]⟩] L29)
 (.ret))
 (.seq (.region false [oF 0 16 1,
 oL 17 16,
 ⟨some 18, none, .rd .lenL [.tmp 17]⟩,
 ⟨some 19, none, .rd (.bin .gtr) [.tmp 18, .pv (.int .i64 256)]⟩,
 oM 15 19] L29)
 (.cond (.tmp 15)
 (.seq (.region false [⟨some 2, none, .rd .mov [.pv (.int .i64 5)]⟩] L29)
 (.ret))
 (.skip))))))
 (.seq (.region false [oF 0 20 1,
 oL 21 20,
 ⟨some 22, none, .rd .lenL [.tmp 21]⟩,
 ⟨some 23, none, .eff (.make none (.bool false) 1) [.tmp 22, .tmp 22]⟩,
 oM 3 23] L29)
 (.seq (.seq (.region false [oF 0 24 1,
 oL 25 24,
 ⟨some 26, none, .rd .lenL [.tmp 25]⟩,
 ⟨some 27, none, .rd .mov [.pv (.int .i64 0)]⟩] L29)
 (.block 1
 (.loop
 (.seq (.region false [⟨some 28, none, .rd (.bin .lss) [.tmp 27, .tmp 26]⟩] L29)
 (.seq (.cond (.tmp 28)
 (.skip)
 (.exit 1))
 (.seq (.block 2
 (.seq (.region false [oM 29 27,
 ⟨some 30, none, .rd (.idxAddr (some 4)) [.tmp 25, .tmp 27]⟩,
 ⟨some 31, none, .rd (.load (some 4)) [.tmp 30]⟩,
 ⟨some 5, none, .eff (.alloc (some 4) (.agg [(.int .i64 0), (.int .i64 0), (.str []), .nilSl])) []⟩,
 oM 4 29,
 ⟨none, none, .eff (.store (some 4)) [.tmp 5, .tmp 31]⟩] L29)
 (.seq (.region false [⟨some 33, none, .rd (.load (some 4)) [.tmp 5]⟩,
 ⟨some 34, none, .call (.pv (.fn 60 [] [])) [.tmp 33]⟩,
 oM 32 34,
 ⟨some 35, none, .rd (.ext 0) [.tmp 32]⟩,
 ⟨some 36, none, .rd (.ext 1) [.tmp 32]⟩,
 oM 6 35,
 oM 7 36] L29)
 (.seq (.seq (.region false [oM 37 6,
 ⟨some 38, none, .rd (.bin .neq) [.tmp 37, .pv (.int .i64 0)]⟩] L29)
 (.cond (.tmp 38)
 (.seq (.region false [oM 39 6,
 oM 2 39] L29)
 (.ret))
 (.skip)))
 (.seq (.seq (.region false [oF 3 40 5,
 oL 41 40,
 ⟨some 42, none, .rd .lenL [.tmp 41]⟩,
 ⟨some 43, none, .rd .mov [.pv (.int .i64 0)]⟩] L29)
 (.block 3
 (.loop
 (.seq (.region false [⟨some 44, none, .rd (.bin .lss) [.tmp 43, .tmp 42]⟩] L29)
 (.seq (.cond (.tmp 44)
 (.skip)
 (.exit 3))
 (.seq (.block 4
 (.seq (.region false [⟨some 45, none, .rd (.idxAddr none) [.tmp 41, .tmp 43]⟩,
 oL 46 45,
 oM 9 46] L29)
 (.seq (.seq (.region false [oM 47 9,
 ⟨some 48, none, .rd (.bin .lss) [.tmp 47, .pv (.int .i64 0)]⟩,
 oM 49 48,
 qM 49 false 50 9,
 qM 49 false 51 4,
 ⟨some 52, some (49, false), .rd (.bin .geq) [.tmp 50, .tmp 51]⟩,
 ⟨some 53, none, .rd .pick [.tmp 49, .pv (.bool true), .tmp 52]⟩,
 oM 54 53,
 qM 54 false 55 3,
 qM 54 false 56 9,
 ⟨some 57, some (54, false), .rd (.idxAddr none) [.tmp 55, .tmp 56]⟩,
 qL 54 false 58 57,
 ⟨some 59, none, .rd .pick [.tmp 54, .pv (.bool true), .tmp 58]⟩] L29)
 (.cond (.tmp 59)
 (.seq (.region false [⟨some 2, none, .rd .mov [.pv (.int .i64 8)]⟩] L29)
 (.ret))
 (.skip)))
 (.region false [oM 60 3,
 oM 61 9,
 ⟨some 62, none, .rd (.idxAddr none) [.tmp 60, .tmp 61]⟩,
 ⟨none, none, .eff (.store none) [.tmp 62, .pv (.bool true)]⟩] L29))))
 (.region false [⟨some 63, none, .rd (.bin .add) [.tmp 43, .pv (.int .i64 1)]⟩,
 oM 43 63] L29)))))))
 (.seq (.region false [oM 64 7,
 ⟨some 65, none, .rd (.bin .neq) [.tmp 64, .pv (.int .i64 0)]⟩] L29)
 (.cond (.tmp 65)
 (.seq (.region false [oM 66 7,
 oM 2 66] L29)
 (.ret))
 (.skip))))))))
 (.region false [⟨some 67, none, .rd (.bin .add) [.tmp 27, .pv (.int .i64 1)]⟩,
 oM 27 67] L29)))))))
 (.seq (.seq (.region false [oM 68 3,
 oM 69 3,
 ⟨some 70, none, .rd .lenL [.tmp 69]⟩,
 ⟨some 71, none, .rd (.bin .sub) [.tmp 70, .pv (.int .i64 1)]⟩,
 ⟨some 72, none, .rd (.slc none false true false) [.tmp 68, .tmp 71]⟩,
 ⟨some 73, none, .call (.pv (.fn 61 [] [])) [.tmp 72, .pv (.bool false)]⟩] L29)
 (.cond (.tmp 73)
 (.seq (.region false [⟨some 2, none, .rd .mov [.pv (.int .i64 3)]⟩] L29)
 (.ret))
 (.skip)))
 (.seq (.seq (.region false [⟨some 74, none, .rd (.load (some 1)) [.tmp 1]⟩,
 ⟨some 75, none, .call (.pv (.fn 42 [] [])) [.tmp 74]⟩,
 ⟨some 76, none, .rd (.bin .gtr) [.tmp 75, .pv (.int .i64 16)]⟩] L29)
 (.cond (.tmp 76)
 (.seq (.region false [⟨some 2, none, .rd .mov [.pv (.int .i64 14)]⟩] L29)
 (.ret))
 (.skip)))
 (.seq (.region false [⟨some 2, none, .rd .mov [.pv (.int .i64 0)]⟩] L29)
 (.ret))))))),
 [.tmp 2]⟩
theorem k44 : compileF Tryd.prog [] L44 Tryd.f44 = some c44 := by kernel_rfl
theorem k46 : compileF Tryd.prog [] L46 Tryd.f46 = some c46 := by kernel_rfl
theorem k74 : compileF Tryd.prog [] L74 Tryd.f74 = some c74 := by kernel_rfl
theorem k84 : compileF Tryd.prog [] L84 Tryd.f84 = some c84 := by kernel_rfl
theorem k53 : compileF Tryd.prog [] L53 Tryd.f53 = some c53 := by kernel_rfl
theorem k60 : compileF Tryd.prog [] L60 Tryd.f60 = some c60 := by kernel_rfl
theorem k61 : compileF Tryd.prog [] L61 Tryd.f61 = some c61 := by kernel_rfl
theorem k89 : compileF Tryd.prog [] L89 Tryd.f89 = some c89 := by kernel_rfl
theorem k42 : compileF Tryd.prog [] L42 Tryd.f42 = some c42 := by kernel_rfl
theorem k29 : compileF Tryd.prog [] L29 Tryd.f29 = some c29 := by kernel_rfl
end Go.Proofs.YthekpjhffciakaaDoor

namespace Go.Proofs.YthekpjhffciakaaDoor
open Go PG Go.Proofs
set_option linter.unusedSimpArgs false
set_option linter.unusedVariables false
set_option maxHeartbeats 1000000
set_option maxRecDepth 100000
theorem mix : Tryd.prog.follows .mixedOrders = true := by kernel_rfl
variable {G : Globs}
def digitB (b : UInt8) : Bool := decide (48 ≤ (b.toNat : Int)) && decide ((b.toNat : Int) ≤ 57)
def letterB (b : UInt8) : Bool := decide (97 ≤ (b.toNat : Int)) && decide ((b.toNat : Int) ≤ 122)
def innerB (b : UInt8) : Bool := letterB b || digitB b || decide ((b.toNat : Int) = 46) || decide ((b.toNat : Int) = 95) || decide ((b.toNat : Int) = 58)
theorem e44 : Ent Tryd.prog 44 := ⟨Tryd.f44, Tryd.func44, by kernel_rfl, by kernel_rfl⟩
theorem e74 : Ent Tryd.prog 74 := ⟨Tryd.f74, Tryd.func74, by kernel_rfl, by kernel_rfl⟩
theorem e84 : Ent Tryd.prog 84 := ⟨Tryd.f84, Tryd.func84, by kernel_rfl, by kernel_rfl⟩
theorem e46 : Ent Tryd.prog 46 := ⟨Tryd.f46, Tryd.func46, by kernel_rfl, by kernel_rfl⟩
theorem e53 : Ent Tryd.prog 53 := ⟨Tryd.f53, Tryd.func53, by kernel_rfl, by kernel_rfl⟩
theorem v44 (b : UInt8) : VCalls Tryd.prog G 44 [.int .u8 b.toNat] (.bool (digitB b)) := by
  refine VCalls.of_PW Tryd.func44 k44 mix (by simp [c44]) ?_
  simp only [c44, L44, CC, argE]
  repeat' (first | refine PW.seq ?_ | refine PW.block ?_ | refine PW.regionA ?_ | exact schedW_stop_i | ((first | refine PW.region ?_ | refine PW.regionQ ?_ | refine PW.exit ?_ | refine PW.ret ?_ | refine PW.skip ?_ | refine schedW_alt_i ?_ ?_ | refine schedW_done_i ?_); focus (simp only [SA, Nat.reduceAdd, reduceIte, Nat.reduceEqDiff, Nat.reduceBEq, reduceCtorEq]; (try go_unwrap; try simp only [RR, reduceCtorEq]))) | (refine PW.cond rfl ?_ ?_ <;> intro hcond <;> (try contradiction) <;> try simp only [DD] at hcond) | refine And.intro ?_ ?_ | exact Or.inr ⟨rfl, Nat.le_refl _⟩ | exact (fun h => Bool.noConfusion h) | omega | (simp only [DD, LL] <;> omega) | (go_unwrap; omega))
  simp [digitB]
theorem v74 (b : UInt8) : VCalls Tryd.prog G 74 [.int .u8 b.toNat] (.bool (letterB b)) := by
  refine VCalls.of_PW Tryd.func74 k74 mix (by simp [c74]) ?_
  simp only [c74, L74, CC, argE]
  repeat' (first | refine PW.seq ?_ | refine PW.block ?_ | refine PW.regionA ?_ | exact schedW_stop_i | ((first | refine PW.region ?_ | refine PW.regionQ ?_ | refine PW.exit ?_ | refine PW.ret ?_ | refine PW.skip ?_ | refine schedW_alt_i ?_ ?_ | refine schedW_done_i ?_); focus (simp only [SA, Nat.reduceAdd, reduceIte, Nat.reduceEqDiff, Nat.reduceBEq, reduceCtorEq]; (try go_unwrap; try simp only [RR, reduceCtorEq]))) | (refine PW.cond rfl ?_ ?_ <;> intro hcond <;> (try contradiction) <;> try simp only [DD] at hcond) | refine And.intro ?_ ?_ | exact Or.inr ⟨rfl, Nat.le_refl _⟩ | exact (fun h => Bool.noConfusion h) | omega | (simp only [DD, LL] <;> omega) | (go_unwrap; omega))
  simp [letterB]
theorem v84 (b : UInt8) : VCalls Tryd.prog G 84 [.int .u8 b.toNat] (.bool (innerB b)) := by
  refine VCalls.of_PW Tryd.func84 k84 mix (by simp [c84]) ?_
  simp only [c84, L84, CC, argE]
  repeat' (first | refine PW.seq ?_ | refine PW.block ?_ | refine PW.regionA ?_ | exact schedW_stop_i | ((first | refine PW.region ?_ | refine PW.regionQ ?_ | refine PW.exit ?_ | refine PW.ret ?_ | refine PW.skip ?_ | refine schedW_alt_i ?_ ?_ | refine schedW_done_i ?_); focus (simp only [SA, Nat.reduceAdd, reduceIte, Nat.reduceEqDiff, Nat.reduceBEq, reduceCtorEq]; (try go_unwrap; try simp only [RR, reduceCtorEq]))) | (refine PW.cond rfl ?_ ?_ <;> intro hcond <;> (try contradiction) <;> try simp only [DD] at hcond) | (apply goCallG_V e44; (case hV => (intro hg; simp only [hg, SA, Nat.reduceAdd, reduceIte, Nat.reduceEqDiff, Nat.reduceBEq, reduceCtorEq]; (try go_unwrap; try simp only [RR, reduceCtorEq]); exact v44 _)); (case hok => (intro hg; first | (simp only [hg, SA, Nat.reduceAdd, reduceIte, Nat.reduceEqDiff, Nat.reduceBEq, reduceCtorEq]; done) | (simp_all [okAll, PV.okUnder]; done))); (case hs => (intro hg; simp only [hg, SA, Nat.reduceAdd, reduceIte, Nat.reduceEqDiff, Nat.reduceBEq, reduceCtorEq])); (case hf => first | rfl | simp only [SA, Nat.reduceAdd, reduceIte, Nat.reduceEqDiff, Nat.reduceBEq, reduceCtorEq]); (simp only [SA, Nat.reduceAdd, reduceIte, Nat.reduceEqDiff, Nat.reduceBEq, reduceCtorEq]; (try go_unwrap; try simp only [RR, reduceCtorEq]))) | (apply goCall_V e74; (case hV => (simp only [SA, Nat.reduceAdd, reduceIte, Nat.reduceEqDiff, Nat.reduceBEq, reduceCtorEq]; (try go_unwrap; try simp only [RR, reduceCtorEq]); exact v74 _)); (try (case hs => rfl)); (try (case hf => first | exact Or.inl rfl | exact Or.inr ⟨rfl, rfl⟩ | (refine Or.inl ?_; simp only [SA, Nat.reduceAdd, reduceIte, Nat.reduceEqDiff, Nat.reduceBEq, reduceCtorEq]; done) | (refine Or.inr ⟨rfl, ?_⟩; simp only [SA, Nat.reduceAdd, reduceIte, Nat.reduceEqDiff, Nat.reduceBEq, reduceCtorEq]; done))); all_goals (simp only [SA, Nat.reduceAdd, reduceIte, Nat.reduceEqDiff, Nat.reduceBEq, reduceCtorEq]; (try go_unwrap; try simp only [RR, reduceCtorEq]))) | refine And.intro ?_ ?_ | exact Or.inr ⟨rfl, Nat.le_refl _⟩ | exact (fun h => Bool.noConfusion h) | omega | (simp only [DD, LL] <;> omega) | (go_unwrap; omega))
  simp [innerB]
/-- how many bytes from the front satisfy p -/
def runL (p : UInt8 → Bool) : List UInt8 → Nat
  | [] => 0
  | b :: l => if p b then runL p l + 1 else 0
theorem runL_step {p : UInt8 → Bool} {s : List UInt8} {i : Nat} (h : i < s.length) (hp : p (s.getD i 0) = true) : runL p (s.drop i) = runL p (s.drop (i + 1)) + 1 := by
  rw [List.drop_eq_getElem_cons h]
  have e : s.getD i 0 = s[i] := by simp [List.getD, h]
  rw [e] at hp
  simp [runL, hp]
theorem runL_stop {p : UInt8 → Bool} {s : List UInt8} {i : Nat} (h : i < s.length → p (s.getD i 0) = false) : runL p (s.drop i) = 0 := by
  rcases Nat.lt_or_ge i s.length with hi | hi
  · have hp := h hi
    rw [List.drop_eq_getElem_cons hi]
    have e : s.getD i 0 = s[i] := by simp [List.getD, hi]
    rw [e] at hp
    simp [runL, hp]
  · rw [List.drop_eq_nil_of_le hi]; rfl
theorem v46 (s : List UInt8) (at_ k : Nat) (p : UInt8 → Bool) (hs : s.length ≤ 9223372036854775806) (hat : at_ ≤ s.length) (hE : Ent Tryd.prog k)
    (hp : ∀ b : UInt8, VCalls Tryd.prog G k [.int .u8 b.toNat] (.bool (p b))) : VCalls Tryd.prog G 46 [.str s, .int .i64 at_, .fn k [] []] (.int .i64 (runL p (s.drop at_))) := by
  refine VCalls.of_PW Tryd.func46 k46 mix (by simp [c46]) ?_
  simp only [c46, L46, CC, argE]
  repeat' (first | refine PW.seq ?_ | refine PW.block ?_ | refine PW.regionA ?_ | exact schedW_stop_i | ((first | refine PW.region ?_ | refine PW.regionQ ?_ | refine PW.exit ?_ | refine PW.ret ?_ | refine PW.skip ?_ | refine schedW_alt_i ?_ ?_ | refine schedW_done_i ?_); focus (simp only [SA, Nat.reduceAdd, reduceIte, Nat.reduceEqDiff, Nat.reduceBEq, reduceCtorEq]; (try go_unwrap; try simp only [RR, reduceCtorEq]))) | (refine PW.cond rfl ?_ ?_ <;> intro hcond <;> (try contradiction) <;> try simp only [DD] at hcond) | refine And.intro ?_ ?_ | exact Or.inr ⟨rfl, Nat.le_refl _⟩ | exact (fun h => Bool.noConfusion h) | omega | (simp only [DD, LL] <;> omega) | (go_unwrap; omega))
  refine PW.loop (σ := Nat) [0, 1, 2, 7] (fun j => [.str s, .int .i64 at_, .fn k [] [], .int .i64 j]) (fun _ => []) (fun j => at_ + j ≤ s.length ∧ runL p (s.drop at_) = j + runL p (s.drop (at_ + j))) (fun j => s.length - j) 0 ?_ rfl ⟨by omega, by simp⟩ ?_
  · simp only [SA, Nat.reduceAdd, reduceIte, Nat.reduceEqDiff, Nat.reduceBEq, reduceCtorEq]; rfl
  rintro j ⟨hj, hr⟩
  simp only [List.zip_cons_cons, List.zip_nil_left]
  repeat' (first | refine PW.seq ?_ | refine PW.block ?_ | refine PW.regionA ?_ | exact schedW_stop_i | ((first | refine PW.region ?_ | refine PW.regionQ ?_ | refine PW.exit ?_ | refine PW.ret ?_ | refine PW.skip ?_ | refine schedW_alt_i ?_ ?_ | refine schedW_done_i ?_); focus (simp only [SA, Nat.reduceAdd, reduceIte, Nat.reduceEqDiff, Nat.reduceBEq, reduceCtorEq]; (try go_unwrap; try simp only [RR, reduceCtorEq]))) | (refine PW.cond rfl ?_ ?_ <;> intro hcond <;> (try contradiction) <;> try simp only [DD] at hcond) | (apply goCallG_Vc hE (fun h => h); (case hV => (intro hg; simp only [hg, SA, Nat.reduceAdd, reduceIte, Nat.reduceEqDiff, Nat.reduceBEq, reduceCtorEq]; (try go_unwrap; try simp only [RR, reduceCtorEq]); exact hp _)); (case hok => (intro hg; first | (simp only [hg, SA, Nat.reduceAdd, reduceIte, Nat.reduceEqDiff, Nat.reduceBEq, reduceCtorEq]; done) | (simp_all [okAll, PV.okUnder]; done))); (case hs => (intro hg; simp only [hg, SA, Nat.reduceAdd, reduceIte, Nat.reduceEqDiff, Nat.reduceBEq, reduceCtorEq])); (case hf => first | rfl | simp only [SA, Nat.reduceAdd, reduceIte, Nat.reduceEqDiff, Nat.reduceBEq, reduceCtorEq]); (simp only [SA, Nat.reduceAdd, reduceIte, Nat.reduceEqDiff, Nat.reduceBEq, reduceCtorEq]; (try go_unwrap; try simp only [RR, reduceCtorEq]))) | refine And.intro ?_ ?_ | exact Or.inr ⟨rfl, Nat.le_refl _⟩ | exact (fun h => Bool.noConfusion h) | omega | (simp only [DD, LL] <;> omega) | (go_unwrap; omega))
  · rcases Nat.lt_or_ge (at_ + j) s.length with h | h
    · have hd : decide ((at_ : Int) + j < s.length) = true := by simp only [decide_eq_true_eq]; omega
      rw [hd] at hcond
      have hs1 := runL_step (p := p) h hcond
      refine ⟨j + 1, ?_, ⟨by omega, by rw [hr, hs1, Nat.add_assoc]; omega⟩, by omega⟩
      rfl
    · have hd : decide ((at_ : Int) + j < s.length) = false := by simp only [decide_eq_false_iff_not]; omega
      rw [hd] at hcond; cases hcond
  · rw [hr, runL_stop, Nat.add_zero]
    intro h
    have hd : decide ((at_ : Int) + j < s.length) = true := by simp only [decide_eq_true_eq]; omega
    rw [hd] at hcond; exact hcond
def isName (s : List UInt8) : Bool := decide (s ≠ []) && decide (s.length ≤ 32) && letterB (s.getD 0 0) && decide (runL innerB s = s.length)
theorem v53 (s : List UInt8) (hs0 : s.length ≤ 9223372036854775807) : VCalls Tryd.prog G 53 [.str s] (.bool (isName s)) := by
  refine VCalls.of_PW Tryd.func53 k53 mix (by simp [c53]) ?_
  have h21 : s.length ≤ 32 → VCalls Tryd.prog G 46 [.str s, .int .i64 0, .fn 84 [] []] (.int .i64 (runL innerB s)) := fun hs => by
    have h21 := v46 (G := G) s 0 84 innerB (by omega) (by omega) e84 v84
    simp only [List.drop_zero] at h21
    exact h21
  have zt : (0 : Int).toNat = 0 := rfl
  have hl : s ≠ [] → 0 < s.length := fun h => List.length_pos_iff.2 h
  simp only [c53, L53, CC, argE]
  repeat' (first | refine PW.seq ?_ | refine PW.block ?_ | refine PW.regionA ?_ | exact schedW_stop_i | ((first | refine PW.region ?_ | refine PW.regionQ ?_ | refine PW.exit ?_ | refine PW.ret ?_ | refine PW.skip ?_ | refine schedW_alt_i ?_ ?_ | refine schedW_done_i ?_); focus (simp only [zt, SA, Nat.reduceAdd, reduceIte, Nat.reduceEqDiff, Nat.reduceBEq, reduceCtorEq]; (try go_unwrap; try simp only [zt, RR, reduceCtorEq]))) | (refine PW.cond rfl ?_ ?_ <;> intro hcond <;> (try contradiction) <;> try simp only [DD] at hcond) | (apply goCallG_V e74; (case hV => (intro hg; simp only [hg, zt, SA, Nat.reduceAdd, reduceIte, Nat.reduceEqDiff, Nat.reduceBEq, reduceCtorEq]; (try go_unwrap; try simp only [zt, RR, reduceCtorEq]); exact v74 _)); (case hok => (intro hg; first | (simp only [hg, zt, SA, Nat.reduceAdd, reduceIte, Nat.reduceEqDiff, Nat.reduceBEq, reduceCtorEq]; done) | (simp_all [okAll, PV.okUnder]; done))); (case hs => (intro hg; simp only [hg, zt, SA, Nat.reduceAdd, reduceIte, Nat.reduceEqDiff, Nat.reduceBEq, reduceCtorEq])); (case hf => first | rfl | simp only [zt, SA, Nat.reduceAdd, reduceIte, Nat.reduceEqDiff, Nat.reduceBEq, reduceCtorEq]); (simp only [zt, SA, Nat.reduceAdd, reduceIte, Nat.reduceEqDiff, Nat.reduceBEq, reduceCtorEq]; (try go_unwrap; try simp only [zt, RR, reduceCtorEq]))) | (apply goCallG_V e46; (case hV => (intro hg; simp only [hg, zt, SA, Nat.reduceAdd, reduceIte, Nat.reduceEqDiff, Nat.reduceBEq, reduceCtorEq]; (try go_unwrap; try simp only [zt, RR, reduceCtorEq]); exact h21 (by simp only [Bool.and_eq_true, decide_eq_true_eq] at hg; omega))); (case hok => (intro hg; first | (simp only [hg, zt, SA, Nat.reduceAdd, reduceIte, Nat.reduceEqDiff, Nat.reduceBEq, reduceCtorEq]; done) | (simp_all [okAll, PV.okUnder]; done))); (case hs => (intro hg; simp only [hg, zt, SA, Nat.reduceAdd, reduceIte, Nat.reduceEqDiff, Nat.reduceBEq, reduceCtorEq])); (case hf => first | rfl | simp only [zt, SA, Nat.reduceAdd, reduceIte, Nat.reduceEqDiff, Nat.reduceBEq, reduceCtorEq]); (simp only [zt, SA, Nat.reduceAdd, reduceIte, Nat.reduceEqDiff, Nat.reduceBEq, reduceCtorEq]; (try go_unwrap; try simp only [zt, RR, reduceCtorEq]))) | refine And.intro ?_ ?_ | exact Or.inr ⟨rfl, Nat.le_refl _⟩ | exact (fun h => Bool.noConfusion h) | omega | (simp only [DD, LL] <;> omega) | (go_unwrap; omega))
  · intro h
    simp only [Bool.and_eq_true, Bool.not_eq_true', decide_eq_false_iff_not] at h
    have := hl h.1
    exact ⟨by simp only [Bool.and_eq_true, Bool.not_eq_true', decide_eq_false_iff_not]; exact h, by omega, by omega⟩
  · have z2 : decide (((runL innerB s : Nat) : Int) = s.length) = decide (runL innerB s = s.length) := by
      rw [Bool.eq_iff_iff, decide_eq_true_eq, decide_eq_true_eq]; omega
    have z3 : decide ((s.length : Int) ≤ 32) = decide (s.length ≤ 32) := by
      rw [Bool.eq_iff_iff, decide_eq_true_eq, decide_eq_true_eq]; omega
    have z4 : decide (s ≠ []) = !decide (s = []) := by simp
    rw [isName, z2, z3, z4]
end Go.Proofs.YthekpjhffciakaaDoor

namespace Go.Proofs.YthekpjhffciakaaDoor
open Go PG Go.Proofs
set_option linter.unusedSimpArgs false
set_option linter.unusedVariables false
set_option maxRecDepth 100000
/-- A node of a tree. -/
structure Nd where
  op : Int
  num : Int
  name : List UInt8
  kids : List Int
  deriving DecidableEq, Inhabited
/-- A token: its kind, its text, its place. -/
abbrev Tok := Nat × List UInt8 × Nat
/-- How far a reader has come. -/
structure PS where
  at_ : Nat
  e : Int
  out : List Nd
def tkAt (l : List Tok) (i : Nat) : Tok := l.getD i (0, [], 0)
section
variable (nm : List UInt8 → Int) (l : List Tok)
/-! ### What a reader keeps -/
structure Inv (s : PS) : Prop where
  lt : s.at_ < l.length
  le : s.out.length ≤ s.at_
  e0 : s.e = 0
  end0 : (tkAt l (l.length - 1)).1 = 0
/-- What a part of the reading comes to. -/
structure Good (s : PS) (r : Int × PS) : Prop where
  lt : r.2.at_ < l.length
  le : s.at_ ≤ r.2.at_
  out : r.2.out.length + s.at_ ≤ s.out.length + r.2.at_
  n0 : 0 ≤ r.1
  n1 : r.1 ≤ r.2.at_
  go : r.2.e = 0 → s.at_ < r.2.at_
  er : r.2.e = 0 ∨ r.2.e = 3 ∨ r.2.e = 21
def GoodF (f : PS → Int × PS) (m : Nat) : Prop := ∀ s, Inv l s → l.length - s.at_ ≤ m → Good l s (f s)
variable {nm l}
theorem GoodF.mono {f : PS → Int × PS} {m k : Nat} (h : GoodF l f m) (hk : k ≤ m) : GoodF l f k := fun s hs hm => h s hs (by omega)
end
end Go.Proofs.YthekpjhffciakaaDoor

namespace Go.Proofs.YthekpjhffciakaaDoor
open Go PG Go.Proofs
set_option linter.unusedSimpArgs false
set_option linter.unusedVariables false
set_option maxRecDepth 100000
section
variable {nm : List UInt8 → Int} {l : List Tok}
/-! ### Kids stand ahead -/
/-- Each node's kids stand ahead of it. -/
def wfK : List Nd → Nat → Prop
  | [], _ => True
  | n :: ns, i => (∀ k ∈ n.kids, 0 ≤ k ∧ k < (i : Int)) ∧ wfK ns (i + 1)
end
end Go.Proofs.YthekpjhffciakaaDoor

namespace Go.Proofs.YthekpjhffciakaaDoor
open Go PG Go.Proofs
set_option linter.unusedSimpArgs false
set_option linter.unusedVariables false
set_option maxRecDepth 100000
def kidsMax (acc : List Int) : List Int → Int → Int
  | [], m => m
  | k :: ks, m => kidsMax acc ks (max m (acc.getD k.toNat 0))
def depthsM : List Nd → List Int → List Int
  | [], acc => acc
  | n :: ns, acc => depthsM ns (acc ++ [kidsMax acc n.kids 0 + 1])
def depthM (l : List Nd) : Int := (depthsM l []).getD (l.length - 1) 0
/-- A row that is filled from the front. -/
def rowV (acc : List Int) (N : Nat) : List PV := acc.map (PV.int .i64) ++ List.replicate (N - acc.length) (.int .i64 0)
def rowM (acc : List Int) (m : Int) (N : Nat) : List PV := acc.map (PV.int .i64) ++ .int .i64 m :: List.replicate (N - acc.length - 1) (.int .i64 0)
theorem rowV_M {acc : List Int} {N : Nat} (h : acc.length < N) : rowV acc N = rowM acc 0 N := by
  obtain ⟨d, hd⟩ : ∃ d, N - acc.length = d + 1 := ⟨N - acc.length - 1, by omega⟩
  simp [rowV, rowM, hd, List.replicate_succ]
theorem rowM_len {acc : List Int} {m : Int} {N : Nat} (h : acc.length < N) : (rowM acc m N).length = N := by simp [rowM]; omega
theorem rowV_len {acc : List Int} {N : Nat} (h : acc.length ≤ N) : (rowV acc N).length = N := by simp [rowV]; omega
theorem rowM_at (acc : List Int) (m : Int) (N : Nat) : (rowM acc m N)[acc.length]? = some (.int .i64 m) := by simp [rowM]
theorem rowM_lt {acc : List Int} (m : Int) (N : Nat) {k : Nat} (h : k < acc.length) : (rowM acc m N)[k]? = some (.int .i64 (acc.getD k 0)) := by
  simp [rowM, List.getElem?_append_left, h, List.getD]
theorem rowV_lt {acc : List Int} (N : Nat) {k : Nat} (h : k < acc.length) : (rowV acc N)[k]? = some (.int .i64 (acc.getD k 0)) := by
  simp [rowV, List.getElem?_append_left, h, List.getD]
theorem rowM_set (acc : List Int) (m m' : Int) (N : Nat) : (rowM acc m N).set acc.length (.int .i64 m') = rowM acc m' N := by simp [rowM]
theorem rowM_V {acc : List Int} {m : Int} {N : Nat} : rowM acc m N = rowV (acc ++ [m]) N := by
  simp only [rowM, rowV, List.map_append, List.map_cons, List.map_nil, List.append_assoc, List.length_append, List.length_cons, List.length_nil]
  rw [Nat.sub_add_eq]; rfl
theorem getD_bnd {acc : List Int} {B : Int} (hB : ∀ x ∈ acc, 0 ≤ x ∧ x ≤ B) (h0 : 0 ≤ B) (k : Nat) : 0 ≤ acc.getD k 0 ∧ acc.getD k 0 ≤ B := by
  rw [List.getD_eq_getElem?_getD]
  cases hk : acc[k]? with
  | none => simpa using h0
  | some x => simpa using hB x (List.mem_of_getElem? hk)
end Go.Proofs.YthekpjhffciakaaDoor

namespace Go.Proofs.YthekpjhffciakaaDoor
open Go PG Go.Proofs
set_option linter.unusedSimpArgs false
set_option linter.unusedVariables false
set_option maxHeartbeats 4000000
set_option maxRecDepth 100000
def kidsP (l : List Int) : PV := .list none (l.map (PV.int .i64))
def ndC (n : Nd) : List PV := [.int .i64 n.op, .int .i64 n.num, .str n.name, kidsP n.kids]
def ndP (n : Nd) : PV := .agg (ndC n)
def treeP (l : List Nd) : PV := .agg [.list (some 4) (l.map ndP)]
def kidsTab : List Int := [0, 0, 2, 2, 2, 2, 2, 3, 2, 2]
def kidsTabP : PV := .agg (kidsTab.map (PV.int .i64))
def HasKids (G : Globs) : Prop := G 1 = some (some 10, kidsTabP)
theorem e60 : Ent Tryd.prog 60 := ⟨Tryd.f60, Tryd.func60, by kernel_rfl, by kernel_rfl⟩
theorem e61 : Ent Tryd.prog 61 := ⟨Tryd.f61, Tryd.func61, by kernel_rfl, by kernel_rfl⟩
theorem e89 : Ent Tryd.prog 89 := ⟨Tryd.f89, Tryd.func89, by kernel_rfl, by kernel_rfl⟩
theorem e42 : Ent Tryd.prog 42 := ⟨Tryd.f42, Tryd.func42, by kernel_rfl, by kernel_rfl⟩
theorem e29 : Ent Tryd.prog 29 := ⟨Tryd.f29, Tryd.func29, by kernel_rfl, by kernel_rfl⟩
def formE (n : Nd) : Int := if n.op < 0 ∨ 9 < n.op then 11 else if (n.kids.length : Int) ≠ kidsTab.getD n.op.toNat 0 then 3 else 0
def restE (n : Nd) : Int :=
  if n.op < 0 ∨ 9 < n.op then 0
  else if (n.op = 0 ∧ (n.num < 0 ∨ 1000000000000000000 < n.num ∨ n.num.tmod 100 ≠ 0)) ∨ (n.op ≠ 0 ∧ n.num ≠ 0) then 2
  else if (n.op = 1 ∧ isName n.name = false) ∨ (n.op ≠ 1 ∧ n.name ≠ []) then 12 else 0
variable {G : Globs}
theorem kidsTab_get {op : Int} (h0 : 0 ≤ op) (h9 : op ≤ 9) : (List.map (PV.int IntKind.i64) kidsTab).getD (0 + op.toNat * 1) PV.junk = .int .i64 (kidsTab.getD op.toNat 0) ∧ op.toNat < 10 := by
  obtain ⟨k, rfl⟩ : ∃ k : Nat, op = k := ⟨op.toNat, by omega⟩
  have hk : k < 10 := by omega
  have e : ((k : Int)).toNat = k := by omega
  rw [e]
  refine ⟨?_, hk⟩
  have : 0 + k * 1 = k := by omega
  rw [this]
  have hl : kidsTab.length = 10 := rfl
  simp [List.getD, hl, hk]
theorem v60 (hG : HasKids G) (n : Nd) (hs : n.name.length ≤ 9223372036854775807) : VCalls Tryd.prog G 60 [ndP n] (.tup [.int .i64 (formE n), .int .i64 (restE n)]) := by
  refine VCalls.of_PW Tryd.func60 k60 mix (by simp [c60]) ?_
  unfold HasKids at hG
  simp only [c60, L60, CC, argE, ndP, ndC, kidsP]
  by_cases ho : n.op < 0 ∨ 9 < n.op
  · have h1 : (decide (n.op < 0) || decide (9 < n.op)) = true := by simpa using ho
    have h2 : formE n = 11 := by rw [formE, if_pos ho]
    have h3 : restE n = 0 := by rw [restE, if_pos ho]
    rw [h2, h3]
    repeat' (first | refine PW.seq ?_ | refine PW.block ?_ | refine PW.regionA ?_ | exact schedW_stop_i | ((first | refine PW.region ?_ | refine PW.regionQ ?_ | refine PW.exit ?_ | refine PW.ret ?_ | refine PW.skip ?_ | refine schedW_alt_i ?_ ?_ | refine schedW_done_i ?_); focus (simp only [h1, SA, Nat.reduceAdd, reduceIte, Nat.reduceEqDiff, Nat.reduceBEq, reduceCtorEq]; (try go_unwrap; try simp only [h1, RR, reduceCtorEq]))) | (refine PW.cond rfl ?_ ?_ <;> intro hcond <;> (try contradiction) <;> try simp only [DD] at hcond) | refine And.intro ?_ ?_ | exact Or.inr ⟨rfl, Nat.le_refl _⟩ | exact (fun h => Bool.noConfusion h) | omega | (simp only [DD, LL] <;> omega) | (go_unwrap; omega))
    all_goals (first | rfl | simp)
  · have h1 : (decide (n.op < 0) || decide (9 < n.op)) = false := by
      simp only [not_or] at ho
      simp only [Bool.or_eq_false_iff, decide_eq_false_iff_not]; exact ho
    obtain ⟨hget, hlt⟩ := kidsTab_get (op := n.op) (by omega) (by omega)
    have hi1 : (0 ≤ n.op ∧ n.op < ((10 : Nat) : Int)) := by omega
    have hi2 : (0 + n.op.toNat * 1 ≤ 10) := by omega
    have hi3 : (0 + n.op.toNat * 1 + 1 ≤ (List.map (PV.int IntKind.i64) kidsTab).length) := by
      have : (List.map (PV.int IntKind.i64) kidsTab).length = 10 := rfl
      omega
    have h2 : formE n = if (n.kids.length : Int) ≠ kidsTab.getD n.op.toNat 0 then 3 else 0 := by rw [formE, if_neg ho]
    have h3 : restE n = if (n.op = 0 ∧ (n.num < 0 ∨ 1000000000000000000 < n.num ∨ n.num.tmod 100 ≠ 0)) ∨ (n.op ≠ 0 ∧ n.num ≠ 0) then 2
      else if (n.op = 1 ∧ isName n.name = false) ∨ (n.op ≠ 1 ∧ n.name ≠ []) then 12 else 0 := by rw [restE, if_neg ho]
    repeat' (first | refine PW.seq ?_ | refine PW.block ?_ | refine PW.regionA ?_ | exact schedW_stop_i | ((first | refine PW.region ?_ | refine PW.regionQ ?_ | refine PW.exit ?_ | refine PW.ret ?_ | refine PW.skip ?_ | refine schedW_alt_i ?_ ?_ | refine schedW_done_i ?_); focus (simp only [h1, hG, evalO, kidsTabP, hget, hi2, hi3, hi1.1, hi1.2, SA, Nat.reduceAdd, reduceIte, Nat.reduceEqDiff, Nat.reduceBEq, reduceCtorEq]; (try go_unwrap; try simp only [h1, hG, evalO, kidsTabP, hget, hi2, hi3, hi1.1, hi1.2, RR, reduceCtorEq]))) | (refine PW.cond rfl ?_ ?_ <;> intro hcond <;> (try contradiction) <;> try simp only [DD] at hcond) | (apply goCallG_V e53; (case hV => (intro hg; simp only [hg, h1, hG, evalO, kidsTabP, hget, hi2, hi3, hi1.1, hi1.2, SA, Nat.reduceAdd, reduceIte, Nat.reduceEqDiff, Nat.reduceBEq, reduceCtorEq]; (try go_unwrap; try simp only [h1, hG, evalO, kidsTabP, hget, hi2, hi3, hi1.1, hi1.2, RR, reduceCtorEq]); exact v53 _ hs)); (case hok => (intro hg; first | (simp only [hg, h1, hG, evalO, kidsTabP, hget, hi2, hi3, hi1.1, hi1.2, SA, Nat.reduceAdd, reduceIte, Nat.reduceEqDiff, Nat.reduceBEq, reduceCtorEq]; done) | (simp_all [okAll, PV.okUnder]; done))); (case hs => (intro hg; simp only [hg, h1, hG, evalO, kidsTabP, hget, hi2, hi3, hi1.1, hi1.2, SA, Nat.reduceAdd, reduceIte, Nat.reduceEqDiff, Nat.reduceBEq, reduceCtorEq])); (case hf => first | rfl | simp only [h1, hG, evalO, kidsTabP, hget, hi2, hi3, hi1.1, hi1.2, SA, Nat.reduceAdd, reduceIte, Nat.reduceEqDiff, Nat.reduceBEq, reduceCtorEq]); (simp only [h1, hG, evalO, kidsTabP, hget, hi2, hi3, hi1.1, hi1.2, SA, Nat.reduceAdd, reduceIte, Nat.reduceEqDiff, Nat.reduceBEq, reduceCtorEq]; (try go_unwrap; try simp only [h1, hG, evalO, kidsTabP, hget, hi2, hi3, hi1.1, hi1.2, RR, reduceCtorEq]))) | refine And.intro ?_ ?_ | exact Or.inr ⟨rfl, Nat.le_refl _⟩ | exact (fun h => Bool.noConfusion h) | omega | (simp only [DD, LL] <;> omega) | (go_unwrap; omega))
    all_goals (clear hG hget)
    all_goals (first | (simp_all; done) | grind)
end Go.Proofs.YthekpjhffciakaaDoor

namespace Go.Proofs.YthekpjhffciakaaDoor
open Go PG Go.Proofs
set_option linter.unusedSimpArgs false
set_option linter.unusedVariables false
set_option maxHeartbeats 4000000
set_option maxRecDepth 100000
variable {G : Globs}
/-- The next element of a list, and how its print is read. -/
theorem drop_at {α : Type} {l : List α} {i : Nat} (h : i < l.length) : ∃ n, l.drop i = n :: l.drop (i + 1) ∧ l[i]? = some n ∧ (∀ f : α → PV, (l.map f).getD i .junk = f n ∧ (l.map f)[i]? = some (f n)) := by
  refine ⟨l[i], List.drop_eq_getElem_cons h, List.getElem?_eq_getElem h, fun f => ?_⟩
  simp [List.getD, h]
def idxB (v : Bool) : List Bool → Int → Int
  | [], _ => -1
  | b :: l, i => if v = b then i else idxB v l (i + 1)
theorem idxB_ge (v : Bool) : ∀ (l : List Bool) (i : Int), 0 ≤ i → (0 ≤ idxB v l i ↔ l.contains v = true)
  | [], i, _ => by simp [idxB]
  | b :: l, i, h => by
    have := idxB_ge v l (i + 1) (by omega)
    unfold idxB
    by_cases hb : v = b
    · simp [hb, h]
    · rw [if_neg hb, this]; simp [hb]
theorem v89 (l : List Bool) (v : Bool) (hl : l.length ≤ 9223372036854775806) : VCalls Tryd.prog G 89 [.list none (l.map PV.bool), .bool v] (.int .i64 (idxB v l 0)) := by
  refine VCalls.of_PW Tryd.func89 k89 mix (by simp [c89]) ?_
  simp only [c89, L89, CC, argE]
  repeat' (first | refine PW.seq ?_ | refine PW.block ?_ | refine PW.regionA ?_ | exact schedW_stop_i | ((first | refine PW.region ?_ | refine PW.regionQ ?_ | refine PW.exit ?_ | refine PW.ret ?_ | refine PW.skip ?_ | refine schedW_alt_i ?_ ?_ | refine schedW_done_i ?_); focus (simp only [SA, Nat.reduceAdd, reduceIte, Nat.reduceEqDiff, Nat.reduceBEq, reduceCtorEq]; (try go_unwrap; try simp only [RR, reduceCtorEq]))) | (refine PW.cond rfl ?_ ?_ <;> intro hcond <;> (try contradiction) <;> try simp only [DD] at hcond) | refine And.intro ?_ ?_ | exact Or.inr ⟨rfl, Nat.le_refl _⟩ | exact (fun h => Bool.noConfusion h) | omega | (simp only [DD, LL] <;> omega) | (go_unwrap; omega))
  refine PW.loop (σ := Nat) [0, 1, 7, 8] (fun j => [.list none (l.map PV.bool), .bool v, .int .i64 l.length, .int .i64 j]) (fun _ => []) (fun j => j ≤ l.length ∧ idxB v l 0 = idxB v (l.drop j) j) (fun j => l.length - j) 0 ?_ rfl ⟨by omega, by simp⟩ ?_
  · simp only [SA, Nat.reduceAdd, reduceIte, Nat.reduceEqDiff, Nat.reduceBEq, reduceCtorEq, List.length_map]; rfl
  rintro j ⟨hj, hr⟩
  simp only [List.zip_cons_cons, List.zip_nil_left]
  rcases Nat.lt_or_ge j l.length with h | h
  · obtain ⟨b, hd, -, hg⟩ := drop_at h
    rw [hd, idxB] at hr
    have hd' : decide ((j : Int) < l.length) = true := by simp only [decide_eq_true_eq]; omega
    repeat' (first | refine PW.seq ?_ | refine PW.block ?_ | refine PW.regionA ?_ | exact schedW_stop_i | ((first | refine PW.region ?_ | refine PW.regionQ ?_ | refine PW.exit ?_ | refine PW.ret ?_ | refine PW.skip ?_ | refine schedW_alt_i ?_ ?_ | refine schedW_done_i ?_); focus (simp only [hd', (hg PV.bool).1, List.length_map, SA, Nat.reduceAdd, reduceIte, Nat.reduceEqDiff, Nat.reduceBEq, reduceCtorEq]; (try go_unwrap; try simp only [hd', (hg PV.bool).1, List.length_map, RR, reduceCtorEq]))) | (refine PW.cond rfl ?_ ?_ <;> intro hcond <;> (try contradiction) <;> try simp only [DD] at hcond) | refine And.intro ?_ ?_ | exact Or.inr ⟨rfl, Nat.le_refl _⟩ | exact (fun h => Bool.noConfusion h) | omega | (simp only [DD, LL] <;> omega) | (go_unwrap; omega))
    · rw [hr, if_pos hcond]
    · rw [if_neg hcond] at hr
      exact ⟨j + 1, rfl, ⟨h, hr⟩, by omega⟩
  · have hd' : decide ((j : Int) < l.length) = false := by simp only [decide_eq_false_iff_not]; omega
    rw [List.drop_eq_nil_of_le h, idxB] at hr
    repeat' (first | refine PW.seq ?_ | refine PW.block ?_ | refine PW.regionA ?_ | exact schedW_stop_i | ((first | refine PW.region ?_ | refine PW.regionQ ?_ | refine PW.exit ?_ | refine PW.ret ?_ | refine PW.skip ?_ | refine schedW_alt_i ?_ ?_ | refine schedW_done_i ?_); focus (simp only [hd', SA, Nat.reduceAdd, reduceIte, Nat.reduceEqDiff, Nat.reduceBEq, reduceCtorEq]; (try go_unwrap; try simp only [hd', RR, reduceCtorEq]))) | (refine PW.cond rfl ?_ ?_ <;> intro hcond <;> (try contradiction) <;> try simp only [DD] at hcond) | refine And.intro ?_ ?_ | exact Or.inr ⟨rfl, Nat.le_refl _⟩ | exact (fun h => Bool.noConfusion h) | omega | (simp only [DD, LL] <;> omega) | (go_unwrap; omega))
    rw [hr]
theorem v61 (l : List Bool) (v : Bool) (hl : l.length ≤ 9223372036854775806) : VCalls Tryd.prog G 61 [.list none (l.map PV.bool), .bool v] (.bool (l.contains v)) := by
  refine VCalls.of_PW Tryd.func61 k61 mix (by simp [c61]) ?_
  simp only [c61, L61, CC, argE]
  have h := idxB_ge v l 0 (by omega)
  repeat' (first | refine PW.seq ?_ | refine PW.block ?_ | refine PW.regionA ?_ | exact schedW_stop_i | ((first | refine PW.region ?_ | refine PW.regionQ ?_ | refine PW.exit ?_ | refine PW.ret ?_ | refine PW.skip ?_ | refine schedW_alt_i ?_ ?_ | refine schedW_done_i ?_); focus (simp only [SA, Nat.reduceAdd, reduceIte, Nat.reduceEqDiff, Nat.reduceBEq, reduceCtorEq]; (try go_unwrap; try simp only [RR, reduceCtorEq]))) | (refine PW.cond rfl ?_ ?_ <;> intro hcond <;> (try contradiction) <;> try simp only [DD] at hcond) | (apply goCall_V e89; (case hV => (simp only [SA, Nat.reduceAdd, reduceIte, Nat.reduceEqDiff, Nat.reduceBEq, reduceCtorEq]; (try go_unwrap; try simp only [RR, reduceCtorEq]); exact v89 _ _ hl)); (try (case hs => rfl)); (try (case hf => first | exact Or.inl rfl | exact Or.inr ⟨rfl, rfl⟩ | (refine Or.inl ?_; simp only [SA, Nat.reduceAdd, reduceIte, Nat.reduceEqDiff, Nat.reduceBEq, reduceCtorEq]; done) | (refine Or.inr ⟨rfl, ?_⟩; simp only [SA, Nat.reduceAdd, reduceIte, Nat.reduceEqDiff, Nat.reduceBEq, reduceCtorEq]; done))); all_goals (simp only [SA, Nat.reduceAdd, reduceIte, Nat.reduceEqDiff, Nat.reduceBEq, reduceCtorEq]; (try go_unwrap; try simp only [RR, reduceCtorEq]))) | refine And.intro ?_ ?_ | exact Or.inr ⟨rfl, Nat.le_refl _⟩ | exact (fun h => Bool.noConfusion h) | omega | (simp only [DD, LL] <;> omega) | (go_unwrap; omega))
  congr 1
  rw [Bool.eq_iff_iff, decide_eq_true_eq]; exact h
end Go.Proofs.YthekpjhffciakaaDoor

