import Derived.Test.YthjkmhfiffojeaaGreatDoorProg
import Derived.KernelRfl
import Derived.Test.YthjkmhfiffojeaaGreatDoorP4
namespace Go.Proofs.YthjkmhfiffojeaaGreatDoor
open PG Go.Proofs
def L9 : List Nat := [0, 1, 4, 5, 6, 7, 8, 9, 10, 11, 13, 14, 15, 16, 21, 29, 33, 35, 42, 43, 44, 45, 52, 64]
def c9 : CF := ⟨71,
 .seq (.region false [oR 4 .mov [.pv .jA0],
 oR 5 .mov [.pv (.int .i64 0)]] L9)
 (.seq (.seq (.region false [oM 17 0,
 oM 18 1,
 oC 19 27 [.tmp 17, .tmp 18],
 oM 6 19] L9)
 (.seq (.region false [oM 20 6,
 oR 21 (.bin .neq) [.tmp 20, .pv (.int .i64 0)]] L9)
 (.cond (.tmp 21)
 (.seq (.region false [oM 22 6,
 oR 4 .mov [.pv .jA0],
 oM 5 22] L9)
 (.ret))
 (.skip))))
 (.seq (.region false [oM 24 1,
 oC 25 28 [.tmp 24],
 oM 23 25,
 oT 26 (.ext 0) 23,
 oT 27 (.ext 1) 23,
 oM 7 26,
 oM 8 27] L9)
 (.seq (.seq (.region false [oM 28 8,
 oR 29 (.bin .neq) [.tmp 28, .pv (.int .i64 0)]] L9)
 (.cond (.tmp 29)
 (.seq (.region false [oM 30 8,
 oR 4 .mov [.pv .jA0],
 oM 5 30] L9)
 (.ret))
 (.skip)))
 (.seq (.region false [oE 31 (.mmk .str) [],
 oM 9 31] L9)
 (.seq (.seq (.region false [oM 32 0,
 oE 33 (.rng .str) [.tmp 32]] L9)
 (.block 0
 (.loop
 (.seq (.region false [oE 34 .nxt [.tmp 33],
 oT 35 (.ext 0) 34] L9)
 (.seq (.cond (.tmp 35)
 (.skip)
 (.exit 0))
 (.block 1
 (.seq (.region false [oE 36 .ent [.tmp 33],
 oT 37 (.ext 0) 36,
 oT 38 (.ext 1) 36,
 oM 10 37,
 oM 11 38] L9)
 (.region false [oM 39 9,
 oM 40 10,
 oM 41 11,
 oS (.jP1 .str) [.tmp 39, .tmp 40, .tmp 41]] L9))))))))
 (.seq (.seq (.region false [oM 42 7,
 oT 43 .jCH 42,
 oR 44 .mov [.pv (.int .i64 0)]] L9)
 (.block 2
 (.loop
 (.seq (.region false [oB 45 (.bin .lss) 44 43] L9)
 (.seq (.cond (.tmp 45)
 (.skip)
 (.exit 2))
 (.seq (.block 3
 (.seq (.region false [oB 46 (.jAC none) 42 44,
 oL 47 46,
 oE 13 (.alloc none (.str [])) [],
 oS (.store none) [.tmp 13, .tmp 47]] L9)
 (.seq (.region false [oM 48 1,
 oT 49 (.jTR 30 0) 13,
 oC 50 29 [.tmp 48, .tmp 49],
 oM 14 50] L9)
 (.seq (.seq (.region false [oM 51 14,
 oR 52 (.bin .lss) [.tmp 51, .pv (.int .i64 0)]] L9)
 (.cond (.tmp 52)
 (.exit 3)
 (.skip)))
 (.seq (.region false [oM 54 1,
 oM 55 14,
 oB 56 (.jAC (some 2)) 54 55,
 oF 1 57 56,
 oT 58 (.load (some 1)) 57,
 oM 59 9,
 oC 60 31 [.tmp 58, .tmp 59],
 oM 53 60,
 oT 61 (.ext 0) 53,
 oT 62 (.ext 1) 53,
 oM 15 61,
 oM 16 62] L9)
 (.seq (.seq (.region false [oM 63 16,
 oR 64 (.bin .neq) [.tmp 63, .pv (.int .i64 0)]] L9)
 (.cond (.tmp 64)
 (.seq (.region false [oM 65 16,
 oR 4 .mov [.pv .jA0],
 oM 5 65] L9)
 (.ret))
 (.skip)))
 (.region false [oM 66 9,
 oL 67 13,
 oM 68 15,
 oS (.jP1 .str) [.tmp 66, .tmp 67, .tmp 68]] L9)))))))
 (.region false [oR 69 (.bin .add) [.tmp 44, .pv (.int .i64 1)],
 oM 44 69] L9)))))))
 (.seq (.region false [oM 70 9,
 oM 4 70,
 oR 5 .mov [.pv (.int .i64 0)]] L9)
 (.ret)))))))),
 [.tmp 4, .tmp 5]⟩
def L27 : List Nat := [0, 1, 4, 6, 8, 9, 12, 13, 14, 15, 16, 22, 30, 35]
def c27 : CF := ⟨38,
 .seq (.region false [oR 4 .mov [.pv (.int .i64 0)]] L27)
 (.seq (.seq (.region false [oM 10 1,
 oT 11 .jCH 10,
 oR 12 (.bin .gtr) [.tmp 11, .pv (.int .i64 64)]] L27)
 (.cond (.tmp 12)
 (.seq (.region false [oR 4 .mov [.pv (.int .i64 5)]] L27)
 (.ret))
 (.skip)))
 (.seq (.seq (.region false [oM 13 1,
 oT 14 .jCH 13,
 oR 15 .mov [.pv (.int .i64 0)]] L27)
 (.block 0
 (.loop
 (.seq (.region false [oB 16 (.bin .lss) 15 14] L27)
 (.seq (.cond (.tmp 16)
 (.skip)
 (.exit 0))
 (.seq (.block 1
 (.seq (.region false [oB 17 (.jAC (some 2)) 13 15,
 oT 18 (.load (some 2)) 17,
 oE 6 (.alloc (some 2) (.agg [(.str []), .jAH])) [],
 oS (.store (some 2)) [.tmp 6, .tmp 18]] L27)
 (.seq (.seq (.region false [oF 0 19 6,
 oL 20 19,
 oC 21 55 [.tmp 20],
 oT 22 (.un .not) 21] L27)
 (.cond (.tmp 22)
 (.seq (.region false [oR 4 .mov [.pv (.int .i64 12)]] L27)
 (.ret))
 (.skip)))
 (.seq (.seq (.region false [oM 24 0,
 oF 0 25 6,
 oL 26 25,
 oB 27 (.look .str true (.int .i64 0)) 24 26,
 oM 23 27,
 oT 28 (.ext 0) 23,
 oT 29 (.ext 1) 23,
 oM 7 28,
 oM 8 29] L27)
 (.seq (.region false [oM 30 8] L27)
 (.cond (.tmp 30)
 (.seq (.region false [oR 4 .mov [.pv (.int .i64 7)]] L27)
 (.ret))
 (.skip))))
 (.seq (.region false [oF 1 31 6,
 oT 32 (.load (some 1)) 31,
 oC 33 20 [.tmp 32],
 oM 9 33] L27)
 (.seq (.region false [oM 34 9,
 oR 35 (.bin .neq) [.tmp 34, .pv (.int .i64 0)]] L27)
 (.cond (.tmp 35)
 (.seq (.region false [oM 36 9,
 oM 4 36] L27)
 (.ret))
 (.skip))))))))
 (.region false [oR 37 (.bin .add) [.tmp 15, .pv (.int .i64 1)],
 oM 15 37] L27)))))))
 (.seq (.region false [oR 4 .mov [.pv (.int .i64 0)]] L27)
 (.ret)))),
 [.tmp 4]⟩
def L28 : List Nat := [0, 2, 3, 4, 6, 7, 8, 9, 10]
def c28 : CF := ⟨27,
 .seq (.region false [oR 2 .mov [.pv .jAH],
 oR 3 .mov [.pv (.int .i64 0)]] L28)
 (.seq (.region false [oR 4 .mov [.pv .jAH]] L28)
 (.seq (.seq (.region false [oM 7 0,
 oT 8 .jCH 7,
 oR 9 .mov [.pv (.int .i64 0)]] L28)
 (.block 0
 (.loop
 (.seq (.region false [oB 10 (.bin .lss) 9 8] L28)
 (.seq (.cond (.tmp 10)
 (.skip)
 (.exit 0))
 (.seq (.block 1
 (.seq (.region false [oB 11 (.jAC (some 2)) 7 9,
 oT 12 (.load (some 2)) 11,
 oE 6 (.alloc (some 2) (.agg [(.str []), .jAH])) [],
 oS (.store (some 2)) [.tmp 6, .tmp 12]] L28)
 (.jB6 (.alt [oM 13 4,
 oF 0 14 6,
 oF 1 16 6]
 (.alt [oL 15 14,
 oT 17 (.load (some 1)) 16,
 oC 18 8 [.tmp 17],
 oB 19 (.build [(.str []), .jAH] [(0, 1), (1, 1)]) 15 18,
 oE 20 (.lit (some 2) false) [.tmp 19],
 oE 21 (.append (some 2) 40) [.tmp 13, .tmp 20],
 oM 4 21]
 .done
 (.alt [oT 17 (.load (some 1)) 16]
 (.alt [oL 15 14,
 oC 18 8 [.tmp 17],
 oB 19 (.build [(.str []), .jAH] [(0, 1), (1, 1)]) 15 18,
 oE 20 (.lit (some 2) false) [.tmp 19],
 oE 21 (.append (some 2) 40) [.tmp 13, .tmp 20],
 oM 4 21]
 .done
 (.alt [oC 18 8 [.tmp 17],
 oL 15 14,
 oB 19 (.build [(.str []), .jAH] [(0, 1), (1, 1)]) 15 18,
 oE 20 (.lit (some 2) false) [.tmp 19],
 oE 21 (.append (some 2) 40) [.tmp 13, .tmp 20],
 oM 4 21]
 .done
 .stop))
 .stop))
 .stop) L28)))
 (.region false [oR 22 (.bin .add) [.tmp 9, .pv (.int .i64 1)],
 oM 9 22] L28)))))))
 (.seq (.region false [oM 23 4,
 oC 24 12 [.tmp 23],
 oT 25 (.ext 0) 24,
 oT 26 (.ext 1) 24,
 oM 2 25,
 oM 3 26] L28)
 (.ret)))),
 [.tmp 2, .tmp 3]⟩
def L29 : List Nat := [0, 1, 4, 5, 7, 8, 9, 16]
def c29 : CF := ⟨19,
 .seq (.region false [oR 4 .mov [.pv (.int .i64 0)]] L29)
 (.seq (.seq (.region false [oM 6 0,
 oT 7 .jCH 6,
 oR 8 .mov [.pv (.int .i64 0)]] L29)
 (.block 0
 (.loop
 (.seq (.region false [oB 9 (.bin .lss) 8 7] L29)
 (.seq (.cond (.tmp 9)
 (.skip)
 (.exit 0))
 (.seq (.block 1
 (.seq (.region false [oM 10 8,
 oM 5 10] L29)
 (.seq (.region false [oM 11 1,
 oM 12 0,
 oM 13 5,
 oB 14 (.jAC (some 2)) 12 13,
 oT 15 (.load (some 2)) 14,
 ⟨some 16, none, .call (.tmp 11) [.tmp 15]⟩] L29)
 (.cond (.tmp 16)
 (.seq (.region false [oM 17 5,
 oM 4 17] L29)
 (.ret))
 (.skip)))))
 (.region false [oR 18 (.bin .add) [.tmp 8, .pv (.int .i64 1)],
 oM 8 18] L29)))))))
 (.seq (.region false [oR 4 .mov [.pv (.int .i64 (-1))]] L29)
 (.ret))),
 [.tmp 4]⟩
def L30 : List Nat := [0, 1, 2, 3]
def c30 : CF := ⟨8,
 .seq (.region false [oE 2 (.box (some 2)) [.tmp 0],
 oR 3 .mov [.pv (.bool false)]] L30)
 (.seq (.region false [oF 0 4 2,
 oL 5 4,
 oL 6 1,
 oB 7 (.bin .eql) 5 6,
 oM 3 7] L30)
 (.ret)),
 [.tmp 3]⟩
def L31 : List Nat := [0, 1, 2, 4, 5, 6, 7, 8, 9, 10, 12, 13, 14, 18, 25, 26, 27, 28, 33, 34, 35, 36, 54, 64, 73]
def c31 : CF := ⟨85,
 .seq (.region false [oE 2 (.box (some 1)) [.tmp 0],
 oR 4 .mov [.pv (.int .i64 0)],
 oR 5 .mov [.pv (.int .i64 0)]] L31)
 (.seq (.seq (.region false [oT 15 (.load (some 1)) 2,
 oC 16 20 [.tmp 15],
 oM 6 16] L31)
 (.seq (.region false [oM 17 6,
 oR 18 (.bin .neq) [.tmp 17, .pv (.int .i64 0)]] L31)
 (.cond (.tmp 18)
 (.seq (.region false [oM 19 6,
 oR 4 .mov [.pv (.int .i64 0)],
 oM 5 19] L31)
 (.ret))
 (.skip))))
 (.seq (.region false [oF 0 20 2,
 oL 21 20,
 oT 22 .jCH 21,
 oE 23 (.make none (.int .i64 0) 8) [.tmp 22, .tmp 22],
 oM 7 23] L31)
 (.seq (.seq (.region false [oF 0 24 2,
 oL 25 24,
 oT 26 .jCH 25,
 oR 27 .mov [.pv (.int .i64 0)]] L31)
 (.block 0
 (.loop
 (.seq (.region false [oB 28 (.bin .lss) 27 26] L31)
 (.seq (.cond (.tmp 28)
 (.skip)
 (.exit 0))
 (.seq (.block 1
 (.seq (.region false [oM 29 27,
 oB 30 (.jAC (some 4)) 25 27,
 oT 31 (.load (some 4)) 30,
 oE 9 (.alloc (some 4) (.agg [(.int .i64 0), (.int .i64 0), (.str []), .jAH])) [],
 oM 8 29,
 oS (.store (some 4)) [.tmp 9, .tmp 31]] L31)
 (.seq (.region false [oR 10 .mov [.pv .jAH]] L31)
 (.seq (.seq (.region false [oF 3 32 9,
 oL 33 32,
 oT 34 .jCH 33,
 oR 35 .mov [.pv (.int .i64 0)]] L31)
 (.block 2
 (.loop
 (.seq (.region false [oB 36 (.bin .lss) 35 34] L31)
 (.seq (.cond (.tmp 36)
 (.skip)
 (.exit 2))
 (.seq (.block 3
 (.seq (.region false [oB 37 (.jAC none) 33 35,
 oL 38 37,
 oM 12 38] L31)
 (.region false [oM 39 10,
 oM 40 7,
 oM 41 12,
 oB 42 (.jAC none) 40 41,
 oL 43 42,
 oE 44 (.lit none false) [.tmp 43],
 oE 45 (.append none 8) [.tmp 39, .tmp 44],
 oM 10 45] L31)))
 (.region false [oR 46 (.bin .add) [.tmp 35, .pv (.int .i64 1)],
 oM 35 46] L31)))))))
 (.seq (.region false [oM 48 1,
 oF 2 49 9,
 oL 50 49,
 oB 51 (.look .str true (.int .i64 0)) 48 50,
 oM 47 51,
 oT 52 (.ext 0) 47,
 oT 53 (.ext 1) 47,
 oM 13 52,
 oM 14 53] L31)
 (.seq (.block 4
 (.seq (.region false [oF 0 55 9,
 oL 56 55,
 oR 57 (.bin .neq) [.tmp 56, .pv (.int .i64 1)],
 oM 54 57] L31)
 (.cond (.tmp 54)
 (.region false [oT 59 (.load (some 4)) 9,
 oM 60 10,
 oC 61 56 [.tmp 59, .tmp 60],
 oM 58 61,
 oT 62 (.ext 0) 58,
 oT 63 (.ext 1) 58,
 oM 13 62,
 oM 14 63] L31)
 (.seq (.region false [oM 65 14,
 oT 66 (.un .not) 65,
 oM 64 66] L31)
 (.cond (.tmp 64)
 (.seq (.region false [oR 4 .mov [.pv (.int .i64 0)],
 oR 5 .mov [.pv (.int .i64 21)]] L31)
 (.ret))
 (.skip))))))
 (.seq (.seq (.region false [oM 67 14,
 oT 68 (.un .not) 67,
 oM 69 68,
 qM 69 false 70 13,
 ⟨some 71, some (69, false), .call (.pv (.fn 57 [] [])) [.tmp 70]⟩,
 qR 69 false 72 (.un .not) [.tmp 71],
 oR 73 .pick [.tmp 69, .pv (.bool true), .tmp 72]] L31)
 (.cond (.tmp 73)
 (.seq (.region false [oR 4 .mov [.pv (.int .i64 0)],
 oR 5 .mov [.pv (.int .i64 9)]] L31)
 (.ret))
 (.skip)))
 (.region false [oM 74 7,
 oM 75 8,
 oM 76 13,
 oB 77 (.jAC none) 74 75,
 oS (.store none) [.tmp 77, .tmp 76]] L31))))))))
 (.region false [oR 78 (.bin .add) [.tmp 27, .pv (.int .i64 1)],
 oM 27 78] L31)))))))
 (.seq (.region false [oM 79 7,
 oM 80 7,
 oT 81 .jCH 80,
 oR 82 (.bin .sub) [.tmp 81, .pv (.int .i64 1)],
 oB 83 (.jAC none) 79 82,
 oL 84 83,
 oM 4 84,
 oR 5 .mov [.pv (.int .i64 0)]] L31)
 (.ret))))),
 [.tmp 4, .tmp 5]⟩
def L56 : List Nat := [0, 1, 2, 4, 5, 7, 8, 12, 21, 30, 41, 50, 59, 69, 82]
def c56 : CF := ⟨89,
 .seq (.region false [oE 2 (.box (some 4)) [.tmp 0],
 oR 4 .mov [.pv (.int .i64 0)],
 oR 5 .mov [.pv (.bool false)]] L56)
 (.seq (.seq (.region false [oF 0 6 2,
 oL 7 6] L56)
 (.block 0
 (.seq (.region false [oR 9 (.bin .eql) [.tmp 7, .pv (.int .i64 0)],
 oM 8 9] L56)
 (.cond (.tmp 8)
 (.seq (.region false [oF 1 10 2,
 oL 11 10,
 oM 4 11,
 oR 5 .mov [.pv (.bool true)]] L56)
 (.ret))
 (.seq (.region false [oR 13 (.bin .eql) [.tmp 7, .pv (.int .i64 2)],
 oM 12 13] L56)
 (.cond (.tmp 12)
 (.seq (.region true [oM 14 1,
 oR 15 (.jAC none) [.tmp 14, .pv (.int .i64 0)],
 oL 16 15,
 oM 17 1,
 oR 18 (.jAC none) [.tmp 17, .pv (.int .i64 1)],
 oL 19 18,
 oB 20 (.bin .add) 16 19,
 oM 4 20,
 oR 5 .mov [.pv (.bool true)]] L56)
 (.ret))
 (.seq (.region false [oR 22 (.bin .eql) [.tmp 7, .pv (.int .i64 3)],
 oM 21 22] L56)
 (.cond (.tmp 21)
 (.seq (.region true [oM 23 1,
 oR 24 (.jAC none) [.tmp 23, .pv (.int .i64 0)],
 oL 25 24,
 oM 26 1,
 oR 27 (.jAC none) [.tmp 26, .pv (.int .i64 1)],
 oL 28 27,
 oB 29 (.bin .sub) 25 28,
 oM 4 29,
 oR 5 .mov [.pv (.bool true)]] L56)
 (.ret))
 (.seq (.region false [oR 31 (.bin .eql) [.tmp 7, .pv (.int .i64 4)],
 oM 30 31] L56)
 (.cond (.tmp 30)
 (.seq (.region true [oM 32 1,
 oR 33 (.jAC none) [.tmp 32, .pv (.int .i64 0)],
 oL 34 33,
 oM 35 1,
 oR 36 (.jAC none) [.tmp 35, .pv (.int .i64 1)],
 oL 37 36,
 oC 38 91 [.tmp 34, .tmp 37],
 oT 39 (.ext 0) 38,
 oT 40 (.ext 1) 38,
 oM 4 39,
 oM 5 40] L56)
 (.ret))
 (.seq (.region false [oR 42 (.bin .eql) [.tmp 7, .pv (.int .i64 5)],
 oM 41 42] L56)
 (.cond (.tmp 41)
 (.seq (.region true [oM 43 1,
 oR 44 (.jAC none) [.tmp 43, .pv (.int .i64 0)],
 oL 45 44,
 oM 46 1,
 oR 47 (.jAC none) [.tmp 46, .pv (.int .i64 1)],
 oL 48 47,
 oB 49 .min 45 48,
 oM 4 49,
 oR 5 .mov [.pv (.bool true)]] L56)
 (.ret))
 (.seq (.region false [oR 51 (.bin .eql) [.tmp 7, .pv (.int .i64 6)],
 oM 50 51] L56)
 (.cond (.tmp 50)
 (.seq (.region true [oM 52 1,
 oR 53 (.jAC none) [.tmp 52, .pv (.int .i64 0)],
 oL 54 53,
 oM 55 1,
 oR 56 (.jAC none) [.tmp 55, .pv (.int .i64 1)],
 oL 57 56,
 oB 58 .max 54 57,
 oM 4 58,
 oR 5 .mov [.pv (.bool true)]] L56)
 (.ret))
 (.seq (.region false [oR 60 (.bin .eql) [.tmp 7, .pv (.int .i64 8)],
 oM 59 60] L56)
 (.cond (.tmp 59)
 (.seq (.region true [oM 61 1,
 oR 62 (.jAC none) [.tmp 61, .pv (.int .i64 0)],
 oL 63 62,
 oM 64 1,
 oR 65 (.jAC none) [.tmp 64, .pv (.int .i64 1)],
 oL 66 65,
 oB 67 (.bin .lss) 63 66,
 oC 68 92 [.tmp 67],
 oM 4 68,
 oR 5 .mov [.pv (.bool true)]] L56)
 (.ret))
 (.seq (.region false [oR 70 (.bin .eql) [.tmp 7, .pv (.int .i64 9)],
 oM 69 70] L56)
 (.cond (.tmp 69)
 (.seq (.region true [oM 71 1,
 oR 72 (.jAC none) [.tmp 71, .pv (.int .i64 0)],
 oL 73 72,
 oM 74 1,
 oR 75 (.jAC none) [.tmp 74, .pv (.int .i64 1)],
 oL 76 75,
 oB 77 (.bin .eql) 73 76,
 oC 78 92 [.tmp 77],
 oM 4 78,
 oR 5 .mov [.pv (.bool true)]] L56)
 (.ret))
 (.skip)))))))))))))))))))
 (.seq (.seq (.region false [oM 79 1,
 oR 80 (.jAC none) [.tmp 79, .pv (.int .i64 0)],
 oL 81 80,
 oR 82 (.bin .neq) [.tmp 81, .pv (.int .i64 0)]] L56)
 (.cond (.tmp 82)
 (.seq (.region false [oM 83 1,
 oR 84 (.jAC none) [.tmp 83, .pv (.int .i64 1)],
 oL 85 84,
 oM 4 85,
 oR 5 .mov [.pv (.bool true)]] L56)
 (.ret))
 (.skip)))
 (.seq (.region false [oM 86 1,
 oR 87 (.jAC none) [.tmp 86, .pv (.int .i64 2)],
 oL 88 87,
 oM 4 88,
 oR 5 .mov [.pv (.bool true)]] L56)
 (.ret)))),
 [.tmp 4, .tmp 5]⟩
def L57 : List Nat := [0, 2]
def c57 : CF := ⟨9,
 .seq (.region false [oR 2 .mov [.pv (.bool false)]] L57)
 (.seq (.region false [oM 3 0,
 oR 4 (.bin .geq) [.tmp 3, .pv (.int .i64 (-1000000000000000000))],
 oM 5 4,
 qM 5 true 6 0,
 qR 5 true 7 (.bin .leq) [.tmp 6, .pv (.int .i64 1000000000000000000)],
 oR 8 .pick [.tmp 5, .tmp 7, .pv (.bool false)],
 oM 2 8] L57)
 (.ret)),
 [.tmp 2]⟩
def L91 : List Nat := [0, 1, 4, 5, 6, 7, 8, 9, 19, 28, 32, 37]
def c91 : CF := ⟨43,
 .seq (.region false [oR 4 .mov [.pv (.int .i64 0)],
 oR 5 .mov [.pv (.bool false)]] L91)
 (.seq (.region false [oM 11 0,
 oC 12 110 [.tmp 11],
 oM 13 1,
 oC 14 110 [.tmp 13],
 oC 15 109 [.tmp 12, .tmp 14],
 oM 10 15,
 oT 16 (.ext 0) 10,
 oT 17 (.ext 1) 10,
 oM 6 16,
 oM 7 17] L91)
 (.seq (.seq (.region false [oM 18 6,
 oR 19 (.bin .geq) [.tmp 18, .pv (.int .u64 1000000)]] L91)
 (.cond (.tmp 19)
 (.seq (.region false [oR 4 .mov [.pv (.int .i64 0)],
 oR 5 .mov [.pv (.bool false)]] L91)
 (.ret))
 (.skip)))
 (.seq (.region false [oM 21 6,
 oM 22 7,
 oC 23 111 [.tmp 21, .tmp 22, .pv (.int .u64 1000000)],
 oM 20 23,
 oT 24 (.ext 0) 20,
 oT 25 (.ext 1) 20,
 oM 8 24,
 oM 9 25] L91)
 (.seq (.seq (.region false [oM 26 9,
 oR 27 (.bin .mul) [.pv (.int .u64 2), .tmp 26],
 oR 28 (.bin .geq) [.tmp 27, .pv (.int .u64 1000000)]] L91)
 (.cond (.tmp 28)
 (.region false [oM 29 8,
 oR 30 (.bin .add) [.tmp 29, .pv (.int .u64 1)],
 oM 8 30] L91)
 (.skip)))
 (.seq (.seq (.region false [oM 31 8,
 oR 32 (.bin .gtr) [.tmp 31, .pv (.int .u64 1000000000000000000)]] L91)
 (.cond (.tmp 32)
 (.seq (.region false [oR 4 .mov [.pv (.int .i64 0)],
 oR 5 .mov [.pv (.bool false)]] L91)
 (.ret))
 (.skip)))
 (.seq (.seq (.region false [oM 33 0,
 oR 34 (.bin .lss) [.tmp 33, .pv (.int .i64 0)],
 oM 35 1,
 oR 36 (.bin .lss) [.tmp 35, .pv (.int .i64 0)],
 oB 37 (.eqB true) 34 36] L91)
 (.cond (.tmp 37)
 (.seq (.region false [oM 38 8,
 oT 39 (.conv .i64) 38,
 oT 40 (.un .neg) 39,
 oM 4 40,
 oR 5 .mov [.pv (.bool true)]] L91)
 (.ret))
 (.skip)))
 (.seq (.region false [oM 41 8,
 oT 42 (.conv .i64) 41,
 oM 4 42,
 oR 5 .mov [.pv (.bool true)]] L91)
 (.ret)))))))),
 [.tmp 4, .tmp 5]⟩
def L92 : List Nat := [0, 2, 3]
def c92 : CF := ⟨4,
 .seq (.region false [oR 2 .mov [.pv (.int .i64 0)]] L92)
 (.seq (.seq (.region false [oM 3 0] L92)
 (.cond (.tmp 3)
 (.seq (.region false [oR 2 .mov [.pv (.int .i64 1000000)]] L92)
 (.ret))
 (.skip)))
 (.seq (.region false [oR 2 .mov [.pv (.int .i64 0)]] L92)
 (.ret))),
 [.tmp 2]⟩
def jXL : List Nat := [0, 1, 4, 5, 6, 7, 8, 9, 10, 11, 12, 13]
def c109 : CF := ⟨51,
 .seq (.region false [oR 4 .mov [.pv (.int .u64 0)],
 oR 5 .mov [.pv (.int .u64 0)]] jXL)
 (.seq (.region false [oM 14 0,
 oR 15 (.bin .and) [.tmp 14, .pv (.int .u64 4294967295)],
 oM 6 15] jXL)
 (.seq (.region false [oM 16 0,
 oR 17 (.bin .shr) [.tmp 16, .pv (.int .u64 32)],
 oM 7 17] jXL)
 (.seq (.region false [oM 18 1,
 oR 19 (.bin .and) [.tmp 18, .pv (.int .u64 4294967295)],
 oM 8 19] jXL)
 (.seq (.region false [oM 20 1,
 oR 21 (.bin .shr) [.tmp 20, .pv (.int .u64 32)],
 oM 9 21] jXL)
 (.seq (.region false [oM 22 6,
 oM 23 8,
 oB 24 (.bin .mul) 22 23,
 oM 10 24] jXL)
 (.seq (.region false [oM 25 7,
 oM 26 8,
 oB 27 (.bin .mul) 25 26,
 oM 28 10,
 oR 29 (.bin .shr) [.tmp 28, .pv (.int .u64 32)],
 oB 30 (.bin .add) 27 29,
 oM 11 30] jXL)
 (.seq (.region false [oM 31 11,
 oR 32 (.bin .and) [.tmp 31, .pv (.int .u64 4294967295)],
 oM 12 32] jXL)
 (.seq (.region false [oM 33 11,
 oR 34 (.bin .shr) [.tmp 33, .pv (.int .u64 32)],
 oM 13 34] jXL)
 (.seq (.region false [oM 35 12,
 oM 36 6,
 oM 37 9,
 oB 38 (.bin .mul) 36 37,
 oB 39 (.bin .add) 35 38,
 oM 12 39] jXL)
 (.seq (.region false [oM 40 7,
 oM 41 9,
 oB 42 (.bin .mul) 40 41,
 oM 43 13,
 oB 44 (.bin .add) 42 43,
 oM 45 12,
 oR 46 (.bin .shr) [.tmp 45, .pv (.int .u64 32)],
 oB 47 (.bin .add) 44 46,
 oM 4 47] jXL)
 (.seq (.region false [oM 48 0,
 oM 49 1,
 oB 50 (.bin .mul) 48 49,
 oM 5 50] jXL)
 (.ret)))))))))))),
 [.tmp 4, .tmp 5]⟩
def kKO : List Nat := [0, 2, 4]
def kPT : CF := ⟨10,
 .seq (.region false [oR 2 .mov [.pv (.int .u64 0)]] kKO)
 (.seq (.seq (.region false [oM 3 0,
 oR 4 (.bin .lss) [.tmp 3, .pv (.int .i64 0)]] kKO)
 (.cond (.tmp 4)
 (.seq (.region false [oM 5 0,
 oT 6 (.un .neg) 5,
 oT 7 (.conv .u64) 6,
 oM 2 7] kKO)
 (.ret))
 (.skip)))
 (.seq (.region false [oM 8 0,
 oT 9 (.conv .u64) 8,
 oM 2 9] kKO)
 (.ret))),
 [.tmp 2]⟩
def jHN : List Nat := [0, 1, 2, 6, 7, 8, 9, 10, 11, 12, 13, 14, 15, 16, 17, 18, 20, 24, 27, 78, 85, 113, 120]
def kPS : CF := ⟨135,
 .seq (.region false [oR 6 .mov [.pv (.int .u64 0)],
 oR 7 .mov [.pv (.int .u64 0)]] jHN)
 (.seq (.seq (.region false [oM 19 2,
 oR 20 (.bin .eql) [.tmp 19, .pv (.int .u64 0)]] jHN)
 (.cond (.tmp 20)
 (.region false [oR 21 (.load none) [.glob 3],
 ⟨none, none, .rd .dead [.tmp 21]⟩] jHN)
 (.skip)))
 (.seq (.seq (.region false [oM 22 2,
 oM 23 0,
 oB 24 (.bin .leq) 22 23] jHN)
 (.cond (.tmp 24)
 (.region false [oR 25 (.load none) [.glob 4],
 ⟨none, none, .rd .dead [.tmp 25]⟩] jHN)
 (.skip)))
 (.seq (.seq (.region false [oM 26 0,
 oR 27 (.bin .eql) [.tmp 26, .pv (.int .u64 0)]] jHN)
 (.cond (.tmp 27)
 (.seq (.region true [oM 28 1,
 oM 29 2,
 oB 30 (.bin .quo) 28 29,
 oM 31 1,
 oM 32 2,
 oB 33 (.bin .rem) 31 32,
 oM 6 30,
 oM 7 33] jHN)
 (.ret))
 (.skip)))
 (.seq (.region false [oM 34 2,
 oC 35 120 [.tmp 34],
 oT 36 (.conv .u64) 35,
 oM 8 36] jHN)
 (.seq (.region false [oM 37 2,
 oM 38 8,
 oB 39 (.bin .shl) 37 38,
 oM 2 39] jHN)
 (.seq (.region false [oM 40 2,
 oR 41 (.bin .shr) [.tmp 40, .pv (.int .u64 32)],
 oM 9 41] jHN)
 (.seq (.region false [oM 42 2,
 oR 43 (.bin .and) [.tmp 42, .pv (.int .u64 4294967295)],
 oM 10 43] jHN)
 (.seq (.region false [oM 44 0,
 oM 45 8,
 oB 46 (.bin .shl) 44 45,
 oM 47 1,
 oM 48 8,
 oR 49 (.bin .sub) [.pv (.int .u64 64), .tmp 48],
 oB 50 (.bin .shr) 47 49,
 oB 51 (.bin .or) 46 50,
 oM 11 51] jHN)
 (.seq (.region false [oM 52 1,
 oM 53 8,
 oB 54 (.bin .shl) 52 53,
 oM 12 54] jHN)
 (.seq (.region false [oM 55 12,
 oR 56 (.bin .shr) [.tmp 55, .pv (.int .u64 32)],
 oM 13 56] jHN)
 (.seq (.region false [oM 57 12,
 oR 58 (.bin .and) [.tmp 57, .pv (.int .u64 4294967295)],
 oM 14 58] jHN)
 (.seq (.region false [oM 59 11,
 oM 60 9,
 oB 61 (.bin .quo) 59 60,
 oM 15 61] jHN)
 (.seq (.region false [oM 62 11,
 oM 63 15,
 oM 64 9,
 oB 65 (.bin .mul) 63 64,
 oB 66 (.bin .sub) 62 65,
 oM 16 66] jHN)
 (.seq (.block 0
 (.loop
 (.seq (.seq (.region false [oM 67 15,
 oR 68 (.bin .geq) [.tmp 67, .pv (.int .u64 4294967296)],
 oM 69 68,
 qM 69 false 70 15,
 qM 69 false 71 10,
 qR 69 false 72 (.bin .mul) [.tmp 70, .tmp 71],
 qM 69 false 73 16,
 qR 69 false 74 (.bin .mul) [.pv (.int .u64 4294967296), .tmp 73],
 qM 69 false 75 13,
 qR 69 false 76 (.bin .add) [.tmp 74, .tmp 75],
 qR 69 false 77 (.bin .gtr) [.tmp 72, .tmp 76],
 oR 78 .pick [.tmp 69, .pv (.bool true), .tmp 77]] jHN)
 (.cond (.tmp 78)
 (.skip)
 (.exit 0)))
 (.block 1
 (.seq (.region false [oM 79 15,
 oR 80 (.bin .sub) [.tmp 79, .pv (.int .u64 1)],
 oM 15 80] jHN)
 (.seq (.region false [oM 81 16,
 oM 82 9,
 oB 83 (.bin .add) 81 82,
 oM 16 83] jHN)
 (.seq (.region false [oM 84 16,
 oR 85 (.bin .geq) [.tmp 84, .pv (.int .u64 4294967296)]] jHN)
 (.cond (.tmp 85)
 (.exit 0)
 (.skip)))))))))
 (.seq (.region false [oM 86 11,
 oR 87 (.bin .mul) [.tmp 86, .pv (.int .u64 4294967296)],
 oM 88 13,
 oB 89 (.bin .add) 87 88,
 oM 90 15,
 oM 91 2,
 oB 92 (.bin .mul) 90 91,
 oB 93 (.bin .sub) 89 92,
 oM 17 93] jHN)
 (.seq (.region false [oM 94 17,
 oM 95 9,
 oB 96 (.bin .quo) 94 95,
 oM 18 96] jHN)
 (.seq (.region false [oM 97 17,
 oM 98 18,
 oM 99 9,
 oB 100 (.bin .mul) 98 99,
 oB 101 (.bin .sub) 97 100,
 oM 16 101] jHN)
 (.seq (.block 2
 (.loop
 (.seq (.seq (.region false [oM 102 18,
 oR 103 (.bin .geq) [.tmp 102, .pv (.int .u64 4294967296)],
 oM 104 103,
 qM 104 false 105 18,
 qM 104 false 106 10,
 qR 104 false 107 (.bin .mul) [.tmp 105, .tmp 106],
 qM 104 false 108 16,
 qR 104 false 109 (.bin .mul) [.pv (.int .u64 4294967296), .tmp 108],
 qM 104 false 110 14,
 qR 104 false 111 (.bin .add) [.tmp 109, .tmp 110],
 qR 104 false 112 (.bin .gtr) [.tmp 107, .tmp 111],
 oR 113 .pick [.tmp 104, .pv (.bool true), .tmp 112]] jHN)
 (.cond (.tmp 113)
 (.skip)
 (.exit 2)))
 (.block 3
 (.seq (.region false [oM 114 18,
 oR 115 (.bin .sub) [.tmp 114, .pv (.int .u64 1)],
 oM 18 115] jHN)
 (.seq (.region false [oM 116 16,
 oM 117 9,
 oB 118 (.bin .add) 116 117,
 oM 16 118] jHN)
 (.seq (.region false [oM 119 16,
 oR 120 (.bin .geq) [.tmp 119, .pv (.int .u64 4294967296)]] jHN)
 (.cond (.tmp 120)
 (.exit 2)
 (.skip)))))))))
 (.seq (.region false [oM 121 15,
 oR 122 (.bin .mul) [.tmp 121, .pv (.int .u64 4294967296)],
 oM 123 18,
 oB 124 (.bin .add) 122 123,
 oM 125 17,
 oR 126 (.bin .mul) [.tmp 125, .pv (.int .u64 4294967296)],
 oM 127 14,
 oB 128 (.bin .add) 126 127,
 oM 129 18,
 oM 130 2,
 oB 131 (.bin .mul) 129 130,
 oB 132 (.bin .sub) 128 131,
 oM 133 8,
 oB 134 (.bin .shr) 132 133,
 oM 6 124,
 oM 7 134] jHN)
 (.ret)))))))))))))))))))),
 [.tmp 6, .tmp 7]⟩
def L88 : List Nat := [0, 2, 4, 8, 14]
def c88 : CF := ⟨25,
 .seq (.region false [oR 2 .mov [.pv (.int .i64 0)]] L88)
 (.seq (.seq (.region false [oM 3 0,
 oR 4 (.bin .geq) [.tmp 3, .pv (.int .u64 4294967296)]] L88)
 (.cond (.tmp 4)
 (.seq (.region false [oM 5 0,
 oR 6 (.bin .shr) [.tmp 5, .pv (.int .u64 32)],
 oM 0 6] L88)
 (.region false [oR 2 .mov [.pv (.int .i64 32)]] L88))
 (.skip)))
 (.seq (.seq (.region false [oM 7 0,
 oR 8 (.bin .geq) [.tmp 7, .pv (.int .u64 65536)]] L88)
 (.cond (.tmp 8)
 (.seq (.region false [oM 9 0,
 oR 10 (.bin .shr) [.tmp 9, .pv (.int .u64 16)],
 oM 0 10] L88)
 (.region false [oM 11 2,
 oR 12 (.bin .add) [.tmp 11, .pv (.int .i64 16)],
 oM 2 12] L88))
 (.skip)))
 (.seq (.seq (.region false [oM 13 0,
 oR 14 (.bin .geq) [.tmp 13, .pv (.int .u64 256)]] L88)
 (.cond (.tmp 14)
 (.seq (.region false [oM 15 0,
 oR 16 (.bin .shr) [.tmp 15, .pv (.int .u64 8)],
 oM 0 16] L88)
 (.region false [oM 17 2,
 oR 18 (.bin .add) [.tmp 17, .pv (.int .i64 8)],
 oM 2 18] L88))
 (.skip)))
 (.seq (.region false [oM 19 2,
 oM 20 0,
 oT 21 (.conv .u8) 20,
 oR 22 .jPD [.pv (.str [0, 1, 2, 2, 3, 3, 3, 3, 4, 4, 4, 4, 4, 4, 4, 4, 5, 5, 5, 5, 5, 5, 5, 5, 5, 5, 5, 5, 5, 5, 5, 5, 6, 6, 6, 6, 6, 6, 6, 6, 6, 6, 6, 6, 6, 6, 6, 6, 6, 6, 6, 6, 6, 6, 6, 6, 6, 6, 6, 6, 6, 6, 6, 6, 7, 7, 7, 7, 7, 7, 7, 7, 7, 7, 7, 7, 7, 7, 7, 7, 7, 7, 7, 7, 7, 7, 7, 7, 7, 7, 7, 7, 7, 7, 7, 7, 7, 7, 7, 7, 7, 7, 7, 7, 7, 7, 7, 7, 7, 7, 7, 7, 7, 7, 7, 7, 7, 7, 7, 7, 7, 7, 7, 7, 7, 7, 7, 7, 8, 8, 8, 8, 8, 8, 8, 8, 8, 8, 8, 8, 8, 8, 8, 8, 8, 8, 8, 8, 8, 8, 8, 8, 8, 8, 8, 8, 8, 8, 8, 8, 8, 8, 8, 8, 8, 8, 8, 8, 8, 8, 8, 8, 8, 8, 8, 8, 8, 8, 8, 8, 8, 8, 8, 8, 8, 8, 8, 8, 8, 8, 8, 8, 8, 8, 8, 8, 8, 8, 8, 8, 8, 8, 8, 8, 8, 8, 8, 8, 8, 8, 8, 8, 8, 8, 8, 8, 8, 8, 8, 8, 8, 8, 8, 8, 8, 8, 8, 8, 8, 8, 8, 8, 8, 8, 8, 8, 8, 8, 8, 8, 8, 8, 8, 8, 8, 8, 8, 8, 8, 8, 8, 8, 8, 8, 8, 8]), .tmp 21],
 oT 23 (.conv .i64) 22,
 oB 24 (.bin .add) 19 23,
 oM 2 24] L88)
 (.ret))))),
 [.tmp 2]⟩
def kN4 : List Nat := [0, 2]
def kPQ : CF := ⟨6,
 .seq (.region false [oR 2 .mov [.pv (.int .i64 0)]] kN4)
 (.seq (.region false [oM 3 0,
 oC 4 88 [.tmp 3],
 oR 5 (.bin .sub) [.pv (.int .i64 64), .tmp 4],
 oM 2 5] kN4)
 (.ret)),
 [.tmp 2]⟩
theorem k9 : jAD Tryz.prog [] L9 Tryz.f9 = some c9 := by kernel_rfl
theorem k27 : jAD Tryz.prog [] L27 Tryz.f27 = some c27 := by kernel_rfl
theorem k28 : jAD Tryz.prog [] L28 Tryz.f28 = some c28 := by kernel_rfl
theorem k29 : jAD Tryz.prog [] L29 Tryz.f29 = some c29 := by kernel_rfl
theorem k30 : jAD Tryz.prog [] L30 Tryz.f30 = some c30 := by kernel_rfl
theorem k31 : jAD Tryz.prog [] L31 Tryz.f31 = some c31 := by kernel_rfl
theorem k56 : jAD Tryz.prog [] L56 Tryz.f56 = some c56 := by kernel_rfl
theorem k57 : jAD Tryz.prog [] L57 Tryz.f57 = some c57 := by kernel_rfl
theorem k91 : jAD Tryz.prog [] L91 Tryz.f91 = some c91 := by kernel_rfl
theorem k92 : jAD Tryz.prog [] L92 Tryz.f92 = some c92 := by kernel_rfl
theorem kRI : jAD Tryz.prog [] jXL Tryz.f109 = some c109 := by kernel_rfl
theorem kRH : jAD Tryz.prog [] kKO Tryz.f110 = some kPT := by kernel_rfl
theorem kRG : jAD Tryz.prog [] jHN Tryz.f111 = some kPS := by kernel_rfl
theorem k88 : jAD Tryz.prog [] L88 Tryz.f88 = some c88 := by kernel_rfl
theorem kRE : jAD Tryz.prog [] kN4 Tryz.f120 = some kPQ := by kernel_rfl
end Go.Proofs.YthjkmhfiffojeaaGreatDoor
