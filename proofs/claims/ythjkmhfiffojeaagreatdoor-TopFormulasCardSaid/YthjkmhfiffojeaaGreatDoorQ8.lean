import Derived.Handy
import Derived.Test.YthjkmhfiffojeaaGreatDoorQ5
import Derived.Test.YthjkmhfiffojeaaGreatDoorQ6
import Derived.Test.YthjkmhfiffojeaaGreatDoorQ7
namespace Go.Proofs.YthjkmhfiffojeaaGreatDoor
open PG Go.Proofs
open Nat (reduceAdd reduceEqDiff)
def L12 : List Nat := [0, 2, 3, 4, 5, 6, 7, 8, 9, 10, 14, 23, 24, 25, 30]
def c12 : CF := ⟨45,
 .seq (.region false [oR 2 .mov [.pv .jAH],
 oR 3 .mov [.pv (.int .i64 0)]] L12)
 (.seq (.seq (.region false [oM 11 0,
 oC 12 33 [.tmp 11],
 oM 4 12] L12)
 (.seq (.region false [oM 13 4,
 oR 14 (.bin .neq) [.tmp 13, .pv (.int .i64 0)]] L12)
 (.cond (.tmp 14)
 (.seq (.region false [oM 15 4,
 oR 2 .mov [.pv .jAH],
 oM 3 15] L12)
 (.ret))
 (.skip))))
 (.seq (.region false [oM 16 0,
 oC 17 32 [.tmp 16],
 oM 18 0,
 oC 19 35 [.tmp 18],
 oE 5 (.alloc none .jA0) [],
 oS (.store none) [.tmp 5, .tmp 17],
 oM 6 19] L12)
 (.seq (.region false [oE 20 (.mmk .str) [],
 oE 7 (.alloc none .jA0) [],
 oS (.store none) [.tmp 7, .tmp 20]] L12)
 (.seq (.region false [oB 21 (.jTR 36 0) 5 7,
 oE 8 (.alloc none .nilFn) [],
 oS (.store none) [.tmp 8, .tmp 21]] L12)
 (.seq (.region false [oR 9 .mov [.pv .jAH]] L12)
 (.seq (.seq (.region false [oM 22 6,
 oT 23 .jCH 22,
 oR 24 .mov [.pv (.int .i64 0)]] L12)
 (.block 0
 (.loop
 (.seq (.region false [oB 25 (.bin .lss) 24 23] L12)
 (.seq (.cond (.tmp 25)
 (.skip)
 (.exit 0))
 (.seq (.block 1
 (.seq (.region false [oM 26 6,
 oR 27 (.jTR 38 0) [.tmp 7, .tmp 5, .tmp 8],
 oC 28 37 [.tmp 26, .tmp 27],
 oM 10 28] L12)
 (.seq (.seq (.region false [oM 29 10,
 oR 30 (.bin .lss) [.tmp 29, .pv (.int .i64 0)]] L12)
 (.cond (.tmp 30)
 (.seq (.region false [oR 2 .mov [.pv .jAH],
 oR 3 .mov [.pv (.int .i64 13)]] L12)
 (.ret))
 (.skip)))
 (.seq (.jB6 (.alt [oM 32 6,
 oM 33 10,
 oB 34 (.jAC none) 32 33]
 (.alt [oL 31 7,
 oL 35 34,
 oS (.jP1 .str) [.tmp 31, .tmp 35, .pv (.bool true)]]
 .done
 (.alt [oL 35 34,
 oL 31 7,
 oS (.jP1 .str) [.tmp 31, .tmp 35, .pv (.bool true)]]
 .done
 .stop))
 .stop) L12)
 (.region false [oM 36 9,
 oM 37 6,
 oM 38 10,
 oB 39 (.jAC none) 37 38,
 oL 40 39,
 oE 41 (.lit none false) [.tmp 40],
 oE 42 (.append none 16) [.tmp 36, .tmp 41],
 oM 9 42] L12)))))
 (.region false [oR 43 (.bin .add) [.tmp 24, .pv (.int .i64 1)],
 oM 24 43] L12)))))))
 (.seq (.region false [oM 44 9,
 oM 2 44,
 oR 3 .mov [.pv (.int .i64 0)]] L12)
 (.ret)))))))),
 [.tmp 2, .tmp 3]⟩
def L33 : List Nat := [0, 2, 3, 5, 8, 10, 11, 12, 13, 16, 21, 26, 39]
def c33 : CF := ⟨41,
 .seq (.region false [oR 2 .mov [.pv (.int .i64 0)]] L33)
 (.seq (.seq (.region false [oM 6 0,
 oT 7 .jCH 6,
 oR 8 (.bin .gtr) [.tmp 7, .pv (.int .i64 64)]] L33)
 (.cond (.tmp 8)
 (.seq (.region false [oR 2 .mov [.pv (.int .i64 5)]] L33)
 (.ret))
 (.skip)))
 (.seq (.region false [oE 9 (.mmk .str) [],
 oM 3 9] L33)
 (.seq (.seq (.region false [oM 10 0,
 oT 11 .jCH 10,
 oR 12 .mov [.pv (.int .i64 0)]] L33)
 (.block 0
 (.loop
 (.seq (.region false [oB 13 (.bin .lss) 12 11] L33)
 (.seq (.cond (.tmp 13)
 (.skip)
 (.exit 0))
 (.seq (.block 1
 (.seq (.region false [oB 14 (.jAC (some 2)) 10 12,
 oT 15 (.load (some 2)) 14,
 oE 5 (.alloc (some 2) (.agg [(.str []), .jAH])) [],
 oS (.store (some 2)) [.tmp 5, .tmp 15]] L33)
 (.seq (.block 2
 (.seq (.region false [oF 0 17 5,
 oL 18 17,
 oC 19 58 [.tmp 18],
 oT 20 (.un .not) 19,
 oM 16 20] L33)
 (.cond (.tmp 16)
 (.seq (.region false [oR 2 .mov [.pv (.int .i64 12)]] L33)
 (.ret))
 (.seq (.region false [oF 1 22 5,
 oL 23 22,
 oT 24 .jCH 23,
 oR 25 (.bin .gtr) [.tmp 24, .pv (.int .i64 64)],
 oM 21 25] L33)
 (.cond (.tmp 21)
 (.seq (.region false [oR 2 .mov [.pv (.int .i64 5)]] L33)
 (.ret))
 (.seq (.region false [oF 1 27 5,
 oL 28 27,
 oC 29 39 [.tmp 28, .pv (.fn 59 [] [])],
 oM 26 29] L33)
 (.cond (.tmp 26)
 (.seq (.region false [oR 2 .mov [.pv (.int .i64 12)]] L33)
 (.ret))
 (.skip))))))))
 (.seq (.region false [oM 30 3,
 oF 0 31 5,
 oL 32 31,
 oB 33 (.look .str false (.int .i64 0)) 30 32,
 oR 34 (.bin .add) [.tmp 33, .pv (.int .i64 1)],
 oS (.jP1 .str) [.tmp 30, .tmp 32, .tmp 34]] L33)
 (.seq (.region false [oM 35 3,
 oF 0 36 5,
 oL 37 36,
 oB 38 (.look .str false (.int .i64 0)) 35 37,
 oR 39 (.bin .gtr) [.tmp 38, .pv (.int .i64 1)]] L33)
 (.cond (.tmp 39)
 (.seq (.region false [oR 2 .mov [.pv (.int .i64 7)]] L33)
 (.ret))
 (.skip)))))))
 (.region false [oR 40 (.bin .add) [.tmp 12, .pv (.int .i64 1)],
 oM 12 40] L33)))))))
 (.seq (.region false [oR 2 .mov [.pv (.int .i64 0)]] L33)
 (.ret))))),
 [.tmp 2]⟩
def L32 : List Nat := [0, 2, 3, 5, 7, 8, 9, 10]
def c32 : CF := ⟨20,
 .seq (.region false [oR 2 .mov [.pv .jA0]] L32)
 (.seq (.region false [oE 6 (.mmk .str) [],
 oM 3 6] L32)
 (.seq (.seq (.region false [oM 7 0,
 oT 8 .jCH 7,
 oR 9 .mov [.pv (.int .i64 0)]] L32)
 (.block 0
 (.loop
 (.seq (.region false [oB 10 (.bin .lss) 9 8] L32)
 (.seq (.cond (.tmp 10)
 (.skip)
 (.exit 0))
 (.seq (.block 1
 (.seq (.region false [oB 11 (.jAC (some 2)) 7 9,
 oT 12 (.load (some 2)) 11,
 oE 5 (.alloc (some 2) (.agg [(.str []), .jAH])) [],
 oS (.store (some 2)) [.tmp 5, .tmp 12]] L32)
 (.region false [oM 13 3,
 oF 0 14 5,
 oL 15 14,
 oF 1 16 5,
 oL 17 16,
 oS (.jP1 .str) [.tmp 13, .tmp 15, .tmp 17]] L32)))
 (.region false [oR 18 (.bin .add) [.tmp 9, .pv (.int .i64 1)],
 oM 9 18] L32)))))))
 (.seq (.region false [oM 19 3,
 oM 2 19] L32)
 (.ret)))),
 [.tmp 2]⟩
def L35 : List Nat := [0, 2, 3, 5, 6, 7, 8, 9]
def c35 : CF := ⟨21,
 .seq (.region false [oR 2 .mov [.pv .jAH]] L35)
 (.seq (.region false [oR 3 .mov [.pv .jAH]] L35)
 (.seq (.seq (.region false [oM 6 0,
 oT 7 .jCH 6,
 oR 8 .mov [.pv (.int .i64 0)]] L35)
 (.block 0
 (.loop
 (.seq (.region false [oB 9 (.bin .lss) 8 7] L35)
 (.seq (.cond (.tmp 9)
 (.skip)
 (.exit 0))
 (.seq (.block 1
 (.seq (.region false [oB 10 (.jAC (some 2)) 6 8,
 oT 11 (.load (some 2)) 10,
 oE 5 (.alloc (some 2) (.agg [(.str []), .jAH])) [],
 oS (.store (some 2)) [.tmp 5, .tmp 11]] L35)
 (.region false [oM 12 3,
 oF 0 13 5,
 oL 14 13,
 oE 15 (.lit none false) [.tmp 14],
 oE 16 (.append none 16) [.tmp 12, .tmp 15],
 oM 3 16] L35)))
 (.region false [oR 17 (.bin .add) [.tmp 8, .pv (.int .i64 1)],
 oM 8 17] L35)))))))
 (.seq (.region false [oM 18 3,
 oC 19 25 [.tmp 18]] L35)
 (.seq (.region false [oM 20 3,
 oM 2 20] L35)
 (.ret))))),
 [.tmp 2]⟩
def L36 : List Nat := [0, 1, 2, 4, 6]
def c36 : CF := ⟨20,
 .seq (.region false [oR 4 .mov [.pv (.bool false)]] L36)
 (.seq (.region false [oL 8 1,
 oM 9 0,
 oB 10 (.look .str true .jAH) 8 9,
 oM 7 10,
 oT 11 (.ext 0) 7,
 oT 12 (.ext 1) 7,
 oM 5 11,
 oM 6 12] L36)
 (.seq (.region false [oM 13 6,
 oM 14 13,
 qL 14 true 15 2,
 qM 14 true 16 0,
 qR 14 true 17 (.look .str false (.bool false)) [.tmp 15, .tmp 16],
 qR 14 true 18 (.un .not) [.tmp 17],
 oR 19 .pick [.tmp 14, .tmp 18, .pv (.bool false)],
 oM 4 19] L36)
 (.ret))),
 [.tmp 4]⟩
def L37 : List Nat := [0, 1, 4, 5, 7, 8, 9, 16]
def c37 : CF := ⟨19,
 .seq (.region false [oR 4 .mov [.pv (.int .i64 0)]] L37)
 (.seq (.seq (.region false [oM 6 0,
 oT 7 .jCH 6,
 oR 8 .mov [.pv (.int .i64 0)]] L37)
 (.block 0
 (.loop
 (.seq (.region false [oB 9 (.bin .lss) 8 7] L37)
 (.seq (.cond (.tmp 9)
 (.skip)
 (.exit 0))
 (.seq (.block 1
 (.seq (.region false [oM 10 8,
 oM 5 10] L37)
 (.seq (.region false [oM 11 1,
 oM 12 0,
 oM 13 5,
 oB 14 (.jAC none) 12 13,
 oL 15 14,
 ⟨some 16, none, .call (.tmp 11) [.tmp 15]⟩] L37)
 (.cond (.tmp 16)
 (.seq (.region false [oM 17 5,
 oM 4 17] L37)
 (.ret))
 (.skip)))))
 (.region false [oR 18 (.bin .add) [.tmp 8, .pv (.int .i64 1)],
 oM 8 18] L37)))))))
 (.seq (.region false [oR 4 .mov [.pv (.int .i64 (-1))]] L37)
 (.ret))),
 [.tmp 4]⟩
def L38 : List Nat := [0, 1, 2, 3, 5]
def c38 : CF := ⟨18,
 .seq (.region false [oR 5 .mov [.pv (.bool false)]] L38)
 (.seq (.region false [oL 6 1,
 oM 7 0,
 oB 8 (.look .str false (.bool false)) 6 7,
 oT 9 (.un .not) 8,
 oM 10 9,
 qL 10 true 11 2,
 qM 10 true 12 0,
 qR 10 true 13 (.look .str false .jAH) [.tmp 11, .tmp 12],
 qL 10 true 14 3,
 ⟨some 15, some (10, true), .call (.pv (.fn 39 [] [])) [.tmp 13, .tmp 14]⟩,
 qR 10 true 16 (.un .not) [.tmp 15],
 oR 17 .pick [.tmp 10, .tmp 16, .pv (.bool false)],
 oM 5 17] L38)
 (.ret)),
 [.tmp 5]⟩
def L39 : List Nat := [0, 1, 4]
def c39 : CF := ⟨9,
 .seq (.region false [oR 4 .mov [.pv (.bool false)]] L39)
 (.seq (.region false [oM 5 0,
 oM 6 1,
 oC 7 37 [.tmp 5, .tmp 6],
 oR 8 (.bin .geq) [.tmp 7, .pv (.int .i64 0)],
 oM 4 8] L39)
 (.ret)),
 [.tmp 4]⟩
def L58 : List Nat := [0, 2]
def c58 : CF := ⟨10,
 .seq (.region false [oR 2 .mov [.pv (.bool false)]] L58)
 (.seq (.region false [oM 3 0,
 oR 4 (.bin .neq) [.tmp 3, .pv (.str [])],
 oM 5 4,
 qM 5 true 6 0,
 qR 5 true 7 .jLI [.tmp 6],
 qR 5 true 8 (.bin .leq) [.tmp 7, .pv (.int .i64 32)],
 oR 9 .pick [.tmp 5, .tmp 8, .pv (.bool false)],
 oM 2 9] L58)
 (.ret)),
 [.tmp 2]⟩
def L59 : List Nat := [0, 2]
def c59 : CF := ⟨6,
 .seq (.region false [oR 2 .mov [.pv (.bool false)]] L59)
 (.seq (.region false [oM 3 0,
 oC 4 58 [.tmp 3],
 oT 5 (.un .not) 4,
 oM 2 5] L59)
 (.ret)),
 [.tmp 2]⟩
def L11 : List Nat := [0, 1, 4, 5, 7, 8, 9, 10, 25]
def c11 : CF := ⟨34,
 .seq (.region false [oR 4 .mov [.pv .jAH]] L11)
 (.seq (.region false [oM 11 1,
 oC 12 32 [.tmp 11],
 oE 5 (.alloc none .jA0) [],
 oS (.store none) [.tmp 5, .tmp 12]] L11)
 (.seq (.seq (.region false [oL 14 5,
 oM 15 0,
 oB 16 (.look .str true .jAH) 14 15,
 oM 13 16,
 oT 17 (.ext 0) 13,
 oT 18 (.ext 1) 13,
 oM 6 17,
 oM 7 18] L11)
 (.seq (.region false [oM 19 7,
 oT 20 (.un .not) 19,
 oM 21 20,
 qM 21 false 22 1,
 ⟨some 23, some (21, false), .call (.pv (.fn 33 [] [])) [.tmp 22]⟩,
 qR 21 false 24 (.bin .neq) [.tmp 23, .pv (.int .i64 0)],
 oR 25 .pick [.tmp 21, .pv (.bool true), .tmp 24]] L11)
 (.cond (.tmp 25)
 (.seq (.region false [oR 4 .mov [.pv .jAH]] L11)
 (.ret))
 (.skip))))
 (.seq (.region false [oE 26 (.mmk .str) [],
 oE 8 (.alloc none .jA0) [],
 oS (.store none) [.tmp 8, .tmp 26]] L11)
 (.seq (.region false [oE 9 (.alloc none .jAH) []] L11)
 (.seq (.region false [oE 10 (.alloc none .nilFn) []] L11)
 (.seq (.region false [oR 27 (.jTR 34 0) [.tmp 5, .tmp 8, .tmp 9, .tmp 10],
 oS (.store none) [.tmp 10, .tmp 27]] L11)
 (.seq (.region false [oL 28 10,
 oM 29 0,
 ⟨some 30, none, .call (.tmp 28) [.tmp 29]⟩] L11)
 (.seq (.region false [oL 31 9,
 oC 32 25 [.tmp 31]] L11)
 (.seq (.region false [oL 33 9,
 oM 4 33] L11)
 (.ret)))))))))),
 [.tmp 4]⟩
def L34 : List Nat := [0, 1, 2, 3, 4, 7, 10, 11, 12, 13, 18]
def c34 : CF := ⟨29,
 .scope (.seq (.label)
 (.seq (.region false [oL 8 1,
 oM 9 0,
 oB 10 (.look .str false .jAH) 8 9,
 oT 11 .jCH 10,
 oR 12 .mov [.pv (.int .i64 0)]] L34)
 (.block 0
 (.loop
 (.seq (.region false [oB 13 (.bin .lss) 12 11] L34)
 (.seq (.cond (.tmp 13)
 (.skip)
 (.exit 0))
 (.seq (.block 1
 (.seq (.region false [oB 14 (.jAC none) 10 12,
 oL 15 14,
 oM 7 15] L34)
 (.seq (.seq (.region false [oL 16 2,
 oM 17 7,
 oB 18 (.look .str false (.bool false)) 16 17] L34)
 (.cond (.tmp 18)
 (.exit 1)
 (.skip)))
 (.seq (.region false [oL 19 2,
 oM 20 7,
 oS (.jP1 .str) [.tmp 19, .tmp 20, .pv (.bool true)]] L34)
 (.seq (.region false [oL 21 3,
 oM 22 7,
 oE 23 (.lit none false) [.tmp 22],
 oE 24 (.append none 16) [.tmp 21, .tmp 23],
 oS (.store none) [.tmp 3, .tmp 24]] L34)
 (.region false [oL 25 4,
 oM 26 7,
 ⟨some 27, none, .call (.tmp 25) [.tmp 26]⟩] L34))))))
 (.region false [oR 28 (.bin .add) [.tmp 12, .pv (.int .i64 1)],
 oM 12 28] L34)))))))),
 []⟩
def L13 : List Nat := [0, 1, 4, 5, 6, 7, 8, 9, 10, 12, 13, 14, 26, 30, 31, 32, 33, 42, 44, 48, 49, 50, 51, 67]
def c13 : CF := ⟨69,
 .seq (.region false [oR 4 .mov [.pv (.bool false)]] L13)
 (.seq (.seq (.region false [oM 15 1,
 oC 16 33 [.tmp 15],
 oR 17 (.bin .neq) [.tmp 16, .pv (.int .i64 0)],
 oM 18 17,
 qM 18 false 19 0,
 ⟨some 20, some (18, false), .call (.pv (.fn 42 [] [])) [.tmp 19]⟩,
 ⟨some 21, some (18, false), .call (.pv (.fn 41 [] [])) [.tmp 20]⟩,
 qM 18 false 22 1,
 ⟨some 23, some (18, false), .call (.pv (.fn 35 [] [])) [.tmp 22]⟩,
 ⟨some 24, some (18, false), .call (.pv (.fn 40 [] [])) [.tmp 21, .tmp 23]⟩,
 qR 18 false 25 (.un .not) [.tmp 24],
 oR 26 .pick [.tmp 18, .pv (.bool true), .tmp 25]] L13)
 (.cond (.tmp 26)
 (.seq (.region false [oR 4 .mov [.pv (.bool false)]] L13)
 (.ret))
 (.skip)))
 (.seq (.region false [oM 27 1,
 oC 28 32 [.tmp 27],
 oM 5 28] L13)
 (.seq (.region false [oE 29 (.mmk .str) [],
 oM 6 29] L13)
 (.seq (.seq (.region false [oM 30 0,
 oT 31 .jCH 30,
 oR 32 .mov [.pv (.int .i64 0)]] L13)
 (.block 0
 (.loop
 (.seq (.region false [oB 33 (.bin .lss) 32 31] L13)
 (.seq (.cond (.tmp 33)
 (.skip)
 (.exit 0))
 (.seq (.block 1
 (.seq (.region false [oM 34 32,
 oB 35 (.jAC none) 30 32,
 oL 36 35,
 oM 7 34,
 oM 8 36] L13)
 (.region false [oM 37 6,
 oM 38 8,
 oM 39 7,
 oS (.jP1 .str) [.tmp 37, .tmp 38, .tmp 39]] L13)))
 (.region false [oR 40 (.bin .add) [.tmp 32, .pv (.int .i64 1)],
 oM 32 40] L13)))))))
 (.seq (.seq (.region false [oM 41 5,
 oE 42 (.rng .str) [.tmp 41]] L13)
 (.block 2
 (.loop
 (.seq (.region false [oE 43 .nxt [.tmp 42],
 oT 44 (.ext 0) 43] L13)
 (.seq (.cond (.tmp 44)
 (.skip)
 (.exit 2))
 (.block 3
 (.seq (.region false [oE 45 .ent [.tmp 42],
 oT 46 (.ext 0) 45,
 oT 47 (.ext 1) 45,
 oM 9 46,
 oM 10 47] L13)
 (.seq (.region false [oM 48 10,
 oT 49 .jCH 48,
 oR 50 .mov [.pv (.int .i64 0)]] L13)
 (.block 4
 (.loop
 (.seq (.region false [oB 51 (.bin .lss) 50 49] L13)
 (.seq (.cond (.tmp 51)
 (.skip)
 (.exit 4))
 (.seq (.block 5
 (.seq (.region false [oB 52 (.jAC none) 48 50,
 oL 53 52,
 oM 12 53] L13)
 (.seq (.region false [oM 55 6,
 oM 56 12,
 oB 57 (.look .str true (.int .i64 0)) 55 56,
 oM 54 57,
 oT 58 (.ext 0) 54,
 oT 59 (.ext 1) 54,
 oM 13 58,
 oM 14 59] L13)
 (.seq (.region false [oM 60 14,
 oM 61 60,
 qM 61 true 62 13,
 qM 61 true 63 6,
 qM 61 true 64 9,
 qR 61 true 65 (.look .str false (.int .i64 0)) [.tmp 63, .tmp 64],
 qR 61 true 66 (.bin .geq) [.tmp 62, .tmp 65],
 oR 67 .pick [.tmp 61, .tmp 66, .pv (.bool false)]] L13)
 (.cond (.tmp 67)
 (.seq (.region false [oR 4 .mov [.pv (.bool false)]] L13)
 (.ret))
 (.skip))))))
 (.region false [oR 68 (.bin .add) [.tmp 50, .pv (.int .i64 1)],
 oM 50 68] L13))))))))))))))
 (.seq (.region false [oR 4 .mov [.pv (.bool true)]] L13)
 (.ret))))))),
 [.tmp 4]⟩
def L14 : List Nat := [0, 2, 3, 4, 5, 7, 8, 9, 12, 17, 18, 19, 20, 41]
def c14 : CF := ⟨48,
 .seq (.region false [oR 2 .mov [.pv .jAH]] L14)
 (.seq (.seq (.region false [oM 10 0,
 oC 11 33 [.tmp 10],
 oR 12 (.bin .neq) [.tmp 11, .pv (.int .i64 0)]] L14)
 (.cond (.tmp 12)
 (.seq (.region false [oR 2 .mov [.pv .jAH]] L14)
 (.ret))
 (.skip)))
 (.seq (.region false [oM 13 0,
 oC 14 32 [.tmp 13],
 oM 15 0,
 oC 16 35 [.tmp 15],
 oM 3 14,
 oM 4 16] L14)
 (.seq (.region false [oR 5 .mov [.pv .jAH]] L14)
 (.seq (.seq (.region false [oM 17 4,
 oT 18 .jCH 17,
 oR 19 .mov [.pv (.int .i64 0)]] L14)
 (.block 0
 (.loop
 (.seq (.region false [oB 20 (.bin .lss) 19 18] L14)
 (.seq (.cond (.tmp 20)
 (.skip)
 (.exit 0))
 (.seq (.block 1
 (.seq (.region false [oB 21 (.jAC none) 17 19,
 oL 22 21,
 oM 7 22] L14)
 (.seq (.region false [oM 23 3,
 oM 24 4,
 oM 25 7,
 oC 26 43 [.tmp 23, .tmp 24, .tmp 25],
 oM 8 26] L14)
 (.seq (.region false [oM 27 8,
 oM 28 7,
 oB 29 (.look .str false (.int .i64 0)) 27 28,
 oM 9 29] L14)
 (.seq (.region false [oM 30 9,
 oR 31 (.bin .gtr) [.tmp 30, .pv (.int .i64 0)],
 oM 32 31,
 qM 32 true 33 5,
 qR 32 true 34 (.jI1 false 0) [.tmp 33, .pv .jAH],
 qM 32 true 35 34,
 qM 35 false 36 9,
 qM 35 false 37 5,
 qR 35 false 38 .jCH [.tmp 37],
 qR 35 false 39 (.bin .lss) [.tmp 36, .tmp 38],
 qR 32 true 40 .pick [.tmp 35, .pv (.bool true), .tmp 39],
 oR 41 .pick [.tmp 32, .tmp 40, .pv (.bool false)]] L14)
 (.cond (.tmp 41)
 (.region false [oM 42 3,
 oM 43 8,
 oM 44 7,
 oC 45 44 [.tmp 42, .tmp 43, .tmp 44],
 oM 5 45] L14)
 (.skip)))))))
 (.region false [oR 46 (.bin .add) [.tmp 19, .pv (.int .i64 1)],
 oM 19 46] L14)))))))
 (.seq (.region false [oM 47 5,
 oM 2 47] L14)
 (.ret)))))),
 [.tmp 2]⟩
def L43 : List Nat := [0, 1, 2, 5, 6, 7, 8, 9, 11, 13, 18, 21, 22, 23, 24, 35, 40, 46, 47, 48, 49, 56]
def c43 : CF := ⟨58,
 .seq (.region false [oE 5 (.box none) [.tmp 2],
 oR 6 .mov [.pv .jA0]] L43)
 (.seq (.region false [oE 14 (.mmk .str) [],
 oE 7 (.alloc none .jA0) [],
 oS (.store none) [.tmp 7, .tmp 14]] L43)
 (.seq (.seq (.region false [oE 8 (.alloc none (.int .i64 0)) [],
 oS (.store none) [.tmp 8, .pv (.int .i64 1)]] L43)
 (.block 0
 (.loop
 (.seq (.seq (.region false [oL 15 8,
 oM 16 1,
 oT 17 .jCH 16,
 oB 18 (.bin .leq) 15 17] L43)
 (.cond (.tmp 18)
 (.skip)
 (.exit 0)))
 (.seq (.block 1
 (.seq (.region false [oR 9 .mov [.pv .jAH]] L43)
 (.seq (.seq (.region false [oM 21 1,
 oT 22 .jCH 21,
 oR 23 .mov [.pv (.int .i64 0)]] L43)
 (.block 2
 (.loop
 (.seq (.region false [oB 24 (.bin .lss) 23 22] L43)
 (.seq (.cond (.tmp 24)
 (.skip)
 (.exit 2))
 (.seq (.block 3
 (.seq (.region false [oB 25 (.jAC none) 21 23,
 oL 26 25,
 oM 11 26] L43)
 (.seq (.seq (.region false [oL 27 7,
 oM 28 11,
 oB 29 (.look .str false (.int .i64 0)) 27 28,
 oR 30 (.bin .gtr) [.tmp 29, .pv (.int .i64 0)],
 oM 31 30,
 qM 31 false 32 11,
 qL 31 false 33 5,
 qR 31 false 34 (.bin .lss) [.tmp 32, .tmp 33],
 oR 35 .pick [.tmp 31, .pv (.bool true), .tmp 34]] L43)
 (.cond (.tmp 35)
 (.exit 3)
 (.skip)))
 (.seq (.region false [oM 36 0,
 oM 37 11,
 oB 38 (.look .str false .jAH) 36 37,
 oR 39 (.jTR 62 0) [.tmp 8, .tmp 5, .tmp 7],
 oC 40 39 [.tmp 38, .tmp 39]] L43)
 (.cond (.tmp 40)
 (.region false [oM 41 9,
 oM 42 11,
 oE 43 (.lit none false) [.tmp 42],
 oE 44 (.append none 16) [.tmp 41, .tmp 43],
 oM 9 44] L43)
 (.skip))))))
 (.region false [oR 45 (.bin .add) [.tmp 23, .pv (.int .i64 1)],
 oM 23 45] L43)))))))
 (.seq (.region false [oM 46 9,
 oT 47 .jCH 46,
 oR 48 .mov [.pv (.int .i64 0)]] L43)
 (.block 4
 (.loop
 (.seq (.region false [oB 49 (.bin .lss) 48 47] L43)
 (.seq (.cond (.tmp 49)
 (.skip)
 (.exit 4))
 (.seq (.block 5
 (.seq (.region false [oB 50 (.jAC none) 46 48,
 oL 51 50,
 oM 13 51] L43)
 (.region false [oL 52 7,
 oM 53 13,
 oL 54 8,
 oS (.jP1 .str) [.tmp 52, .tmp 53, .tmp 54]] L43)))
 (.region false [oR 55 (.bin .add) [.tmp 48, .pv (.int .i64 1)],
 oM 48 55] L43))))))))))
 (.seq (.seq (.region false [oL 56 8] L43)
 (.region false [oE 8 (.alloc none (.int .i64 0)) [],
 oS (.store none) [.tmp 8, .tmp 56]] L43))
 (.region false [oL 19 8,
 oR 20 (.bin .add) [.tmp 19, .pv (.int .i64 1)],
 oS (.store none) [.tmp 8, .tmp 20]] L43)))))))
 (.seq (.region false [oL 57 7,
 oM 6 57] L43)
 (.ret)))),
 [.tmp 6]⟩
def L62 : List Nat := [0, 1, 2, 3, 5]
def c62 : CF := ⟨35,
 .seq (.region false [oR 5 .mov [.pv (.bool false)]] L62)
 (.seq (.region false [oL 6 1,
 oR 7 (.bin .eql) [.tmp 6, .pv (.int .i64 1)],
 oM 8 7,
 qM 8 true 9 0,
 qL 8 true 10 2,
 qR 8 true 11 (.bin .eql) [.tmp 9, .tmp 10],
 oR 12 .pick [.tmp 8, .tmp 11, .pv (.bool false)],
 oM 13 12,
 qL 13 false 14 1,
 qR 13 false 15 (.bin .gtr) [.tmp 14, .pv (.int .i64 1)],
 qM 13 false 16 15,
 qM 16 true 17 0,
 qL 16 true 18 2,
 qR 16 true 19 (.bin .geq) [.tmp 17, .tmp 18],
 qR 13 false 20 .pick [.tmp 16, .tmp 19, .pv (.bool false)],
 qM 13 false 21 20,
 qM 21 true 22 0,
 qL 21 true 23 2,
 qR 21 true 24 (.bin .neq) [.tmp 22, .tmp 23],
 qR 13 false 25 .pick [.tmp 21, .tmp 24, .pv (.bool false)],
 qM 13 false 26 25,
 qL 26 true 27 3,
 qM 26 true 28 0,
 qR 26 true 29 (.look .str false (.int .i64 0)) [.tmp 27, .tmp 28],
 qL 26 true 30 1,
 qR 26 true 31 (.bin .sub) [.tmp 30, .pv (.int .i64 1)],
 qR 26 true 32 (.bin .eql) [.tmp 29, .tmp 31],
 qR 13 false 33 .pick [.tmp 26, .tmp 32, .pv (.bool false)],
 oR 34 .pick [.tmp 13, .pv (.bool true), .tmp 33],
 oM 5 34] L62)
 (.ret)),
 [.tmp 5]⟩
def L40 : List Nat := [0, 1, 4, 5, 10, 12, 13, 14, 24]
def c40 : CF := ⟨26,
 .seq (.region false [oR 4 .mov [.pv (.bool false)]] L40)
 (.seq (.seq (.region false [oM 6 0,
 oT 7 .jCH 6,
 oM 8 1,
 oT 9 .jCH 8,
 oB 10 (.bin .neq) 7 9] L40)
 (.cond (.tmp 10)
 (.seq (.region false [oR 4 .mov [.pv (.bool false)]] L40)
 (.ret))
 (.skip)))
 (.seq (.seq (.region false [oM 11 0,
 oT 12 .jCH 11,
 oR 13 .mov [.pv (.int .i64 0)]] L40)
 (.block 0
 (.loop
 (.seq (.region false [oB 14 (.bin .lss) 13 12] L40)
 (.seq (.cond (.tmp 14)
 (.skip)
 (.exit 0))
 (.seq (.block 1
 (.seq (.region false [oM 15 13,
 oM 5 15] L40)
 (.seq (.region true [oM 16 0,
 oM 17 5,
 oB 18 (.jAC none) 16 17,
 oL 19 18,
 oM 20 1,
 oM 21 5,
 oB 22 (.jAC none) 20 21,
 oL 23 22,
 oB 24 (.bin .neq) 19 23] L40)
 (.cond (.tmp 24)
 (.seq (.region false [oR 4 .mov [.pv (.bool false)]] L40)
 (.ret))
 (.skip)))))
 (.region false [oR 25 (.bin .add) [.tmp 13, .pv (.int .i64 1)],
 oM 13 25] L40)))))))
 (.seq (.region false [oR 4 .mov [.pv (.bool true)]] L40)
 (.ret)))),
 [.tmp 4]⟩
def L41 : List Nat := [0, 2, 3]
def c41 : CF := ⟨9,
 .seq (.region false [oR 2 .mov [.pv .jAH]] L41)
 (.seq (.region false [oM 4 0,
 oC 5 60 [.tmp 4],
 oM 3 5] L41)
 (.seq (.region false [oM 6 3,
 oC 7 25 [.tmp 6]] L41)
 (.seq (.region false [oM 8 3,
 oM 2 8] L41)
 (.ret)))),
 [.tmp 2]⟩
def L42 : List Nat := [0, 1, 2]
def c42 : CF := ⟨4,
 .seq (.region false [oE 1 (.box none) [.tmp 0],
 oR 2 .mov [.pv .nilFn]] L42)
 (.seq (.region false [oT 3 (.jTR 61 0) 1,
 oM 2 3] L42)
 (.ret)),
 [.tmp 2]⟩
def L60 : List Nat := [0, 2]
def c60 : CF := ⟨5,
 .seq (.region false [oR 2 .mov [.pv .jAH]] L60)
 (.seq (.region false [oM 3 0,
 oC 4 93 [.pv .jAH, .tmp 3],
 oM 2 4] L60)
 (.ret)),
 [.tmp 2]⟩
theorem k12 : jAD Tryz.prog [] L12 Tryz.f12 = some c12 := by kernel_rfl
theorem k33 : jAD Tryz.prog [] L33 Tryz.f33 = some c33 := by kernel_rfl
theorem k32 : jAD Tryz.prog [] L32 Tryz.f32 = some c32 := by kernel_rfl
theorem k35 : jAD Tryz.prog [] L35 Tryz.f35 = some c35 := by kernel_rfl
theorem k36 : jAD Tryz.prog [] L36 Tryz.f36 = some c36 := by kernel_rfl
theorem k37 : jAD Tryz.prog [] L37 Tryz.f37 = some c37 := by kernel_rfl
theorem k38 : jAD Tryz.prog [] L38 Tryz.f38 = some c38 := by kernel_rfl
theorem k39 : jAD Tryz.prog [] L39 Tryz.f39 = some c39 := by kernel_rfl
theorem k58 : jAD Tryz.prog [] L58 Tryz.f58 = some c58 := by kernel_rfl
theorem k59 : jAD Tryz.prog [] L59 Tryz.f59 = some c59 := by kernel_rfl
theorem k11 : jAD Tryz.prog [] L11 Tryz.f11 = some c11 := by kernel_rfl
theorem k34 : jAD Tryz.prog [] L34 Tryz.f34 = some c34 := by kernel_rfl
theorem k13 : jAD Tryz.prog [] L13 Tryz.f13 = some c13 := by kernel_rfl
theorem k14 : jAD Tryz.prog [] L14 Tryz.f14 = some c14 := by kernel_rfl
theorem k43 : jAD Tryz.prog [] L43 Tryz.f43 = some c43 := by kernel_rfl
theorem k62 : jAD Tryz.prog [] L62 Tryz.f62 = some c62 := by kernel_rfl
theorem k40 : jAD Tryz.prog [] L40 Tryz.f40 = some c40 := by kernel_rfl
theorem k41 : jAD Tryz.prog [] L41 Tryz.f41 = some c41 := by kernel_rfl
theorem k42 : jAD Tryz.prog [] L42 Tryz.f42 = some c42 := by kernel_rfl
theorem k60 : jAD Tryz.prog [] L60 Tryz.f60 = some c60 := by kernel_rfl
open Go PG Go.Proofs
set_option linter.unusedSimpArgs false
set_option linter.unusedVariables false
set_option maxHeartbeats 1000000
set_option maxRecDepth 100000
section
theorem mix : Tryz.prog.follows .mixedOrders = true := by kernel_rfl
variable {G : jA3}
def jAE (b : UInt8) : Bool := decide (48 <= (b.toNat : Int)) && decide ((b.toNat : Int) <= 57)
def jC4 (b : UInt8) : Bool := decide (97 <= (b.toNat : Int)) && decide ((b.toNat : Int) <= 122)
def jB2 (b : UInt8) : Bool := jC4 b || jAE b || decide ((b.toNat : Int) = 46) || decide ((b.toNat : Int) = 95) || decide ((b.toNat : Int) = 58)
theorem E66 : Ent Tryz.prog 66 := ⟨Tryz.f66, Tryz.func66, by kernel_rfl, by kernel_rfl⟩
theorem E64 : Ent Tryz.prog 64 := ⟨Tryz.f64, Tryz.func64, by kernel_rfl, by kernel_rfl⟩
theorem E90 : Ent Tryz.prog 90 := ⟨Tryz.f90, Tryz.func90, by kernel_rfl, by kernel_rfl⟩
theorem E89 : Ent Tryz.prog 89 := ⟨Tryz.f89, Tryz.func89, by kernel_rfl, by kernel_rfl⟩
theorem E55 : Ent Tryz.prog 55 := ⟨Tryz.f55, Tryz.func55, by kernel_rfl, by kernel_rfl⟩
theorem V66 (b : UInt8) : jAB Tryz.prog G 66 [.int .u8 b.toNat] (.bool (jAE b)) := by
 refine jAB.jAT Tryz.func66 k66 mix (by simp [c66]) ?_
 simp only [c66, L66, CC, jBW]
 repeat' (first | exact clo | (refine sqI ?_; intros) | refine stp ?_ | (refine cnd rfl ?_ ?_ <;> intro hcond <;> (try contradiction) <;> try simp only [DD] at hcond) | (refine jAG ?_; intro hg; try simp only [hg]) | (refine saI ?_ ?_; intros) | (refine ari ?_; first | omega | (simp only [DD, LL] <;> omega) | (go_unwrap; omega) | (simp only [DD] at hg; omega)) | (refine stq ?_; focus (simp only [SA, reduceAdd, reduceIte, reduceEqDiff, Nat.reduceBEq, reduceCtorEq]; (try go_unwrap; try simp only [RR, reduceCtorEq]))) | refine And.intro ?_ ?_)
 simp [jAE]
theorem V64 (b : UInt8) : jAB Tryz.prog G 64 [.int .u8 b.toNat] (.bool (jC4 b)) := by
 refine jAB.jAT Tryz.func64 k64 mix (by simp [c64]) ?_
 simp only [c64, L64, CC, jBW]
 repeat' (first | exact clo | (refine sqI ?_; intros) | refine stp ?_ | (refine cnd rfl ?_ ?_ <;> intro hcond <;> (try contradiction) <;> try simp only [DD] at hcond) | (refine jAG ?_; intro hg; try simp only [hg]) | (refine saI ?_ ?_; intros) | (refine ari ?_; first | omega | (simp only [DD, LL] <;> omega) | (go_unwrap; omega) | (simp only [DD] at hg; omega)) | (refine stq ?_; focus (simp only [SA, reduceAdd, reduceIte, reduceEqDiff, Nat.reduceBEq, reduceCtorEq]; (try go_unwrap; try simp only [RR, reduceCtorEq]))) | refine And.intro ?_ ?_)
 simp [jC4]
theorem V90 (b : UInt8) : jAB Tryz.prog G 90 [.int .u8 b.toNat] (.bool (jB2 b)) := by
 refine jAB.jAT Tryz.func90 k90 mix (by simp [c90]) ?_
 simp only [c90, L90, CC, jBW]
 repeat' (first | exact clo | (refine sqI ?_; intros) | refine stp ?_ | (refine cnd rfl ?_ ?_ <;> intro hcond <;> (try contradiction) <;> try simp only [DD] at hcond) | (refine jAG ?_; intro hg; try simp only [hg]) | refine jAY E66 (V66 b) ?_ ?_ ?_ ?_ ?_ | refine jAA E64 (V64 b) ?_ ?_ ?_ ?_ | (refine saI ?_ ?_; intros) | (refine ari ?_; first | omega | (simp only [DD, LL] <;> omega) | (go_unwrap; omega) | (simp only [DD] at hg; omega)) | (refine stq ?_; focus (simp only [SA, reduceAdd, reduceIte, reduceEqDiff, Nat.reduceBEq, reduceCtorEq]; (try go_unwrap; try simp only [RR, reduceCtorEq]))) | refine And.intro ?_ ?_)
 try simp [jB2]
def jA8 (p : UInt8 -> Bool) : List UInt8 -> Nat
 | [] => 0
 | b :: l => if p b then jA8 p l + 1 else 0
theorem jDH (p : UInt8 -> Bool) (l : List UInt8) : jA8 p l <= l.length := by
 induction l with
 | nil => simp [jA8]
 | cons b l ih => simp only [jA8, List.length_cons]; split <;> omega
theorem kA4 {p : UInt8 -> Bool} {s : List UInt8} {i : Nat} (h : i < s.length) (hp : p (s.getD i 0) = true) : jA8 p (s.drop i) = jA8 p (s.drop (i + 1)) + 1 := by
 rw [List.drop_eq_getElem_cons h]
 have e : s.getD i 0 = s[i] := by simp [List.getD, h]
 rw [e] at hp
 simp [jA8, hp]
theorem kA0 {p : UInt8 -> Bool} {s : List UInt8} {i : Nat} (h : i < s.length -> p (s.getD i 0) = false) : jA8 p (s.drop i) = 0 := by
 rcases Nat.lt_or_ge i s.length with hi | hi
 ·have hp := h hi
  rw [List.drop_eq_getElem_cons hi]
  have e : s.getD i 0 = s[i] := by simp [List.getD, hi]
  rw [e] at hp
  simp [jA8, hp]
 ·rw [List.drop_eq_nil_of_le hi]; rfl
theorem V89 (s : List UInt8) (at_ k : Nat) (p : UInt8 -> Bool) (hs : s.length <= 9223372036854775806) (hat : at_ <= s.length) (hE : Ent Tryz.prog k)
  (hp : ∀ b : UInt8, jAB Tryz.prog G k [.int .u8 b.toNat] (.bool (p b))) : jAB Tryz.prog G 89 [.str s, .int .i64 at_, .fn k [] []] (.int .i64 (jA8 p (s.drop at_))) := by
 refine jAB.jAT Tryz.func89 k89 mix (by simp [c89]) ?_
 simp only [c89, L89, CC, jBW]
 repeat' (first | exact clo | (refine sqI ?_; intros) | refine stp ?_ | (refine cnd rfl ?_ ?_ <;> intro hcond <;> (try contradiction) <;> try simp only [DD] at hcond) | (refine jAG ?_; intro hg; try simp only [hg]) | (refine saI ?_ ?_; intros) | (refine ari ?_; first | omega | (simp only [DD, LL] <;> omega) | (go_unwrap; omega) | (simp only [DD] at hg; omega)) | (refine stq ?_; focus (simp only [SA, reduceAdd, reduceIte, reduceEqDiff, Nat.reduceBEq, reduceCtorEq]; (try go_unwrap; try simp only [RR, reduceCtorEq]))) | refine And.intro ?_ ?_)
 refine PW.loop (σ := Nat) [0, 1, 2, 7] (fun j => [.str s, .int .i64 at_, .fn k [] [], .int .i64 j]) (fun _ => []) (fun j => at_ + j <= s.length ∧ jA8 p (s.drop at_) = j + jA8 p (s.drop (at_ + j))) (fun j => s.length - j) 0 ?_ rfl ⟨by omega, by simp⟩ ?_
 ·simp only [SA, reduceAdd, reduceIte, reduceEqDiff, Nat.reduceBEq, reduceCtorEq]; rfl
 rintro j ⟨hj, hr⟩
 simp only [List.zip_cons_cons, List.zip_nil_left]
 repeat' (first | exact clo | (refine sqI ?_; intros) | refine stp ?_ | (refine cnd rfl ?_ ?_ <;> intro hcond <;> (try contradiction) <;> try simp only [DD] at hcond) | (apply jY1 hE (fun h => h); (case hV => (intro hg; simp only [hg, SA, reduceAdd, reduceIte, reduceEqDiff, Nat.reduceBEq, reduceCtorEq]; (try go_unwrap; try simp only [RR, reduceCtorEq]); exact hp _)); (case hok => (intro hg; first | (simp only [hg, SA, reduceAdd, reduceIte, reduceEqDiff, Nat.reduceBEq, reduceCtorEq]; done) | (simp_all [jCQ, PV.jBM]; done))); (case hs => (intro hg; simp only [hg, SA, reduceAdd, reduceIte, reduceEqDiff, Nat.reduceBEq, reduceCtorEq])); (case hf => first | rfl | simp only [SA, reduceAdd, reduceIte, reduceEqDiff, Nat.reduceBEq, reduceCtorEq]); (simp only [SA, reduceAdd, reduceIte, reduceEqDiff, Nat.reduceBEq, reduceCtorEq]; (try go_unwrap; try simp only [RR, reduceCtorEq]))) | (refine jAG ?_; intro hg; try simp only [hg]) | (refine saI ?_ ?_; intros) | (refine ari ?_; first | omega | (simp only [DD, LL] <;> omega) | (go_unwrap; omega) | (simp only [DD] at hg; omega)) | (refine stq ?_; focus (simp only [SA, reduceAdd, reduceIte, reduceEqDiff, Nat.reduceBEq, reduceCtorEq]; (try go_unwrap; try simp only [RR, reduceCtorEq]))) | refine And.intro ?_ ?_)
 ·rcases Nat.lt_or_ge (at_ + j) s.length with h | h
  ·have hd : decide ((at_ : Int) + j < s.length) = true := by simp only [decide_eq_true_eq]; omega
   rw [hd] at hcond
   have hs1 := kA4 (p := p) h hcond
   refine ⟨j + 1, ?_, ⟨by omega, by rw [hr, hs1, Nat.add_assoc]; omega⟩, by omega⟩
   rfl
  ·have hd : decide ((at_ : Int) + j < s.length) = false := by simp only [decide_eq_false_iff_not]; omega
   rw [hd] at hcond; cases hcond
 ·rw [hr, kA0, Nat.add_zero]
  intro h
  have hd : decide ((at_ : Int) + j < s.length) = true := by simp only [decide_eq_true_eq]; omega
  rw [hd] at hcond; exact hcond
def isName (s : List UInt8) : Bool := decide (s ≠ []) && decide (s.length <= 32) && jC4 (s.getD 0 0) && decide (jA8 jB2 s = s.length)
theorem V55 (s : List UInt8) (hs0 : s.length <= 9223372036854775807) : jAB Tryz.prog G 55 [.str s] (.bool (isName s)) := by
 refine jAB.jAT Tryz.func55 k55 mix (by simp [c55]) ?_
 have h21 : s.length <= 32 -> jAB Tryz.prog G 89 [.str s, .int .i64 0, .fn 90 [] []] (.int .i64 (jA8 jB2 s)) := fun hs => by
  have h21 := V89 (G := G) s 0 90 jB2 (by omega) (by omega) E90 V90
  simp only [List.drop_zero] at h21
  exact h21
 have zt : (0 : Int).toNat = 0 := rfl
 have hl : s ≠ [] -> 0 < s.length := fun h => List.length_pos_iff.2 h
 simp only [c55, L55, CC, jBW]
 repeat' (first | exact clo | (refine sqI ?_; intros) | refine stp ?_ | (refine cnd rfl ?_ ?_ <;> intro hcond <;> (try contradiction) <;> try simp only [DD] at hcond) | (apply jDQ (res := .int .i64 (jA8 jB2 s)) E89; (case hV => (intro hg; simp only [hg, zt, SA, reduceAdd, reduceIte, reduceEqDiff, Nat.reduceBEq, reduceCtorEq]; (try go_unwrap; try simp only [zt, RR, reduceCtorEq]); exact h21 (by simp only [Bool.and_eq_true, decide_eq_true_eq] at hg; omega))); (case hok => (intro hg; first | (simp only [hg, zt, SA, reduceAdd, reduceIte, reduceEqDiff, Nat.reduceBEq, reduceCtorEq]; done) | (simp_all [jCQ, PV.jBM]; done))); (case hs => (intro hg; simp only [hg, zt, SA, reduceAdd, reduceIte, reduceEqDiff, Nat.reduceBEq, reduceCtorEq])); (case hf => first | rfl | simp only [zt, SA, reduceAdd, reduceIte, reduceEqDiff, Nat.reduceBEq, reduceCtorEq]); (simp only [zt, SA, reduceAdd, reduceIte, reduceEqDiff, Nat.reduceBEq, reduceCtorEq]; (try go_unwrap; try simp only [zt, RR, reduceCtorEq]))) | (refine jAG ?_; intro hg; try simp only [hg]) | refine jAY E64 (V64 (s.getD 0 0)) ?_ ?_ ?_ ?_ ?_ | (refine saI ?_ ?_; intros) | (refine ari ?_; first | omega | (simp only [DD, LL] <;> omega) | (go_unwrap; omega) | (simp only [DD] at hg; omega)) | (refine stq ?_; focus (simp only [zt, SA, reduceAdd, reduceIte, reduceEqDiff, Nat.reduceBEq, reduceCtorEq]; (try go_unwrap; try simp only [zt, RR, reduceCtorEq]))) | refine And.intro ?_ ?_)
 ·simp only [Bool.and_eq_true, Bool.not_eq_true', decide_eq_false_iff_not] at hg
  have := hl hg.1
  omega
 ·have z2 : decide (((jA8 jB2 s : Nat) : Int) = s.length) = decide (jA8 jB2 s = s.length) := by
   rw [Bool.eq_iff_iff, decide_eq_true_eq, decide_eq_true_eq]; omega
  have z3 : decide ((s.length : Int) <= 32) = decide (s.length <= 32) := by
   rw [Bool.eq_iff_iff, decide_eq_true_eq, decide_eq_true_eq]; omega
  have z4 : decide (s ≠ []) = !decide (s = []) := by simp
  rw [isName, z2, z3, z4]
end
structure Nd where
 op : Int
 num : Int
 name : List UInt8
 kids : List Int
 deriving DecidableEq, Inhabited
abbrev Tok := Nat × List UInt8 × Nat
structure PS where
 at_ : Nat
 e : Int
 out : List Nd
def jB8 (l : List Tok) (i : Nat) : Tok := l.getD i (0, [], 0)
def sgn (l : List Tok) (s : PS) (x : List UInt8) : Bool := decide ((jB8 l s.at_).1 = 3) && decide ((jB8 l s.at_).2.1 = x)
def jEI (s : PS) (e : Int) : Int × PS := (0, ⟨s.at_, if s.e = 0 then e else s.e, s.out⟩)
def jEE (s : PS) (n : Nd) : Int × PS := (s.out.length, ⟨s.at_, s.e, s.out ++ [n]⟩)
def adv (s : PS) (k : Nat) : PS := ⟨s.at_ + k, s.e, s.out⟩
def jGE : List (List UInt8) := [[108, 101, 97, 115, 116], [109, 111, 115, 116], [105, 102], [108, 101, 115, 115], [101, 113, 117, 97, 108]]
def jGF (x : List UInt8) : Option Nat := jGE.idxOf? x
def jMJ (op : Nat) : Nat := if op = 7 then 3 else 2
section
variable (nm : List UInt8 -> Int) (l : List Tok)
def jGG (sum : PS -> Int × PS) (op : Nat) : Nat -> List Int -> PS -> Int × PS
  | 0, _, s => (0, s)
  | k + 1, kids, s =>
    if (sum s).2.e ≠ 0 then (0, (sum s).2)
    else if k = 0 then (if sgn l (sum s).2 [41] then jEE (adv (sum s).2 1) ⟨op, 0, [], kids ++ [(sum s).1]⟩ else jEI (sum s).2 3)
    else if sgn l (sum s).2 [44] then jGG sum op k (kids ++ [(sum s).1]) (adv (sum s).2 1) else jEI (sum s).2 3
def jIK (sum : PS -> Int × PS) (s : PS) : Int × PS :=
  match jGF (jB8 l s.at_).2.1 with
  | none => jEI s 21
  | some i => jGG l sum (i + 5) (jMJ (i + 5)) [] (adv s 2)
def jBR (jk : Bool) (sum : PS -> Int × PS) (s : PS) : Int × PS :=
 if (jB8 l s.at_).1 = 2 then jEE (adv s 1) ⟨0, nm (jB8 l s.at_).2.1, [], []⟩
 else if (jB8 l s.at_).1 = 1 then (if sgn l (adv s 1) [40] then jIK l sum s else jEE (adv s 1) ⟨1, 0, (jB8 l s.at_).2.1, []⟩)
 else if sgn l s [40] = false then jEI s 3
 else if (sum (adv s 1)).2.e ≠ 0 then (if jk then (sum (adv s 1)).1 else 0, (sum (adv s 1)).2)
 else if sgn l (sum (adv s 1)).2 [41] then ((sum (adv s 1)).1, adv (sum (adv s 1)).2 1)
 else jEI (sum (adv s 1)).2 3
def jG4 (part : PS -> Int × PS) (ops : List (Nat × List UInt8)) : Nat -> Int -> PS -> Int × PS
 | 0, n, s => (n, s)
 | k + 1, n, s =>
  if s.e ≠ 0 then (n, s)
  else match ops.find? (fun o => sgn l s o.2) with
   | none => (n, s)
   | some o => jG4 part ops k (jEE (part (adv s 1)).2 ⟨o.1, 0, [], [n, (part (adv s 1)).1]⟩).1 (jEE (part (adv s 1)).2 ⟨o.1, 0, [], [n, (part (adv s 1)).1]⟩).2
def rowP (part : PS -> Int × PS) (ops : List (Nat × List UInt8)) (s : PS) : Int × PS := jG4 l part ops (l.length - (part s).2.at_) (part s).1 (part s).2
def jNL : List (Nat × List UInt8) := [(4, [42])]
def jMI : List (Nat × List UInt8) := [(2, [43]), (3, [45])]
def sumP (jk : Bool) : Nat -> PS -> Int × PS
 | 0, s => jEI s 3
 | k + 1, s => rowP l (rowP l (jBR nm l jk (sumP jk k)) jNL) jMI s
structure Inv (s : PS) : Prop where
 lt : s.at_ < l.length
 le : s.out.length <= s.at_
 e0 : s.e = 0
 kPK : (jB8 l (l.length - 1)).1 = 0
structure Good (s : PS) (r : Int × PS) : Prop where
 lt : r.2.at_ < l.length
 le : s.at_ <= r.2.at_
 out : r.2.out.length + s.at_ <= s.out.length + r.2.at_
 n0 : 0 <= r.1
 n1 : r.1 <= r.2.at_
 go : r.2.e = 0 -> s.at_ < r.2.at_
 er : r.2.e = 0 ∨ r.2.e = 3 ∨ r.2.e = 21
def jG2 (f : PS -> Int × PS) (m : Nat) : Prop := ∀ s, Inv l s -> l.length - s.at_ <= m -> Good l s (f s)
variable {nm l}
theorem kEJ {i : Nat} (h0 : (jB8 l (l.length - 1)).1 = 0) (hi : i < l.length) (hk : (jB8 l i).1 ≠ 0) : i + 1 < l.length := by
 rcases Nat.lt_or_ge (i + 1) l.length with h | h
 ·exact h
 ·have : i = l.length - 1 := by omega
  rw [this] at hk; exact absurd h0 hk
theorem jE3 {s : PS} {x : List UInt8} (h0 : (jB8 l (l.length - 1)).1 = 0) (hi : s.at_ < l.length) (h : sgn l s x = true) : s.at_ + 1 < l.length := by
 simp only [sgn, Bool.and_eq_true, decide_eq_true_eq] at h
 exact kEJ h0 hi (by omega)
theorem jG2.mono {f : PS -> Int × PS} {m k : Nat} (h : jG2 l f m) (hk : k <= m) : jG2 l f k := fun s hs hm => h s hs (by omega)
theorem jF9 {s s1 : PS} {e : Int} (hl : s1.at_ < l.length) (h1 : s.at_ <= s1.at_) (h2 : s1.out.length + s.at_ <= s.out.length + s1.at_) (h0 : s1.e = 0) (he : e = 3 ∨ e = 21) : Good l s (jEI s1 e) := by
 refine ⟨hl, h1, h2, Int.le_refl 0, by simp [jEI], fun h => ?_, ?_⟩
 ·simp only [jEI, h0, if_true] at h; omega
 ·simp only [jEI, h0, if_true]; exact .inr he
theorem jFT {s s1 : PS} {n : Nd} (hl : s1.at_ < l.length) (h1 : s.at_ < s1.at_) (h2 : s1.out.length + s.at_ < s.out.length + s1.at_) (h3 : s.out.length <= s.at_) (he : s1.e = 0 ∨ s1.e = 3 ∨ s1.e = 21) : Good l s (jEE s1 n) := by
 refine ⟨hl, by simp only [jEE]; omega, by simp [jEE]; omega, by simp [jEE], by simp [jEE]; omega, fun _ => by simpa [jEE] using h1, he⟩
theorem jJA {sum : PS -> Int × PS} {op m : Nat} (hs : jG2 l sum m) (h0 : (jB8 l (l.length - 1)).1 = 0) : ∀ (k : Nat) (kids : List Int) (s0 s : PS), 0 < k -> s0.at_ < s.at_ -> s0.out.length <= s0.at_ -> Inv l s -> s.out.length + s0.at_ < s0.out.length + s.at_ -> l.length - s.at_ <= m -> Good l s0 (jGG l sum op k kids s)
 | 0, _, _, _, h, _, _, _, _, _ => absurd h (by omega)
 | k + 1, kids, s0, s, _, hlt, h00, hI, ho, hm => by
  have hg := hs s hI hm
  have hgo := hg.out
  have hgl := hg.le
  unfold jGG
  split
  ·rename_i he
   exact ⟨hg.lt, by simp only; omega, by simp only; omega, Int.le_refl 0, by simp, fun h => absurd h he, hg.er⟩
  ·rename_i he
   have he' : (sum s).2.e = 0 := by simpa using he
   have kSJ := hg.go he'
   split
   ·split
    ·rename_i h1
     have := jE3 h0 hg.lt h1
     exact jFT (by simpa [adv] using this) (by simp [adv]; omega) (by simp [adv]; omega) h00 (.inl he')
    ·exact jF9 hg.lt (by omega) (by omega) he' (.inl rfl)
   ·split
    ·rename_i hk h1
     have := jE3 h0 hg.lt h1
     exact jJA hs h0 k _ s0 _ (by omega) (by simp [adv]; omega) h00 ⟨by simpa [adv] using this, by simp [adv]; omega, he', h0⟩ (by simp [adv]; omega) (by simp [adv]; omega)
    ·exact jF9 hg.lt (by omega) (by omega) he' (.inl rfl)
theorem jLT {jk : Bool} {sum : PS -> Int × PS} {m : Nat} (hs : jG2 l sum m) : jG2 l (jBR nm l jk sum) (m + 1) := by
 intro s hI hm
 obtain ⟨hlt, hle, he, h0⟩ := hI
 unfold jBR
 split
 ·rename_i h
  have := kEJ h0 hlt (by omega)
  exact jFT (by simpa [adv] using this) (by simp [adv]) (by simp [adv]) hle (.inl he)
 ·split
  ·rename_i h
   have h1 := kEJ h0 hlt (by omega)
   split
   ·rename_i h2
    have h3 := jE3 (s := adv s 1) h0 (by simpa [adv] using h1) h2
    unfold jIK
    split
    ·exact jF9 hlt (Nat.le_refl _) (Nat.le_refl _) he (.inr rfl)
    ·exact jJA (hs.mono (k := m) (Nat.le_refl _)) h0 _ _ s _ (by unfold jMJ; split <;> omega) (by simp [adv]) hle ⟨by simpa [adv] using h3, by simp [adv]; omega, he, h0⟩ (by simp [adv]) (by simp [adv]; omega)
   ·exact jFT (by simpa [adv] using h1) (by simp [adv]) (by simp [adv]) hle (.inl he)
  ·split
   ·exact jF9 hlt (Nat.le_refl _) (Nat.le_refl _) he (.inl rfl)
   ·rename_i h2
    have h3 := jE3 (s := s) (x := [40]) h0 hlt (by simpa using h2)
    have hg := hs (adv s 1) ⟨by simpa [adv] using h3, by simp [adv]; omega, he, h0⟩ (by simp [adv]; omega)
    have hle' : s.at_ + 1 <= (sum (adv s 1)).2.at_ := by simpa [adv] using hg.le
    have hoo : (sum (adv s 1)).2.out.length + (s.at_ + 1) <= s.out.length + (sum (adv s 1)).2.at_ := by simpa [adv] using hg.out
    split
    ·rename_i he2
     refine ⟨hg.lt, by simp only; omega, by simp only; omega, ?_, ?_, fun h => absurd h he2, hg.er⟩
     ·simp only; split
      ·exact hg.n0
      ·exact Int.le_refl 0
     ·simp only; split
      ·exact hg.n1
      ·simp
    ·rename_i he2
     have he' : (sum (adv s 1)).2.e = 0 := by simpa using he2
     split
     ·rename_i h4
      have := jE3 h0 hg.lt h4
      have hn1 := hg.n1
      generalize sum (adv s 1) = r at *
      exact ⟨by simpa [adv] using this, by simp [adv]; omega, by simp [adv]; omega, hg.n0, by simp [adv]; omega, fun _ => by simp [adv]; omega, .inl he'⟩
     ·exact jF9 hg.lt (by omega) (by omega) he' (.inl rfl)
theorem jHT {part : PS -> Int × PS} {m : Nat} {ops : List (Nat × List UInt8)} (hp : jG2 l part m) (h0 : (jB8 l (l.length - 1)).1 = 0) (s0 : PS) (hl0 : s0.out.length <= s0.at_) (hm : l.length - s0.at_ <= m) : ∀ (k : Nat) (n : Int) (s : PS), Good l s0 (n, s) -> Good l s0 (jG4 l part ops k n s)
 | 0, n, s, h => h
 | k + 1, n, s, h => by
  unfold jG4
  split
  ·exact h
  ·rename_i he
   have he' : s.e = 0 := by simpa using he
   split
   ·exact h
   ·rename_i o ho
    have hs := List.find?_some ho
    have hlt := h.lt; have ho' := h.out; have hle := h.le; have hn0 := h.n0; have hn1 := h.n1; have hgo := h.go he'
    simp only at hlt ho' hle hgo
    have h1 := jE3 h0 hlt hs
    have hg := hp (adv s 1) ⟨by simpa [adv] using h1, by simp [adv]; omega, he', h0⟩ (by simp [adv]; omega)
    have hle2 : s.at_ + 1 <= (part (adv s 1)).2.at_ := by simpa [adv] using hg.le
    have hoo : (part (adv s 1)).2.out.length + (s.at_ + 1) <= s.out.length + (part (adv s 1)).2.at_ := by simpa [adv] using hg.out
    refine jHT hp h0 s0 hl0 hm k _ _ ?_
    generalize part (adv s 1) = r at *
    exact jFT (s := s0) hg.lt (by omega) (by omega) hl0 hg.er
theorem jKV {part : PS -> Int × PS} {m : Nat} {ops : List (Nat × List UInt8)} (hp : jG2 l part m) : jG2 l (rowP l part ops) m := fun s hI hm =>
 jHT hp hI.kPK s hI.le hm _ _ _ (hp s hI hm)
theorem jKL {jk : Bool} : ∀ k, jG2 l (sumP nm l jk k) k
 | 0 => fun s hI hm => absurd hI.lt (by omega)
 | k + 1 => jKV (jKV (jLT (jKL k)))
end
end Go.Proofs.YthjkmhfiffojeaaGreatDoor
