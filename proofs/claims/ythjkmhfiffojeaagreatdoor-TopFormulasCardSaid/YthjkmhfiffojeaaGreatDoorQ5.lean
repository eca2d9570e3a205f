import Derived.Test.YthjkmhfiffojeaaGreatDoorProg
import Derived.KernelRfl
import Derived.Test.YthjkmhfiffojeaaGreatDoorP4
namespace Go.Proofs.YthjkmhfiffojeaaGreatDoor
open PG Go.Proofs
def L15 : List Nat := [0, 2, 3, 4, 5, 6, 7, 8, 9, 10, 13, 17, 21, 33]
def c15 : CF := ⟨57,
 .seq (.region false [oR 2 .mov [.pv .jAH],
 oR 3 .mov [.pv (.int .i64 0)],
 oR 4 .mov [.pv (.int .i64 0)]] L15)
 (.seq (.seq (.region false [oM 11 0,
 oT 12 .jLI 11,
 oR 13 (.bin .gtr) [.tmp 12, .pv (.int .i64 4096)]] L15)
 (.cond (.tmp 13)
 (.seq (.region false [oR 2 .mov [.pv .jAH],
 oR 3 .mov [.pv (.int .i64 0)],
 oR 4 .mov [.pv (.int .i64 4)]] L15)
 (.ret))
 (.skip)))
 (.seq (.region false [oR 5 .mov [.pv .jAH]] L15)
 (.seq (.seq (.region false [oR 6 .mov [.pv (.int .i64 0)]] L15)
 (.block 0
 (.loop
 (.seq (.seq (.region false [oM 14 6,
 oM 15 0,
 oT 16 .jLI 15,
 oB 17 (.bin .lss) 14 16] L15)
 (.cond (.tmp 17)
 (.skip)
 (.exit 0)))
 (.block 1
 (.seq (.seq (.region false [oM 18 0,
 oM 19 6,
 oB 20 .jPD 18 19,
 oR 21 (.bin .eql) [.tmp 20, .pv (.int .u8 32)]] L15)
 (.cond (.tmp 21)
 (.seq (.region false [oM 22 6,
 oR 23 (.bin .add) [.tmp 22, .pv (.int .i64 1)],
 oM 6 23] L15)
 (.exit 1))
 (.skip)))
 (.seq (.region false [oM 25 0,
 oM 26 6,
 oC 27 45 [.tmp 25, .tmp 26],
 oM 24 27,
 oT 28 (.ext 0) 24,
 oT 29 (.ext 1) 24,
 oT 30 (.ext 2) 24,
 oT 31 (.ext 3) 24,
 oM 7 28,
 oM 8 29,
 oM 9 30,
 oM 10 31] L15)
 (.seq (.seq (.region false [oM 32 10,
 oR 33 (.bin .neq) [.tmp 32, .pv (.int .i64 0)]] L15)
 (.cond (.tmp 33)
 (.seq (.region false [oM 34 9,
 oM 35 10,
 oR 2 .mov [.pv .jAH],
 oM 3 34,
 oM 4 35] L15)
 (.ret))
 (.skip)))
 (.seq (.region false [oM 36 5,
 oM 37 7,
 oM 38 0,
 oM 39 6,
 oM 40 6,
 oM 41 8,
 oB 42 (.bin .add) 40 41,
 oR 43 (.jMK true true) [.tmp 38, .tmp 39, .tmp 42],
 oM 44 6,
 oR 45 (.build [(.int .i64 0), (.str []), (.int .i64 0)] [(0, 1), (1, 1), (2, 1)]) [.tmp 37, .tmp 43, .tmp 44],
 oE 46 (.lit (some 3) false) [.tmp 45],
 oE 47 (.append (some 3) 32) [.tmp 36, .tmp 46],
 oM 5 47] L15)
 (.region false [oM 48 6,
 oM 49 8,
 oB 50 (.bin .add) 48 49,
 oM 6 50] L15))))))))))
 (.seq (.region false [oM 51 5,
 oM 52 0,
 oT 53 .jLI 52,
 oR 54 (.build [(.int .i64 0), (.str []), (.int .i64 0)] [(0, 1), (1, 1), (2, 1)]) [.pv (.int .i64 0), .pv (.str []), .tmp 53],
 oE 55 (.lit (some 3) false) [.tmp 54],
 oE 56 (.append (some 3) 32) [.tmp 51, .tmp 55],
 oM 2 56,
 oR 3 .mov [.pv (.int .i64 0)],
 oR 4 .mov [.pv (.int .i64 0)]] L15)
 (.ret))))),
 [.tmp 2, .tmp 3, .tmp 4]⟩
def L45 : List Nat := [0, 1, 4, 5, 6, 7, 8, 12, 25, 38]
def c45 : CF := ⟨43,
 .seq (.region false [oR 4 .mov [.pv (.int .i64 0)],
 oR 5 .mov [.pv (.int .i64 0)],
 oR 6 .mov [.pv (.int .i64 0)],
 oR 7 .mov [.pv (.int .i64 0)]] L45)
 (.seq (.seq (.region false [oM 9 0,
 oM 10 1,
 oB 11 .jPD 9 10,
 oM 8 11] L45)
 (.block 0
 (.seq (.region false [oM 13 8,
 oC 14 64 [.tmp 13],
 oM 12 14] L45)
 (.cond (.tmp 12)
 (.seq (.region false [oM 16 0,
 oM 17 1,
 oC 18 65 [.tmp 16, .tmp 17],
 oM 15 18,
 oT 19 (.ext 0) 15,
 oT 20 (.ext 1) 15,
 oT 21 (.ext 2) 15,
 oM 5 19,
 oM 6 20,
 oM 7 21] L45)
 (.seq (.region false [oM 22 5,
 oM 23 6,
 oM 24 7,
 oR 4 .mov [.pv (.int .i64 1)],
 oM 5 22,
 oM 6 23,
 oM 7 24] L45)
 (.ret)))
 (.seq (.region false [oM 26 8,
 oC 27 66 [.tmp 26],
 oM 25 27] L45)
 (.cond (.tmp 25)
 (.seq (.region false [oM 29 0,
 oM 30 1,
 oC 31 67 [.tmp 29, .tmp 30],
 oM 28 31,
 oT 32 (.ext 0) 28,
 oT 33 (.ext 1) 28,
 oT 34 (.ext 2) 28,
 oM 5 32,
 oM 6 33,
 oM 7 34] L45)
 (.seq (.region false [oM 35 5,
 oM 36 6,
 oM 37 7,
 oR 4 .mov [.pv (.int .i64 2)],
 oM 5 35,
 oM 6 36,
 oM 7 37] L45)
 (.ret)))
 (.seq (.region false [oM 39 8,
 oC 40 68 [.pv (.str [43, 45, 42, 40, 41, 44, 60, 61]), .tmp 39],
 oR 41 (.bin .geq) [.tmp 40, .pv (.int .i64 0)],
 oM 38 41] L45)
 (.cond (.tmp 38)
 (.seq (.region false [oR 4 .mov [.pv (.int .i64 3)],
 oR 5 .mov [.pv (.int .i64 1)],
 oR 6 .mov [.pv (.int .i64 0)],
 oR 7 .mov [.pv (.int .i64 0)]] L45)
 (.ret))
 (.skip)))))))))
 (.seq (.region false [oM 42 1,
 oR 4 .mov [.pv (.int .i64 0)],
 oR 5 .mov [.pv (.int .i64 0)],
 oM 6 42,
 oR 7 .mov [.pv (.int .i64 3)]] L45)
 (.ret))),
 [.tmp 4, .tmp 5, .tmp 6, .tmp 7]⟩
def L64 : List Nat := [0, 2]
def c64 : CF := ⟨9,
 .seq (.region false [oR 2 .mov [.pv (.bool false)]] L64)
 (.seq (.region false [oM 3 0,
 oR 4 (.bin .geq) [.tmp 3, .pv (.int .u8 97)],
 oM 5 4,
 qM 5 true 6 0,
 qR 5 true 7 (.bin .leq) [.tmp 6, .pv (.int .u8 122)],
 oR 8 .pick [.tmp 5, .tmp 7, .pv (.bool false)],
 oM 2 8] L64)
 (.ret)),
 [.tmp 2]⟩
def L65 : List Nat := [0, 1, 4, 5, 6, 7, 12]
def c65 : CF := ⟨15,
 .seq (.region false [oR 4 .mov [.pv (.int .i64 0)],
 oR 5 .mov [.pv (.int .i64 0)],
 oR 6 .mov [.pv (.int .i64 0)]] L65)
 (.seq (.region false [oM 8 0,
 oM 9 1,
 oC 10 89 [.tmp 8, .tmp 9, .pv (.fn 90 [] [])],
 oM 7 10] L65)
 (.seq (.seq (.region false [oM 11 7,
 oR 12 (.bin .gtr) [.tmp 11, .pv (.int .i64 32)]] L65)
 (.cond (.tmp 12)
 (.seq (.region false [oM 13 1,
 oR 4 .mov [.pv (.int .i64 0)],
 oM 5 13,
 oR 6 .mov [.pv (.int .i64 4)]] L65)
 (.ret))
 (.skip)))
 (.seq (.region false [oM 14 7,
 oM 4 14,
 oR 5 .mov [.pv (.int .i64 0)],
 oR 6 .mov [.pv (.int .i64 0)]] L65)
 (.ret)))),
 [.tmp 4, .tmp 5, .tmp 6]⟩
def L66 : List Nat := [0, 2]
def c66 : CF := ⟨9,
 .seq (.region false [oR 2 .mov [.pv (.bool false)]] L66)
 (.seq (.region false [oM 3 0,
 oR 4 (.bin .geq) [.tmp 3, .pv (.int .u8 48)],
 oM 5 4,
 qM 5 true 6 0,
 qR 5 true 7 (.bin .leq) [.tmp 6, .pv (.int .u8 57)],
 oR 8 .pick [.tmp 5, .tmp 7, .pv (.bool false)],
 oM 2 8] L66)
 (.ret)),
 [.tmp 2]⟩
def L67 : List Nat := [0, 1, 4, 5, 6, 7, 8, 9, 11, 27, 32, 36, 57]
def c67 : CF := ⟨60,
 .seq (.region false [oR 4 .mov [.pv (.int .i64 0)],
 oR 5 .mov [.pv (.int .i64 0)],
 oR 6 .mov [.pv (.int .i64 0)]] L67)
 (.seq (.region false [oM 12 0,
 oM 13 1,
 oC 14 89 [.tmp 12, .tmp 13, .pv (.fn 66 [] [])],
 oM 7 14] L67)
 (.seq (.seq (.region false [oM 15 1,
 oM 16 7,
 oB 17 (.bin .add) 15 16,
 oM 8 17] L67)
 (.seq (.region false [oM 18 8,
 oM 19 0,
 oT 20 .jLI 19,
 oB 21 (.bin .lss) 18 20,
 oM 22 21,
 qM 22 true 23 0,
 qM 22 true 24 8,
 qR 22 true 25 .jPD [.tmp 23, .tmp 24],
 qR 22 true 26 (.bin .eql) [.tmp 25, .pv (.int .u8 46)],
 oR 27 .pick [.tmp 22, .tmp 26, .pv (.bool false)]] L67)
 (.cond (.tmp 27)
 (.seq (.region false [oM 28 0,
 oM 29 8,
 oR 30 (.bin .add) [.tmp 29, .pv (.int .i64 1)],
 oC 31 89 [.tmp 28, .tmp 30, .pv (.fn 66 [] [])],
 oM 9 31] L67)
 (.seq (.block 0
 (.seq (.region false [oM 33 9,
 oR 34 (.bin .eql) [.tmp 33, .pv (.int .i64 0)],
 oM 32 34] L67)
 (.cond (.tmp 32)
 (.seq (.region false [oM 35 8,
 oR 4 .mov [.pv (.int .i64 0)],
 oM 5 35,
 oR 6 .mov [.pv (.int .i64 3)]] L67)
 (.ret))
 (.seq (.region false [oM 37 9,
 oR 38 (.bin .gtr) [.tmp 37, .pv (.int .i64 4)],
 oM 36 38] L67)
 (.cond (.tmp 36)
 (.seq (.region false [oM 39 8,
 oR 40 (.bin .add) [.tmp 39, .pv (.int .i64 1)],
 oR 41 (.bin .add) [.tmp 40, .pv (.int .i64 4)],
 oR 4 .mov [.pv (.int .i64 0)],
 oM 5 41,
 oR 6 .mov [.pv (.int .i64 3)]] L67)
 (.ret))
 (.skip))))))
 (.region false [oM 42 7,
 oM 43 9,
 oR 44 (.bin .add) [.pv (.int .i64 1), .tmp 43],
 oB 45 (.bin .add) 42 44,
 oM 7 45] L67)))
 (.skip))))
 (.seq (.seq (.region false [oM 47 0,
 oM 48 1,
 oM 49 1,
 oM 50 7,
 oB 51 (.bin .add) 49 50,
 oR 52 (.jMK true true) [.tmp 47, .tmp 48, .tmp 51],
 oC 53 94 [.tmp 52],
 oM 46 53,
 oT 54 (.ext 0) 46,
 oT 55 (.ext 1) 46,
 oM 10 54,
 oM 11 55] L67)
 (.seq (.region false [oM 56 11,
 oT 57 (.un .not) 56] L67)
 (.cond (.tmp 57)
 (.seq (.region false [oM 58 1,
 oR 4 .mov [.pv (.int .i64 0)],
 oM 5 58,
 oR 6 .mov [.pv (.int .i64 2)]] L67)
 (.ret))
 (.skip))))
 (.seq (.region false [oM 59 7,
 oM 4 59,
 oR 5 .mov [.pv (.int .i64 0)],
 oR 6 .mov [.pv (.int .i64 0)]] L67)
 (.ret))))),
 [.tmp 4, .tmp 5, .tmp 6]⟩
def L68 : List Nat := [0, 1, 4]
def c68 : CF := ⟨8,
 .seq (.region false [oR 4 .mov [.pv (.int .i64 0)]] L68)
 (.seq (.region false [oM 5 0,
 oM 6 1,
 oC 7 95 [.tmp 5, .tmp 6],
 oM 4 7] L68)
 (.ret)),
 [.tmp 4]⟩
def L71 : List Nat := [0, 2, 3, 4, 6, 7, 16, 23, 38]
def c71 : CF := ⟨53,
 .seq (.region false [oR 2 .mov [.pv (.int .i64 0)],
 oR 3 .mov [.pv (.int .i64 0)]] L71)
 (.seq (.seq (.region false [oM 9 0,
 oR 10 (.bin .eql) [.tmp 9, .pv (.str [])],
 oM 11 10,
 qM 11 false 12 0,
 qR 11 false 13 .jPD [.tmp 12, .pv (.int .i64 0)],
 ⟨some 14, some (11, false), .call (.pv (.fn 66 [] [])) [.tmp 13]⟩,
 qR 11 false 15 (.un .not) [.tmp 14],
 oR 16 .pick [.tmp 11, .pv (.bool true), .tmp 15]] L71)
 (.cond (.tmp 16)
 (.seq (.region false [oR 2 .mov [.pv (.int .i64 0)],
 oR 3 .mov [.pv (.int .i64 3)]] L71)
 (.ret))
 (.skip)))
 (.seq (.region false [oM 18 0,
 oC 19 67 [.tmp 18, .pv (.int .i64 0)],
 oM 17 19,
 oT 20 (.ext 0) 17,
 oT 21 (.ext 1) 17,
 oT 22 (.ext 2) 17,
 oM 4 20,
 oM 5 21,
 oM 6 22] L71)
 (.seq (.block 0
 (.seq (.region false [oM 24 6,
 oR 25 (.bin .eql) [.tmp 24, .pv (.int .i64 2)],
 oM 26 25,
 qM 26 true 27 0,
 ⟨some 28, some (26, true), .call (.pv (.fn 89 [] [])) [.tmp 27, .pv (.int .i64 0), .pv (.fn 96 [] [])]⟩,
 qM 26 true 29 0,
 qR 26 true 30 .jLI [.tmp 29],
 qR 26 true 31 (.bin .eql) [.tmp 28, .tmp 30],
 oR 32 .pick [.tmp 26, .tmp 31, .pv (.bool false)],
 oM 33 32,
 qM 33 true 34 0,
 ⟨some 35, some (33, true), .call (.pv (.fn 97 [] [])) [.tmp 34, .pv (.str [46])]⟩,
 qR 33 true 36 (.bin .lss) [.tmp 35, .pv (.int .i64 2)],
 oR 37 .pick [.tmp 33, .tmp 36, .pv (.bool false)],
 oM 23 37] L71)
 (.cond (.tmp 23)
 (.seq (.region false [oR 2 .mov [.pv (.int .i64 0)],
 oR 3 .mov [.pv (.int .i64 2)]] L71)
 (.ret))
 (.seq (.region false [oM 39 6,
 oR 40 (.bin .neq) [.tmp 39, .pv (.int .i64 0)],
 oM 41 40,
 qM 41 false 42 4,
 qM 41 false 43 0,
 qR 41 false 44 .jLI [.tmp 43],
 qR 41 false 45 (.bin .neq) [.tmp 42, .tmp 44],
 oR 46 .pick [.tmp 41, .pv (.bool true), .tmp 45],
 oM 38 46] L71)
 (.cond (.tmp 38)
 (.seq (.region false [oR 2 .mov [.pv (.int .i64 0)],
 oR 3 .mov [.pv (.int .i64 3)]] L71)
 (.ret))
 (.skip))))))
 (.seq (.region false [oM 48 0,
 oC 49 94 [.tmp 48],
 oM 47 49,
 oT 50 (.ext 0) 47,
 oT 51 (.ext 1) 47,
 oM 7 50,
 oM 8 51] L71)
 (.seq (.region false [oM 52 7,
 oM 2 52,
 oR 3 .mov [.pv (.int .i64 0)]] L71)
 (.ret)))))),
 [.tmp 2, .tmp 3]⟩
def L89 : List Nat := [0, 1, 2, 6, 7, 22]
def c89 : CF := ⟨26,
 .seq (.region false [oR 6 .mov [.pv (.int .i64 0)]] L89)
 (.seq (.region false [oR 7 .mov [.pv (.int .i64 0)]] L89)
 (.seq (.block 0
 (.loop
 (.seq (.seq (.region false [oM 8 1,
 oM 9 7,
 oB 10 (.bin .add) 8 9,
 oM 11 0,
 oT 12 .jLI 11,
 oB 13 (.bin .lss) 10 12,
 oM 14 13,
 qM 14 true 15 2,
 qM 14 true 16 0,
 qM 14 true 17 1,
 qM 14 true 18 7,
 qR 14 true 19 (.bin .add) [.tmp 17, .tmp 18],
 qR 14 true 20 .jPD [.tmp 16, .tmp 19],
 ⟨some 21, some (14, true), .call (.tmp 15) [.tmp 20]⟩,
 oR 22 .pick [.tmp 14, .tmp 21, .pv (.bool false)]] L89)
 (.cond (.tmp 22)
 (.skip)
 (.exit 0)))
 (.block 1
 (.region false [oM 23 7,
 oR 24 (.bin .add) [.tmp 23, .pv (.int .i64 1)],
 oM 7 24] L89)))))
 (.seq (.region false [oM 25 7,
 oM 6 25] L89)
 (.ret)))),
 [.tmp 6]⟩
def L90 : List Nat := [0, 2]
def c90 : CF := ⟨21,
 .seq (.region false [oR 2 .mov [.pv (.bool false)]] L90)
 (.seq (.region false [oM 3 0,
 oC 4 64 [.tmp 3],
 oM 5 4,
 qM 5 false 6 0,
 ⟨some 7, some (5, false), .call (.pv (.fn 66 [] [])) [.tmp 6]⟩,
 oR 8 .pick [.tmp 5, .pv (.bool true), .tmp 7],
 oM 9 8,
 qM 9 false 10 0,
 qR 9 false 11 (.bin .eql) [.tmp 10, .pv (.int .u8 46)],
 oR 12 .pick [.tmp 9, .pv (.bool true), .tmp 11],
 oM 13 12,
 qM 13 false 14 0,
 qR 13 false 15 (.bin .eql) [.tmp 14, .pv (.int .u8 95)],
 oR 16 .pick [.tmp 13, .pv (.bool true), .tmp 15],
 oM 17 16,
 qM 17 false 18 0,
 qR 17 false 19 (.bin .eql) [.tmp 18, .pv (.int .u8 58)],
 oR 20 .pick [.tmp 17, .pv (.bool true), .tmp 19],
 oM 2 20] L90)
 (.ret)),
 [.tmp 2]⟩
def L94 : List Nat := [0, 2, 3, 4, 5, 7, 9, 10, 11, 12, 20, 21, 22, 23, 33, 38, 57]
def c94 : CF := ⟨62,
 .seq (.region false [oR 2 .mov [.pv (.int .i64 0)],
 oR 3 .mov [.pv (.bool false)]] L94)
 (.seq (.region false [oM 14 0,
 oC 15 112 [.tmp 14, .pv (.str [46])],
 oM 13 15,
 oT 16 (.ext 0) 13,
 oT 17 (.ext 1) 13,
 oT 18 (.ext 2) 13,
 oM 4 16,
 oM 5 17,
 oM 6 18] L94)
 (.seq (.region false [oR 7 .mov [.pv (.int .i64 0)]] L94)
 (.seq (.seq (.region false [oM 19 4,
 oE 20 .s2b [.tmp 19],
 oT 21 .jCH 20,
 oR 22 .mov [.pv (.int .i64 0)]] L94)
 (.block 0
 (.loop
 (.seq (.region false [oB 23 (.bin .lss) 22 21] L94)
 (.seq (.cond (.tmp 23)
 (.skip)
 (.exit 0))
 (.seq (.block 1
 (.seq (.region false [oB 24 (.jAC none) 20 22,
 oL 25 24,
 oM 9 25] L94)
 (.seq (.region false [oM 26 7,
 oR 27 (.bin .mul) [.pv (.int .i64 10), .tmp 26],
 oM 28 9,
 oR 29 (.bin .sub) [.tmp 28, .pv (.int .u8 48)],
 oT 30 (.conv .i64) 29,
 oB 31 (.bin .add) 27 30,
 oM 7 31] L94)
 (.seq (.region false [oM 32 7,
 oR 33 (.bin .gtr) [.tmp 32, .pv (.int .i64 1000000000000)]] L94)
 (.cond (.tmp 33)
 (.seq (.region false [oR 2 .mov [.pv (.int .i64 0)],
 oR 3 .mov [.pv (.bool false)]] L94)
 (.ret))
 (.skip))))))
 (.region false [oR 34 (.bin .add) [.tmp 22, .pv (.int .i64 1)],
 oM 22 34] L94)))))))
 (.seq (.region false [oR 10 .mov [.pv (.int .i64 0)]] L94)
 (.seq (.seq (.region false [oR 11 .mov [.pv (.int .i64 0)],
 oR 12 .mov [.pv (.int .i64 100000)]] L94)
 (.block 2
 (.loop
 (.seq (.seq (.region false [oM 35 11,
 oM 36 5,
 oT 37 .jLI 36,
 oB 38 (.bin .lss) 35 37] L94)
 (.cond (.tmp 38)
 (.skip)
 (.exit 2)))
 (.seq (.block 3
 (.region false [oM 43 10,
 oM 44 12,
 oM 45 5,
 oM 46 11,
 oB 47 .jPD 45 46,
 oR 48 (.bin .sub) [.tmp 47, .pv (.int .u8 48)],
 oT 49 (.conv .i64) 48,
 oB 50 (.bin .mul) 44 49,
 oB 51 (.bin .add) 43 50,
 oM 10 51] L94))
 (.region false [oM 39 11,
 oR 40 (.bin .add) [.tmp 39, .pv (.int .i64 1)],
 oM 41 12,
 oR 42 (.bin .quo) [.tmp 41, .pv (.int .i64 10)],
 oM 11 40,
 oM 12 42] L94))))))
 (.seq (.seq (.region false [oM 52 7,
 oR 53 (.bin .eql) [.tmp 52, .pv (.int .i64 1000000000000)],
 oM 54 53,
 qM 54 true 55 10,
 qR 54 true 56 (.bin .gtr) [.tmp 55, .pv (.int .i64 0)],
 oR 57 .pick [.tmp 54, .tmp 56, .pv (.bool false)]] L94)
 (.cond (.tmp 57)
 (.seq (.region false [oR 2 .mov [.pv (.int .i64 0)],
 oR 3 .mov [.pv (.bool false)]] L94)
 (.ret))
 (.skip)))
 (.seq (.region false [oM 58 7,
 oR 59 (.bin .mul) [.tmp 58, .pv (.int .i64 1000000)],
 oM 60 10,
 oB 61 (.bin .add) 59 60,
 oM 2 61,
 oR 3 .mov [.pv (.bool true)]] L94)
 (.ret)))))))),
 [.tmp 2, .tmp 3]⟩
def L96 : List Nat := [0, 2]
def c96 : CF := ⟨9,
 .seq (.region false [oR 2 .mov [.pv (.bool false)]] L96)
 (.seq (.region false [oM 3 0,
 oC 4 66 [.tmp 3],
 oM 5 4,
 qM 5 false 6 0,
 qR 5 false 7 (.bin .eql) [.tmp 6, .pv (.int .u8 46)],
 oR 8 .pick [.tmp 5, .pv (.bool true), .tmp 7],
 oM 2 8] L96)
 (.ret)),
 [.tmp 2]⟩
def L98 : List Nat := [0, 1, 4, 5, 7, 8, 9, 16]
def c98 : CF := ⟨19,
 .seq (.region false [oR 4 .mov [.pv (.int .i64 0)]] L98)
 (.seq (.seq (.region false [oM 6 0,
 oT 7 .jCH 6,
 oR 8 .mov [.pv (.int .i64 0)]] L98)
 (.block 0
 (.loop
 (.seq (.region false [oB 9 (.bin .lss) 8 7] L98)
 (.seq (.cond (.tmp 9)
 (.skip)
 (.exit 0))
 (.seq (.block 1
 (.seq (.region false [oM 10 8,
 oM 5 10] L98)
 (.seq (.region false [oM 11 1,
 oM 12 0,
 oM 13 5,
 oB 14 (.jAC none) 12 13,
 oL 15 14,
 oB 16 (.bin .eql) 11 15] L98)
 (.cond (.tmp 16)
 (.seq (.region false [oM 17 5,
 oM 4 17] L98)
 (.ret))
 (.skip)))))
 (.region false [oR 18 (.bin .add) [.tmp 8, .pv (.int .i64 1)],
 oM 8 18] L98)))))))
 (.seq (.region false [oR 4 .mov [.pv (.int .i64 (-1))]] L98)
 (.ret))),
 [.tmp 4]⟩
def kN5 : List Nat := [0, 1, 4, 5, 6]
def kPR : CF := ⟨13,
 .seq (.region false [oR 4 .mov [.pv (.str [])],
 oR 5 .mov [.pv (.str [])],
 oR 6 .mov [.pv (.bool false)]] kN5)
 (.seq (.region false [oM 7 0,
 oM 8 1,
 oC 9 121 [.tmp 7, .tmp 8],
 oT 10 (.ext 0) 9,
 oT 11 (.ext 1) 9,
 oT 12 (.ext 2) 9,
 oM 4 10,
 oM 5 11,
 oM 6 12] kN5)
 (.ret)),
 [.tmp 4, .tmp 5, .tmp 6]⟩
def kKB : List Nat := [0, 1, 4, 5, 6, 7, 12]
def kPP : CF := ⟨23,
 .seq (.region false [oR 4 .mov [.pv (.str [])],
 oR 5 .mov [.pv (.str [])],
 oR 6 .mov [.pv (.bool false)]] kKB)
 (.seq (.seq (.region false [oM 8 0,
 oM 9 1,
 oC 10 122 [.tmp 8, .tmp 9],
 oM 7 10] kKB)
 (.seq (.region false [oM 11 7,
 oR 12 (.bin .geq) [.tmp 11, .pv (.int .i64 0)]] kKB)
 (.cond (.tmp 12)
 (.seq (.region true [oM 13 0,
 oM 14 7,
 oB 15 (.jMK false true) 13 14,
 oM 16 0,
 oM 17 7,
 oM 18 1,
 oT 19 .jLI 18,
 oB 20 (.bin .add) 17 19,
 oB 21 (.jMK true false) 16 20,
 oM 4 15,
 oM 5 21,
 oR 6 .mov [.pv (.bool true)]] kKB)
 (.ret))
 (.skip))))
 (.seq (.region false [oM 22 0,
 oM 4 22,
 oR 5 .mov [.pv (.str [])],
 oR 6 .mov [.pv (.bool false)]] kKB)
 (.ret))),
 [.tmp 4, .tmp 5, .tmp 6]⟩
def jFZ : List Nat := [0, 1, 4, 5, 6, 7, 8, 9, 10, 11, 12, 13, 16, 24, 31, 36, 59, 64, 73, 93, 107, 114, 132, 139]
def kPO : CF := ⟨143,
 .seq (.region false [oR 4 .mov [.pv (.int .i64 0)]] jFZ)
 (.seq (.region false [oM 14 1,
 oT 15 .jLI 14,
 oM 5 15] jFZ)
 (.seq (.block 0
 (.seq (.region false [oM 17 5,
 oR 18 (.bin .eql) [.tmp 17, .pv (.int .i64 0)],
 oM 19 18,
 qM 19 false 20 1,
 qM 19 false 21 0,
 qR 19 false 22 (.bin .eql) [.tmp 20, .tmp 21],
 oR 23 .pick [.tmp 19, .pv (.bool true), .tmp 22],
 oM 16 23] jFZ)
 (.cond (.tmp 16)
 (.seq (.region false [oR 4 .mov [.pv (.int .i64 0)]] jFZ)
 (.ret))
 (.seq (.region false [oM 25 5,
 oR 26 (.bin .eql) [.tmp 25, .pv (.int .i64 1)],
 oM 24 26] jFZ)
 (.cond (.tmp 24)
 (.seq (.region false [oM 27 0,
 oM 28 1,
 oR 29 .jPD [.tmp 28, .pv (.int .i64 0)],
 oC 30 95 [.tmp 27, .tmp 29],
 oM 4 30] jFZ)
 (.ret))
 (.seq (.region false [oM 32 5,
 oM 33 0,
 oT 34 .jLI 33,
 oB 35 (.bin .geq) 32 34,
 oM 31 35] jFZ)
 (.cond (.tmp 31)
 (.seq (.region false [oR 4 .mov [.pv (.int .i64 (-1))]] jFZ)
 (.ret))
 (.seq (.region false [oM 37 5,
 oR 38 (.load none) [.glob 5],
 oB 39 (.bin .leq) 37 38,
 oM 40 39,
 qM 40 true 41 0,
 qR 40 true 42 .jLI [.tmp 41],
 qR 40 true 43 (.bin .leq) [.tmp 42, .pv (.int .i64 64)],
 oR 44 .pick [.tmp 40, .tmp 43, .pv (.bool false)],
 oM 36 44] jFZ)
 (.cond (.tmp 36)
 (.seq (.region false [oM 45 0,
 oM 46 1,
 oC 47 123 [.tmp 45, .tmp 46],
 oM 4 47] jFZ)
 (.ret))
 (.skip))))))))))
 (.seq (.region false [oM 48 1,
 oR 49 .jPD [.tmp 48, .pv (.int .i64 0)],
 oM 6 49] jFZ)
 (.seq (.region false [oM 50 1,
 oR 51 .jPD [.tmp 50, .pv (.int .i64 1)],
 oM 7 51] jFZ)
 (.seq (.region false [oR 8 .mov [.pv (.int .i64 0)]] jFZ)
 (.seq (.region false [oM 52 0,
 oT 53 .jLI 52,
 oM 54 5,
 oB 55 (.bin .sub) 53 54,
 oR 56 (.bin .add) [.tmp 55, .pv (.int .i64 1)],
 oM 9 56] jFZ)
 (.seq (.region false [oR 10 .mov [.pv (.int .i64 0)]] jFZ)
 (.seq (.block 1
 (.loop
 (.seq (.seq (.region false [oM 57 8,
 oM 58 9,
 oB 59 (.bin .lss) 57 58] jFZ)
 (.cond (.tmp 59)
 (.skip)
 (.exit 1)))
 (.block 2
 (.seq (.seq (.region false [oM 60 0,
 oM 61 8,
 oB 62 .jPD 60 61,
 oM 63 6,
 oB 64 (.bin .neq) 62 63] jFZ)
 (.cond (.tmp 64)
 (.seq (.region false [oM 65 0,
 oM 66 8,
 oR 67 (.bin .add) [.tmp 66, .pv (.int .i64 1)],
 oM 68 9,
 oR 69 (.jMK true true) [.tmp 65, .tmp 67, .tmp 68],
 oM 70 6,
 oC 71 95 [.tmp 69, .tmp 70],
 oM 11 71] jFZ)
 (.seq (.seq (.region false [oM 72 11,
 oR 73 (.bin .lss) [.tmp 72, .pv (.int .i64 0)]] jFZ)
 (.cond (.tmp 73)
 (.seq (.region false [oR 4 .mov [.pv (.int .i64 (-1))]] jFZ)
 (.ret))
 (.skip)))
 (.region false [oM 74 8,
 oM 75 11,
 oR 76 (.bin .add) [.tmp 75, .pv (.int .i64 1)],
 oB 77 (.bin .add) 74 76,
 oM 8 77] jFZ)))
 (.skip)))
 (.seq (.seq (.region false [oM 78 0,
 oM 79 8,
 oR 80 (.bin .add) [.tmp 79, .pv (.int .i64 1)],
 oB 81 .jPD 78 80,
 oM 82 7,
 oB 83 (.bin .eql) 81 82,
 oM 84 83,
 qM 84 true 85 0,
 qM 84 true 86 8,
 qM 84 true 87 8,
 qM 84 true 88 5,
 qR 84 true 89 (.bin .add) [.tmp 87, .tmp 88],
 qR 84 true 90 (.jMK true true) [.tmp 85, .tmp 86, .tmp 89],
 qM 84 true 91 1,
 qR 84 true 92 (.bin .eql) [.tmp 90, .tmp 91],
 oR 93 .pick [.tmp 84, .tmp 92, .pv (.bool false)]] jFZ)
 (.cond (.tmp 93)
 (.seq (.region false [oM 94 8,
 oM 4 94] jFZ)
 (.ret))
 (.skip)))
 (.seq (.region false [oM 95 8,
 oR 96 (.bin .add) [.tmp 95, .pv (.int .i64 1)],
 oM 8 96] jFZ)
 (.seq (.region false [oM 97 10,
 oR 98 (.bin .add) [.tmp 97, .pv (.int .i64 1)],
 oM 10 98] jFZ)
 (.seq (.region false [oM 99 5,
 oR 100 (.load none) [.glob 5],
 oB 101 (.bin .leq) 99 100,
 oM 102 101,
 qM 102 true 103 10,
 qM 102 true 104 8,
 ⟨some 105, some (102, true), .call (.pv (.fn 124 [] [])) [.tmp 104]⟩,
 qR 102 true 106 (.bin .gtr) [.tmp 103, .tmp 105],
 oR 107 .pick [.tmp 102, .tmp 106, .pv (.bool false)]] jFZ)
 (.cond (.tmp 107)
 (.seq (.region false [oM 108 0,
 oM 109 8,
 oB 110 (.jMK true false) 108 109,
 oM 111 1,
 oC 112 123 [.tmp 110, .tmp 111],
 oM 12 112] jFZ)
 (.seq (.seq (.region false [oM 113 12,
 oR 114 (.bin .geq) [.tmp 113, .pv (.int .i64 0)]] jFZ)
 (.cond (.tmp 114)
 (.seq (.region false [oM 115 12,
 oM 116 8,
 oB 117 (.bin .add) 115 116,
 oM 4 117] jFZ)
 (.ret))
 (.skip)))
 (.seq (.region false [oR 4 .mov [.pv (.int .i64 (-1))]] jFZ)
 (.ret))))
 (.seq (.region false [oM 118 5,
 oR 119 (.load none) [.glob 5],
 oB 120 (.bin .gtr) 118 119,
 oM 121 120,
 qM 121 true 122 10,
 qM 121 true 123 8,
 qR 121 true 124 (.bin .shr) [.tmp 123, .pv (.int .u64 4)],
 qR 121 true 125 (.bin .add) [.pv (.int .i64 4), .tmp 124],
 qR 121 true 126 (.bin .geq) [.tmp 122, .tmp 125],
 oR 127 .pick [.tmp 121, .tmp 126, .pv (.bool false)],
 oM 128 127,
 qM 128 true 129 8,
 qM 128 true 130 9,
 qR 128 true 131 (.bin .lss) [.tmp 129, .tmp 130],
 oR 132 .pick [.tmp 128, .tmp 131, .pv (.bool false)]] jFZ)
 (.cond (.tmp 132)
 (.seq (.region false [oM 133 0,
 oM 134 8,
 oB 135 (.jMK true false) 133 134,
 oM 136 1,
 oC 137 125 [.tmp 135, .tmp 136],
 oM 13 137] jFZ)
 (.seq (.seq (.region false [oM 138 13,
 oR 139 (.bin .lss) [.tmp 138, .pv (.int .i64 0)]] jFZ)
 (.cond (.tmp 139)
 (.seq (.region false [oR 4 .mov [.pv (.int .i64 (-1))]] jFZ)
 (.ret))
 (.skip)))
 (.seq (.region false [oM 140 8,
 oM 141 13,
 oB 142 (.bin .add) 140 141,
 oM 4 142] jFZ)
 (.ret))))
 (.skip)))))))))))))
 (.seq (.region false [oR 4 .mov [.pv (.int .i64 (-1))]] jFZ)
 (.ret)))))))))),
 [.tmp 4]⟩
def L55 : List Nat := [0, 2]
def c55 : CF := ⟨22,
 .seq (.region false [oR 2 .mov [.pv (.bool false)]] L55)
 (.seq (.region false [oM 3 0,
 oR 4 (.bin .neq) [.tmp 3, .pv (.str [])],
 oM 5 4,
 qM 5 true 6 0,
 qR 5 true 7 .jLI [.tmp 6],
 qR 5 true 8 (.bin .leq) [.tmp 7, .pv (.int .i64 32)],
 oR 9 .pick [.tmp 5, .tmp 8, .pv (.bool false)],
 oM 10 9,
 qM 10 true 11 0,
 qR 10 true 12 .jPD [.tmp 11, .pv (.int .i64 0)],
 ⟨some 13, some (10, true), .call (.pv (.fn 64 [] [])) [.tmp 12]⟩,
 oR 14 .pick [.tmp 10, .tmp 13, .pv (.bool false)],
 oM 15 14,
 qM 15 true 16 0,
 ⟨some 17, some (15, true), .call (.pv (.fn 89 [] [])) [.tmp 16, .pv (.int .i64 0), .pv (.fn 90 [] [])]⟩,
 qM 15 true 18 0,
 qR 15 true 19 .jLI [.tmp 18],
 qR 15 true 20 (.bin .eql) [.tmp 17, .tmp 19],
 oR 21 .pick [.tmp 15, .tmp 20, .pv (.bool false)],
 oM 2 21] L55)
 (.ret)),
 [.tmp 2]⟩
theorem k15 : jAD Tryz.prog [] L15 Tryz.f15 = some c15 := by kernel_rfl
theorem k45 : jAD Tryz.prog [] L45 Tryz.f45 = some c45 := by kernel_rfl
theorem k64 : jAD Tryz.prog [] L64 Tryz.f64 = some c64 := by kernel_rfl
theorem k65 : jAD Tryz.prog [] L65 Tryz.f65 = some c65 := by kernel_rfl
theorem k66 : jAD Tryz.prog [] L66 Tryz.f66 = some c66 := by kernel_rfl
theorem k67 : jAD Tryz.prog [] L67 Tryz.f67 = some c67 := by kernel_rfl
theorem k68 : jAD Tryz.prog [] L68 Tryz.f68 = some c68 := by kernel_rfl
theorem k71 : jAD Tryz.prog [] L71 Tryz.f71 = some c71 := by kernel_rfl
theorem k89 : jAD Tryz.prog [] L89 Tryz.f89 = some c89 := by kernel_rfl
theorem k90 : jAD Tryz.prog [] L90 Tryz.f90 = some c90 := by kernel_rfl
theorem k94 : jAD Tryz.prog [] L94 Tryz.f94 = some c94 := by kernel_rfl
theorem k96 : jAD Tryz.prog [] L96 Tryz.f96 = some c96 := by kernel_rfl
theorem k98 : jAD Tryz.prog [] L98 Tryz.f98 = some c98 := by kernel_rfl
theorem kRF : jAD Tryz.prog [] kN5 Tryz.f112 = some kPR := by kernel_rfl
theorem kRD : jAD Tryz.prog [] kKB Tryz.f121 = some kPP := by kernel_rfl
theorem kRC : jAD Tryz.prog [] jFZ Tryz.f122 = some kPO := by kernel_rfl
theorem k55 : jAD Tryz.prog [] L55 Tryz.f55 = some c55 := by kernel_rfl
end Go.Proofs.YthjkmhfiffojeaaGreatDoor
