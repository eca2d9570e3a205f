import Derived.Test.YthjkmhfiffojeaaGreatDoorProg
import Derived.KernelRfl
import Derived.Test.YthjkmhfiffojeaaGreatDoorP4
namespace Go.Proofs.YthjkmhfiffojeaaGreatDoor
open PG Go.Proofs
def L4 : List Nat := [0, 2, 3, 4, 5, 6, 7, 8, 9, 17, 44, 52, 74, 80]
def c4 : CF := ⟨86,
 .seq (.region false [oE 2 (.alloc (some 1) (.agg [.jAH])) [],
 oR 3 .mov [.pv (.int .i64 0)],
 oR 4 .mov [.pv (.int .i64 0)]] L4)
 (.seq (.region false [oM 11 0,
 oC 12 15 [.tmp 11],
 oM 10 12,
 oT 13 (.ext 0) 10,
 oT 14 (.ext 1) 10,
 oT 15 (.ext 2) 10,
 oM 5 13,
 oM 6 14,
 oM 7 15] L4)
 (.seq (.seq (.region false [oM 16 7,
 oR 17 (.bin .neq) [.tmp 16, .pv (.int .i64 0)]] L4)
 (.cond (.tmp 17)
 (.seq (.region false [oR 18 (.build [.jAH] []) [],
 oM 19 6,
 oM 20 7,
 oS (.store (some 1)) [.tmp 2, .tmp 18],
 oM 3 19,
 oM 4 20] L4)
 (.ret))
 (.skip)))
 (.seq (.region false [oM 21 5,
 oT 22 (.build [.jAH, .jAH, (.int .i64 0), (.int .i64 0)] [(0, 1)]) 21,
 oE 23 (.box (some 4)) [.tmp 22],
 oM 8 23] L4)
 (.seq (.region false [oM 24 8,
 oC 25 16 [.tmp 24]] L4)
 (.seq (.seq (.region true [oM 26 8,
 oN 27 26,
 oF 3 28 27,
 oL 29 28,
 oR 30 (.bin .eql) [.tmp 29, .pv (.int .i64 0)],
 oM 31 30,
 qM 31 true 32 8,
 qN 31 true 33 32,
 qF 0 31 true 34 33,
 qL 31 true 35 34,
 qM 31 true 36 8,
 qN 31 true 37 36,
 qF 2 31 true 38 37,
 qL 31 true 39 38,
 qR 31 true 40 (.jAC (some 3)) [.tmp 35, .tmp 39],
 qF 0 31 true 41 40,
 qL 31 true 42 41,
 qR 31 true 43 (.bin .neq) [.tmp 42, .pv (.int .i64 0)],
 oR 44 .pick [.tmp 31, .tmp 43, .pv (.bool false)]] L4)
 (.cond (.tmp 44)
 (.region false [oM 45 8,
 oC 46 17 [.tmp 45, .pv (.int .i64 3)]] L4)
 (.skip)))
 (.seq (.region false [oM 47 8,
 oN 48 47,
 oF 1 49 48,
 oL 50 49,
 oT 51 (.build [.jAH] [(0, 1)]) 50,
 oE 9 (.alloc (some 1) (.agg [.jAH])) [],
 oS (.store (some 1)) [.tmp 9, .tmp 51]] L4)
 (.seq (.block 0
 (.seq (.region false [oM 53 8,
 oN 54 53,
 oF 3 55 54,
 oL 56 55,
 oR 57 (.bin .neq) [.tmp 56, .pv (.int .i64 0)],
 oM 52 57] L4)
 (.cond (.tmp 52)
 (.seq (.jB6 (.alt [oR 58 (.build [.jAH] []) [],
 oM 59 8,
 oN 60 59,
 oF 0 61 60,
 oM 63 8,
 oN 64 63,
 oF 2 65 64,
 oM 70 8,
 oN 71 70,
 oF 3 72 71]
 (.alt [oL 62 61]
 (.alt [oL 66 65,
 oB 67 (.jAC (some 3)) 62 66,
 oF 2 68 67]
 (.alt [oL 69 68]
 (.alt [oL 73 72,
 oS (.store (some 1)) [.tmp 2, .tmp 58],
 oM 3 69,
 oM 4 73]
 .done
 (.alt [oS (.store (some 1)) [.tmp 2, .tmp 58],
 oM 3 69,
 oL 73 72,
 oM 4 73]
 .done
 .stop))
 (.alt [oL 73 72]
 (.alt [oL 69 68,
 oS (.store (some 1)) [.tmp 2, .tmp 58],
 oM 3 69,
 oM 4 73]
 .done
 (.alt [oS (.store (some 1)) [.tmp 2, .tmp 58],
 oL 69 68,
 oM 3 69,
 oM 4 73]
 .done
 .stop))
 (.alt [oS (.store (some 1)) [.tmp 2, .tmp 58]]
 (.alt [oL 69 68,
 oM 3 69,
 oL 73 72,
 oM 4 73]
 .done
 (.alt [oL 73 72,
 oL 69 68,
 oM 3 69,
 oM 4 73]
 .done
 .stop))
 .stop)))
 (.alt [oL 73 72]
 (.alt [oL 66 65,
 oB 67 (.jAC (some 3)) 62 66,
 oF 2 68 67]
 (.alt [oL 69 68,
 oS (.store (some 1)) [.tmp 2, .tmp 58],
 oM 3 69,
 oM 4 73]
 .done
 (.alt [oS (.store (some 1)) [.tmp 2, .tmp 58],
 oL 69 68,
 oM 3 69,
 oM 4 73]
 .done
 .stop))
 (.alt [oS (.store (some 1)) [.tmp 2, .tmp 58],
 oL 66 65,
 oB 67 (.jAC (some 3)) 62 66,
 oF 2 68 67,
 oL 69 68,
 oM 3 69,
 oM 4 73]
 .done
 .stop))
 (.alt [oS (.store (some 1)) [.tmp 2, .tmp 58]]
 (.alt [oL 66 65,
 oB 67 (.jAC (some 3)) 62 66,
 oF 2 68 67]
 (.alt [oL 69 68,
 oM 3 69,
 oL 73 72,
 oM 4 73]
 .done
 (.alt [oL 73 72,
 oL 69 68,
 oM 3 69,
 oM 4 73]
 .done
 .stop))
 (.alt [oL 73 72,
 oL 66 65,
 oB 67 (.jAC (some 3)) 62 66,
 oF 2 68 67,
 oL 69 68,
 oM 3 69,
 oM 4 73]
 .done
 .stop))
 .stop)))
 (.alt [oL 66 65]
 (.alt [oL 62 61,
 oB 67 (.jAC (some 3)) 62 66,
 oF 2 68 67]
 (.alt [oL 69 68]
 (.alt [oL 73 72,
 oS (.store (some 1)) [.tmp 2, .tmp 58],
 oM 3 69,
 oM 4 73]
 .done
 (.alt [oS (.store (some 1)) [.tmp 2, .tmp 58],
 oM 3 69,
 oL 73 72,
 oM 4 73]
 .done
 .stop))
 (.alt [oL 73 72]
 (.alt [oL 69 68,
 oS (.store (some 1)) [.tmp 2, .tmp 58],
 oM 3 69,
 oM 4 73]
 .done
 (.alt [oS (.store (some 1)) [.tmp 2, .tmp 58],
 oL 69 68,
 oM 3 69,
 oM 4 73]
 .done
 .stop))
 (.alt [oS (.store (some 1)) [.tmp 2, .tmp 58]]
 (.alt [oL 69 68,
 oM 3 69,
 oL 73 72,
 oM 4 73]
 .done
 (.alt [oL 73 72,
 oL 69 68,
 oM 3 69,
 oM 4 73]
 .done
 .stop))
 .stop)))
 (.alt [oL 73 72]
 (.alt [oL 62 61,
 oB 67 (.jAC (some 3)) 62 66,
 oF 2 68 67]
 (.alt [oL 69 68,
 oS (.store (some 1)) [.tmp 2, .tmp 58],
 oM 3 69,
 oM 4 73]
 .done
 (.alt [oS (.store (some 1)) [.tmp 2, .tmp 58],
 oL 69 68,
 oM 3 69,
 oM 4 73]
 .done
 .stop))
 (.alt [oS (.store (some 1)) [.tmp 2, .tmp 58],
 oL 62 61,
 oB 67 (.jAC (some 3)) 62 66,
 oF 2 68 67,
 oL 69 68,
 oM 3 69,
 oM 4 73]
 .done
 .stop))
 (.alt [oS (.store (some 1)) [.tmp 2, .tmp 58]]
 (.alt [oL 62 61,
 oB 67 (.jAC (some 3)) 62 66,
 oF 2 68 67]
 (.alt [oL 69 68,
 oM 3 69,
 oL 73 72,
 oM 4 73]
 .done
 (.alt [oL 73 72,
 oL 69 68,
 oM 3 69,
 oM 4 73]
 .done
 .stop))
 (.alt [oL 73 72,
 oL 62 61,
 oB 67 (.jAC (some 3)) 62 66,
 oF 2 68 67,
 oL 69 68,
 oM 3 69,
 oM 4 73]
 .done
 .stop))
 .stop)))
 (.alt [oL 73 72]
 (.alt [oL 62 61]
 (.alt [oL 66 65,
 oB 67 (.jAC (some 3)) 62 66,
 oF 2 68 67]
 (.alt [oL 69 68,
 oS (.store (some 1)) [.tmp 2, .tmp 58],
 oM 3 69,
 oM 4 73]
 .done
 (.alt [oS (.store (some 1)) [.tmp 2, .tmp 58],
 oL 69 68,
 oM 3 69,
 oM 4 73]
 .done
 .stop))
 (.alt [oS (.store (some 1)) [.tmp 2, .tmp 58],
 oL 66 65,
 oB 67 (.jAC (some 3)) 62 66,
 oF 2 68 67,
 oL 69 68,
 oM 3 69,
 oM 4 73]
 .done
 .stop))
 (.alt [oL 66 65]
 (.alt [oL 62 61,
 oB 67 (.jAC (some 3)) 62 66,
 oF 2 68 67]
 (.alt [oL 69 68,
 oS (.store (some 1)) [.tmp 2, .tmp 58],
 oM 3 69,
 oM 4 73]
 .done
 (.alt [oS (.store (some 1)) [.tmp 2, .tmp 58],
 oL 69 68,
 oM 3 69,
 oM 4 73]
 .done
 .stop))
 (.alt [oS (.store (some 1)) [.tmp 2, .tmp 58],
 oL 62 61,
 oB 67 (.jAC (some 3)) 62 66,
 oF 2 68 67,
 oL 69 68,
 oM 3 69,
 oM 4 73]
 .done
 .stop))
 (.alt [oS (.store (some 1)) [.tmp 2, .tmp 58]]
 (.alt [oL 62 61,
 oL 66 65,
 oB 67 (.jAC (some 3)) 62 66,
 oF 2 68 67,
 oL 69 68,
 oM 3 69,
 oM 4 73]
 .done
 (.alt [oL 66 65,
 oL 62 61,
 oB 67 (.jAC (some 3)) 62 66,
 oF 2 68 67,
 oL 69 68,
 oM 3 69,
 oM 4 73]
 .done
 .stop))
 .stop)))
 (.alt [oS (.store (some 1)) [.tmp 2, .tmp 58]]
 (.alt [oL 62 61]
 (.alt [oL 66 65,
 oB 67 (.jAC (some 3)) 62 66,
 oF 2 68 67]
 (.alt [oL 69 68,
 oM 3 69,
 oL 73 72,
 oM 4 73]
 .done
 (.alt [oL 73 72,
 oL 69 68,
 oM 3 69,
 oM 4 73]
 .done
 .stop))
 (.alt [oL 73 72,
 oL 66 65,
 oB 67 (.jAC (some 3)) 62 66,
 oF 2 68 67,
 oL 69 68,
 oM 3 69,
 oM 4 73]
 .done
 .stop))
 (.alt [oL 66 65]
 (.alt [oL 62 61,
 oB 67 (.jAC (some 3)) 62 66,
 oF 2 68 67]
 (.alt [oL 69 68,
 oM 3 69,
 oL 73 72,
 oM 4 73]
 .done
 (.alt [oL 73 72,
 oL 69 68,
 oM 3 69,
 oM 4 73]
 .done
 .stop))
 (.alt [oL 73 72,
 oL 62 61,
 oB 67 (.jAC (some 3)) 62 66,
 oF 2 68 67,
 oL 69 68,
 oM 3 69,
 oM 4 73]
 .done
 .stop))
 (.alt [oL 73 72]
 (.alt [oL 62 61,
 oL 66 65,
 oB 67 (.jAC (some 3)) 62 66,
 oF 2 68 67,
 oL 69 68,
 oM 3 69,
 oM 4 73]
 .done
 (.alt [oL 66 65,
 oL 62 61,
 oB 67 (.jAC (some 3)) 62 66,
 oF 2 68 67,
 oL 69 68,
 oM 3 69,
 oM 4 73]
 .done
 .stop))
 .stop)))
 .stop))))
 .stop) L4)
 (.ret))
 (.seq (.region false [oF 0 75 9,
 oL 76 75,
 oT 77 .jCH 76,
 oR 78 (.bin .gtr) [.tmp 77, .pv (.int .i64 256)],
 oM 74 78] L4)
 (.cond (.tmp 74)
 (.seq (.region false [oR 79 (.build [.jAH] []) [],
 oS (.store (some 1)) [.tmp 2, .tmp 79],
 oR 3 .mov [.pv (.int .i64 0)],
 oR 4 .mov [.pv (.int .i64 5)]] L4)
 (.ret))
 (.seq (.region false [oT 81 (.load (some 1)) 9,
 oC 82 18 [.tmp 81],
 oR 83 (.bin .gtr) [.tmp 82, .pv (.int .i64 16)],
 oM 80 83] L4)
 (.cond (.tmp 80)
 (.seq (.region false [oR 84 (.build [.jAH] []) [],
 oS (.store (some 1)) [.tmp 2, .tmp 84],
 oR 3 .mov [.pv (.int .i64 0)],
 oR 4 .mov [.pv (.int .i64 14)]] L4)
 (.ret))
 (.skip))))))))
 (.seq (.region false [oT 85 (.load (some 1)) 9,
 oS (.store (some 1)) [.tmp 2, .tmp 85],
 oR 3 .mov [.pv (.int .i64 0)],
 oR 4 .mov [.pv (.int .i64 0)]] L4)
 (.ret))))))))),
 [.cell 2 (some 1), .tmp 3, .tmp 4]⟩
def L16 : List Nat := [0, 1, 2, 3]
def c16 : CF := ⟨9,
 .seq (.region false [oE 1 (.box none) [.tmp 0],
 oR 2 .mov [.pv (.int .i64 0)]] L16)
 (.seq (.region false [oT 4 (.jTR 46 0) 1,
 oM 3 4] L16)
 (.seq (.region false [oL 5 1,
 oM 6 3,
 oE 7 (.lit none false) [.pv (.int .i64 2), .pv (.int .i64 3)],
 oC 8 47 [.tmp 5, .tmp 6, .tmp 7],
 oM 2 8] L16)
 (.ret))),
 [.tmp 2]⟩
def L17 : List Nat := [0, 1, 4, 9]
def c17 : CF := ⟨14,
 .seq (.region false [oR 4 .mov [.pv (.int .i64 0)]] L17)
 (.seq (.seq (.region false [oM 5 0,
 oN 6 5,
 oF 3 7 6,
 oL 8 7,
 oR 9 (.bin .eql) [.tmp 8, .pv (.int .i64 0)]] L17)
 (.cond (.tmp 9)
 (.region false [oM 10 0,
 oM 11 1,
 oN 12 10,
 oF 3 13 12,
 oS (.store none) [.tmp 13, .tmp 11]] L17)
 (.skip)))
 (.seq (.region false [oR 4 .mov [.pv (.int .i64 0)]] L17)
 (.ret))),
 [.tmp 4]⟩
def L18 : List Nat := [0, 1, 2, 3, 4, 5, 7, 13, 14, 15, 16, 21, 22, 23, 24]
def c18 : CF := ⟨53,
 .seq (.region false [oE 1 (.box (some 1)) [.tmp 0],
 oR 2 .mov [.pv (.int .i64 0)]] L18)
 (.seq (.region false [oF 0 8 1,
 oL 9 8,
 oT 10 .jCH 9,
 oE 11 (.make none (.int .i64 0) 8) [.tmp 10, .tmp 10],
 oM 3 11] L18)
 (.seq (.seq (.region false [oF 0 12 1,
 oL 13 12,
 oT 14 .jCH 13,
 oR 15 .mov [.pv (.int .i64 0)]] L18)
 (.block 0
 (.loop
 (.seq (.region false [oB 16 (.bin .lss) 15 14] L18)
 (.seq (.cond (.tmp 16)
 (.skip)
 (.exit 0))
 (.seq (.block 1
 (.seq (.region false [oM 17 15,
 oB 18 (.jAC (some 4)) 13 15,
 oT 19 (.load (some 4)) 18,
 oE 5 (.alloc (some 4) (.agg [(.int .i64 0), (.int .i64 0), (.str []), .jAH])) [],
 oM 4 17,
 oS (.store (some 4)) [.tmp 5, .tmp 19]] L18)
 (.seq (.seq (.region false [oF 3 20 5,
 oL 21 20,
 oT 22 .jCH 21,
 oR 23 .mov [.pv (.int .i64 0)]] L18)
 (.block 2
 (.loop
 (.seq (.region false [oB 24 (.bin .lss) 23 22] L18)
 (.seq (.cond (.tmp 24)
 (.skip)
 (.exit 2))
 (.seq (.block 3
 (.seq (.region false [oB 25 (.jAC none) 21 23,
 oL 26 25,
 oM 7 26] L18)
 (.jB6 (.alt [oM 27 3,
 oM 28 4,
 oM 29 3,
 oM 30 4,
 oB 31 (.jAC none) 29 30,
 oM 33 3,
 oM 34 7,
 oB 35 (.jAC none) 33 34]
 (.alt [oL 32 31,
 oL 36 35,
 oB 37 .max 32 36,
 oB 38 (.jAC none) 27 28,
 oS (.store none) [.tmp 38, .tmp 37]]
 .done
 (.alt [oL 36 35,
 oL 32 31,
 oB 37 .max 32 36,
 oB 38 (.jAC none) 27 28,
 oS (.store none) [.tmp 38, .tmp 37]]
 .done
 .stop))
 .stop) L18)))
 (.region false [oR 39 (.bin .add) [.tmp 23, .pv (.int .i64 1)],
 oM 23 39] L18)))))))
 (.region false [oM 40 3,
 oM 41 4,
 oB 42 (.jAC none) 40 41,
 oL 43 42,
 oR 44 (.bin .add) [.tmp 43, .pv (.int .i64 1)],
 oB 45 (.jAC none) 40 41,
 oS (.store none) [.tmp 45, .tmp 44]] L18))))
 (.region false [oR 46 (.bin .add) [.tmp 15, .pv (.int .i64 1)],
 oM 15 46] L18)))))))
 (.seq (.region false [oM 47 3,
 oM 48 3,
 oT 49 .jCH 48,
 oR 50 (.bin .sub) [.tmp 49, .pv (.int .i64 1)],
 oB 51 (.jAC none) 47 50,
 oL 52 51,
 oM 2 52] L18)
 (.ret)))),
 [.tmp 2]⟩
def L20 : List Nat := [0, 1, 2, 3, 4, 5, 6, 7, 9, 10, 15, 25, 26, 27, 28, 38, 41, 42, 43, 44, 59, 65, 73, 76]
def c20 : CF := ⟨77,
 .seq (.region false [oE 1 (.box (some 1)) [.tmp 0],
 oR 2 .mov [.pv (.int .i64 0)]] L20)
 (.seq (.block 0
 (.seq (.region false [oF 0 11 1,
 oL 12 11,
 oT 13 .jCH 12,
 oR 14 (.bin .eql) [.tmp 13, .pv (.int .i64 0)],
 oM 10 14] L20)
 (.cond (.tmp 10)
 (.seq (.region false [oR 2 .mov [.pv (.int .i64 10)]] L20)
 (.ret))
 (.seq (.region false [oF 0 16 1,
 oL 17 16,
 oT 18 .jCH 17,
 oR 19 (.bin .gtr) [.tmp 18, .pv (.int .i64 256)],
 oM 15 19] L20)
 (.cond (.tmp 15)
 (.seq (.region false [oR 2 .mov [.pv (.int .i64 5)]] L20)
 (.ret))
 (.skip))))))
 (.seq (.region false [oF 0 20 1,
 oL 21 20,
 oT 22 .jCH 21,
 oE 23 (.make none (.bool false) 1) [.tmp 22, .tmp 22],
 oM 3 23] L20)
 (.seq (.seq (.region false [oF 0 24 1,
 oL 25 24,
 oT 26 .jCH 25,
 oR 27 .mov [.pv (.int .i64 0)]] L20)
 (.block 1
 (.loop
 (.seq (.region false [oB 28 (.bin .lss) 27 26] L20)
 (.seq (.cond (.tmp 28)
 (.skip)
 (.exit 1))
 (.seq (.block 2
 (.seq (.region false [oM 29 27,
 oB 30 (.jAC (some 4)) 25 27,
 oT 31 (.load (some 4)) 30,
 oE 5 (.alloc (some 4) (.agg [(.int .i64 0), (.int .i64 0), (.str []), .jAH])) [],
 oM 4 29,
 oS (.store (some 4)) [.tmp 5, .tmp 31]] L20)
 (.seq (.region false [oT 33 (.load (some 4)) 5,
 oC 34 49 [.tmp 33],
 oM 32 34,
 oT 35 (.ext 0) 32,
 oT 36 (.ext 1) 32,
 oM 6 35,
 oM 7 36] L20)
 (.seq (.seq (.region false [oM 37 6,
 oR 38 (.bin .neq) [.tmp 37, .pv (.int .i64 0)]] L20)
 (.cond (.tmp 38)
 (.seq (.region false [oM 39 6,
 oM 2 39] L20)
 (.ret))
 (.skip)))
 (.seq (.seq (.region false [oF 3 40 5,
 oL 41 40,
 oT 42 .jCH 41,
 oR 43 .mov [.pv (.int .i64 0)]] L20)
 (.block 3
 (.loop
 (.seq (.region false [oB 44 (.bin .lss) 43 42] L20)
 (.seq (.cond (.tmp 44)
 (.skip)
 (.exit 3))
 (.seq (.block 4
 (.seq (.region false [oB 45 (.jAC none) 41 43,
 oL 46 45,
 oM 9 46] L20)
 (.seq (.seq (.region false [oM 47 9,
 oR 48 (.bin .lss) [.tmp 47, .pv (.int .i64 0)],
 oM 49 48,
 qM 49 false 50 9,
 qM 49 false 51 4,
 qR 49 false 52 (.bin .geq) [.tmp 50, .tmp 51],
 oR 53 .pick [.tmp 49, .pv (.bool true), .tmp 52],
 oM 54 53,
 qM 54 false 55 3,
 qM 54 false 56 9,
 qR 54 false 57 (.jAC none) [.tmp 55, .tmp 56],
 qL 54 false 58 57,
 oR 59 .pick [.tmp 54, .pv (.bool true), .tmp 58]] L20)
 (.cond (.tmp 59)
 (.seq (.region false [oR 2 .mov [.pv (.int .i64 8)]] L20)
 (.ret))
 (.skip)))
 (.region false [oM 60 3,
 oM 61 9,
 oB 62 (.jAC none) 60 61,
 oS (.store none) [.tmp 62, .pv (.bool true)]] L20))))
 (.region false [oR 63 (.bin .add) [.tmp 43, .pv (.int .i64 1)],
 oM 43 63] L20)))))))
 (.seq (.region false [oM 64 7,
 oR 65 (.bin .neq) [.tmp 64, .pv (.int .i64 0)]] L20)
 (.cond (.tmp 65)
 (.seq (.region false [oM 66 7,
 oM 2 66] L20)
 (.ret))
 (.skip))))))))
 (.region false [oR 67 (.bin .add) [.tmp 27, .pv (.int .i64 1)],
 oM 27 67] L20)))))))
 (.seq (.seq (.region false [oM 68 3,
 oM 69 3,
 oT 70 .jCH 69,
 oR 71 (.bin .sub) [.tmp 70, .pv (.int .i64 1)],
 oB 72 (.slc none false true false) 68 71,
 oC 73 50 [.tmp 72, .pv (.bool false)]] L20)
 (.cond (.tmp 73)
 (.seq (.region false [oR 2 .mov [.pv (.int .i64 3)]] L20)
 (.ret))
 (.skip)))
 (.seq (.seq (.region false [oT 74 (.load (some 1)) 1,
 oC 75 18 [.tmp 74],
 oR 76 (.bin .gtr) [.tmp 75, .pv (.int .i64 16)]] L20)
 (.cond (.tmp 76)
 (.seq (.region false [oR 2 .mov [.pv (.int .i64 14)]] L20)
 (.ret))
 (.skip)))
 (.seq (.region false [oR 2 .mov [.pv (.int .i64 0)]] L20)
 (.ret))))))),
 [.tmp 2]⟩
def L46 : List Nat := [0, 1]
def c46 : CF := ⟨7,
 .seq (.region false [oR 1 .mov [.pv (.int .i64 0)]] L46)
 (.seq (.region false [oL 2 0,
 oL 3 0,
 oT 4 (.jTR 48 1) 3,
 oE 5 (.lit none false) [.pv (.int .i64 4)],
 oC 6 47 [.tmp 2, .tmp 4, .tmp 5],
 oM 1 6] L46)
 (.ret)),
 [.tmp 1]⟩
def L47 : List Nat := [0, 1, 2, 6, 7, 9, 16, 17, 18, 19, 20, 27]
def c47 : CF := ⟨45,
 .seq (.region false [oR 6 .mov [.pv (.int .i64 0)]] L47)
 (.scope (.seq (.region false [oM 10 1,
 ⟨some 11, none, .call (.tmp 10) []⟩,
 oM 7 11] L47)
 (.seq (.label)
 (.seq (.block 0
 (.loop
 (.seq (.seq (.region false [oM 12 0,
 oN 13 12,
 oF 3 14 13,
 oL 15 14,
 oR 16 (.bin .eql) [.tmp 15, .pv (.int .i64 0)]] L47)
 (.cond (.tmp 16)
 (.skip)
 (.exit 0)))
 (.block 1
 (.seq (.seq (.region false [oM 17 2,
 oT 18 .jCH 17,
 oR 19 .mov [.pv (.int .i64 0)]] L47)
 (.block 2
 (.loop
 (.seq (.region false [oB 20 (.bin .lss) 19 18] L47)
 (.seq (.cond (.tmp 20)
 (.skip)
 (.exit 2))
 (.seq (.block 3
 (.seq (.region false [oB 21 (.jAC none) 17 19,
 oL 22 21,
 oM 9 22] L47)
 (.seq (.region false [oM 23 0,
 oM 24 9,
 oR 25 (.jCF 10 none) [.glob 0, .tmp 24],
 oL 26 25,
 oC 27 69 [.tmp 23, .tmp 26]] L47)
 (.cond (.tmp 27)
 (.seq (.region false [oM 28 0,
 oN 29 28,
 oF 2 30 29,
 oL 31 30,
 oR 32 (.bin .add) [.tmp 31, .pv (.int .i64 1)],
 oN 33 28,
 oF 2 34 33,
 oS (.store none) [.tmp 34, .tmp 32]] L47)
 (.seq (.region false [oM 35 0,
 oM 36 9,
 oM 37 7,
 oM 38 1,
 ⟨some 39, none, .call (.tmp 38) []⟩,
 oE 40 (.lit none false) [.tmp 37, .tmp 39],
 oB 41 (.build [(.int .i64 0), (.int .i64 0), (.str []), .jAH] [(0, 1), (3, 1)]) 36 40,
 oC 42 70 [.tmp 35, .tmp 41],
 oM 7 42] L47)
 (.exit 1)))
 (.skip)))))
 (.region false [oR 43 (.bin .add) [.tmp 19, .pv (.int .i64 1)],
 oM 19 43] L47)))))))
 (.exit 0))))))
 (.seq (.region false [oM 44 7,
 oM 6 44] L47)
 (.ret)))))),
 [.tmp 6]⟩
def L48 : List Nat := [0, 2, 3, 4, 6, 7, 18, 39, 61, 76, 100, 107]
def c48 : CF := ⟨116,
 .seq (.region false [oR 2 .mov [.pv (.int .i64 0)]] L48)
 (.seq (.jB6 (.alt [oM 8 0,
 oN 9 8,
 oF 0 10 9,
 oM 12 0,
 oN 13 12,
 oF 2 14 13]
 (.alt [oL 11 10]
 (.alt [oL 15 14,
 oB 16 (.jAC (some 3)) 11 15]
 (.alt [oT 17 (.load (some 3)) 16,
 oE 3 (.alloc (some 3) (.agg [(.int .i64 0), (.str []), (.int .i64 0)])) [],
 oS (.store (some 3)) [.tmp 3, .tmp 17]]
 .done
 (.alt [oE 3 (.alloc (some 3) (.agg [(.int .i64 0), (.str []), (.int .i64 0)])) [],
 oT 17 (.load (some 3)) 16,
 oS (.store (some 3)) [.tmp 3, .tmp 17]]
 .done
 .stop))
 (.alt [oE 3 (.alloc (some 3) (.agg [(.int .i64 0), (.str []), (.int .i64 0)])) [],
 oL 15 14,
 oB 16 (.jAC (some 3)) 11 15,
 oT 17 (.load (some 3)) 16,
 oS (.store (some 3)) [.tmp 3, .tmp 17]]
 .done
 .stop))
 (.alt [oL 15 14]
 (.alt [oL 11 10,
 oB 16 (.jAC (some 3)) 11 15]
 (.alt [oT 17 (.load (some 3)) 16,
 oE 3 (.alloc (some 3) (.agg [(.int .i64 0), (.str []), (.int .i64 0)])) [],
 oS (.store (some 3)) [.tmp 3, .tmp 17]]
 .done
 (.alt [oE 3 (.alloc (some 3) (.agg [(.int .i64 0), (.str []), (.int .i64 0)])) [],
 oT 17 (.load (some 3)) 16,
 oS (.store (some 3)) [.tmp 3, .tmp 17]]
 .done
 .stop))
 (.alt [oE 3 (.alloc (some 3) (.agg [(.int .i64 0), (.str []), (.int .i64 0)])) [],
 oL 11 10,
 oB 16 (.jAC (some 3)) 11 15,
 oT 17 (.load (some 3)) 16,
 oS (.store (some 3)) [.tmp 3, .tmp 17]]
 .done
 .stop))
 (.alt [oE 3 (.alloc (some 3) (.agg [(.int .i64 0), (.str []), (.int .i64 0)])) []]
 (.alt [oL 11 10,
 oL 15 14,
 oB 16 (.jAC (some 3)) 11 15,
 oT 17 (.load (some 3)) 16,
 oS (.store (some 3)) [.tmp 3, .tmp 17]]
 .done
 (.alt [oL 15 14,
 oL 11 10,
 oB 16 (.jAC (some 3)) 11 15,
 oT 17 (.load (some 3)) 16,
 oS (.store (some 3)) [.tmp 3, .tmp 17]]
 .done
 .stop))
 .stop)))
 .stop) L48)
 (.seq (.block 0
 (.seq (.region false [oF 0 19 3,
 oL 20 19,
 oR 21 (.bin .eql) [.tmp 20, .pv (.int .i64 2)],
 oM 18 21] L48)
 (.cond (.tmp 18)
 (.seq (.region false [oF 1 23 3,
 oL 24 23,
 oC 25 71 [.tmp 24],
 oM 22 25,
 oT 26 (.ext 0) 22,
 oT 27 (.ext 1) 22,
 oM 4 26,
 oM 5 27] L48)
 (.seq (.region false [oM 28 0,
 oN 29 28,
 oF 2 30 29,
 oL 31 30,
 oR 32 (.bin .add) [.tmp 31, .pv (.int .i64 1)],
 oN 33 28,
 oF 2 34 33,
 oS (.store none) [.tmp 34, .tmp 32]] L48)
 (.seq (.region false [oM 35 0,
 oM 36 4,
 oR 37 (.build [(.int .i64 0), (.int .i64 0), (.str []), .jAH] [(0, 1), (1, 1)]) [.pv (.int .i64 0), .tmp 36],
 oC 38 70 [.tmp 35, .tmp 37],
 oM 2 38] L48)
 (.ret))))
 (.seq (.region false [oF 0 40 3,
 oL 41 40,
 oR 42 (.bin .eql) [.tmp 41, .pv (.int .i64 1)],
 oM 39 42] L48)
 (.cond (.tmp 39)
 (.seq (.jB6 (.alt [oM 43 0,
 oN 44 43,
 oF 0 45 44,
 oM 47 0,
 oN 48 47,
 oF 2 49 48]
 (.alt [oL 46 45]
 (.alt [oL 50 49,
 oR 51 (.bin .add) [.tmp 50, .pv (.int .i64 1)],
 oB 52 (.jAC (some 3)) 46 51]
 (.alt [oT 53 (.load (some 3)) 52,
 oE 6 (.alloc (some 3) (.agg [(.int .i64 0), (.str []), (.int .i64 0)])) [],
 oS (.store (some 3)) [.tmp 6, .tmp 53]]
 .done
 (.alt [oE 6 (.alloc (some 3) (.agg [(.int .i64 0), (.str []), (.int .i64 0)])) [],
 oT 53 (.load (some 3)) 52,
 oS (.store (some 3)) [.tmp 6, .tmp 53]]
 .done
 .stop))
 (.alt [oE 6 (.alloc (some 3) (.agg [(.int .i64 0), (.str []), (.int .i64 0)])) [],
 oL 50 49,
 oR 51 (.bin .add) [.tmp 50, .pv (.int .i64 1)],
 oB 52 (.jAC (some 3)) 46 51,
 oT 53 (.load (some 3)) 52,
 oS (.store (some 3)) [.tmp 6, .tmp 53]]
 .done
 .stop))
 (.alt [oL 50 49,
 oR 51 (.bin .add) [.tmp 50, .pv (.int .i64 1)]]
 (.alt [oL 46 45,
 oB 52 (.jAC (some 3)) 46 51]
 (.alt [oT 53 (.load (some 3)) 52,
 oE 6 (.alloc (some 3) (.agg [(.int .i64 0), (.str []), (.int .i64 0)])) [],
 oS (.store (some 3)) [.tmp 6, .tmp 53]]
 .done
 (.alt [oE 6 (.alloc (some 3) (.agg [(.int .i64 0), (.str []), (.int .i64 0)])) [],
 oT 53 (.load (some 3)) 52,
 oS (.store (some 3)) [.tmp 6, .tmp 53]]
 .done
 .stop))
 (.alt [oE 6 (.alloc (some 3) (.agg [(.int .i64 0), (.str []), (.int .i64 0)])) [],
 oL 46 45,
 oB 52 (.jAC (some 3)) 46 51,
 oT 53 (.load (some 3)) 52,
 oS (.store (some 3)) [.tmp 6, .tmp 53]]
 .done
 .stop))
 (.alt [oE 6 (.alloc (some 3) (.agg [(.int .i64 0), (.str []), (.int .i64 0)])) []]
 (.alt [oL 46 45,
 oL 50 49,
 oR 51 (.bin .add) [.tmp 50, .pv (.int .i64 1)],
 oB 52 (.jAC (some 3)) 46 51,
 oT 53 (.load (some 3)) 52,
 oS (.store (some 3)) [.tmp 6, .tmp 53]]
 .done
 (.alt [oL 50 49,
 oR 51 (.bin .add) [.tmp 50, .pv (.int .i64 1)],
 oL 46 45,
 oB 52 (.jAC (some 3)) 46 51,
 oT 53 (.load (some 3)) 52,
 oS (.store (some 3)) [.tmp 6, .tmp 53]]
 .done
 .stop))
 .stop)))
 .stop) L48)
 (.seq (.seq (.region false [oF 0 54 6,
 oL 55 54,
 oR 56 (.bin .eql) [.tmp 55, .pv (.int .i64 3)],
 oM 57 56,
 qF 1 57 true 58 6,
 qL 57 true 59 58,
 qR 57 true 60 (.bin .eql) [.tmp 59, .pv (.str [40])],
 oR 61 .pick [.tmp 57, .tmp 60, .pv (.bool false)]] L48)
 (.cond (.tmp 61)
 (.seq (.region false [oM 62 0,
 oC 63 72 [.tmp 62],
 oM 2 63] L48)
 (.ret))
 (.skip)))
 (.seq (.region false [oM 64 0,
 oN 65 64,
 oF 2 66 65,
 oL 67 66,
 oR 68 (.bin .add) [.tmp 67, .pv (.int .i64 1)],
 oN 69 64,
 oF 2 70 69,
 oS (.store none) [.tmp 70, .tmp 68]] L48)
 (.seq (.region false [oM 71 0,
 oF 1 72 3,
 oL 73 72,
 oR 74 (.build [(.int .i64 0), (.int .i64 0), (.str []), .jAH] [(0, 1), (2, 1)]) [.pv (.int .i64 1), .tmp 73],
 oC 75 70 [.tmp 71, .tmp 74],
 oM 2 75] L48)
 (.ret)))))
 (.seq (.region false [oM 77 0,
 oC 78 69 [.tmp 77, .pv (.str [40])],
 oT 79 (.un .not) 78,
 oM 76 79] L48)
 (.cond (.tmp 76)
 (.seq (.region false [oM 80 0,
 oC 81 17 [.tmp 80, .pv (.int .i64 3)],
 oM 2 81] L48)
 (.ret))
 (.skip))))))))
 (.seq (.region false [oM 82 0,
 oN 83 82,
 oF 2 84 83,
 oL 85 84,
 oR 86 (.bin .add) [.tmp 85, .pv (.int .i64 1)],
 oN 87 82,
 oF 2 88 87,
 oS (.store none) [.tmp 88, .tmp 86]] L48)
 (.seq (.region false [oM 89 0,
 oC 90 16 [.tmp 89],
 oM 7 90] L48)
 (.seq (.seq (.region false [oM 91 0,
 oN 92 91,
 oF 3 93 92,
 oL 94 93,
 oR 95 (.bin .eql) [.tmp 94, .pv (.int .i64 0)],
 oM 96 95,
 qM 96 true 97 0,
 ⟨some 98, some (96, true), .call (.pv (.fn 69 [] [])) [.tmp 97, .pv (.str [41])]⟩,
 qR 96 true 99 (.un .not) [.tmp 98],
 oR 100 .pick [.tmp 96, .tmp 99, .pv (.bool false)]] L48)
 (.cond (.tmp 100)
 (.seq (.region false [oM 101 0,
 oC 102 17 [.tmp 101, .pv (.int .i64 3)],
 oM 2 102] L48)
 (.ret))
 (.skip)))
 (.seq (.seq (.region false [oM 103 0,
 oN 104 103,
 oF 3 105 104,
 oL 106 105,
 oR 107 (.bin .eql) [.tmp 106, .pv (.int .i64 0)]] L48)
 (.cond (.tmp 107)
 (.region false [oM 108 0,
 oN 109 108,
 oF 2 110 109,
 oL 111 110,
 oR 112 (.bin .add) [.tmp 111, .pv (.int .i64 1)],
 oN 113 108,
 oF 2 114 113,
 oS (.store none) [.tmp 114, .tmp 112]] L48)
 (.skip)))
 (.seq (.region false [oM 115 7,
 oM 2 115] L48)
 (.ret)))))))),
 [.tmp 2]⟩
def L49 : List Nat := [0, 1, 2, 3, 4, 5, 6, 15, 24, 52]
def c49 : CF := ⟨72,
 .seq (.region false [oE 1 (.box (some 4)) [.tmp 0],
 oR 2 .mov [.pv (.int .i64 0)],
 oR 3 .mov [.pv (.int .i64 0)]] L49)
 (.seq (.region false [oR 4 .mov [.pv (.int .i64 0)],
 oR 5 .mov [.pv (.int .i64 0)]] L49)
 (.seq (.block 0
 (.seq (.region false [oF 0 7 1,
 oL 8 7,
 oR 9 (.bin .lss) [.tmp 8, .pv (.int .i64 0)],
 oM 10 9,
 qF 0 10 false 11 1,
 qL 10 false 12 11,
 qR 10 false 13 (.bin .gtr) [.tmp 12, .pv (.int .i64 9)],
 oR 14 .pick [.tmp 10, .pv (.bool true), .tmp 13],
 oM 6 14] L49)
 (.cond (.tmp 6)
 (.seq (.region false [oR 2 .mov [.pv (.int .i64 11)],
 oR 3 .mov [.pv (.int .i64 0)]] L49)
 (.ret))
 (.seq (.region true [oF 3 16 1,
 oL 17 16,
 oT 18 .jCH 17,
 oF 0 19 1,
 oL 20 19,
 oR 21 (.jCF 10 none) [.glob 1, .tmp 20],
 oL 22 21,
 oB 23 (.bin .neq) 18 22,
 oM 15 23] L49)
 (.cond (.tmp 15)
 (.region false [oR 4 .mov [.pv (.int .i64 3)]] L49)
 (.skip))))))
 (.seq (.block 1
 (.seq (.seq (.region false [oF 0 25 1,
 oL 26 25,
 oR 27 (.bin .eql) [.tmp 26, .pv (.int .i64 0)],
 oM 28 27,
 qF 1 28 true 29 1,
 qL 28 true 30 29,
 qR 28 true 31 (.bin .lss) [.tmp 30, .pv (.int .i64 0)],
 qM 28 true 32 31,
 qF 1 32 false 33 1,
 qL 32 false 34 33,
 qR 32 false 35 (.bin .gtr) [.tmp 34, .pv (.int .i64 1000000000000000000)],
 qR 28 true 36 .pick [.tmp 32, .pv (.bool true), .tmp 35],
 qM 28 true 37 36,
 qF 1 37 false 38 1,
 qL 37 false 39 38,
 qR 37 false 40 (.bin .rem) [.tmp 39, .pv (.int .i64 100)],
 qR 37 false 41 (.bin .neq) [.tmp 40, .pv (.int .i64 0)],
 qR 28 true 42 .pick [.tmp 37, .pv (.bool true), .tmp 41],
 oR 43 .pick [.tmp 28, .tmp 42, .pv (.bool false)],
 oM 24 43] L49)
 (.cond (.tmp 24)
 (.skip)
 (.region false [oF 0 44 1,
 oL 45 44,
 oR 46 (.bin .neq) [.tmp 45, .pv (.int .i64 0)],
 oM 47 46,
 qF 1 47 true 48 1,
 qL 47 true 49 48,
 qR 47 true 50 (.bin .neq) [.tmp 49, .pv (.int .i64 0)],
 oR 51 .pick [.tmp 47, .tmp 50, .pv (.bool false)],
 oM 24 51] L49)))
 (.cond (.tmp 24)
 (.region false [oR 5 .mov [.pv (.int .i64 2)]] L49)
 (.seq (.seq (.region false [oF 0 53 1,
 oL 54 53,
 oR 55 (.bin .eql) [.tmp 54, .pv (.int .i64 1)],
 oM 56 55,
 qF 2 56 true 57 1,
 qL 56 true 58 57,
 ⟨some 59, some (56, true), .call (.pv (.fn 55 [] [])) [.tmp 58]⟩,
 qR 56 true 60 (.un .not) [.tmp 59],
 oR 61 .pick [.tmp 56, .tmp 60, .pv (.bool false)],
 oM 52 61] L49)
 (.cond (.tmp 52)
 (.skip)
 (.region false [oF 0 62 1,
 oL 63 62,
 oR 64 (.bin .neq) [.tmp 63, .pv (.int .i64 1)],
 oM 65 64,
 qF 2 65 true 66 1,
 qL 65 true 67 66,
 qR 65 true 68 (.bin .neq) [.tmp 67, .pv (.str [])],
 oR 69 .pick [.tmp 65, .tmp 68, .pv (.bool false)],
 oM 52 69] L49)))
 (.cond (.tmp 52)
 (.region false [oR 5 .mov [.pv (.int .i64 12)]] L49)
 (.skip))))))
 (.seq (.region false [oM 70 4,
 oM 71 5,
 oM 2 70,
 oM 3 71] L49)
 (.ret))))),
 [.tmp 2, .tmp 3]⟩
def L50 : List Nat := [0, 1, 4]
def c50 : CF := ⟨9,
 .seq (.region false [oR 4 .mov [.pv (.bool false)]] L50)
 (.seq (.region false [oM 5 0,
 oM 6 1,
 oC 7 73 [.tmp 5, .tmp 6],
 oR 8 (.bin .geq) [.tmp 7, .pv (.int .i64 0)],
 oM 4 8] L50)
 (.ret)),
 [.tmp 4]⟩
def L69 : List Nat := [0, 1, 4]
def c69 : CF := ⟨32,
 .seq (.region false [oR 4 .mov [.pv (.bool false)]] L69)
 (.seq (.region true [oM 5 0,
 oN 6 5,
 oF 0 7 6,
 oL 8 7,
 oM 9 0,
 oN 10 9,
 oF 2 11 10,
 oL 12 11,
 oB 13 (.jAC (some 3)) 8 12,
 oF 0 14 13,
 oL 15 14,
 oR 16 (.bin .eql) [.tmp 15, .pv (.int .i64 3)],
 oM 17 16,
 qM 17 true 18 0,
 qN 17 true 19 18,
 qF 0 17 true 20 19,
 qL 17 true 21 20,
 qM 17 true 22 0,
 qN 17 true 23 22,
 qF 2 17 true 24 23,
 qL 17 true 25 24,
 qR 17 true 26 (.jAC (some 3)) [.tmp 21, .tmp 25],
 qF 1 17 true 27 26,
 qL 17 true 28 27,
 qM 17 true 29 1,
 qR 17 true 30 (.bin .eql) [.tmp 28, .tmp 29],
 oR 31 .pick [.tmp 17, .tmp 30, .pv (.bool false)],
 oM 4 31] L69)
 (.ret)),
 [.tmp 4]⟩
def L70 : List Nat := [0, 1, 3, 4]
def c70 : CF := ⟨21,
 .seq (.region false [oE 3 (.box (some 4)) [.tmp 1],
 oR 4 .mov [.pv (.int .i64 0)]] L70)
 (.seq (.jB6 (.alt [oM 5 0,
 oM 6 0,
 oN 7 6,
 oF 1 8 7]
 (.alt [oL 9 8,
 oT 10 (.load (some 4)) 3,
 oE 11 (.lit (some 4) false) [.tmp 10],
 oE 12 (.append (some 4) 56) [.tmp 9, .tmp 11],
 oN 13 5,
 oF 1 14 13,
 oS (.store none) [.tmp 14, .tmp 12]]
 .done
 (.alt [oT 10 (.load (some 4)) 3]
 (.alt [oL 9 8,
 oE 11 (.lit (some 4) false) [.tmp 10],
 oE 12 (.append (some 4) 56) [.tmp 9, .tmp 11],
 oN 13 5,
 oF 1 14 13,
 oS (.store none) [.tmp 14, .tmp 12]]
 .done
 (.alt [oE 11 (.lit (some 4) false) [.tmp 10],
 oL 9 8,
 oE 12 (.append (some 4) 56) [.tmp 9, .tmp 11],
 oN 13 5,
 oF 1 14 13,
 oS (.store none) [.tmp 14, .tmp 12]]
 .done
 .stop))
 .stop))
 .stop) L70)
 (.seq (.region false [oM 15 0,
 oN 16 15,
 oF 1 17 16,
 oL 18 17,
 oT 19 .jCH 18,
 oR 20 (.bin .sub) [.tmp 19, .pv (.int .i64 1)],
 oM 4 20] L70)
 (.ret))),
 [.tmp 4]⟩
def L72 : List Nat := [0, 2, 3, 4, 20, 37, 43, 61]
def c72 : CF := ⟨84,
 .seq (.region false [oR 2 .mov [.pv (.int .i64 0)]] L72)
 (.seq (.jB6 (.alt [oR 5 (.kKF 10) [.glob 0, .pv (.int .i64 5)],
 oM 6 0,
 oN 7 6,
 oF 0 8 7,
 oM 10 0,
 oN 11 10,
 oF 2 12 11]
 (.alt [oL 9 8,
 oL 13 12,
 oB 14 (.jAC (some 3)) 9 13,
 oF 1 15 14,
 oL 16 15,
 oC 17 98 [.tmp 5, .tmp 16],
 oR 18 (.bin .add) [.tmp 17, .pv (.int .i64 5)],
 oM 3 18]
 .done
 (.alt [oL 13 12,
 oL 9 8,
 oB 14 (.jAC (some 3)) 9 13,
 oF 1 15 14,
 oL 16 15,
 oC 17 98 [.tmp 5, .tmp 16],
 oR 18 (.bin .add) [.tmp 17, .pv (.int .i64 5)],
 oM 3 18]
 .done
 .stop))
 .stop) L72)
 (.seq (.seq (.region false [oM 19 3,
 oR 20 (.bin .lss) [.tmp 19, .pv (.int .i64 5)]] L72)
 (.cond (.tmp 20)
 (.seq (.region false [oM 21 0,
 oC 22 17 [.tmp 21, .pv (.int .i64 21)],
 oM 2 22] L72)
 (.ret))
 (.skip)))
 (.seq (.region false [oM 23 0,
 oN 24 23,
 oF 2 25 24,
 oL 26 25,
 oR 27 (.bin .add) [.tmp 26, .pv (.int .i64 2)],
 oN 28 23,
 oF 2 29 28,
 oS (.store none) [.tmp 29, .tmp 27]] L72)
 (.seq (.region false [oR 4 .mov [.pv .jAH]] L72)
 (.block 0
 (.loop
 (.block 1
 (.seq (.region false [oM 30 4,
 oM 31 0,
 oC 32 16 [.tmp 31],
 oE 33 (.lit none false) [.tmp 32],
 oE 34 (.append none 8) [.tmp 30, .tmp 33],
 oM 4 34] L72)
 (.block 2
 (.seq (.region false [oM 38 0,
 oN 39 38,
 oF 3 40 39,
 oL 41 40,
 oR 42 (.bin .neq) [.tmp 41, .pv (.int .i64 0)],
 oM 37 42] L72)
 (.cond (.tmp 37)
 (.seq (.region false [oR 2 .mov [.pv (.int .i64 0)]] L72)
 (.ret))
 (.seq (.region false [oM 44 0,
 oC 45 69 [.tmp 44, .pv (.str [44])],
 oM 46 45,
 qM 46 true 47 4,
 qR 46 true 48 .jCH [.tmp 47],
 qM 46 true 49 3,
 qR 46 true 50 (.jCF 10 none) [.glob 1, .tmp 49],
 qL 46 true 51 50,
 qR 46 true 52 (.bin .lss) [.tmp 48, .tmp 51],
 oR 53 .pick [.tmp 46, .tmp 52, .pv (.bool false)],
 oM 43 53] L72)
 (.cond (.tmp 43)
 (.region false [oM 54 0,
 oN 55 54,
 oF 2 56 55,
 oL 57 56,
 oR 58 (.bin .add) [.tmp 57, .pv (.int .i64 1)],
 oN 59 54,
 oF 2 60 59,
 oS (.store none) [.tmp 60, .tmp 58]] L72)
 (.seq (.region false [oM 62 0,
 oC 63 69 [.tmp 62, .pv (.str [41])],
 oM 64 63,
 qM 64 true 65 4,
 qR 64 true 66 .jCH [.tmp 65],
 qM 64 true 67 3,
 qR 64 true 68 (.jCF 10 none) [.glob 1, .tmp 67],
 qL 64 true 69 68,
 qR 64 true 70 (.bin .eql) [.tmp 66, .tmp 69],
 oR 71 .pick [.tmp 64, .tmp 70, .pv (.bool false)],
 oM 61 71] L72)
 (.cond (.tmp 61)
 (.seq (.region false [oM 72 0,
 oN 73 72,
 oF 2 74 73,
 oL 75 74,
 oR 76 (.bin .add) [.tmp 75, .pv (.int .i64 1)],
 oN 77 72,
 oF 2 78 77,
 oS (.store none) [.tmp 78, .tmp 76]] L72)
 (.seq (.region false [oM 79 0,
 oM 80 3,
 oM 81 4,
 oB 82 (.build [(.int .i64 0), (.int .i64 0), (.str []), .jAH] [(0, 1), (3, 1)]) 80 81,
 oC 83 70 [.tmp 79, .tmp 82],
 oM 2 83] L72)
 (.ret)))
 (.seq (.region false [oM 35 0,
 oC 36 17 [.tmp 35, .pv (.int .i64 3)],
 oM 2 36] L72)
 (.ret))))))))))))))))),
 [.tmp 2]⟩
def L73 : List Nat := [0, 1, 4, 5, 7, 8, 9, 16]
def c73 : CF := ⟨19,
 .seq (.region false [oR 4 .mov [.pv (.int .i64 0)]] L73)
 (.seq (.seq (.region false [oM 6 0,
 oT 7 .jCH 6,
 oR 8 .mov [.pv (.int .i64 0)]] L73)
 (.block 0
 (.loop
 (.seq (.region false [oB 9 (.bin .lss) 8 7] L73)
 (.seq (.cond (.tmp 9)
 (.skip)
 (.exit 0))
 (.seq (.block 1
 (.seq (.region false [oM 10 8,
 oM 5 10] L73)
 (.seq (.region false [oM 11 1,
 oM 12 0,
 oM 13 5,
 oB 14 (.jAC none) 12 13,
 oL 15 14,
 oB 16 (.eqB false) 11 15] L73)
 (.cond (.tmp 16)
 (.seq (.region false [oM 17 5,
 oM 4 17] L73)
 (.ret))
 (.skip)))))
 (.region false [oR 18 (.bin .add) [.tmp 8, .pv (.int .i64 1)],
 oM 8 18] L73)))))))
 (.seq (.region false [oR 4 .mov [.pv (.int .i64 (-1))]] L73)
 (.ret))),
 [.tmp 4]⟩
theorem k4 : jAD Tryz.prog [] L4 Tryz.f4 = some c4 := by kernel_rfl
theorem k16 : jAD Tryz.prog [] L16 Tryz.f16 = some c16 := by kernel_rfl
theorem k17 : jAD Tryz.prog [] L17 Tryz.f17 = some c17 := by kernel_rfl
theorem k18 : jAD Tryz.prog [] L18 Tryz.f18 = some c18 := by kernel_rfl
theorem k20 : jAD Tryz.prog [] L20 Tryz.f20 = some c20 := by kernel_rfl
theorem k46 : jAD Tryz.prog [] L46 Tryz.f46 = some c46 := by kernel_rfl
theorem k47 : jAD Tryz.prog [] L47 Tryz.f47 = some c47 := by kernel_rfl
theorem k48 : jAD Tryz.prog [] L48 Tryz.f48 = some c48 := by kernel_rfl
theorem k49 : jAD Tryz.prog [] L49 Tryz.f49 = some c49 := by kernel_rfl
theorem k50 : jAD Tryz.prog [] L50 Tryz.f50 = some c50 := by kernel_rfl
theorem k69 : jAD Tryz.prog [] L69 Tryz.f69 = some c69 := by kernel_rfl
theorem k70 : jAD Tryz.prog [] L70 Tryz.f70 = some c70 := by kernel_rfl
theorem k72 : jAD Tryz.prog [999999] L72 Tryz.f72 = some c72 := by kernel_rfl
theorem k73 : jAD Tryz.prog [] L73 Tryz.f73 = some c73 := by kernel_rfl
def L6 : List Nat := [0, 1, 2, 3, 6]
def c6 : CF := ⟨14,
 .seq (.region false [oE 1 (.box (some 1)) [.tmp 0],
 oR 2 .mov [.pv (.str [])]] L6)
 (.seq (.seq (.region false [oT 4 (.load (some 1)) 1,
 oC 5 20 [.tmp 4],
 oR 6 (.bin .neq) [.tmp 5, .pv (.int .i64 0)]] L6)
 (.cond (.tmp 6)
 (.seq (.region false [oR 2 .mov [.pv (.str [])]] L6)
 (.ret))
 (.skip)))
 (.seq (.region false [oE 3 (.alloc none .nilFn) []] L6)
 (.seq (.region false [oB 7 (.jTR 21 0) 1 3,
 oS (.store none) [.tmp 3, .tmp 7]] L6)
 (.seq (.region false [oL 8 3,
 oF 0 9 1,
 oL 10 9,
 oT 11 .jCH 10,
 oR 12 (.bin .sub) [.tmp 11, .pv (.int .i64 1)],
 ⟨some 13, none, .call (.tmp 8) [.tmp 12, .pv (.int .i64 0)]⟩,
 oM 2 13] L6)
 (.ret))))),
 [.tmp 2]⟩
def L22 : List Nat := [0, 2, 3, 4, 7]
def c22 : CF := ⟨9,
 .seq (.region false [oR 2 .mov [.pv (.int .i64 0)]] L22)
 (.seq (.seq (.region false [oM 3 0] L22)
 (.block 0
 (.seq (.seq (.region false [oR 5 (.bin .eql) [.tmp 3, .pv (.int .i64 2)],
 oM 4 5] L22)
 (.cond (.tmp 4)
 (.skip)
 (.region false [oR 6 (.bin .eql) [.tmp 3, .pv (.int .i64 3)],
 oM 4 6] L22)))
 (.cond (.tmp 4)
 (.seq (.region false [oR 2 .mov [.pv (.int .i64 1)]] L22)
 (.ret))
 (.seq (.region false [oR 8 (.bin .eql) [.tmp 3, .pv (.int .i64 4)],
 oM 7 8] L22)
 (.cond (.tmp 7)
 (.seq (.region false [oR 2 .mov [.pv (.int .i64 2)]] L22)
 (.ret))
 (.skip)))))))
 (.seq (.region false [oR 2 .mov [.pv (.int .i64 3)]] L22)
 (.ret))),
 [.tmp 2]⟩
def L23 : List Nat := [0, 2, 3, 4, 5, 13, 24]
def c23 : CF := ⟨34,
 .seq (.region false [oR 2 .mov [.pv (.str [])]] L23)
 (.seq (.region false [oM 6 0,
 oR 7 (.bin .quo) [.tmp 6, .pv (.int .i64 1000000)],
 oC 8 51 [.tmp 7],
 oM 3 8] L23)
 (.seq (.region false [oM 9 0,
 oR 10 (.bin .rem) [.tmp 9, .pv (.int .i64 1000000)],
 oR 11 (.bin .quo) [.tmp 10, .pv (.int .i64 100)],
 oM 4 11] L23)
 (.seq (.seq (.region false [oM 12 4,
 oR 13 (.bin .eql) [.tmp 12, .pv (.int .i64 0)]] L23)
 (.cond (.tmp 13)
 (.seq (.region false [oM 14 3,
 oM 2 14] L23)
 (.ret))
 (.skip)))
 (.seq (.region false [oM 15 4,
 oR 16 (.bin .add) [.pv (.int .i64 10000), .tmp 15],
 oC 17 51 [.tmp 16],
 oR 18 (.jMK true false) [.tmp 17, .pv (.int .i64 1)],
 oM 5 18] L23)
 (.seq (.block 0
 (.loop
 (.seq (.seq (.region false [oM 19 5,
 oM 20 5,
 oT 21 .jLI 20,
 oR 22 (.bin .sub) [.tmp 21, .pv (.int .i64 1)],
 oB 23 .jPD 19 22,
 oR 24 (.bin .eql) [.tmp 23, .pv (.int .u8 48)]] L23)
 (.cond (.tmp 24)
 (.skip)
 (.exit 0)))
 (.block 1
 (.region false [oM 25 5,
 oM 26 5,
 oT 27 .jLI 26,
 oR 28 (.bin .sub) [.tmp 27, .pv (.int .i64 1)],
 oB 29 (.jMK false true) 25 28,
 oM 5 29] L23)))))
 (.seq (.region false [oM 30 3,
 oR 31 (.bin .add) [.tmp 30, .pv (.str [46])],
 oM 32 5,
 oB 33 (.bin .add) 31 32,
 oM 2 33] L23)
 (.ret))))))),
 [.tmp 2]⟩
def L51 : List Nat := [0, 2, 3, 5]
def c51 : CF := ⟨21,
 .seq (.region false [oR 2 .mov [.pv (.str [])]] L51)
 (.seq (.region false [oR 3 .mov [.pv (.str [])]] L51)
 (.seq (.block 0
 (.loop
 (.seq (.seq (.region false [oM 4 0,
 oR 5 (.bin .gtr) [.tmp 4, .pv (.int .i64 9)]] L51)
 (.cond (.tmp 5)
 (.skip)
 (.exit 0)))
 (.block 1
 (.seq (.region false [oM 6 0,
 oR 7 (.bin .rem) [.tmp 6, .pv (.int .i64 10)],
 oR 8 (.bin .add) [.pv (.int .i64 48), .tmp 7],
 oT 9 (.conv .i32) 8,
 oT 10 .chr 9,
 oM 11 3,
 oB 12 (.bin .add) 10 11,
 oM 3 12] L51)
 (.region false [oM 13 0,
 oR 14 (.bin .quo) [.tmp 13, .pv (.int .i64 10)],
 oM 0 14] L51))))))
 (.seq (.region false [oM 15 0,
 oR 16 (.bin .add) [.pv (.int .i64 48), .tmp 15],
 oT 17 (.conv .i32) 16,
 oT 18 .chr 17,
 oM 19 3,
 oB 20 (.bin .add) 18 19,
 oM 2 20] L51)
 (.ret)))),
 [.tmp 2]⟩
def jKF : List Nat := [0, 1, 2, 3, 6, 7, 8, 9, 10, 11, 24, 31, 37, 43, 44, 45, 46, 51, 82]
def kPN : CF := ⟨87,
  .seq (.region false [oR 6 .mov [.pv (.str [])]] jKF)
  (.seq (.region false [oF 0 12 2,
     oL 13 12,
     oM 14 0,
     oB 15 (.jAC (some 4)) 13 14,
     oT 16 (.load (some 4)) 15,
     oE 7 (.alloc (some 4) (.agg [(.int .i64 0), (.int .i64 0), (.str []), .jAH])) [],
     oS (.store (some 4)) [.tmp 7, .tmp 16]] jKF)
  (.seq (.region false [oF 0 17 7,
     oL 18 17,
     oC 19 22 [.tmp 18],
     oM 8 19] jKF)
  (.seq (.region false [oF 0 20 7,
     oL 21 20,
     oR 22 (.jCF 10 none) [.glob 0, .tmp 21],
     oL 23 22,
     oM 9 23] jKF)
  (.seq (.block 0
    (.seq (.region false [oF 0 25 7,
        oL 26 25,
        oR 27 (.bin .eql) [.tmp 26, .pv (.int .i64 0)],
        oM 24 27] jKF)
     (.cond (.tmp 24)
      (.seq (.region false [oF 1 28 7,
          oL 29 28,
          oC 30 23 [.tmp 29],
          oM 6 30] jKF)
       (.ret))
      (.seq (.region false [oF 0 32 7,
          oL 33 32,
          oR 34 (.bin .eql) [.tmp 33, .pv (.int .i64 1)],
          oM 31 34] jKF)
       (.cond (.tmp 31)
        (.seq (.region false [oF 2 35 7,
            oL 36 35,
            oM 6 36] jKF)
         (.ret))
        (.seq (.region false [oM 38 8,
            oR 39 (.bin .eql) [.tmp 38, .pv (.int .i64 3)],
            oM 37 39] jKF)
         (.cond (.tmp 37)
          (.seq (.region false [oM 40 9,
              oR 41 (.bin .add) [.tmp 40, .pv (.str [40])],
              oM 9 41] jKF)
           (.seq (.seq (.region false [oF 3 42 7,
               oL 43 42,
               oT 44 .jCH 43,
               oR 45 .mov [.pv (.int .i64 0)]] jKF)
            (.block 1
             (.loop
               (.seq (.region false [oB 46 (.bin .lss) 45 44] jKF)
                (.seq (.cond (.tmp 46)
                  (.skip)
                  (.exit 1))
                (.seq (.block 2
                  (.seq (.region false [oM 47 45,
                      oB 48 (.jAC none) 43 45,
                      oL 49 48,
                      oM 10 47,
                      oM 11 49] jKF)
                   (.seq (.seq (.region false [oM 50 10,
                       oR 51 (.bin .gtr) [.tmp 50, .pv (.int .i64 0)]] jKF)
                    (.cond (.tmp 51)
                     (.region false [oM 52 9,
                        oR 53 (.bin .add) [.tmp 52, .pv (.str [44])],
                        oM 9 53] jKF)
                     (.skip)))
                   (.region false [oM 54 9,
                     oL 55 3,
                     oM 56 11,
                     ⟨some 57, none, .call (.tmp 55) [.tmp 56, .pv (.int .i64 0)]⟩,
                     oB 58 (.bin .add) 54 57,
                     oM 9 58] jKF))))
                (.region false [oR 59 (.bin .add) [.tmp 45, .pv (.int .i64 1)],
                  oM 45 59] jKF)))))))
           (.seq (.region false [oM 60 9,
              oR 61 (.bin .add) [.tmp 60, .pv (.str [41])],
              oM 6 61] jKF)
           (.ret))))
          (.skip))))))))
  (.seq (.jB6 (.alt [oF 3 63 7,
      oT 64 .jLH 63,
      oR 65 (.jAC none) [.tmp 64, .pv (.int .i64 0)],
      oT 66 .jLH 65,
      oM 67 8,
      oM 69 9,
      oF 3 72 7,
      oT 73 .jLH 72,
      oR 74 (.jAC none) [.tmp 73, .pv (.int .i64 1)],
      oT 75 .jLH 74,
      oM 76 8,
      oR 77 (.bin .add) [.tmp 76, .pv (.int .i64 1)]]
     (.alt [oL 62 3]
      (.alt [⟨some 68, none, .call (.tmp 62) [.tmp 66, .tmp 67]⟩,
        oB 70 (.bin .add) 68 69,
        oL 71 3,
        ⟨some 78, none, .call (.tmp 71) [.tmp 75, .tmp 77]⟩,
        oB 79 (.bin .add) 70 78,
        oM 9 79]
       .done
       (.alt [oL 71 3,
         ⟨some 68, none, .call (.tmp 62) [.tmp 66, .tmp 67]⟩,
         oB 70 (.bin .add) 68 69,
         ⟨some 78, none, .call (.tmp 71) [.tmp 75, .tmp 77]⟩,
         oB 79 (.bin .add) 70 78,
         oM 9 79]
        .done
        .stop))
      (.alt [oL 71 3,
        oL 62 3,
        ⟨some 68, none, .call (.tmp 62) [.tmp 66, .tmp 67]⟩,
        oB 70 (.bin .add) 68 69,
        ⟨some 78, none, .call (.tmp 71) [.tmp 75, .tmp 77]⟩,
        oB 79 (.bin .add) 70 78,
        oM 9 79]
       .done
       .stop))
     .stop) jKF)
  (.seq (.seq (.region false [oM 80 8,
      oM 81 1,
      oB 82 (.bin .lss) 80 81] jKF)
   (.cond (.tmp 82)
    (.seq (.region false [oM 83 9,
        oR 84 (.bin .add) [.pv (.str [40]), .tmp 83],
        oR 85 (.bin .add) [.tmp 84, .pv (.str [41])],
        oM 6 85] jKF)
     (.ret))
    (.skip)))
  (.seq (.region false [oM 86 9,
     oM 6 86] jKF)
  (.ret)))))))),
  [.tmp 6]⟩
def L8 : List Nat := [0, 1, 2, 3, 5, 8, 10, 11, 12, 13, 18]
def c8 : CF := ⟨29,
 .seq (.region false [oE 1 (.box (some 1)) [.tmp 0],
 oR 2 .mov [.pv .jAH]] L8)
 (.seq (.seq (.region false [oT 6 (.load (some 1)) 1,
 oC 7 20 [.tmp 6],
 oR 8 (.bin .neq) [.tmp 7, .pv (.int .i64 0)]] L8)
 (.cond (.tmp 8)
 (.seq (.region false [oR 2 .mov [.pv .jAH]] L8)
 (.ret))
 (.skip)))
 (.seq (.region false [oR 3 .mov [.pv .jAH]] L8)
 (.seq (.seq (.region false [oF 0 9 1,
 oL 10 9,
 oT 11 .jCH 10,
 oR 12 .mov [.pv (.int .i64 0)]] L8)
 (.block 0
 (.loop
 (.seq (.region false [oB 13 (.bin .lss) 12 11] L8)
 (.seq (.cond (.tmp 13)
 (.skip)
 (.exit 0))
 (.seq (.block 1
 (.seq (.region false [oB 14 (.jAC (some 4)) 10 12,
 oT 15 (.load (some 4)) 14,
 oE 5 (.alloc (some 4) (.agg [(.int .i64 0), (.int .i64 0), (.str []), .jAH])) [],
 oS (.store (some 4)) [.tmp 5, .tmp 15]] L8)
 (.seq (.region false [oF 0 16 5,
 oL 17 16,
 oR 18 (.bin .eql) [.tmp 17, .pv (.int .i64 1)]] L8)
 (.cond (.tmp 18)
 (.region false [oM 19 3,
 oF 2 20 5,
 oL 21 20,
 oE 22 (.lit none false) [.tmp 21],
 oE 23 (.append none 16) [.tmp 19, .tmp 22],
 oM 3 23] L8)
 (.skip)))))
 (.region false [oR 24 (.bin .add) [.tmp 12, .pv (.int .i64 1)],
 oM 12 24] L8)))))))
 (.seq (.region false [oM 25 3,
 oC 26 25 [.tmp 25]] L8)
 (.seq (.region false [oM 27 3,
 oC 28 26 [.tmp 27],
 oM 2 28] L8)
 (.ret)))))),
 [.tmp 2]⟩
theorem k6 : jAD Tryz.prog [] L6 Tryz.f6 = some c6 := by kernel_rfl
theorem k22 : jAD Tryz.prog [] L22 Tryz.f22 = some c22 := by kernel_rfl
theorem k23 : jAD Tryz.prog [] L23 Tryz.f23 = some c23 := by kernel_rfl
theorem k51 : jAD Tryz.prog [] L51 Tryz.f51 = some c51 := by kernel_rfl
theorem kRB : jAD Tryz.prog [999999, 888888, 100062, 100071] jKF Tryz.f21 = some kPN := by kernel_rfl
theorem k8 : jAD Tryz.prog [] L8 Tryz.f8 = some c8 := by kernel_rfl
end Go.Proofs.YthjkmhfiffojeaaGreatDoor
