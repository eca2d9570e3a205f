import Derived.Test.YthekpjhffciakaaDoorProg
import Derived.KernelRfl
import Derived.Test.YthekpjhffciakaaDoorP4
namespace Go.Proofs.YthekpjhffciakaaDoor
open PG Go.Proofs
-- (*wagebook/expr.reader).sum
def L40 : List Nat := [0, 1, 2, 3]
def c40 : CF := ⟨9,
 .seq (.region false [⟨some 1, none, .eff (.box none) [.tmp 0]⟩,
 ⟨some 2, none, .rd .mov [.pv (.int .i64 0)]⟩] L40)
 (.seq (.region false [⟨some 4, none, .rd (.mkFn 71 0) [.tmp 1]⟩,
 oM 3 4] L40)
 (.seq (.region false [oL 5 1,
 oM 6 3,
 ⟨some 7, none, .eff (.lit none false) [.pv (.int .i64 2), .pv (.int .i64 3)]⟩,
 ⟨some 8, none, .call (.pv (.fn 72 [] [])) [.tmp 5, .tmp 6, .tmp 7]⟩,
 oM 2 8] L40)
 (.ret))),
 [.tmp 2]⟩

-- (*wagebook/expr.reader).fail
def L41 : List Nat := [0, 1, 4, 9]
def c41 : CF := ⟨14,
 .seq (.region false [⟨some 4, none, .rd .mov [.pv (.int .i64 0)]⟩] L41)
 (.seq (.seq (.region false [oM 5 0,
 oN 6 5,
 oF 3 7 6,
 oL 8 7,
 ⟨some 9, none, .rd (.bin .eql) [.tmp 8, .pv (.int .i64 0)]⟩] L41)
 (.cond (.tmp 9)
 (.region false [oM 10 0,
 oM 11 1,
 oN 12 10,
 oF 3 13 12,
 ⟨none, none, .eff (.store none) [.tmp 13, .tmp 11]⟩] L41)
 (.skip)))
 (.seq (.region false [⟨some 4, none, .rd .mov [.pv (.int .i64 0)]⟩] L41)
 (.ret))),
 [.tmp 4]⟩

-- (*wagebook/expr.reader).sum$1
def L71 : List Nat := [0, 1]
def c71 : CF := ⟨7,
 .seq (.region false [⟨some 1, none, .rd .mov [.pv (.int .i64 0)]⟩] L71)
 (.seq (.region false [oL 2 0,
 oL 3 0,
 ⟨some 4, none, .rd (.mkFn 73 1) [.tmp 3]⟩,
 ⟨some 5, none, .eff (.lit none false) [.pv (.int .i64 4)]⟩,
 ⟨some 6, none, .call (.pv (.fn 72 [] [])) [.tmp 2, .tmp 4, .tmp 5]⟩,
 oM 1 6] L71)
 (.ret)),
 [.tmp 1]⟩

-- (*wagebook/expr.reader).row
def L72 : List Nat := [0, 1, 2, 6, 7, 9, 16, 17, 18, 19, 20, 27]
def c72 : CF := ⟨45,
 .seq (.region false [⟨some 6, none, .rd .mov [.pv (.int .i64 0)]⟩] L72)
 (.scope (.seq (.region false [oM 10 1,
 ⟨some 11, none, .call (.tmp 10) []⟩,
 oM 7 11] L72)
 (.seq (.label)
 (.seq (.block 0
 (.loop
 (.seq (.seq (.region false [oM 12 0,
 oN 13 12,
 oF 3 14 13,
 oL 15 14,
 ⟨some 16, none, .rd (.bin .eql) [.tmp 15, .pv (.int .i64 0)]⟩] L72)
 (.cond (.tmp 16)
 (.skip)
 (.exit 0)))
 (.block 1
 (.seq (.seq (.region false [oM 17 2,
 ⟨some 18, none, .rd .lenL [.tmp 17]⟩,
 ⟨some 19, none, .rd .mov [.pv (.int .i64 0)]⟩] L72)
 (.block 2
 (.loop
 (.seq (.region false [⟨some 20, none, .rd (.bin .lss) [.tmp 19, .tmp 18]⟩] L72)
 (.seq (.cond (.tmp 20)
 (.skip)
 (.exit 2))
 (.seq (.block 3
 (.seq (.region false [⟨some 21, none, .rd (.idxAddr none) [.tmp 17, .tmp 19]⟩,
 oL 22 21,
 oM 9 22] L72)
 (.seq (.region false [oM 23 0,
 oM 24 9,
 ⟨some 25, none, .rd (.idxAddrA 10 none) [.glob 0, .tmp 24]⟩,
 oL 26 25,
 ⟨some 27, none, .call (.pv (.fn 98 [] [])) [.tmp 23, .tmp 26]⟩] L72)
 (.cond (.tmp 27)
 (.seq (.region false [oM 28 0,
 oN 29 28,
 oF 2 30 29,
 oL 31 30,
 ⟨some 32, none, .rd (.bin .add) [.tmp 31, .pv (.int .i64 1)]⟩,
 oN 33 28,
 oF 2 34 33,
 ⟨none, none, .eff (.store none) [.tmp 34, .tmp 32]⟩] L72)
 (.seq (.region false [oM 35 0,
 oM 36 9,
 oM 37 7,
 oM 38 1,
 ⟨some 39, none, .call (.tmp 38) []⟩,
 ⟨some 40, none, .eff (.lit none false) [.tmp 37, .tmp 39]⟩,
 ⟨some 41, none, .rd (.build [(.int .i64 0), (.int .i64 0), (.str []), .nilSl] [(0, 1), (3, 1)]) [.tmp 36, .tmp 40]⟩,
 ⟨some 42, none, .call (.pv (.fn 99 [] [])) [.tmp 35, .tmp 41]⟩,
 oM 7 42] L72)
 (.exit 1)))
 (.skip)))))
 (.region false [⟨some 43, none, .rd (.bin .add) [.tmp 19, .pv (.int .i64 1)]⟩,
 oM 19 43] L72)))))))
 (.exit 0))))))
 (.seq (.region false [oM 44 7,
 oM 6 44] L72)
 (.ret)))))),
 [.tmp 6]⟩

-- (*wagebook/expr.reader).factor
def L73 : List Nat := [0, 2, 3, 4, 6, 7, 18, 39, 61, 76, 100, 107]
def c73 : CF := ⟨116,
 .seq (.region false [⟨some 2, none, .rd .mov [.pv (.int .i64 0)]⟩] L73)
 (.seq (.regionA (.alt [oM 8 0,
 oN 9 8,
 oF 0 10 9,
 oM 12 0,
 oN 13 12,
 oF 2 14 13]
 (.alt [oL 11 10]
 (.alt [oL 15 14,
 ⟨some 16, none, .rd (.idxAddr (some 3)) [.tmp 11, .tmp 15]⟩]
 (.alt [⟨some 17, none, .rd (.load (some 3)) [.tmp 16]⟩,
 ⟨some 3, none, .eff (.alloc (some 3) (.agg [(.int .i64 0), (.str []), (.int .i64 0)])) []⟩,
 ⟨none, none, .eff (.store (some 3)) [.tmp 3, .tmp 17]⟩]
 .done
 (.alt [⟨some 3, none, .eff (.alloc (some 3) (.agg [(.int .i64 0), (.str []), (.int .i64 0)])) []⟩,
 ⟨some 17, none, .rd (.load (some 3)) [.tmp 16]⟩,
 ⟨none, none, .eff (.store (some 3)) [.tmp 3, .tmp 17]⟩]
 .done
 .stop))
 (.alt [⟨some 3, none, .eff (.alloc (some 3) (.agg [(.int .i64 0), (.str []), (.int .i64 0)])) []⟩,
 oL 15 14,
 ⟨some 16, none, .rd (.idxAddr (some 3)) [.tmp 11, .tmp 15]⟩,
 ⟨some 17, none, .rd (.load (some 3)) [.tmp 16]⟩,
 ⟨none, none, .eff (.store (some 3)) [.tmp 3, .tmp 17]⟩]
 .done
 .stop))
 (.alt [oL 15 14]
 (.alt [oL 11 10,
 ⟨some 16, none, .rd (.idxAddr (some 3)) [.tmp 11, .tmp 15]⟩]
 (.alt [⟨some 17, none, .rd (.load (some 3)) [.tmp 16]⟩,
 ⟨some 3, none, .eff (.alloc (some 3) (.agg [(.int .i64 0), (.str []), (.int .i64 0)])) []⟩,
 ⟨none, none, .eff (.store (some 3)) [.tmp 3, .tmp 17]⟩]
 .done
 (.alt [⟨some 3, none, .eff (.alloc (some 3) (.agg [(.int .i64 0), (.str []), (.int .i64 0)])) []⟩,
 ⟨some 17, none, .rd (.load (some 3)) [.tmp 16]⟩,
 ⟨none, none, .eff (.store (some 3)) [.tmp 3, .tmp 17]⟩]
 .done
 .stop))
 (.alt [⟨some 3, none, .eff (.alloc (some 3) (.agg [(.int .i64 0), (.str []), (.int .i64 0)])) []⟩,
 oL 11 10,
 ⟨some 16, none, .rd (.idxAddr (some 3)) [.tmp 11, .tmp 15]⟩,
 ⟨some 17, none, .rd (.load (some 3)) [.tmp 16]⟩,
 ⟨none, none, .eff (.store (some 3)) [.tmp 3, .tmp 17]⟩]
 .done
 .stop))
 (.alt [⟨some 3, none, .eff (.alloc (some 3) (.agg [(.int .i64 0), (.str []), (.int .i64 0)])) []⟩]
 (.alt [oL 11 10,
 oL 15 14,
 ⟨some 16, none, .rd (.idxAddr (some 3)) [.tmp 11, .tmp 15]⟩,
 ⟨some 17, none, .rd (.load (some 3)) [.tmp 16]⟩,
 ⟨none, none, .eff (.store (some 3)) [.tmp 3, .tmp 17]⟩]
 .done
 (.alt [oL 15 14,
 oL 11 10,
 ⟨some 16, none, .rd (.idxAddr (some 3)) [.tmp 11, .tmp 15]⟩,
 ⟨some 17, none, .rd (.load (some 3)) [.tmp 16]⟩,
 ⟨none, none, .eff (.store (some 3)) [.tmp 3, .tmp 17]⟩]
 .done
 .stop))
 .stop)))
 .stop) L73)
 (.seq (.block 0
 (.seq (.region false [oF 0 19 3,
 oL 20 19,
 ⟨some 21, none, .rd (.bin .eql) [.tmp 20, .pv (.int .i64 2)]⟩,
 oM 18 21] L73)
 (.cond (.tmp 18)
 (.seq (.region false [oF 1 23 3,
 oL 24 23,
 ⟨some 25, none, .call (.pv (.fn 20 [] [])) [.tmp 24]⟩,
 oM 22 25,
 ⟨some 26, none, .rd (.ext 0) [.tmp 22]⟩,
 ⟨some 27, none, .rd (.ext 1) [.tmp 22]⟩,
 oM 4 26,
 oM 5 27] L73)
 (.seq (.region false [oM 28 0,
 oN 29 28,
 oF 2 30 29,
 oL 31 30,
 ⟨some 32, none, .rd (.bin .add) [.tmp 31, .pv (.int .i64 1)]⟩,
 oN 33 28,
 oF 2 34 33,
 ⟨none, none, .eff (.store none) [.tmp 34, .tmp 32]⟩] L73)
 (.seq (.region false [oM 35 0,
 oM 36 4,
 ⟨some 37, none, .rd (.build [(.int .i64 0), (.int .i64 0), (.str []), .nilSl] [(0, 1), (1, 1)]) [.pv (.int .i64 0), .tmp 36]⟩,
 ⟨some 38, none, .call (.pv (.fn 99 [] [])) [.tmp 35, .tmp 37]⟩,
 oM 2 38] L73)
 (.ret))))
 (.seq (.region false [oF 0 40 3,
 oL 41 40,
 ⟨some 42, none, .rd (.bin .eql) [.tmp 41, .pv (.int .i64 1)]⟩,
 oM 39 42] L73)
 (.cond (.tmp 39)
 (.seq (.regionA (.alt [oM 43 0,
 oN 44 43,
 oF 0 45 44,
 oM 47 0,
 oN 48 47,
 oF 2 49 48]
 (.alt [oL 46 45]
 (.alt [oL 50 49,
 ⟨some 51, none, .rd (.bin .add) [.tmp 50, .pv (.int .i64 1)]⟩,
 ⟨some 52, none, .rd (.idxAddr (some 3)) [.tmp 46, .tmp 51]⟩]
 (.alt [⟨some 53, none, .rd (.load (some 3)) [.tmp 52]⟩,
 ⟨some 6, none, .eff (.alloc (some 3) (.agg [(.int .i64 0), (.str []), (.int .i64 0)])) []⟩,
 ⟨none, none, .eff (.store (some 3)) [.tmp 6, .tmp 53]⟩]
 .done
 (.alt [⟨some 6, none, .eff (.alloc (some 3) (.agg [(.int .i64 0), (.str []), (.int .i64 0)])) []⟩,
 ⟨some 53, none, .rd (.load (some 3)) [.tmp 52]⟩,
 ⟨none, none, .eff (.store (some 3)) [.tmp 6, .tmp 53]⟩]
 .done
 .stop))
 (.alt [⟨some 6, none, .eff (.alloc (some 3) (.agg [(.int .i64 0), (.str []), (.int .i64 0)])) []⟩,
 oL 50 49,
 ⟨some 51, none, .rd (.bin .add) [.tmp 50, .pv (.int .i64 1)]⟩,
 ⟨some 52, none, .rd (.idxAddr (some 3)) [.tmp 46, .tmp 51]⟩,
 ⟨some 53, none, .rd (.load (some 3)) [.tmp 52]⟩,
 ⟨none, none, .eff (.store (some 3)) [.tmp 6, .tmp 53]⟩]
 .done
 .stop))
 (.alt [oL 50 49,
 ⟨some 51, none, .rd (.bin .add) [.tmp 50, .pv (.int .i64 1)]⟩]
 (.alt [oL 46 45,
 ⟨some 52, none, .rd (.idxAddr (some 3)) [.tmp 46, .tmp 51]⟩]
 (.alt [⟨some 53, none, .rd (.load (some 3)) [.tmp 52]⟩,
 ⟨some 6, none, .eff (.alloc (some 3) (.agg [(.int .i64 0), (.str []), (.int .i64 0)])) []⟩,
 ⟨none, none, .eff (.store (some 3)) [.tmp 6, .tmp 53]⟩]
 .done
 (.alt [⟨some 6, none, .eff (.alloc (some 3) (.agg [(.int .i64 0), (.str []), (.int .i64 0)])) []⟩,
 ⟨some 53, none, .rd (.load (some 3)) [.tmp 52]⟩,
 ⟨none, none, .eff (.store (some 3)) [.tmp 6, .tmp 53]⟩]
 .done
 .stop))
 (.alt [⟨some 6, none, .eff (.alloc (some 3) (.agg [(.int .i64 0), (.str []), (.int .i64 0)])) []⟩,
 oL 46 45,
 ⟨some 52, none, .rd (.idxAddr (some 3)) [.tmp 46, .tmp 51]⟩,
 ⟨some 53, none, .rd (.load (some 3)) [.tmp 52]⟩,
 ⟨none, none, .eff (.store (some 3)) [.tmp 6, .tmp 53]⟩]
 .done
 .stop))
 (.alt [⟨some 6, none, .eff (.alloc (some 3) (.agg [(.int .i64 0), (.str []), (.int .i64 0)])) []⟩]
 (.alt [oL 46 45,
 oL 50 49,
 ⟨some 51, none, .rd (.bin .add) [.tmp 50, .pv (.int .i64 1)]⟩,
 ⟨some 52, none, .rd (.idxAddr (some 3)) [.tmp 46, .tmp 51]⟩,
 ⟨some 53, none, .rd (.load (some 3)) [.tmp 52]⟩,
 ⟨none, none, .eff (.store (some 3)) [.tmp 6, .tmp 53]⟩]
 .done
 (.alt [oL 50 49,
 ⟨some 51, none, .rd (.bin .add) [.tmp 50, .pv (.int .i64 1)]⟩,
 oL 46 45,
 ⟨some 52, none, .rd (.idxAddr (some 3)) [.tmp 46, .tmp 51]⟩,
 ⟨some 53, none, .rd (.load (some 3)) [.tmp 52]⟩,
 ⟨none, none, .eff (.store (some 3)) [.tmp 6, .tmp 53]⟩]
 .done
 .stop))
 .stop)))
 .stop) L73)
 (.seq (.seq (.region false [oF 0 54 6,
 oL 55 54,
 ⟨some 56, none, .rd (.bin .eql) [.tmp 55, .pv (.int .i64 3)]⟩,
 oM 57 56,
 qF 1 57 true 58 6,
 qL 57 true 59 58,
 ⟨some 60, some (57, true), .rd (.bin .eql) [.tmp 59, .pv (.str [40])]⟩,
 ⟨some 61, none, .rd .pick [.tmp 57, .tmp 60, .pv (.bool false)]⟩] L73)
 (.cond (.tmp 61)
 (.seq (.region false [oM 62 0,
 ⟨some 63, none, .call (.pv (.fn 100 [] [])) [.tmp 62]⟩,
 oM 2 63] L73)
 (.ret))
 (.skip)))
 (.seq (.region false [oM 64 0,
 oN 65 64,
 oF 2 66 65,
 oL 67 66,
 ⟨some 68, none, .rd (.bin .add) [.tmp 67, .pv (.int .i64 1)]⟩,
 oN 69 64,
 oF 2 70 69,
 ⟨none, none, .eff (.store none) [.tmp 70, .tmp 68]⟩] L73)
 (.seq (.region false [oM 71 0,
 oF 1 72 3,
 oL 73 72,
 ⟨some 74, none, .rd (.build [(.int .i64 0), (.int .i64 0), (.str []), .nilSl] [(0, 1), (2, 1)]) [.pv (.int .i64 1), .tmp 73]⟩,
 ⟨some 75, none, .call (.pv (.fn 99 [] [])) [.tmp 71, .tmp 74]⟩,
 oM 2 75] L73)
 (.ret)))))
 (.seq (.region false [oM 77 0,
 ⟨some 78, none, .call (.pv (.fn 98 [] [])) [.tmp 77, .pv (.str [40])]⟩,
 ⟨some 79, none, .rd (.un .not) [.tmp 78]⟩,
 oM 76 79] L73)
 (.cond (.tmp 76)
 (.seq (.region false [oM 80 0,
 ⟨some 81, none, .call (.pv (.fn 41 [] [])) [.tmp 80, .pv (.int .i64 3)]⟩,
 oM 2 81] L73)
 (.ret))
 (.skip))))))))
 (.seq (.region false [oM 82 0,
 oN 83 82,
 oF 2 84 83,
 oL 85 84,
 ⟨some 86, none, .rd (.bin .add) [.tmp 85, .pv (.int .i64 1)]⟩,
 oN 87 82,
 oF 2 88 87,
 ⟨none, none, .eff (.store none) [.tmp 88, .tmp 86]⟩] L73)
 (.seq (.region false [oM 89 0,
 ⟨some 90, none, .call (.pv (.fn 40 [] [])) [.tmp 89]⟩,
 oM 7 90] L73)
 (.seq (.seq (.region false [oM 91 0,
 oN 92 91,
 oF 3 93 92,
 oL 94 93,
 ⟨some 95, none, .rd (.bin .eql) [.tmp 94, .pv (.int .i64 0)]⟩,
 oM 96 95,
 qM 96 true 97 0,
 ⟨some 98, some (96, true), .call (.pv (.fn 98 [] [])) [.tmp 97, .pv (.str [41])]⟩,
 ⟨some 99, some (96, true), .rd (.un .not) [.tmp 98]⟩,
 ⟨some 100, none, .rd .pick [.tmp 96, .tmp 99, .pv (.bool false)]⟩] L73)
 (.cond (.tmp 100)
 (.seq (.region false [oM 101 0,
 ⟨some 102, none, .call (.pv (.fn 41 [] [])) [.tmp 101, .pv (.int .i64 3)]⟩,
 oM 2 102] L73)
 (.ret))
 (.skip)))
 (.seq (.seq (.region false [oM 103 0,
 oN 104 103,
 oF 3 105 104,
 oL 106 105,
 ⟨some 107, none, .rd (.bin .eql) [.tmp 106, .pv (.int .i64 0)]⟩] L73)
 (.cond (.tmp 107)
 (.region false [oM 108 0,
 oN 109 108,
 oF 2 110 109,
 oL 111 110,
 ⟨some 112, none, .rd (.bin .add) [.tmp 111, .pv (.int .i64 1)]⟩,
 oN 113 108,
 oF 2 114 113,
 ⟨none, none, .eff (.store none) [.tmp 114, .tmp 112]⟩] L73)
 (.skip)))
 (.seq (.region false [oM 115 7,
 oM 2 115] L73)
 (.ret)))))))),
 [.tmp 2]⟩

-- (*wagebook/expr.reader).sign
def L98 : List Nat := [0, 1, 4]
def c98 : CF := ⟨32,
 .seq (.region false [⟨some 4, none, .rd .mov [.pv (.bool false)]⟩] L98)
 (.seq (.region true [oM 5 0,
 oN 6 5,
 oF 0 7 6,
 oL 8 7,
 oM 9 0,
 oN 10 9,
 oF 2 11 10,
 oL 12 11,
 ⟨some 13, none, .rd (.idxAddr (some 3)) [.tmp 8, .tmp 12]⟩,
 oF 0 14 13,
 oL 15 14,
 ⟨some 16, none, .rd (.bin .eql) [.tmp 15, .pv (.int .i64 3)]⟩,
 oM 17 16,
 qM 17 true 18 0,
 qN 17 true 19 18,
 qF 0 17 true 20 19,
 qL 17 true 21 20,
 qM 17 true 22 0,
 qN 17 true 23 22,
 qF 2 17 true 24 23,
 qL 17 true 25 24,
 ⟨some 26, some (17, true), .rd (.idxAddr (some 3)) [.tmp 21, .tmp 25]⟩,
 qF 1 17 true 27 26,
 qL 17 true 28 27,
 qM 17 true 29 1,
 ⟨some 30, some (17, true), .rd (.bin .eql) [.tmp 28, .tmp 29]⟩,
 ⟨some 31, none, .rd .pick [.tmp 17, .tmp 30, .pv (.bool false)]⟩,
 oM 4 31] L98)
 (.ret)),
 [.tmp 4]⟩

-- (*wagebook/expr.reader).put
def L99 : List Nat := [0, 1, 3, 4]
def c99 : CF := ⟨21,
 .seq (.region false [⟨some 3, none, .eff (.box (some 4)) [.tmp 1]⟩,
 ⟨some 4, none, .rd .mov [.pv (.int .i64 0)]⟩] L99)
 (.seq (.regionA (.alt [oM 5 0,
 oM 6 0,
 oN 7 6,
 oF 1 8 7]
 (.alt [oL 9 8,
 ⟨some 10, none, .rd (.load (some 4)) [.tmp 3]⟩,
 ⟨some 11, none, .eff (.lit (some 4) false) [.tmp 10]⟩,
 ⟨some 12, none, .eff (.append (some 4) 56) [.tmp 9, .tmp 11]⟩,
 oN 13 5,
 oF 1 14 13,
 ⟨none, none, .eff (.store none) [.tmp 14, .tmp 12]⟩]
 .done
 (.alt [⟨some 10, none, .rd (.load (some 4)) [.tmp 3]⟩]
 (.alt [oL 9 8,
 ⟨some 11, none, .eff (.lit (some 4) false) [.tmp 10]⟩,
 ⟨some 12, none, .eff (.append (some 4) 56) [.tmp 9, .tmp 11]⟩,
 oN 13 5,
 oF 1 14 13,
 ⟨none, none, .eff (.store none) [.tmp 14, .tmp 12]⟩]
 .done
 (.alt [⟨some 11, none, .eff (.lit (some 4) false) [.tmp 10]⟩,
 oL 9 8,
 ⟨some 12, none, .eff (.append (some 4) 56) [.tmp 9, .tmp 11]⟩,
 oN 13 5,
 oF 1 14 13,
 ⟨none, none, .eff (.store none) [.tmp 14, .tmp 12]⟩]
 .done
 .stop))
 .stop))
 .stop) L99)
 (.seq (.region false [oM 15 0,
 oN 16 15,
 oF 1 17 16,
 oL 18 17,
 ⟨some 19, none, .rd .lenL [.tmp 18]⟩,
 ⟨some 20, none, .rd (.bin .sub) [.tmp 19, .pv (.int .i64 1)]⟩,
 oM 4 20] L99)
 (.ret))),
 [.tmp 4]⟩

-- (*wagebook/expr.reader).call
def L100 : List Nat := [0, 2, 3, 4, 20, 37, 43, 61]
def c100 : CF := ⟨84,
 .seq (.region false [⟨some 2, none, .rd .mov [.pv (.int .i64 0)]⟩] L100)
 (.seq (.regionA (.alt [⟨some 5, none, .rd (.slcP 10) [.glob 0, .pv (.int .i64 5)]⟩,
 oM 6 0,
 oN 7 6,
 oF 0 8 7,
 oM 10 0,
 oN 11 10,
 oF 2 12 11]
 (.alt [oL 9 8,
 oL 13 12,
 ⟨some 14, none, .rd (.idxAddr (some 3)) [.tmp 9, .tmp 13]⟩,
 oF 1 15 14,
 oL 16 15,
 ⟨some 17, none, .call (.pv (.fn 126 [] [])) [.tmp 5, .tmp 16]⟩,
 ⟨some 18, none, .rd (.bin .add) [.tmp 17, .pv (.int .i64 5)]⟩,
 oM 3 18]
 .done
 (.alt [oL 13 12,
 oL 9 8,
 ⟨some 14, none, .rd (.idxAddr (some 3)) [.tmp 9, .tmp 13]⟩,
 oF 1 15 14,
 oL 16 15,
 ⟨some 17, none, .call (.pv (.fn 126 [] [])) [.tmp 5, .tmp 16]⟩,
 ⟨some 18, none, .rd (.bin .add) [.tmp 17, .pv (.int .i64 5)]⟩,
 oM 3 18]
 .done
 .stop))
 .stop) L100)
 (.seq (.seq (.region false [oM 19 3,
 ⟨some 20, none, .rd (.bin .lss) [.tmp 19, .pv (.int .i64 5)]⟩] L100)
 (.cond (.tmp 20)
 (.seq (.region false [oM 21 0,
 ⟨some 22, none, .call (.pv (.fn 41 [] [])) [.tmp 21, .pv (.int .i64 21)]⟩,
 oM 2 22] L100)
 (.ret))
 (.skip)))
 (.seq (.region false [oM 23 0,
 oN 24 23,
 oF 2 25 24,
 oL 26 25,
 ⟨some 27, none, .rd (.bin .add) [.tmp 26, .pv (.int .i64 2)]⟩,
 oN 28 23,
 oF 2 29 28,
 ⟨none, none, .eff (.store none) [.tmp 29, .tmp 27]⟩] L100)
 (.seq (.region false [⟨some 4, none, .rd .mov [.pv .nilSl]⟩] L100)
 (.block 0
 (.loop
 (.block 1
 (.seq (.region false [oM 30 4,
 oM 31 0,
 ⟨some 32, none, .call (.pv (.fn 40 [] [])) [.tmp 31]⟩,
 ⟨some 33, none, .eff (.lit none false) [.tmp 32]⟩,
 ⟨some 34, none, .eff (.append none 8) [.tmp 30, .tmp 33]⟩,
 oM 4 34] L100)
 (.block 2
 (.seq (.region false [oM 38 0,
 oN 39 38,
 oF 3 40 39,
 oL 41 40,
 ⟨some 42, none, .rd (.bin .neq) [.tmp 41, .pv (.int .i64 0)]⟩,
 oM 37 42] L100)
 (.cond (.tmp 37)
 (.seq (.region false [⟨some 2, none, .rd .mov [.pv (.int .i64 0)]⟩] L100)
 (.ret))
 (.seq (.region false [oM 44 0,
 ⟨some 45, none, .call (.pv (.fn 98 [] [])) [.tmp 44, .pv (.str [44])]⟩,
 oM 46 45,
 qM 46 true 47 4,
 ⟨some 48, some (46, true), .rd .lenL [.tmp 47]⟩,
 qM 46 true 49 3,
 ⟨some 50, some (46, true), .rd (.idxAddrA 10 none) [.glob 1, .tmp 49]⟩,
 qL 46 true 51 50,
 ⟨some 52, some (46, true), .rd (.bin .lss) [.tmp 48, .tmp 51]⟩,
 ⟨some 53, none, .rd .pick [.tmp 46, .tmp 52, .pv (.bool false)]⟩,
 oM 43 53] L100)
 (.cond (.tmp 43)
 (.region false [oM 54 0,
 oN 55 54,
 oF 2 56 55,
 oL 57 56,
 ⟨some 58, none, .rd (.bin .add) [.tmp 57, .pv (.int .i64 1)]⟩,
 oN 59 54,
 oF 2 60 59,
 ⟨none, none, .eff (.store none) [.tmp 60, .tmp 58]⟩] L100)
 (.seq (.region false [oM 62 0,
 ⟨some 63, none, .call (.pv (.fn 98 [] [])) [.tmp 62, .pv (.str [41])]⟩,
 oM 64 63,
 qM 64 true 65 4,
 ⟨some 66, some (64, true), .rd .lenL [.tmp 65]⟩,
 qM 64 true 67 3,
 ⟨some 68, some (64, true), .rd (.idxAddrA 10 none) [.glob 1, .tmp 67]⟩,
 qL 64 true 69 68,
 ⟨some 70, some (64, true), .rd (.bin .eql) [.tmp 66, .tmp 69]⟩,
 ⟨some 71, none, .rd .pick [.tmp 64, .tmp 70, .pv (.bool false)]⟩,
 oM 61 71] L100)
 (.cond (.tmp 61)
 (.seq (.region false [oM 72 0,
 oN 73 72,
 oF 2 74 73,
 oL 75 74,
 ⟨some 76, none, .rd (.bin .add) [.tmp 75, .pv (.int .i64 1)]⟩,
 oN 77 72,
 oF 2 78 77,
 ⟨none, none, .eff (.store none) [.tmp 78, .tmp 76]⟩] L100)
 (.seq (.region false [oM 79 0,
 oM 80 3,
 oM 81 4,
 ⟨some 82, none, .rd (.build [(.int .i64 0), (.int .i64 0), (.str []), .nilSl] [(0, 1), (3, 1)]) [.tmp 80, .tmp 81]⟩,
 ⟨some 83, none, .call (.pv (.fn 99 [] [])) [.tmp 79, .tmp 82]⟩,
 oM 2 83] L100)
 (.ret)))
 (.seq (.region false [oM 35 0,
 ⟨some 36, none, .call (.pv (.fn 41 [] [])) [.tmp 35, .pv (.int .i64 3)]⟩,
 oM 2 36] L100)
 (.ret))))))))))))))))),
 [.tmp 2]⟩

-- slices.Index[[]string,string]
def L126 : List Nat := [0, 1, 4, 5, 7, 8, 9, 16]
def c126 : CF := ⟨19,
 .seq (.region false [⟨some 4, none, .rd .mov [.pv (.int .i64 0)]⟩] L126)
 (.seq (.seq (.region false [oM 6 0,
 ⟨some 7, none, .rd .lenL [.tmp 6]⟩,
 ⟨some 8, none, .rd .mov [.pv (.int .i64 0)]⟩] L126)
 (.block 0
 (.loop
 (.seq (.region false [⟨some 9, none, .rd (.bin .lss) [.tmp 8, .tmp 7]⟩] L126)
 (.seq (.cond (.tmp 9)
 (.skip)
 (.exit 0))
 (.seq (.block 1
 (.seq (.region false [oM 10 8,
 oM 5 10] L126)
 (.seq (.region false [oM 11 1,
 oM 12 0,
 oM 13 5,
 ⟨some 14, none, .rd (.idxAddr none) [.tmp 12, .tmp 13]⟩,
 oL 15 14,
 ⟨some 16, none, .rd (.bin .eql) [.tmp 11, .tmp 15]⟩] L126)
 (.cond (.tmp 16)
 (.seq (.region false [oM 17 5,
 oM 4 17] L126)
 (.ret))
 (.skip)))))
 (.region false [⟨some 18, none, .rd (.bin .add) [.tmp 8, .pv (.int .i64 1)]⟩,
 oM 8 18] L126)))))))
 (.seq (.region false [⟨some 4, none, .rd .mov [.pv (.int .i64 (-1))]⟩] L126)
 (.ret))),
 [.tmp 4]⟩

-- wagebook/expr.Parse
def L18 : List Nat := [0, 2, 3, 4, 5, 6, 7, 8, 9, 17, 44, 52, 74, 80]
def c18 : CF := ⟨86,
 .seq (.region false [⟨some 2, none, .eff (.alloc (some 1) (.agg [.nilSl])) []⟩,
 ⟨some 3, none, .rd .mov [.pv (.int .i64 0)]⟩,
 ⟨some 4, none, .rd .mov [.pv (.int .i64 0)]⟩] L18)
 (.seq (.region false [oM 11 0,
 ⟨some 12, none, .call (.pv (.fn 19 [] [])) [.tmp 11]⟩,
 oM 10 12,
 ⟨some 13, none, .rd (.ext 0) [.tmp 10]⟩,
 ⟨some 14, none, .rd (.ext 1) [.tmp 10]⟩,
 ⟨some 15, none, .rd (.ext 2) [.tmp 10]⟩,
 oM 5 13,
 oM 6 14,
 oM 7 15] L18)
 (.seq (.seq (.region false [oM 16 7,
 ⟨some 17, none, .rd (.bin .neq) [.tmp 16, .pv (.int .i64 0)]⟩] L18)
 (.cond (.tmp 17)
 (.seq (.region false [⟨some 18, none, .rd (.build [.nilSl] []) []⟩,
 oM 19 6,
 oM 20 7,
 ⟨none, none, .eff (.store (some 1)) [.tmp 2, .tmp 18]⟩,
 oM 3 19,
 oM 4 20] L18)
 (.ret))
 (.skip)))
 (.seq (.region false [oM 21 5,
 ⟨some 22, none, .rd (.build [.nilSl, .nilSl, (.int .i64 0), (.int .i64 0)] [(0, 1)]) [.tmp 21]⟩,
 ⟨some 23, none, .eff (.box (some 4)) [.tmp 22]⟩,
 oM 8 23] L18)
 (.seq (.region false [oM 24 8,
 ⟨some 25, none, .call (.pv (.fn 40 [] [])) [.tmp 24]⟩] L18)
 (.seq (.seq (.region true [oM 26 8,
 oN 27 26,
 oF 3 28 27,
 oL 29 28,
 ⟨some 30, none, .rd (.bin .eql) [.tmp 29, .pv (.int .i64 0)]⟩,
 oM 31 30,
 qM 31 true 32 8,
 qN 31 true 33 32,
 qF 0 31 true 34 33,
 qL 31 true 35 34,
 qM 31 true 36 8,
 qN 31 true 37 36,
 qF 2 31 true 38 37,
 qL 31 true 39 38,
 ⟨some 40, some (31, true), .rd (.idxAddr (some 3)) [.tmp 35, .tmp 39]⟩,
 qF 0 31 true 41 40,
 qL 31 true 42 41,
 ⟨some 43, some (31, true), .rd (.bin .neq) [.tmp 42, .pv (.int .i64 0)]⟩,
 ⟨some 44, none, .rd .pick [.tmp 31, .tmp 43, .pv (.bool false)]⟩] L18)
 (.cond (.tmp 44)
 (.region false [oM 45 8,
 ⟨some 46, none, .call (.pv (.fn 41 [] [])) [.tmp 45, .pv (.int .i64 3)]⟩] L18)
 (.skip)))
 (.seq (.region false [oM 47 8,
 oN 48 47,
 oF 1 49 48,
 oL 50 49,
 ⟨some 51, none, .rd (.build [.nilSl] [(0, 1)]) [.tmp 50]⟩,
 ⟨some 9, none, .eff (.alloc (some 1) (.agg [.nilSl])) []⟩,
 ⟨none, none, .eff (.store (some 1)) [.tmp 9, .tmp 51]⟩] L18)
 (.seq (.block 0
 (.seq (.region false [oM 53 8,
 oN 54 53,
 oF 3 55 54,
 oL 56 55,
 ⟨some 57, none, .rd (.bin .neq) [.tmp 56, .pv (.int .i64 0)]⟩,
 oM 52 57] L18)
 (.cond (.tmp 52)
 (.seq (.regionA (.alt [⟨some 58, none, .rd (.build [.nilSl] []) []⟩,
 oM 59 8,
 oN 60 59,
 oF 0 61 60,
 oM 63 8,
 oN 64 63,
 oF 2 65 64,
 oM 70 8,
 oN 71 70,
 oF 3 72 71]
 (.alt [oL 62 61]
 (.alt [oL 66 65,
 ⟨some 67, none, .rd (.idxAddr (some 3)) [.tmp 62, .tmp 66]⟩,
 oF 2 68 67]
 (.alt [oL 69 68]
 (.alt [oL 73 72,
 ⟨none, none, .eff (.store (some 1)) [.tmp 2, .tmp 58]⟩,
 oM 3 69,
 oM 4 73]
 .done
 (.alt [⟨none, none, .eff (.store (some 1)) [.tmp 2, .tmp 58]⟩,
 oM 3 69,
 oL 73 72,
 oM 4 73]
 .done
 .stop))
 (.alt [oL 73 72]
 (.alt [oL 69 68,
 ⟨none, none, .eff (.store (some 1)) [.tmp 2, .tmp 58]⟩,
 oM 3 69,
 oM 4 73]
 .done
 (.alt [⟨none, none, .eff (.store (some 1)) [.tmp 2, .tmp 58]⟩,
 oL 69 68,
 oM 3 69,
 oM 4 73]
 .done
 .stop))
 (.alt [⟨none, none, .eff (.store (some 1)) [.tmp 2, .tmp 58]⟩]
 (.alt [oL 69 68,
 oM 3 69,
 oL 73 72,
 oM 4 73]
 .done
 (.alt [oL 73 72,
 oL 69 68,
 oM 3 69,
 oM 4 73]
 .done
 .stop))
 .stop)))
 (.alt [oL 73 72]
 (.alt [oL 66 65,
 ⟨some 67, none, .rd (.idxAddr (some 3)) [.tmp 62, .tmp 66]⟩,
 oF 2 68 67]
 (.alt [oL 69 68,
 ⟨none, none, .eff (.store (some 1)) [.tmp 2, .tmp 58]⟩,
 oM 3 69,
 oM 4 73]
 .done
 (.alt [⟨none, none, .eff (.store (some 1)) [.tmp 2, .tmp 58]⟩,
 oL 69 68,
 oM 3 69,
 oM 4 73]
 .done
 .stop))
 (.alt [⟨none, none, .eff (.store (some 1)) [.tmp 2, .tmp 58]⟩,
 oL 66 65,
 ⟨some 67, none, .rd (.idxAddr (some 3)) [.tmp 62, .tmp 66]⟩,
 oF 2 68 67,
 oL 69 68,
 oM 3 69,
 oM 4 73]
 .done
 .stop))
 (.alt [⟨none, none, .eff (.store (some 1)) [.tmp 2, .tmp 58]⟩]
 (.alt [oL 66 65,
 ⟨some 67, none, .rd (.idxAddr (some 3)) [.tmp 62, .tmp 66]⟩,
 oF 2 68 67]
 (.alt [oL 69 68,
 oM 3 69,
 oL 73 72,
 oM 4 73]
 .done
 (.alt [oL 73 72,
 oL 69 68,
 oM 3 69,
 oM 4 73]
 .done
 .stop))
 (.alt [oL 73 72,
 oL 66 65,
 ⟨some 67, none, .rd (.idxAddr (some 3)) [.tmp 62, .tmp 66]⟩,
 oF 2 68 67,
 oL 69 68,
 oM 3 69,
 oM 4 73]
 .done
 .stop))
 .stop)))
 (.alt [oL 66 65]
 (.alt [oL 62 61,
 ⟨some 67, none, .rd (.idxAddr (some 3)) [.tmp 62, .tmp 66]⟩,
 oF 2 68 67]
 (.alt [oL 69 68]
 (.alt [oL 73 72,
 ⟨none, none, .eff (.store (some 1)) [.tmp 2, .tmp 58]⟩,
 oM 3 69,
 oM 4 73]
 .done
 (.alt [⟨none, none, .eff (.store (some 1)) [.tmp 2, .tmp 58]⟩,
 oM 3 69,
 oL 73 72,
 oM 4 73]
 .done
 .stop))
 (.alt [oL 73 72]
 (.alt [oL 69 68,
 ⟨none, none, .eff (.store (some 1)) [.tmp 2, .tmp 58]⟩,
 oM 3 69,
 oM 4 73]
 .done
 (.alt [⟨none, none, .eff (.store (some 1)) [.tmp 2, .tmp 58]⟩,
 oL 69 68,
 oM 3 69,
 oM 4 73]
 .done
 .stop))
 (.alt [⟨none, none, .eff (.store (some 1)) [.tmp 2, .tmp 58]⟩]
 (.alt [oL 69 68,
 oM 3 69,
 oL 73 72,
 oM 4 73]
 .done
 (.alt [oL 73 72,
 oL 69 68,
 oM 3 69,
 oM 4 73]
 .done
 .stop))
 .stop)))
 (.alt [oL 73 72]
 (.alt [oL 62 61,
 ⟨some 67, none, .rd (.idxAddr (some 3)) [.tmp 62, .tmp 66]⟩,
 oF 2 68 67]
 (.alt [oL 69 68,
 ⟨none, none, .eff (.store (some 1)) [.tmp 2, .tmp 58]⟩,
 oM 3 69,
 oM 4 73]
 .done
 (.alt [⟨none, none, .eff (.store (some 1)) [.tmp 2, .tmp 58]⟩,
 oL 69 68,
 oM 3 69,
 oM 4 73]
 .done
 .stop))
 (.alt [⟨none, none, .eff (.store (some 1)) [.tmp 2, .tmp 58]⟩,
 oL 62 61,
 ⟨some 67, none, .rd (.idxAddr (some 3)) [.tmp 62, .tmp 66]⟩,
 oF 2 68 67,
 oL 69 68,
 oM 3 69,
 oM 4 73]
 .done
 .stop))
 (.alt [⟨none, none, .eff (.store (some 1)) [.tmp 2, .tmp 58]⟩]
 (.alt [oL 62 61,
 ⟨some 67, none, .rd (.idxAddr (some 3)) [.tmp 62, .tmp 66]⟩,
 oF 2 68 67]
 (.alt [oL 69 68,
 oM 3 69,
 oL 73 72,
 oM 4 73]
 .done
 (.alt [oL 73 72,
 oL 69 68,
 oM 3 69,
 oM 4 73]
 .done
 .stop))
 (.alt [oL 73 72,
 oL 62 61,
 ⟨some 67, none, .rd (.idxAddr (some 3)) [.tmp 62, .tmp 66]⟩,
 oF 2 68 67,
 oL 69 68,
 oM 3 69,
 oM 4 73]
 .done
 .stop))
 .stop)))
 (.alt [oL 73 72]
 (.alt [oL 62 61]
 (.alt [oL 66 65,
 ⟨some 67, none, .rd (.idxAddr (some 3)) [.tmp 62, .tmp 66]⟩,
 oF 2 68 67]
 (.alt [oL 69 68,
 ⟨none, none, .eff (.store (some 1)) [.tmp 2, .tmp 58]⟩,
 oM 3 69,
 oM 4 73]
 .done
 (.alt [⟨none, none, .eff (.store (some 1)) [.tmp 2, .tmp 58]⟩,
 oL 69 68,
 oM 3 69,
 oM 4 73]
 .done
 .stop))
 (.alt [⟨none, none, .eff (.store (some 1)) [.tmp 2, .tmp 58]⟩,
 oL 66 65,
 ⟨some 67, none, .rd (.idxAddr (some 3)) [.tmp 62, .tmp 66]⟩,
 oF 2 68 67,
 oL 69 68,
 oM 3 69,
 oM 4 73]
 .done
 .stop))
 (.alt [oL 66 65]
 (.alt [oL 62 61,
 ⟨some 67, none, .rd (.idxAddr (some 3)) [.tmp 62, .tmp 66]⟩,
 oF 2 68 67]
 (.alt [oL 69 68,
 ⟨none, none, .eff (.store (some 1)) [.tmp 2, .tmp 58]⟩,
 oM 3 69,
 oM 4 73]
 .done
 (.alt [⟨none, none, .eff (.store (some 1)) [.tmp 2, .tmp 58]⟩,
 oL 69 68,
 oM 3 69,
 oM 4 73]
 .done
 .stop))
 (.alt [⟨none, none, .eff (.store (some 1)) [.tmp 2, .tmp 58]⟩,
 oL 62 61,
 ⟨some 67, none, .rd (.idxAddr (some 3)) [.tmp 62, .tmp 66]⟩,
 oF 2 68 67,
 oL 69 68,
 oM 3 69,
 oM 4 73]
 .done
 .stop))
 (.alt [⟨none, none, .eff (.store (some 1)) [.tmp 2, .tmp 58]⟩]
 (.alt [oL 62 61,
 oL 66 65,
 ⟨some 67, none, .rd (.idxAddr (some 3)) [.tmp 62, .tmp 66]⟩,
 oF 2 68 67,
 oL 69 68,
 oM 3 69,
 oM 4 73]
 .done
 (.alt [oL 66 65,
 oL 62 61,
 ⟨some 67, none, .rd (.idxAddr (some 3)) [.tmp 62, .tmp 66]⟩,
 oF 2 68 67,
 oL 69 68,
 oM 3 69,
 oM 4 73]
 .done
 .stop))
 .stop)))
 (.alt [⟨none, none, .eff (.store (some 1)) [.tmp 2, .tmp 58]⟩]
 (.alt [oL 62 61]
 (.alt [oL 66 65,
 ⟨some 67, none, .rd (.idxAddr (some 3)) [.tmp 62, .tmp 66]⟩,
 oF 2 68 67]
 (.alt [oL 69 68,
 oM 3 69,
 oL 73 72,
 oM 4 73]
 .done
 (.alt [oL 73 72,
 oL 69 68,
 oM 3 69,
 oM 4 73]
 .done
 .stop))
 (.alt [oL 73 72,
 oL 66 65,
 ⟨some 67, none, .rd (.idxAddr (some 3)) [.tmp 62, .tmp 66]⟩,
 oF 2 68 67,
 oL 69 68,
 oM 3 69,
 oM 4 73]
 .done
 .stop))
 (.alt [oL 66 65]
 (.alt [oL 62 61,
 ⟨some 67, none, .rd (.idxAddr (some 3)) [.tmp 62, .tmp 66]⟩,
 oF 2 68 67]
 (.alt [oL 69 68,
 oM 3 69,
 oL 73 72,
 oM 4 73]
 .done
 (.alt [oL 73 72,
 oL 69 68,
 oM 3 69,
 oM 4 73]
 .done
 .stop))
 (.alt [oL 73 72,
 oL 62 61,
 ⟨some 67, none, .rd (.idxAddr (some 3)) [.tmp 62, .tmp 66]⟩,
 oF 2 68 67,
 oL 69 68,
 oM 3 69,
 oM 4 73]
 .done
 .stop))
 (.alt [oL 73 72]
 (.alt [oL 62 61,
 oL 66 65,
 ⟨some 67, none, .rd (.idxAddr (some 3)) [.tmp 62, .tmp 66]⟩,
 oF 2 68 67,
 oL 69 68,
 oM 3 69,
 oM 4 73]
 .done
 (.alt [oL 66 65,
 oL 62 61,
 ⟨some 67, none, .rd (.idxAddr (some 3)) [.tmp 62, .tmp 66]⟩,
 oF 2 68 67,
 oL 69 68,
 oM 3 69,
 oM 4 73]
 .done
 .stop))
 .stop)))
 .stop))))
 .stop) L18)
 (.ret))
 (.seq (.region false [oF 0 75 9,
 oL 76 75,
 ⟨some 77, none, .rd .lenL [.tmp 76]⟩,
 ⟨some 78, none, .rd (.bin .gtr) [.tmp 77, .pv (.int .i64 256)]⟩,
 oM 74 78] L18)
 (.cond (.tmp 74)
 (.seq (.region false [⟨some 79, none, .rd (.build [.nilSl] []) []⟩,
 ⟨none, none, .eff (.store (some 1)) [.tmp 2, .tmp 79]⟩,
 ⟨some 3, none, .rd .mov [.pv (.int .i64 0)]⟩,
 ⟨some 4, none, .rd .mov [.pv (.int .i64 5)]⟩] L18)
 (.ret))
 (.seq (.region false [⟨some 81, none, .rd (.load (some 1)) [.tmp 9]⟩,
 ⟨some 82, none, .call (.pv (.fn 42 [] [])) [.tmp 81]⟩,
 ⟨some 83, none, .rd (.bin .gtr) [.tmp 82, .pv (.int .i64 16)]⟩,
 oM 80 83] L18)
 (.cond (.tmp 80)
 (.seq (.region false [⟨some 84, none, .rd (.build [.nilSl] []) []⟩,
 ⟨none, none, .eff (.store (some 1)) [.tmp 2, .tmp 84]⟩,
 ⟨some 3, none, .rd .mov [.pv (.int .i64 0)]⟩,
 ⟨some 4, none, .rd .mov [.pv (.int .i64 14)]⟩] L18)
 (.ret))
 (.skip))))))))
 (.seq (.region false [⟨some 85, none, .rd (.load (some 1)) [.tmp 9]⟩,
 ⟨none, none, .eff (.store (some 1)) [.tmp 2, .tmp 85]⟩,
 ⟨some 3, none, .rd .mov [.pv (.int .i64 0)]⟩,
 ⟨some 4, none, .rd .mov [.pv (.int .i64 0)]⟩] L18)
 (.ret))))))))),
 [.cell 2 (some 1), .tmp 3, .tmp 4]⟩

-- wagebook/wagebookref13.call
def L85 : List Nat := [0, 2, 3, 9]
def c85 : CF := ⟨15,
 .seq (.region false [⟨some 2, none, .rd .mov [.pv (.int .i64 0)]⟩] L85)
 (.seq (.seq (.region false [oM 4 0,
 ⟨some 5, none, .rd (.bin .lss) [.tmp 4, .pv (.int .i64 0)]⟩,
 oM 6 5,
 qM 6 false 7 0,
 ⟨some 8, some (6, false), .rd (.bin .gtr) [.tmp 7, .pv (.int .i64 9)]⟩,
 ⟨some 9, none, .rd .pick [.tmp 6, .pv (.bool true), .tmp 8]⟩] L85)
 (.cond (.tmp 9)
 (.seq (.region false [⟨some 2, none, .rd .mov [.pv (.int .i64 (-1))]⟩] L85)
 (.ret))
 (.skip)))
 (.seq (.region false [⟨some 10, none, .eff (.lit none false) [.pv (.int .i64 0), .pv (.int .i64 0), .pv (.int .i64 2), .pv (.int .i64 2), .pv (.int .i64 2), .pv (.int .i64 2), .pv (.int .i64 2), .pv (.int .i64 3), .pv (.int .i64 2), .pv (.int .i64 2)]⟩,
 oM 3 10] L85)
 (.seq (.region false [oM 11 3,
 oM 12 0,
 ⟨some 13, none, .rd (.idxAddr none) [.tmp 11, .tmp 12]⟩,
 oL 14 13,
 oM 2 14] L85)
 (.ret)))),
 [.tmp 2]⟩

-- (*wagebook/wagebookref13.reader).is
def L52 : List Nat := [0, 1, 4, 5, 6, 7, 13, 26]
def c52 : CF := ⟨53,
 .seq (.region false [⟨some 4, none, .rd .mov [.pv (.int .i64 0)]⟩] L52)
 (.seq (.region false [oM 8 1,
 ⟨some 9, none, .rd (.bin .add) [.tmp 8, .pv (.int .i64 1)]⟩,
 ⟨some 10, none, .eff (.make none (.int .i64 0) 8) [.tmp 9, .tmp 9]⟩,
 oM 5 10] L52)
 (.seq (.seq (.region false [⟨some 6, none, .rd .mov [.pv (.int .i64 0)]⟩] L52)
 (.block 0
 (.loop
 (.seq (.seq (.region false [oM 11 6,
 oM 12 1,
 ⟨some 13, none, .rd (.bin .leq) [.tmp 11, .tmp 12]⟩] L52)
 (.cond (.tmp 13)
 (.skip)
 (.exit 0)))
 (.seq (.block 1
 (.seq (.region false [oM 16 5,
 oM 17 6,
 ⟨some 18, none, .rd (.idxAddr none) [.tmp 16, .tmp 17]⟩,
 ⟨none, none, .eff (.store none) [.tmp 18, .pv (.int .i64 1)]⟩] L52)
 (.seq (.region false [⟨some 7, none, .rd .mov [.pv (.int .i64 0)]⟩] L52)
 (.block 2
 (.loop
 (.seq (.seq (.region false [oM 19 7,
 oM 20 0,
 oM 21 6,
 ⟨some 22, none, .rd (.idxAddr (some 4)) [.tmp 20, .tmp 21]⟩,
 oF 3 23 22,
 oL 24 23,
 ⟨some 25, none, .rd .lenL [.tmp 24]⟩,
 ⟨some 26, none, .rd (.bin .lss) [.tmp 19, .tmp 25]⟩] L52)
 (.cond (.tmp 26)
 (.skip)
 (.exit 2)))
 (.seq (.block 3
 (.regionA (.alt [oM 29 5,
 oM 30 6,
 oM 31 5,
 oM 32 6,
 ⟨some 33, none, .rd (.idxAddr none) [.tmp 31, .tmp 32]⟩,
 oM 35 5,
 oM 36 0,
 oM 37 6,
 ⟨some 38, none, .rd (.idxAddr (some 4)) [.tmp 36, .tmp 37]⟩,
 oF 3 39 38,
 oM 41 7]
 (.alt [oL 34 33,
 oL 40 39,
 ⟨some 42, none, .rd (.idxAddr none) [.tmp 40, .tmp 41]⟩,
 oL 43 42,
 ⟨some 44, none, .rd (.idxAddr none) [.tmp 35, .tmp 43]⟩,
 oL 45 44,
 ⟨some 46, none, .rd (.bin .add) [.pv (.int .i64 1), .tmp 45]⟩,
 ⟨some 47, none, .rd .max [.tmp 34, .tmp 46]⟩,
 ⟨some 48, none, .rd (.idxAddr none) [.tmp 29, .tmp 30]⟩,
 ⟨none, none, .eff (.store none) [.tmp 48, .tmp 47]⟩]
 .done
 (.alt [oL 40 39,
 ⟨some 42, none, .rd (.idxAddr none) [.tmp 40, .tmp 41]⟩]
 (.alt [oL 34 33,
 oL 43 42,
 ⟨some 44, none, .rd (.idxAddr none) [.tmp 35, .tmp 43]⟩,
 oL 45 44,
 ⟨some 46, none, .rd (.bin .add) [.pv (.int .i64 1), .tmp 45]⟩,
 ⟨some 47, none, .rd .max [.tmp 34, .tmp 46]⟩,
 ⟨some 48, none, .rd (.idxAddr none) [.tmp 29, .tmp 30]⟩,
 ⟨none, none, .eff (.store none) [.tmp 48, .tmp 47]⟩]
 .done
 (.alt [oL 43 42,
 ⟨some 44, none, .rd (.idxAddr none) [.tmp 35, .tmp 43]⟩]
 (.alt [oL 34 33,
 oL 45 44,
 ⟨some 46, none, .rd (.bin .add) [.pv (.int .i64 1), .tmp 45]⟩,
 ⟨some 47, none, .rd .max [.tmp 34, .tmp 46]⟩,
 ⟨some 48, none, .rd (.idxAddr none) [.tmp 29, .tmp 30]⟩,
 ⟨none, none, .eff (.store none) [.tmp 48, .tmp 47]⟩]
 .done
 (.alt [oL 45 44,
 ⟨some 46, none, .rd (.bin .add) [.pv (.int .i64 1), .tmp 45]⟩,
 oL 34 33,
 ⟨some 47, none, .rd .max [.tmp 34, .tmp 46]⟩,
 ⟨some 48, none, .rd (.idxAddr none) [.tmp 29, .tmp 30]⟩,
 ⟨none, none, .eff (.store none) [.tmp 48, .tmp 47]⟩]
 .done
 .stop))
 .stop))
 .stop))
 .stop) L52))
 (.region false [oM 27 7,
 ⟨some 28, none, .rd (.bin .add) [.tmp 27, .pv (.int .i64 1)]⟩,
 oM 7 28] L52))))))))
 (.region false [oM 14 6,
 ⟨some 15, none, .rd (.bin .add) [.tmp 14, .pv (.int .i64 1)]⟩,
 oM 6 15] L52))))))
 (.seq (.region false [oM 49 5,
 oM 50 1,
 ⟨some 51, none, .rd (.idxAddr none) [.tmp 49, .tmp 50]⟩,
 oL 52 51,
 oM 4 52] L52)
 (.ret)))),
 [.tmp 4]⟩

-- wagebook/wagebookref13.Same
def L22 : List Nat := [0, 1, 4, 5, 6, 11, 15, 69, 77, 96]
def c22 : CF := ⟨97,
 .seq (.region false [⟨some 4, none, .rd .mov [.pv (.bool false)]⟩] L22)
 (.seq (.seq (.region false [oM 7 0,
 ⟨some 8, none, .rd .lenL [.tmp 7]⟩,
 oM 9 1,
 ⟨some 10, none, .rd .lenL [.tmp 9]⟩,
 ⟨some 11, none, .rd (.bin .neq) [.tmp 8, .tmp 10]⟩] L22)
 (.cond (.tmp 11)
 (.seq (.region false [⟨some 4, none, .rd .mov [.pv (.bool false)]⟩] L22)
 (.ret))
 (.skip)))
 (.seq (.seq (.region false [⟨some 5, none, .rd .mov [.pv (.int .i64 0)]⟩] L22)
 (.block 0
 (.loop
 (.seq (.seq (.region false [oM 12 5,
 oM 13 0,
 ⟨some 14, none, .rd .lenL [.tmp 13]⟩,
 ⟨some 15, none, .rd (.bin .lss) [.tmp 12, .tmp 14]⟩] L22)
 (.cond (.tmp 15)
 (.skip)
 (.exit 0)))
 (.seq (.block 1
 (.seq (.seq (.region true [oM 18 0,
 oM 19 5,
 ⟨some 20, none, .rd (.idxAddr (some 4)) [.tmp 18, .tmp 19]⟩,
 oF 0 21 20,
 oL 22 21,
 oM 23 1,
 oM 24 5,
 ⟨some 25, none, .rd (.idxAddr (some 4)) [.tmp 23, .tmp 24]⟩,
 oF 0 26 25,
 oL 27 26,
 ⟨some 28, none, .rd (.bin .neq) [.tmp 22, .tmp 27]⟩,
 oM 29 28,
 qM 29 false 30 0,
 qM 29 false 31 5,
 ⟨some 32, some (29, false), .rd (.idxAddr (some 4)) [.tmp 30, .tmp 31]⟩,
 qF 1 29 false 33 32,
 qL 29 false 34 33,
 qM 29 false 35 1,
 qM 29 false 36 5,
 ⟨some 37, some (29, false), .rd (.idxAddr (some 4)) [.tmp 35, .tmp 36]⟩,
 qF 1 29 false 38 37,
 qL 29 false 39 38,
 ⟨some 40, some (29, false), .rd (.bin .neq) [.tmp 34, .tmp 39]⟩,
 ⟨some 41, none, .rd .pick [.tmp 29, .pv (.bool true), .tmp 40]⟩,
 oM 42 41,
 qM 42 false 43 0,
 qM 42 false 44 5,
 ⟨some 45, some (42, false), .rd (.idxAddr (some 4)) [.tmp 43, .tmp 44]⟩,
 qF 2 42 false 46 45,
 qL 42 false 47 46,
 qM 42 false 48 1,
 qM 42 false 49 5,
 ⟨some 50, some (42, false), .rd (.idxAddr (some 4)) [.tmp 48, .tmp 49]⟩,
 qF 2 42 false 51 50,
 qL 42 false 52 51,
 ⟨some 53, some (42, false), .rd (.bin .neq) [.tmp 47, .tmp 52]⟩,
 ⟨some 54, none, .rd .pick [.tmp 42, .pv (.bool true), .tmp 53]⟩,
 oM 55 54,
 qM 55 false 56 0,
 qM 55 false 57 5,
 ⟨some 58, some (55, false), .rd (.idxAddr (some 4)) [.tmp 56, .tmp 57]⟩,
 qF 3 55 false 59 58,
 qL 55 false 60 59,
 ⟨some 61, some (55, false), .rd .lenL [.tmp 60]⟩,
 qM 55 false 62 1,
 qM 55 false 63 5,
 ⟨some 64, some (55, false), .rd (.idxAddr (some 4)) [.tmp 62, .tmp 63]⟩,
 qF 3 55 false 65 64,
 qL 55 false 66 65,
 ⟨some 67, some (55, false), .rd .lenL [.tmp 66]⟩,
 ⟨some 68, some (55, false), .rd (.bin .neq) [.tmp 61, .tmp 67]⟩,
 ⟨some 69, none, .rd .pick [.tmp 55, .pv (.bool true), .tmp 68]⟩] L22)
 (.cond (.tmp 69)
 (.seq (.region false [⟨some 4, none, .rd .mov [.pv (.bool false)]⟩] L22)
 (.ret))
 (.skip)))
 (.seq (.region false [⟨some 6, none, .rd .mov [.pv (.int .i64 0)]⟩] L22)
 (.block 2
 (.loop
 (.seq (.seq (.region false [oM 70 6,
 oM 71 0,
 oM 72 5,
 ⟨some 73, none, .rd (.idxAddr (some 4)) [.tmp 71, .tmp 72]⟩,
 oF 3 74 73,
 oL 75 74,
 ⟨some 76, none, .rd .lenL [.tmp 75]⟩,
 ⟨some 77, none, .rd (.bin .lss) [.tmp 70, .tmp 76]⟩] L22)
 (.cond (.tmp 77)
 (.skip)
 (.exit 2)))
 (.seq (.block 3
 (.seq (.region true [oM 80 0,
 oM 81 5,
 ⟨some 82, none, .rd (.idxAddr (some 4)) [.tmp 80, .tmp 81]⟩,
 oF 3 83 82,
 oL 84 83,
 oM 85 6,
 ⟨some 86, none, .rd (.idxAddr none) [.tmp 84, .tmp 85]⟩,
 oL 87 86,
 oM 88 1,
 oM 89 5,
 ⟨some 90, none, .rd (.idxAddr (some 4)) [.tmp 88, .tmp 89]⟩,
 oF 3 91 90,
 oL 92 91,
 oM 93 6,
 ⟨some 94, none, .rd (.idxAddr none) [.tmp 92, .tmp 93]⟩,
 oL 95 94,
 ⟨some 96, none, .rd (.bin .neq) [.tmp 87, .tmp 95]⟩] L22)
 (.cond (.tmp 96)
 (.seq (.region false [⟨some 4, none, .rd .mov [.pv (.bool false)]⟩] L22)
 (.ret))
 (.skip))))
 (.region false [oM 78 6,
 ⟨some 79, none, .rd (.bin .add) [.tmp 78, .pv (.int .i64 1)]⟩,
 oM 6 79] L22))))))))
 (.region false [oM 16 5,
 ⟨some 17, none, .rd (.bin .add) [.tmp 16, .pv (.int .i64 1)]⟩,
 oM 5 17] L22))))))
 (.seq (.region false [⟨some 4, none, .rd .mov [.pv (.bool true)]⟩] L22)
 (.ret)))),
 [.tmp 4]⟩

-- wagebook/wagebooklaw13.nodes
def L23 : List Nat := [0, 1, 2, 3, 4, 5, 10]
def c23 : CF := ⟨31,
 .seq (.region false [⟨some 1, none, .eff (.box (some 1)) [.tmp 0]⟩,
 ⟨some 2, none, .rd .mov [.pv .nilSl]⟩] L23)
 (.seq (.region false [⟨some 3, none, .rd .mov [.pv .nilSl]⟩] L23)
 (.seq (.seq (.region false [⟨some 4, none, .rd .mov [.pv (.int .i64 0)]⟩] L23)
 (.block 0
 (.loop
 (.seq (.seq (.region false [oM 6 4,
 oF 0 7 1,
 oL 8 7,
 ⟨some 9, none, .rd .lenL [.tmp 8]⟩,
 ⟨some 10, none, .rd (.bin .lss) [.tmp 6, .tmp 9]⟩] L23)
 (.cond (.tmp 10)
 (.skip)
 (.exit 0)))
 (.seq (.block 1
 (.seq (.region false [oF 0 13 1,
 oL 14 13,
 oM 15 4,
 ⟨some 16, none, .rd (.idxAddr (some 4)) [.tmp 14, .tmp 15]⟩,
 ⟨some 17, none, .rd (.load (some 4)) [.tmp 16]⟩,
 ⟨some 5, none, .eff (.alloc (some 4) (.agg [(.int .i64 0), (.int .i64 0), (.str []), .nilSl])) []⟩,
 ⟨none, none, .eff (.store (some 4)) [.tmp 5, .tmp 17]⟩] L23)
 (.region false [oM 18 3,
 oF 0 19 5,
 oL 20 19,
 oF 1 21 5,
 oL 22 21,
 oF 2 23 5,
 oL 24 23,
 oF 3 25 5,
 oL 26 25,
 ⟨some 27, none, .rd (.build [(.int .i64 0), (.int .i64 0), (.str []), .nilSl] [(0, 1), (1, 1), (2, 1), (3, 1)]) [.tmp 20, .tmp 22, .tmp 24, .tmp 26]⟩,
 ⟨some 28, none, .eff (.lit (some 4) false) [.tmp 27]⟩,
 ⟨some 29, none, .eff (.append (some 4) 56) [.tmp 18, .tmp 28]⟩,
 oM 3 29] L23)))
 (.region false [oM 11 4,
 ⟨some 12, none, .rd (.bin .add) [.tmp 11, .pv (.int .i64 1)]⟩,
 oM 4 12] L23))))))
 (.seq (.region false [oM 30 3,
 oM 2 30] L23)
 (.ret)))),
 [.tmp 2]⟩

-- wagebook/wagebooklaw13.ExprParses
def L5 : List Nat := [0, 2, 3, 4, 5, 6, 7, 8, 9, 10, 11, 12, 13, 14, 15, 16, 17, 20, 35, 56, 65, 68, 76]
def c5 : CF := ⟨114,
 .seq (.region false [⟨some 2, none, .rd .mov [.pv (.bool false)]⟩] L5)
 (.seq (.seq (.region false [oM 18 0,
 ⟨some 19, none, .rd .lenS [.tmp 18]⟩,
 ⟨some 20, none, .rd (.bin .gtr) [.tmp 19, .pv (.int .i64 600)]⟩] L5)
 (.cond (.tmp 20)
 (.seq (.region false [⟨some 21, none, .call (.pv (.fn 17 [] [])) []⟩,
 oM 2 21] L5)
 (.ret))
 (.skip)))
 (.seq (.region false [oM 23 0,
 ⟨some 24, none, .call (.pv (.fn 18 [] [])) [.tmp 23]⟩,
 oM 22 24,
 ⟨some 25, none, .rd (.ext 0) [.tmp 22]⟩,
 ⟨some 26, none, .rd (.ext 1) [.tmp 22]⟩,
 ⟨some 27, none, .rd (.ext 2) [.tmp 22]⟩,
 ⟨some 3, none, .eff (.alloc (some 1) (.agg [.nilSl])) []⟩,
 ⟨none, none, .eff (.store (some 1)) [.tmp 3, .tmp 25]⟩,
 oM 4 26,
 oM 5 27] L5)
 (.seq (.region false [oM 29 0,
 ⟨some 30, none, .call (.pv (.fn 19 [] [])) [.tmp 29]⟩,
 oM 28 30,
 ⟨some 31, none, .rd (.ext 0) [.tmp 28]⟩,
 ⟨some 32, none, .rd (.ext 1) [.tmp 28]⟩,
 ⟨some 33, none, .rd (.ext 2) [.tmp 28]⟩,
 oM 6 31,
 oM 7 32,
 oM 8 33] L5)
 (.seq (.seq (.region false [oM 34 8,
 ⟨some 35, none, .rd (.bin .neq) [.tmp 34, .pv (.int .i64 0)]⟩] L5)
 (.cond (.tmp 35)
 (.seq (.region false [oF 0 36 3,
 oL 37 36,
 ⟨some 38, none, .rd .lenL [.tmp 37]⟩,
 ⟨some 39, none, .rd (.bin .eql) [.tmp 38, .pv (.int .i64 0)]⟩,
 oM 40 39,
 qM 40 true 41 4,
 qM 40 true 42 7,
 ⟨some 43, some (40, true), .rd (.bin .eql) [.tmp 41, .tmp 42]⟩,
 ⟨some 44, none, .rd .pick [.tmp 40, .tmp 43, .pv (.bool false)]⟩,
 oM 45 44,
 qM 45 true 46 5,
 qM 45 true 47 8,
 ⟨some 48, some (45, true), .rd (.bin .eql) [.tmp 46, .tmp 47]⟩,
 ⟨some 49, none, .rd .pick [.tmp 45, .tmp 48, .pv (.bool false)]⟩,
 oM 50 49,
 ⟨some 51, some (50, true), .call (.pv (.fn 17 [] [])) []⟩,
 ⟨some 52, none, .rd .pick [.tmp 50, .tmp 51, .pv (.bool false)]⟩,
 oM 2 52] L5)
 (.ret))
 (.skip)))
 (.seq (.region false [⟨some 9, none, .rd .mov [.pv .nilSl]⟩] L5)
 (.seq (.seq (.region false [⟨some 10, none, .rd .mov [.pv (.int .i64 0)]⟩] L5)
 (.block 0
 (.loop
 (.seq (.seq (.region false [oM 53 10,
 oM 54 6,
 ⟨some 55, none, .rd .lenL [.tmp 54]⟩,
 ⟨some 56, none, .rd (.bin .lss) [.tmp 53, .tmp 55]⟩] L5)
 (.cond (.tmp 56)
 (.skip)
 (.exit 0)))
 (.seq (.block 1
 (.seq (.region false [oM 59 6,
 oM 60 10,
 ⟨some 61, none, .rd (.idxAddr (some 3)) [.tmp 59, .tmp 60]⟩,
 ⟨some 62, none, .rd (.load (some 3)) [.tmp 61]⟩,
 ⟨some 11, none, .eff (.alloc (some 3) (.agg [(.int .i64 0), (.str []), (.int .i64 0)])) []⟩,
 ⟨none, none, .eff (.store (some 3)) [.tmp 11, .tmp 62]⟩] L5)
 (.seq (.seq (.region false [oF 0 63 11,
 oL 64 63,
 ⟨some 65, none, .rd (.bin .eql) [.tmp 64, .pv (.int .i64 0)]⟩] L5)
 (.cond (.tmp 65)
 (.exit 1)
 (.skip)))
 (.seq (.region false [⟨some 12, none, .rd .mov [.pv (.int .i64 0)]⟩] L5)
 (.seq (.seq (.region false [oF 0 66 11,
 oL 67 66,
 ⟨some 68, none, .rd (.bin .eql) [.tmp 67, .pv (.int .i64 2)]⟩] L5)
 (.cond (.tmp 68)
 (.seq (.region false [oF 1 70 11,
 oL 71 70,
 ⟨some 72, none, .call (.pv (.fn 20 [] [])) [.tmp 71]⟩,
 oM 69 72,
 ⟨some 73, none, .rd (.ext 0) [.tmp 69]⟩,
 ⟨some 74, none, .rd (.ext 1) [.tmp 69]⟩,
 oM 13 73,
 oM 14 74] L5)
 (.seq (.seq (.region false [oM 75 14,
 ⟨some 76, none, .rd (.bin .neq) [.tmp 75, .pv (.int .i64 0)]⟩] L5)
 (.cond (.tmp 76)
 (.seq (.region false [⟨some 2, none, .rd .mov [.pv (.bool false)]⟩] L5)
 (.ret))
 (.skip)))
 (.region false [oM 77 13,
 oM 12 77] L5)))
 (.skip)))
 (.region false [oM 78 9,
 oF 0 79 11,
 oL 80 79,
 oF 1 81 11,
 oL 82 81,
 oM 83 12,
 oF 2 84 11,
 oL 85 84,
 ⟨some 86, none, .rd (.build [(.int .i64 0), (.str []), (.int .i64 0), (.int .i64 0)] [(0, 1), (1, 1), (2, 1), (3, 1)]) [.tmp 80, .tmp 82, .tmp 83, .tmp 85]⟩,
 ⟨some 87, none, .eff (.lit (some 4) false) [.tmp 86]⟩,
 ⟨some 88, none, .eff (.append (some 4) 40) [.tmp 78, .tmp 87]⟩,
 oM 9 88] L5))))))
 (.region false [oM 57 10,
 ⟨some 58, none, .rd (.bin .add) [.tmp 57, .pv (.int .i64 1)]⟩,
 oM 10 58] L5))))))
 (.seq (.region false [oM 90 9,
 oM 91 0,
 ⟨some 92, none, .rd .lenS [.tmp 91]⟩,
 ⟨some 93, none, .call (.pv (.fn 21 [] [])) [.tmp 90, .tmp 92]⟩,
 oM 89 93,
 ⟨some 94, none, .rd (.ext 0) [.tmp 89]⟩,
 ⟨some 95, none, .rd (.ext 1) [.tmp 89]⟩,
 ⟨some 96, none, .rd (.ext 2) [.tmp 89]⟩,
 oM 15 94,
 oM 16 95,
 oM 17 96] L5)
 (.seq (.region false [⟨some 97, none, .rd (.load (some 1)) [.tmp 3]⟩,
 ⟨some 98, none, .call (.pv (.fn 23 [] [])) [.tmp 97]⟩,
 oM 99 15,
 ⟨some 100, none, .call (.pv (.fn 22 [] [])) [.tmp 98, .tmp 99]⟩,
 oM 101 100,
 qM 101 true 102 4,
 qM 101 true 103 16,
 ⟨some 104, some (101, true), .rd (.bin .eql) [.tmp 102, .tmp 103]⟩,
 ⟨some 105, none, .rd .pick [.tmp 101, .tmp 104, .pv (.bool false)]⟩,
 oM 106 105,
 qM 106 true 107 5,
 qM 106 true 108 17,
 ⟨some 109, some (106, true), .rd (.bin .eql) [.tmp 107, .tmp 108]⟩,
 ⟨some 110, none, .rd .pick [.tmp 106, .tmp 109, .pv (.bool false)]⟩,
 oM 111 110,
 ⟨some 112, some (111, true), .call (.pv (.fn 17 [] [])) []⟩,
 ⟨some 113, none, .rd .pick [.tmp 111, .tmp 112, .pv (.bool false)]⟩,
 oM 2 113] L5)
 (.ret))))))))),
 [.tmp 2]⟩

-- wagebook/wagebooklaw13.awake
def L17 : List Nat := [0, 1, 3, 4, 6, 7, 9]
def c17 : CF := ⟨56,
 .seq (.region false [⟨some 0, none, .rd .mov [.pv (.bool false)]⟩] L17)
 (.seq (.region false [⟨some 11, none, .call (.pv (.fn 18 [] [])) [.pv (.str [97, 43, 50, 42, 40, 98, 45, 99, 41])]⟩,
 oM 10 11,
 ⟨some 12, none, .rd (.ext 0) [.tmp 10]⟩,
 ⟨some 13, none, .rd (.ext 1) [.tmp 10]⟩,
 ⟨some 14, none, .rd (.ext 2) [.tmp 10]⟩,
 ⟨some 1, none, .eff (.alloc (some 1) (.agg [.nilSl])) []⟩,
 ⟨none, none, .eff (.store (some 1)) [.tmp 1, .tmp 12]⟩,
 oM 2 13,
 oM 3 14] L17)
 (.seq (.region false [⟨some 16, none, .call (.pv (.fn 18 [] [])) [.pv (.str [97, 45, 40, 98, 43, 99, 41])]⟩,
 oM 15 16,
 ⟨some 17, none, .rd (.ext 0) [.tmp 15]⟩,
 ⟨some 18, none, .rd (.ext 1) [.tmp 15]⟩,
 ⟨some 19, none, .rd (.ext 2) [.tmp 15]⟩,
 ⟨some 4, none, .eff (.alloc (some 1) (.agg [.nilSl])) []⟩,
 ⟨none, none, .eff (.store (some 1)) [.tmp 4, .tmp 17]⟩,
 oM 5 18,
 oM 6 19] L17)
 (.seq (.region false [⟨some 21, none, .call (.pv (.fn 18 [] [])) [.pv (.str [40, 97, 45, 98, 41, 43, 99])]⟩,
 oM 20 21,
 ⟨some 22, none, .rd (.ext 0) [.tmp 20]⟩,
 ⟨some 23, none, .rd (.ext 1) [.tmp 20]⟩,
 ⟨some 24, none, .rd (.ext 2) [.tmp 20]⟩,
 ⟨some 7, none, .eff (.alloc (some 1) (.agg [.nilSl])) []⟩,
 ⟨none, none, .eff (.store (some 1)) [.tmp 7, .tmp 22]⟩,
 oM 8 23,
 oM 9 24] L17)
 (.seq (.region false [oM 25 3,
 ⟨some 26, none, .rd (.bin .eql) [.tmp 25, .pv (.int .i64 0)]⟩,
 oM 27 26,
 qF 0 27 true 28 1,
 qL 27 true 29 28,
 ⟨some 30, some (27, true), .rd .lenL [.tmp 29]⟩,
 ⟨some 31, some (27, true), .rd (.bin .eql) [.tmp 30, .pv (.int .i64 7)]⟩,
 ⟨some 32, none, .rd .pick [.tmp 27, .tmp 31, .pv (.bool false)]⟩,
 oM 33 32,
 ⟨some 34, some (33, true), .rd (.load (some 1)) [.tmp 1]⟩,
 ⟨some 35, some (33, true), .call (.pv (.fn 26 [] [])) [.tmp 34]⟩,
 ⟨some 36, some (33, true), .rd (.bin .eql) [.tmp 35, .pv (.str [97, 43, 50, 42, 40, 98, 45, 99, 41])]⟩,
 ⟨some 37, none, .rd .pick [.tmp 33, .tmp 36, .pv (.bool false)]⟩,
 oM 38 37,
 qM 38 true 39 6,
 ⟨some 40, some (38, true), .rd (.bin .eql) [.tmp 39, .pv (.int .i64 0)]⟩,
 ⟨some 41, none, .rd .pick [.tmp 38, .tmp 40, .pv (.bool false)]⟩,
 oM 42 41,
 ⟨some 43, some (42, true), .rd (.load (some 1)) [.tmp 4]⟩,
 ⟨some 44, some (42, true), .call (.pv (.fn 26 [] [])) [.tmp 43]⟩,
 ⟨some 45, some (42, true), .rd (.bin .eql) [.tmp 44, .pv (.str [97, 45, 40, 98, 43, 99, 41])]⟩,
 ⟨some 46, none, .rd .pick [.tmp 42, .tmp 45, .pv (.bool false)]⟩,
 oM 47 46,
 qM 47 true 48 9,
 ⟨some 49, some (47, true), .rd (.bin .eql) [.tmp 48, .pv (.int .i64 0)]⟩,
 ⟨some 50, none, .rd .pick [.tmp 47, .tmp 49, .pv (.bool false)]⟩,
 oM 51 50,
 ⟨some 52, some (51, true), .rd (.load (some 1)) [.tmp 7]⟩,
 ⟨some 53, some (51, true), .call (.pv (.fn 26 [] [])) [.tmp 52]⟩,
 ⟨some 54, some (51, true), .rd (.bin .eql) [.tmp 53, .pv (.str [97, 45, 98, 43, 99])]⟩,
 ⟨some 55, none, .rd .pick [.tmp 51, .tmp 54, .pv (.bool false)]⟩,
 oM 0 55] L17)
 (.ret))))),
 [.tmp 0]⟩

-- (wagebook/expr.Tree).Text
def L26 : List Nat := [0, 1, 2, 3, 6]
def c26 : CF := ⟨14,
 .seq (.region false [⟨some 1, none, .eff (.box (some 1)) [.tmp 0]⟩,
 ⟨some 2, none, .rd .mov [.pv (.str [])]⟩] L26)
 (.seq (.seq (.region false [⟨some 4, none, .rd (.load (some 1)) [.tmp 1]⟩,
 ⟨some 5, none, .call (.pv (.fn 29 [] [])) [.tmp 4]⟩,
 ⟨some 6, none, .rd (.bin .neq) [.tmp 5, .pv (.int .i64 0)]⟩] L26)
 (.cond (.tmp 6)
 (.seq (.region false [⟨some 2, none, .rd .mov [.pv (.str [])]⟩] L26)
 (.ret))
 (.skip)))
 (.seq (.region false [⟨some 3, none, .eff (.alloc none .nilFn) []⟩] L26)
 (.seq (.region false [⟨some 7, none, .rd (.mkFn 55 0) [.tmp 1, .tmp 3]⟩,
 ⟨none, none, .eff (.store none) [.tmp 3, .tmp 7]⟩] L26)
 (.seq (.region false [oL 8 3,
 oF 0 9 1,
 oL 10 9,
 ⟨some 11, none, .rd .lenL [.tmp 10]⟩,
 ⟨some 12, none, .rd (.bin .sub) [.tmp 11, .pv (.int .i64 1)]⟩,
 ⟨some 13, none, .call (.tmp 8) [.tmp 12, .pv (.int .i64 0)]⟩,
 oM 2 13] L26)
 (.ret))))),
 [.tmp 2]⟩

-- (wagebook/expr.Tree).Text$1
def L56 : List Nat := [0, 2, 3, 4, 7]
def c56 : CF := ⟨9,
 .seq (.region false [⟨some 2, none, .rd .mov [.pv (.int .i64 0)]⟩] L56)
 (.seq (.seq (.region false [oM 3 0] L56)
 (.block 0
 (.seq (.seq (.region false [⟨some 5, none, .rd (.bin .eql) [.tmp 3, .pv (.int .i64 2)]⟩,
 oM 4 5] L56)
 (.cond (.tmp 4)
 (.skip)
 (.region false [⟨some 6, none, .rd (.bin .eql) [.tmp 3, .pv (.int .i64 3)]⟩,
 oM 4 6] L56)))
 (.cond (.tmp 4)
 (.seq (.region false [⟨some 2, none, .rd .mov [.pv (.int .i64 1)]⟩] L56)
 (.ret))
 (.seq (.region false [⟨some 8, none, .rd (.bin .eql) [.tmp 3, .pv (.int .i64 4)]⟩,
 oM 7 8] L56)
 (.cond (.tmp 7)
 (.seq (.region false [⟨some 2, none, .rd .mov [.pv (.int .i64 2)]⟩] L56)
 (.ret))
 (.skip)))))))
 (.seq (.region false [⟨some 2, none, .rd .mov [.pv (.int .i64 3)]⟩] L56)
 (.ret))),
 [.tmp 2]⟩

-- wagebook/expr.number
def L57 : List Nat := [0, 2, 3, 4, 5, 13, 24]
def c57 : CF := ⟨34,
 .seq (.region false [⟨some 2, none, .rd .mov [.pv (.str [])]⟩] L57)
 (.seq (.region false [oM 6 0,
 ⟨some 7, none, .rd (.bin .quo) [.tmp 6, .pv (.int .i64 1000000)]⟩,
 ⟨some 8, none, .call (.pv (.fn 86 [] [])) [.tmp 7]⟩,
 oM 3 8] L57)
 (.seq (.region false [oM 9 0,
 ⟨some 10, none, .rd (.bin .rem) [.tmp 9, .pv (.int .i64 1000000)]⟩,
 ⟨some 11, none, .rd (.bin .quo) [.tmp 10, .pv (.int .i64 100)]⟩,
 oM 4 11] L57)
 (.seq (.seq (.region false [oM 12 4,
 ⟨some 13, none, .rd (.bin .eql) [.tmp 12, .pv (.int .i64 0)]⟩] L57)
 (.cond (.tmp 13)
 (.seq (.region false [oM 14 3,
 oM 2 14] L57)
 (.ret))
 (.skip)))
 (.seq (.region false [oM 15 4,
 ⟨some 16, none, .rd (.bin .add) [.pv (.int .i64 10000), .tmp 15]⟩,
 ⟨some 17, none, .call (.pv (.fn 86 [] [])) [.tmp 16]⟩,
 ⟨some 18, none, .rd (.slcS true false) [.tmp 17, .pv (.int .i64 1)]⟩,
 oM 5 18] L57)
 (.seq (.block 0
 (.loop
 (.seq (.seq (.region false [oM 19 5,
 oM 20 5,
 ⟨some 21, none, .rd .lenS [.tmp 20]⟩,
 ⟨some 22, none, .rd (.bin .sub) [.tmp 21, .pv (.int .i64 1)]⟩,
 ⟨some 23, none, .rd .idxS [.tmp 19, .tmp 22]⟩,
 ⟨some 24, none, .rd (.bin .eql) [.tmp 23, .pv (.int .u8 48)]⟩] L57)
 (.cond (.tmp 24)
 (.skip)
 (.exit 0)))
 (.block 1
 (.region false [oM 25 5,
 oM 26 5,
 ⟨some 27, none, .rd .lenS [.tmp 26]⟩,
 ⟨some 28, none, .rd (.bin .sub) [.tmp 27, .pv (.int .i64 1)]⟩,
 ⟨some 29, none, .rd (.slcS false true) [.tmp 25, .tmp 28]⟩,
 oM 5 29] L57)))))
 (.seq (.region false [oM 30 3,
 ⟨some 31, none, .rd (.bin .add) [.tmp 30, .pv (.str [46])]⟩,
 oM 32 5,
 ⟨some 33, none, .rd (.bin .add) [.tmp 31, .tmp 32]⟩,
 oM 2 33] L57)
 (.ret))))))),
 [.tmp 2]⟩

-- wagebook/expr.digits
def L86 : List Nat := [0, 2, 3, 5]
def c86 : CF := ⟨21,
 .seq (.region false [⟨some 2, none, .rd .mov [.pv (.str [])]⟩] L86)
 (.seq (.region false [⟨some 3, none, .rd .mov [.pv (.str [])]⟩] L86)
 (.seq (.block 0
 (.loop
 (.seq (.seq (.region false [oM 4 0,
 ⟨some 5, none, .rd (.bin .gtr) [.tmp 4, .pv (.int .i64 9)]⟩] L86)
 (.cond (.tmp 5)
 (.skip)
 (.exit 0)))
 (.block 1
 (.seq (.region false [oM 6 0,
 ⟨some 7, none, .rd (.bin .rem) [.tmp 6, .pv (.int .i64 10)]⟩,
 ⟨some 8, none, .rd (.bin .add) [.pv (.int .i64 48), .tmp 7]⟩,
 ⟨some 9, none, .rd (.conv .i32) [.tmp 8]⟩,
 ⟨some 10, none, .rd .chr [.tmp 9]⟩,
 oM 11 3,
 ⟨some 12, none, .rd (.bin .add) [.tmp 10, .tmp 11]⟩,
 oM 3 12] L86)
 (.region false [oM 13 0,
 ⟨some 14, none, .rd (.bin .quo) [.tmp 13, .pv (.int .i64 10)]⟩,
 oM 0 14] L86))))))
 (.seq (.region false [oM 15 0,
 ⟨some 16, none, .rd (.bin .add) [.pv (.int .i64 48), .tmp 15]⟩,
 ⟨some 17, none, .rd (.conv .i32) [.tmp 16]⟩,
 ⟨some 18, none, .rd .chr [.tmp 17]⟩,
 oM 19 3,
 ⟨some 20, none, .rd (.bin .add) [.tmp 18, .tmp 19]⟩,
 oM 2 20] L86)
 (.ret)))),
 [.tmp 2]⟩
theorem k40 : compileF Tryd.prog [] L40 Tryd.f40 = some c40 := by kernel_rfl
theorem k41 : compileF Tryd.prog [] L41 Tryd.f41 = some c41 := by kernel_rfl
theorem k71 : compileF Tryd.prog [] L71 Tryd.f71 = some c71 := by kernel_rfl
theorem k72 : compileF Tryd.prog [] L72 Tryd.f72 = some c72 := by kernel_rfl
theorem k73 : compileF Tryd.prog [] L73 Tryd.f73 = some c73 := by kernel_rfl
theorem k98 : compileF Tryd.prog [] L98 Tryd.f98 = some c98 := by kernel_rfl
theorem k99 : compileF Tryd.prog [] L99 Tryd.f99 = some c99 := by kernel_rfl
theorem k100 : compileF Tryd.prog [999999] L100 Tryd.f100 = some c100 := by kernel_rfl
theorem k126 : compileF Tryd.prog [] L126 Tryd.f126 = some c126 := by kernel_rfl
theorem k18 : compileF Tryd.prog [] L18 Tryd.f18 = some c18 := by kernel_rfl
theorem k85 : compileF Tryd.prog [] L85 Tryd.f85 = some c85 := by kernel_rfl
theorem k52 : compileF Tryd.prog [] L52 Tryd.f52 = some c52 := by kernel_rfl
theorem k22 : compileF Tryd.prog [] L22 Tryd.f22 = some c22 := by kernel_rfl
theorem k23 : compileF Tryd.prog [] L23 Tryd.f23 = some c23 := by kernel_rfl
theorem k5 : compileF Tryd.prog [] L5 Tryd.f5 = some c5 := by kernel_rfl
theorem k17 : compileF Tryd.prog [] L17 Tryd.f17 = some c17 := by kernel_rfl
theorem k26 : compileF Tryd.prog [] L26 Tryd.f26 = some c26 := by kernel_rfl
theorem k56 : compileF Tryd.prog [] L56 Tryd.f56 = some c56 := by kernel_rfl
theorem k57 : compileF Tryd.prog [] L57 Tryd.f57 = some c57 := by kernel_rfl
theorem k86 : compileF Tryd.prog [] L86 Tryd.f86 = some c86 := by kernel_rfl
end Go.Proofs.YthekpjhffciakaaDoor

