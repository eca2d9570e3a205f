import Derived.Test.YtdiokmmjdpbdbaaProg
import Derived.KernelRfl
import Derived.Test.YtdiokmmjdpbdbaaP3
namespace Go.Proofs.Ytdiokmmjdpbdbaa
open PG Go.Proofs
-- wagebook/wagebookref14.Texts
def L12 : List Nat := [0, 1, 4, 5, 10, 14, 25]
def c12 : CF := ⟨26,
 .seq (.region false [⟨some 4, none, .rd .mov [.pv (.bool false)]⟩] L12)
 (.seq (.seq (.region false [⟨some 6, none, .rd .mov [.tmp 0]⟩,
 ⟨some 7, none, .rd .lenL [.tmp 6]⟩,
 ⟨some 8, none, .rd .mov [.tmp 1]⟩,
 ⟨some 9, none, .rd .lenL [.tmp 8]⟩,
 ⟨some 10, none, .rd (.bin .neq) [.tmp 7, .tmp 9]⟩] L12)
 (.cond (.tmp 10)
 (.seq (.region false [⟨some 4, none, .rd .mov [.pv (.bool false)]⟩] L12)
 (.ret))
 (.skip)))
 (.seq (.seq (.region false [⟨some 5, none, .rd .mov [.pv (.int .i64 0)]⟩] L12)
 (.block 0
 (.loop
 (.seq (.seq (.region false [⟨some 11, none, .rd .mov [.tmp 5]⟩,
 ⟨some 12, none, .rd .mov [.tmp 0]⟩,
 ⟨some 13, none, .rd .lenL [.tmp 12]⟩,
 ⟨some 14, none, .rd (.bin .lss) [.tmp 11, .tmp 13]⟩] L12)
 (.cond (.tmp 14)
 (.skip)
 (.exit 0)))
 (.seq (.block 1
 (.seq (.region true [⟨some 17, none, .rd .mov [.tmp 0]⟩,
 ⟨some 18, none, .rd .mov [.tmp 5]⟩,
 ⟨some 19, none, .rd (.idxAddr none) [.tmp 17, .tmp 18]⟩,
 ⟨some 20, none, .rd (.load none) [.tmp 19]⟩,
 ⟨some 21, none, .rd .mov [.tmp 1]⟩,
 ⟨some 22, none, .rd .mov [.tmp 5]⟩,
 ⟨some 23, none, .rd (.idxAddr none) [.tmp 21, .tmp 22]⟩,
 ⟨some 24, none, .rd (.load none) [.tmp 23]⟩,
 ⟨some 25, none, .rd (.bin .neq) [.tmp 20, .tmp 24]⟩] L12)
 (.cond (.tmp 25)
 (.seq (.region false [⟨some 4, none, .rd .mov [.pv (.bool false)]⟩] L12)
 (.ret))
 (.skip))))
 (.region false [⟨some 15, none, .rd .mov [.tmp 5]⟩,
 ⟨some 16, none, .rd (.bin .add) [.tmp 15, .pv (.int .i64 1)]⟩,
 ⟨some 5, none, .rd .mov [.tmp 16]⟩] L12))))))
 (.seq (.region false [⟨some 4, none, .rd .mov [.pv (.bool true)]⟩] L12)
 (.ret)))),
 [.tmp 4]⟩

-- wagebook/wagebooklaw14.of
def L15 : List Nat := [0, 2, 3, 4, 8]
def c15 : CF := ⟨26,
 .seq (.region false [⟨some 2, none, .rd .mov [.pv .nilSl]⟩] L15)
 (.seq (.region false [⟨some 3, none, .rd .mov [.pv .nilSl]⟩] L15)
 (.seq (.seq (.region false [⟨some 4, none, .rd .mov [.pv (.int .i64 0)]⟩] L15)
 (.block 0
 (.loop
 (.seq (.seq (.region false [⟨some 5, none, .rd .mov [.tmp 4]⟩,
 ⟨some 6, none, .rd .mov [.tmp 0]⟩,
 ⟨some 7, none, .rd .lenL [.tmp 6]⟩,
 ⟨some 8, none, .rd (.bin .lss) [.tmp 5, .tmp 7]⟩] L15)
 (.cond (.tmp 8)
 (.skip)
 (.exit 0)))
 (.seq (.block 1
 (.regionA (.alt [⟨some 11, none, .rd .mov [.tmp 3]⟩,
 ⟨some 12, none, .rd .mov [.tmp 0]⟩,
 ⟨some 13, none, .rd .mov [.tmp 4]⟩,
 ⟨some 14, none, .rd (.idxAddr (some 2)) [.tmp 12, .tmp 13]⟩,
 ⟨some 15, none, .rd (.fldAddr 0) [.tmp 14]⟩,
 ⟨some 17, none, .rd .mov [.tmp 0]⟩,
 ⟨some 18, none, .rd .mov [.tmp 4]⟩,
 ⟨some 19, none, .rd (.idxAddr (some 2)) [.tmp 17, .tmp 18]⟩,
 ⟨some 20, none, .rd (.fldAddr 1) [.tmp 19]⟩]
 (.alt [⟨some 16, none, .rd (.load none) [.tmp 15]⟩,
 ⟨some 21, none, .rd (.load none) [.tmp 20]⟩,
 ⟨some 22, none, .rd (.build [(.str []), .nilSl] [(0, 1), (1, 1)]) [.tmp 16, .tmp 21]⟩,
 ⟨some 23, none, .eff (.lit (some 2) false) [.tmp 22]⟩,
 ⟨some 24, none, .eff (.append (some 2) 40) [.tmp 11, .tmp 23]⟩,
 ⟨some 3, none, .rd .mov [.tmp 24]⟩]
 .done
 (.alt [⟨some 21, none, .rd (.load none) [.tmp 20]⟩,
 ⟨some 16, none, .rd (.load none) [.tmp 15]⟩,
 ⟨some 22, none, .rd (.build [(.str []), .nilSl] [(0, 1), (1, 1)]) [.tmp 16, .tmp 21]⟩,
 ⟨some 23, none, .eff (.lit (some 2) false) [.tmp 22]⟩,
 ⟨some 24, none, .eff (.append (some 2) 40) [.tmp 11, .tmp 23]⟩,
 ⟨some 3, none, .rd .mov [.tmp 24]⟩]
 .done
 .stop))
 .stop) L15))
 (.region false [⟨some 9, none, .rd .mov [.tmp 4]⟩,
 ⟨some 10, none, .rd (.bin .add) [.tmp 9, .pv (.int .i64 1)]⟩,
 ⟨some 4, none, .rd .mov [.tmp 10]⟩] L15))))))
 (.seq (.region false [⟨some 25, none, .rd .mov [.tmp 3]⟩,
 ⟨some 2, none, .rd .mov [.tmp 25]⟩] L15)
 (.ret)))),
 [.tmp 2]⟩

-- wagebook/wagebookref14.In
def L23 : List Nat := [0, 1, 4, 5, 9, 17]
def c23 : CF := ⟨18,
 .seq (.region false [⟨some 4, none, .rd .mov [.pv (.bool false)]⟩] L23)
 (.seq (.seq (.region false [⟨some 5, none, .rd .mov [.pv (.int .i64 0)]⟩] L23)
 (.block 0
 (.loop
 (.seq (.seq (.region false [⟨some 6, none, .rd .mov [.tmp 5]⟩,
 ⟨some 7, none, .rd .mov [.tmp 0]⟩,
 ⟨some 8, none, .rd .lenL [.tmp 7]⟩,
 ⟨some 9, none, .rd (.bin .lss) [.tmp 6, .tmp 8]⟩] L23)
 (.cond (.tmp 9)
 (.skip)
 (.exit 0)))
 (.seq (.block 1
 (.seq (.region false [⟨some 12, none, .rd .mov [.tmp 0]⟩,
 ⟨some 13, none, .rd .mov [.tmp 5]⟩,
 ⟨some 14, none, .rd (.idxAddr none) [.tmp 12, .tmp 13]⟩,
 ⟨some 15, none, .rd (.load none) [.tmp 14]⟩,
 ⟨some 16, none, .rd .mov [.tmp 1]⟩,
 ⟨some 17, none, .rd (.bin .eql) [.tmp 15, .tmp 16]⟩] L23)
 (.cond (.tmp 17)
 (.seq (.region false [⟨some 4, none, .rd .mov [.pv (.bool true)]⟩] L23)
 (.ret))
 (.skip))))
 (.region false [⟨some 10, none, .rd .mov [.tmp 5]⟩,
 ⟨some 11, none, .rd (.bin .add) [.tmp 10, .pv (.int .i64 1)]⟩,
 ⟨some 5, none, .rd .mov [.tmp 11]⟩] L23))))))
 (.seq (.region false [⟨some 4, none, .rd .mov [.pv (.bool false)]⟩] L23)
 (.ret))),
 [.tmp 4]⟩

-- wagebook/wagebooklaw14.needs
def L24 : List Nat := [0, 1, 2, 6, 7, 11, 20]
def c24 : CF := ⟨28,
 .seq (.region false [⟨some 6, none, .rd .mov [.pv (.bool false)]⟩] L24)
 (.seq (.seq (.region false [⟨some 7, none, .rd .mov [.pv (.int .i64 0)]⟩] L24)
 (.block 0
 (.loop
 (.seq (.seq (.region false [⟨some 8, none, .rd .mov [.tmp 7]⟩,
 ⟨some 9, none, .rd .mov [.tmp 2]⟩,
 ⟨some 10, none, .rd .lenL [.tmp 9]⟩,
 ⟨some 11, none, .rd (.bin .lss) [.tmp 8, .tmp 10]⟩] L24)
 (.cond (.tmp 11)
 (.skip)
 (.exit 0)))
 (.seq (.block 1
 (.seq (.region false [⟨some 14, none, .rd .mov [.tmp 2]⟩,
 ⟨some 15, none, .rd .mov [.tmp 7]⟩,
 ⟨some 16, none, .rd (.idxAddr (some 2)) [.tmp 14, .tmp 15]⟩,
 ⟨some 17, none, .rd (.fldAddr 0) [.tmp 16]⟩,
 ⟨some 18, none, .rd (.load none) [.tmp 17]⟩,
 ⟨some 19, none, .rd .mov [.tmp 0]⟩,
 ⟨some 20, none, .rd (.bin .eql) [.tmp 18, .tmp 19]⟩] L24)
 (.cond (.tmp 20)
 (.seq (.region false [⟨some 21, none, .rd .mov [.tmp 2]⟩,
 ⟨some 22, none, .rd .mov [.tmp 7]⟩,
 ⟨some 23, none, .rd (.idxAddr (some 2)) [.tmp 21, .tmp 22]⟩,
 ⟨some 24, none, .rd (.fldAddr 1) [.tmp 23]⟩,
 ⟨some 25, none, .rd (.load none) [.tmp 24]⟩,
 ⟨some 26, none, .rd .mov [.tmp 1]⟩,
 ⟨some 27, none, .call (.pv (.fn 23 [] [])) [.tmp 25, .tmp 26]⟩,
 ⟨some 6, none, .rd .mov [.tmp 27]⟩] L24)
 (.ret))
 (.skip))))
 (.region false [⟨some 12, none, .rd .mov [.tmp 7]⟩,
 ⟨some 13, none, .rd (.bin .add) [.tmp 12, .pv (.int .i64 1)]⟩,
 ⟨some 7, none, .rd .mov [.tmp 13]⟩] L24))))))
 (.seq (.region false [⟨some 6, none, .rd .mov [.pv (.bool false)]⟩] L24)
 (.ret))),
 [.tmp 6]⟩

-- wagebook/wagebooklaw14.pay
def L25 : List Nat := [0]
def c25 : CF := ⟨8,
 .seq (.region false [⟨some 0, none, .rd .mov [.pv .nilSl]⟩] L25)
 (.seq (.region false [⟨some 1, none, .eff (.lit none false) [.pv (.str [103, 114, 111, 115, 115]), .pv (.str [116, 97, 120])]⟩,
 ⟨some 2, none, .rd (.build [(.str []), .nilSl] [(0, 1), (1, 1)]) [.pv (.str [110, 101, 116]), .tmp 1]⟩,
 ⟨some 3, none, .eff (.lit none false) [.pv (.str [103, 114, 111, 115, 115]), .pv (.str [102, 114, 101, 101])]⟩,
 ⟨some 4, none, .rd (.build [(.str []), .nilSl] [(0, 1), (1, 1)]) [.pv (.str [116, 97, 120]), .tmp 3]⟩,
 ⟨some 5, none, .eff (.lit none false) [.pv (.str [98, 97, 115, 101])]⟩,
 ⟨some 6, none, .rd (.build [(.str []), .nilSl] [(0, 1), (1, 1)]) [.pv (.str [103, 114, 111, 115, 115]), .tmp 5]⟩,
 ⟨some 7, none, .eff (.lit (some 2) false) [.tmp 2, .tmp 4, .tmp 6]⟩,
 ⟨some 0, none, .rd .mov [.tmp 7]⟩] L25)
 (.ret)),
 [.tmp 0]⟩

-- wagebook/wagebookref14.Short
def L26 : List Nat := [0, 1, 4, 5, 6, 15, 33, 41, 53]
def c26 : CF := ⟨58,
 .seq (.region false [⟨some 4, none, .rd .mov [.pv (.bool false)]⟩] L26)
 (.seq (.seq (.region false [⟨some 5, none, .rd .mov [.pv (.int .i64 0)]⟩] L26)
 (.block 0
 (.loop
 (.seq (.seq (.region false [⟨some 7, none, .rd .mov [.tmp 5]⟩,
 ⟨some 8, none, .rd .mov [.tmp 0]⟩,
 ⟨some 9, none, .rd .lenL [.tmp 8]⟩,
 ⟨some 10, none, .rd (.bin .lss) [.tmp 7, .tmp 9]⟩,
 ⟨some 11, none, .rd .mov [.tmp 10]⟩,
 ⟨some 12, some (11, true), .rd .mov [.tmp 5]⟩,
 ⟨some 13, some (11, true), .rd .mov [.tmp 1]⟩,
 ⟨some 14, some (11, true), .rd (.bin .leq) [.tmp 12, .tmp 13]⟩,
 ⟨some 15, none, .rd .pick [.tmp 11, .tmp 14, .pv (.bool false)]⟩] L26)
 (.cond (.tmp 15)
 (.skip)
 (.exit 0)))
 (.seq (.block 1
 (.seq (.seq (.region false [⟨some 18, none, .rd .mov [.tmp 0]⟩,
 ⟨some 19, none, .rd .mov [.tmp 5]⟩,
 ⟨some 20, none, .rd (.idxAddr (some 2)) [.tmp 18, .tmp 19]⟩,
 ⟨some 21, none, .rd (.fldAddr 1) [.tmp 20]⟩,
 ⟨some 22, none, .rd (.load none) [.tmp 21]⟩,
 ⟨some 23, none, .rd .lenL [.tmp 22]⟩,
 ⟨some 24, none, .rd (.bin .gtr) [.tmp 23, .pv (.int .i64 70)]⟩,
 ⟨some 25, none, .rd .mov [.tmp 24]⟩,
 ⟨some 26, some (25, false), .rd .mov [.tmp 0]⟩,
 ⟨some 27, some (25, false), .rd .mov [.tmp 5]⟩,
 ⟨some 28, some (25, false), .rd (.idxAddr (some 2)) [.tmp 26, .tmp 27]⟩,
 ⟨some 29, some (25, false), .rd (.fldAddr 0) [.tmp 28]⟩,
 ⟨some 30, some (25, false), .rd (.load none) [.tmp 29]⟩,
 ⟨some 31, some (25, false), .rd .lenS [.tmp 30]⟩,
 ⟨some 32, some (25, false), .rd (.bin .gtr) [.tmp 31, .pv (.int .i64 60)]⟩,
 ⟨some 33, none, .rd .pick [.tmp 25, .pv (.bool true), .tmp 32]⟩] L26)
 (.cond (.tmp 33)
 (.seq (.region false [⟨some 4, none, .rd .mov [.pv (.bool false)]⟩] L26)
 (.ret))
 (.skip)))
 (.seq (.region false [⟨some 6, none, .rd .mov [.pv (.int .i64 0)]⟩] L26)
 (.block 2
 (.loop
 (.seq (.seq (.region false [⟨some 34, none, .rd .mov [.tmp 6]⟩,
 ⟨some 35, none, .rd .mov [.tmp 0]⟩,
 ⟨some 36, none, .rd .mov [.tmp 5]⟩,
 ⟨some 37, none, .rd (.idxAddr (some 2)) [.tmp 35, .tmp 36]⟩,
 ⟨some 38, none, .rd (.fldAddr 1) [.tmp 37]⟩,
 ⟨some 39, none, .rd (.load none) [.tmp 38]⟩,
 ⟨some 40, none, .rd .lenL [.tmp 39]⟩,
 ⟨some 41, none, .rd (.bin .lss) [.tmp 34, .tmp 40]⟩] L26)
 (.cond (.tmp 41)
 (.skip)
 (.exit 2)))
 (.seq (.block 3
 (.seq (.region false [⟨some 44, none, .rd .mov [.tmp 0]⟩,
 ⟨some 45, none, .rd .mov [.tmp 5]⟩,
 ⟨some 46, none, .rd (.idxAddr (some 2)) [.tmp 44, .tmp 45]⟩,
 ⟨some 47, none, .rd (.fldAddr 1) [.tmp 46]⟩,
 ⟨some 48, none, .rd (.load none) [.tmp 47]⟩,
 ⟨some 49, none, .rd .mov [.tmp 6]⟩,
 ⟨some 50, none, .rd (.idxAddr none) [.tmp 48, .tmp 49]⟩,
 ⟨some 51, none, .rd (.load none) [.tmp 50]⟩,
 ⟨some 52, none, .rd .lenS [.tmp 51]⟩,
 ⟨some 53, none, .rd (.bin .gtr) [.tmp 52, .pv (.int .i64 60)]⟩] L26)
 (.cond (.tmp 53)
 (.seq (.region false [⟨some 4, none, .rd .mov [.pv (.bool false)]⟩] L26)
 (.ret))
 (.skip))))
 (.region false [⟨some 42, none, .rd .mov [.tmp 6]⟩,
 ⟨some 43, none, .rd (.bin .add) [.tmp 42, .pv (.int .i64 1)]⟩,
 ⟨some 6, none, .rd .mov [.tmp 43]⟩] L26))))))))
 (.region false [⟨some 16, none, .rd .mov [.tmp 5]⟩,
 ⟨some 17, none, .rd (.bin .add) [.tmp 16, .pv (.int .i64 1)]⟩,
 ⟨some 5, none, .rd .mov [.tmp 17]⟩] L26))))))
 (.seq (.region false [⟨some 54, none, .rd .mov [.tmp 0]⟩,
 ⟨some 55, none, .rd .lenL [.tmp 54]⟩,
 ⟨some 56, none, .rd .mov [.tmp 1]⟩,
 ⟨some 57, none, .rd (.bin .leq) [.tmp 55, .tmp 56]⟩,
 ⟨some 4, none, .rd .mov [.tmp 57]⟩] L26)
 (.ret))),
 [.tmp 4]⟩

-- wagebook/wagebooklaw14.small
def L11 : List Nat := [0, 1, 4]
def c11 : CF := ⟨9,
 .seq (.region false [⟨some 4, none, .rd .mov [.pv (.bool false)]⟩] L11)
 (.seq (.region false [⟨some 5, none, .rd .mov [.tmp 0]⟩,
 ⟨some 6, none, .call (.pv (.fn 15 [] [])) [.tmp 5]⟩,
 ⟨some 7, none, .rd .mov [.tmp 1]⟩,
 ⟨some 8, none, .call (.pv (.fn 26 [] [])) [.tmp 6, .tmp 7]⟩,
 ⟨some 4, none, .rd .mov [.tmp 8]⟩] L11)
 (.ret)),
 [.tmp 4]⟩

-- wagebook/wagebookref14.before
def L37 : List Nat := [0, 1, 4, 5, 9, 18]
def c37 : CF := ⟨20,
 .seq (.region false [⟨some 4, none, .rd .mov [.pv (.int .i64 0)]⟩] L37)
 (.seq (.seq (.region false [⟨some 5, none, .rd .mov [.pv (.int .i64 0)]⟩] L37)
 (.block 0
 (.loop
 (.seq (.seq (.region false [⟨some 6, none, .rd .mov [.tmp 5]⟩,
 ⟨some 7, none, .rd .mov [.tmp 0]⟩,
 ⟨some 8, none, .rd .lenL [.tmp 7]⟩,
 ⟨some 9, none, .rd (.bin .lss) [.tmp 6, .tmp 8]⟩] L37)
 (.cond (.tmp 9)
 (.skip)
 (.exit 0)))
 (.seq (.block 1
 (.seq (.region false [⟨some 12, none, .rd .mov [.tmp 0]⟩,
 ⟨some 13, none, .rd .mov [.tmp 5]⟩,
 ⟨some 14, none, .rd (.idxAddr (some 2)) [.tmp 12, .tmp 13]⟩,
 ⟨some 15, none, .rd (.fldAddr 0) [.tmp 14]⟩,
 ⟨some 16, none, .rd (.load none) [.tmp 15]⟩,
 ⟨some 17, none, .rd .mov [.tmp 1]⟩,
 ⟨some 18, none, .rd (.bin .eql) [.tmp 16, .tmp 17]⟩] L37)
 (.cond (.tmp 18)
 (.seq (.region false [⟨some 19, none, .rd .mov [.tmp 5]⟩,
 ⟨some 4, none, .rd .mov [.tmp 19]⟩] L37)
 (.ret))
 (.skip))))
 (.region false [⟨some 10, none, .rd .mov [.tmp 5]⟩,
 ⟨some 11, none, .rd (.bin .add) [.tmp 10, .pv (.int .i64 1)]⟩,
 ⟨some 5, none, .rd .mov [.tmp 11]⟩] L37))))))
 (.seq (.region false [⟨some 4, none, .rd .mov [.pv (.int .i64 (-1))]⟩] L37)
 (.ret))),
 [.tmp 4]⟩

-- wagebook/wagebookref14.put
def L38 : List Nat := [0, 1, 4, 5, 17, 31]
def c38 : CF := ⟨45,
 .seq (.region false [⟨some 4, none, .rd .mov [.pv .nilSl]⟩] L38)
 (.seq (.region false [⟨some 5, none, .rd .mov [.pv (.int .i64 0)]⟩] L38)
 (.seq (.block 0
 (.loop
 (.seq (.seq (.region false [⟨some 6, none, .rd .mov [.tmp 5]⟩,
 ⟨some 7, none, .rd .mov [.tmp 0]⟩,
 ⟨some 8, none, .rd .lenL [.tmp 7]⟩,
 ⟨some 9, none, .rd (.bin .lss) [.tmp 6, .tmp 8]⟩,
 ⟨some 10, none, .rd .mov [.tmp 9]⟩,
 ⟨some 11, some (10, true), .rd .mov [.tmp 0]⟩,
 ⟨some 12, some (10, true), .rd .mov [.tmp 5]⟩,
 ⟨some 13, some (10, true), .rd (.idxAddr none) [.tmp 11, .tmp 12]⟩,
 ⟨some 14, some (10, true), .rd (.load none) [.tmp 13]⟩,
 ⟨some 15, some (10, true), .rd .mov [.tmp 1]⟩,
 ⟨some 16, some (10, true), .rd (.bin .lss) [.tmp 14, .tmp 15]⟩,
 ⟨some 17, none, .rd .pick [.tmp 10, .tmp 16, .pv (.bool false)]⟩] L38)
 (.cond (.tmp 17)
 (.skip)
 (.exit 0)))
 (.block 1
 (.region false [⟨some 18, none, .rd .mov [.tmp 5]⟩,
 ⟨some 19, none, .rd (.bin .add) [.tmp 18, .pv (.int .i64 1)]⟩,
 ⟨some 5, none, .rd .mov [.tmp 19]⟩] L38)))))
 (.seq (.seq (.region false [⟨some 20, none, .rd .mov [.tmp 5]⟩,
 ⟨some 21, none, .rd .mov [.tmp 0]⟩,
 ⟨some 22, none, .rd .lenL [.tmp 21]⟩,
 ⟨some 23, none, .rd (.bin .lss) [.tmp 20, .tmp 22]⟩,
 ⟨some 24, none, .rd .mov [.tmp 23]⟩,
 ⟨some 25, some (24, true), .rd .mov [.tmp 0]⟩,
 ⟨some 26, some (24, true), .rd .mov [.tmp 5]⟩,
 ⟨some 27, some (24, true), .rd (.idxAddr none) [.tmp 25, .tmp 26]⟩,
 ⟨some 28, some (24, true), .rd (.load none) [.tmp 27]⟩,
 ⟨some 29, some (24, true), .rd .mov [.tmp 1]⟩,
 ⟨some 30, some (24, true), .rd (.bin .eql) [.tmp 28, .tmp 29]⟩,
 ⟨some 31, none, .rd .pick [.tmp 24, .tmp 30, .pv (.bool false)]⟩] L38)
 (.cond (.tmp 31)
 (.seq (.region false [⟨some 32, none, .rd .mov [.tmp 0]⟩,
 ⟨some 4, none, .rd .mov [.tmp 32]⟩] L38)
 (.ret))
 (.skip)))
 (.seq (.regionA (.alt [⟨some 34, none, .rd .mov [.tmp 0]⟩,
 ⟨some 35, none, .rd .mov [.tmp 5]⟩,
 ⟨some 36, none, .rd (.slc none false true false) [.tmp 34, .tmp 35]⟩,
 ⟨some 38, none, .rd .mov [.tmp 1]⟩,
 ⟨some 41, none, .rd .mov [.tmp 0]⟩,
 ⟨some 42, none, .rd .mov [.tmp 5]⟩,
 ⟨some 43, none, .rd (.slc none true false false) [.tmp 41, .tmp 42]⟩]
 (.alt [⟨some 33, none, .eff (.lit none true) []⟩]
 (.alt [⟨some 37, none, .eff (.append none 16) [.tmp 33, .tmp 36]⟩,
 ⟨some 39, none, .eff (.lit none false) [.tmp 38]⟩,
 ⟨some 40, none, .eff (.append none 16) [.tmp 37, .tmp 39]⟩,
 ⟨some 44, none, .eff (.append none 16) [.tmp 40, .tmp 43]⟩,
 ⟨some 4, none, .rd .mov [.tmp 44]⟩]
 .done
 (.alt [⟨some 39, none, .eff (.lit none false) [.tmp 38]⟩,
 ⟨some 37, none, .eff (.append none 16) [.tmp 33, .tmp 36]⟩,
 ⟨some 40, none, .eff (.append none 16) [.tmp 37, .tmp 39]⟩,
 ⟨some 44, none, .eff (.append none 16) [.tmp 40, .tmp 43]⟩,
 ⟨some 4, none, .rd .mov [.tmp 44]⟩]
 .done
 .stop))
 (.alt [⟨some 39, none, .eff (.lit none false) [.tmp 38]⟩,
 ⟨some 33, none, .eff (.lit none true) []⟩,
 ⟨some 37, none, .eff (.append none 16) [.tmp 33, .tmp 36]⟩,
 ⟨some 40, none, .eff (.append none 16) [.tmp 37, .tmp 39]⟩,
 ⟨some 44, none, .eff (.append none 16) [.tmp 40, .tmp 43]⟩,
 ⟨some 4, none, .rd .mov [.tmp 44]⟩]
 .done
 .stop))
 .stop) L38)
 (.ret))))),
 [.tmp 4]⟩

-- slices.Contains[[]string,string]
def L39 : List Nat := [0, 1, 4]
def c39 : CF := ⟨9,
 .seq (.region false [⟨some 4, none, .rd .mov [.pv (.bool false)]⟩] L39)
 (.seq (.region false [⟨some 5, none, .rd .mov [.tmp 0]⟩,
 ⟨some 6, none, .rd .mov [.tmp 1]⟩,
 ⟨some 7, none, .call (.pv (.fn 55 [] [])) [.tmp 5, .tmp 6]⟩,
 ⟨some 8, none, .rd (.bin .geq) [.tmp 7, .pv (.int .i64 0)]⟩,
 ⟨some 4, none, .rd .mov [.tmp 8]⟩] L39)
 (.ret)),
 [.tmp 4]⟩

-- slices.Index[[]string,string]
def L55 : List Nat := [0, 1, 4, 5, 7, 8, 9, 16]
def c55 : CF := ⟨19,
 .seq (.region false [⟨some 4, none, .rd .mov [.pv (.int .i64 0)]⟩] L55)
 (.seq (.seq (.region false [⟨some 6, none, .rd .mov [.tmp 0]⟩,
 ⟨some 7, none, .rd .lenL [.tmp 6]⟩,
 ⟨some 8, none, .rd .mov [.pv (.int .i64 0)]⟩] L55)
 (.block 0
 (.loop
 (.seq (.region false [⟨some 9, none, .rd (.bin .lss) [.tmp 8, .tmp 7]⟩] L55)
 (.seq (.cond (.tmp 9)
 (.skip)
 (.exit 0))
 (.seq (.block 1
 (.seq (.region false [⟨some 10, none, .rd .mov [.tmp 8]⟩,
 ⟨some 5, none, .rd .mov [.tmp 10]⟩] L55)
 (.seq (.region false [⟨some 11, none, .rd .mov [.tmp 1]⟩,
 ⟨some 12, none, .rd .mov [.tmp 0]⟩,
 ⟨some 13, none, .rd .mov [.tmp 5]⟩,
 ⟨some 14, none, .rd (.idxAddr none) [.tmp 12, .tmp 13]⟩,
 ⟨some 15, none, .rd (.load none) [.tmp 14]⟩,
 ⟨some 16, none, .rd (.bin .eql) [.tmp 11, .tmp 15]⟩] L55)
 (.cond (.tmp 16)
 (.seq (.region false [⟨some 17, none, .rd .mov [.tmp 5]⟩,
 ⟨some 4, none, .rd .mov [.tmp 17]⟩] L55)
 (.ret))
 (.skip)))))
 (.region false [⟨some 18, none, .rd (.bin .add) [.tmp 8, .pv (.int .i64 1)]⟩,
 ⟨some 8, none, .rd .mov [.tmp 18]⟩] L55)))))))
 (.seq (.region false [⟨some 4, none, .rd .mov [.pv (.int .i64 (-1))]⟩] L55)
 (.ret))),
 [.tmp 4]⟩

-- slices.IndexFunc[[]string,string]
def L41 : List Nat := [0, 1, 4, 5, 7, 8, 9, 16]
def c41 : CF := ⟨19,
 .seq (.region false [⟨some 4, none, .rd .mov [.pv (.int .i64 0)]⟩] L41)
 (.seq (.seq (.region false [⟨some 6, none, .rd .mov [.tmp 0]⟩,
 ⟨some 7, none, .rd .lenL [.tmp 6]⟩,
 ⟨some 8, none, .rd .mov [.pv (.int .i64 0)]⟩] L41)
 (.block 0
 (.loop
 (.seq (.region false [⟨some 9, none, .rd (.bin .lss) [.tmp 8, .tmp 7]⟩] L41)
 (.seq (.cond (.tmp 9)
 (.skip)
 (.exit 0))
 (.seq (.block 1
 (.seq (.region false [⟨some 10, none, .rd .mov [.tmp 8]⟩,
 ⟨some 5, none, .rd .mov [.tmp 10]⟩] L41)
 (.seq (.region false [⟨some 11, none, .rd .mov [.tmp 1]⟩,
 ⟨some 12, none, .rd .mov [.tmp 0]⟩,
 ⟨some 13, none, .rd .mov [.tmp 5]⟩,
 ⟨some 14, none, .rd (.idxAddr none) [.tmp 12, .tmp 13]⟩,
 ⟨some 15, none, .rd (.load none) [.tmp 14]⟩,
 ⟨some 16, none, .call (.tmp 11) [.tmp 15]⟩] L41)
 (.cond (.tmp 16)
 (.seq (.region false [⟨some 17, none, .rd .mov [.tmp 5]⟩,
 ⟨some 4, none, .rd .mov [.tmp 17]⟩] L41)
 (.ret))
 (.skip)))))
 (.region false [⟨some 18, none, .rd (.bin .add) [.tmp 8, .pv (.int .i64 1)]⟩,
 ⟨some 8, none, .rd .mov [.tmp 18]⟩] L41)))))))
 (.seq (.region false [⟨some 4, none, .rd .mov [.pv (.int .i64 (-1))]⟩] L41)
 (.ret))),
 [.tmp 4]⟩

-- slices.ContainsFunc[[]string,string]
def L43 : List Nat := [0, 1, 4]
def c43 : CF := ⟨9,
 .seq (.region false [⟨some 4, none, .rd .mov [.pv (.bool false)]⟩] L43)
 (.seq (.region false [⟨some 5, none, .rd .mov [.tmp 0]⟩,
 ⟨some 6, none, .rd .mov [.tmp 1]⟩,
 ⟨some 7, none, .call (.pv (.fn 41 [] [])) [.tmp 5, .tmp 6]⟩,
 ⟨some 8, none, .rd (.bin .geq) [.tmp 7, .pv (.int .i64 0)]⟩,
 ⟨some 4, none, .rd .mov [.tmp 8]⟩] L43)
 (.ret)),
 [.tmp 4]⟩

-- slices.Equal[[]string,string]
def L44 : List Nat := [0, 1, 4, 5, 10, 12, 13, 14, 24]
def c44 : CF := ⟨26,
 .seq (.region false [⟨some 4, none, .rd .mov [.pv (.bool false)]⟩] L44)
 (.seq (.seq (.region false [⟨some 6, none, .rd .mov [.tmp 0]⟩,
 ⟨some 7, none, .rd .lenL [.tmp 6]⟩,
 ⟨some 8, none, .rd .mov [.tmp 1]⟩,
 ⟨some 9, none, .rd .lenL [.tmp 8]⟩,
 ⟨some 10, none, .rd (.bin .neq) [.tmp 7, .tmp 9]⟩] L44)
 (.cond (.tmp 10)
 (.seq (.region false [⟨some 4, none, .rd .mov [.pv (.bool false)]⟩] L44)
 (.ret))
 (.skip)))
 (.seq (.seq (.region false [⟨some 11, none, .rd .mov [.tmp 0]⟩,
 ⟨some 12, none, .rd .lenL [.tmp 11]⟩,
 ⟨some 13, none, .rd .mov [.pv (.int .i64 0)]⟩] L44)
 (.block 0
 (.loop
 (.seq (.region false [⟨some 14, none, .rd (.bin .lss) [.tmp 13, .tmp 12]⟩] L44)
 (.seq (.cond (.tmp 14)
 (.skip)
 (.exit 0))
 (.seq (.block 1
 (.seq (.region false [⟨some 15, none, .rd .mov [.tmp 13]⟩,
 ⟨some 5, none, .rd .mov [.tmp 15]⟩] L44)
 (.seq (.region true [⟨some 16, none, .rd .mov [.tmp 0]⟩,
 ⟨some 17, none, .rd .mov [.tmp 5]⟩,
 ⟨some 18, none, .rd (.idxAddr none) [.tmp 16, .tmp 17]⟩,
 ⟨some 19, none, .rd (.load none) [.tmp 18]⟩,
 ⟨some 20, none, .rd .mov [.tmp 1]⟩,
 ⟨some 21, none, .rd .mov [.tmp 5]⟩,
 ⟨some 22, none, .rd (.idxAddr none) [.tmp 20, .tmp 21]⟩,
 ⟨some 23, none, .rd (.load none) [.tmp 22]⟩,
 ⟨some 24, none, .rd (.bin .neq) [.tmp 19, .tmp 23]⟩] L44)
 (.cond (.tmp 24)
 (.seq (.region false [⟨some 4, none, .rd .mov [.pv (.bool false)]⟩] L44)
 (.ret))
 (.skip)))))
 (.region false [⟨some 25, none, .rd (.bin .add) [.tmp 13, .pv (.int .i64 1)]⟩,
 ⟨some 13, none, .rd .mov [.tmp 25]⟩] L44)))))))
 (.seq (.region false [⟨some 4, none, .rd .mov [.pv (.bool true)]⟩] L44)
 (.ret)))),
 [.tmp 4]⟩

-- wagebook/order.named
def L47 : List Nat := [0, 2]
def c47 : CF := ⟨10,
 .seq (.region false [⟨some 2, none, .rd .mov [.pv (.bool false)]⟩] L47)
 (.seq (.region false [⟨some 3, none, .rd .mov [.tmp 0]⟩,
 ⟨some 4, none, .rd (.bin .neq) [.tmp 3, .pv (.str [])]⟩,
 ⟨some 5, none, .rd .mov [.tmp 4]⟩,
 ⟨some 6, some (5, true), .rd .mov [.tmp 0]⟩,
 ⟨some 7, some (5, true), .rd .lenS [.tmp 6]⟩,
 ⟨some 8, some (5, true), .rd (.bin .leq) [.tmp 7, .pv (.int .i64 32)]⟩,
 ⟨some 9, none, .rd .pick [.tmp 5, .tmp 8, .pv (.bool false)]⟩,
 ⟨some 2, none, .rd .mov [.tmp 9]⟩] L47)
 (.ret)),
 [.tmp 2]⟩

-- wagebook/order.wrong$1
def L48 : List Nat := [0, 2]
def c48 : CF := ⟨6,
 .seq (.region false [⟨some 2, none, .rd .mov [.pv (.bool false)]⟩] L48)
 (.seq (.region false [⟨some 3, none, .rd .mov [.tmp 0]⟩,
 ⟨some 4, none, .call (.pv (.fn 47 [] [])) [.tmp 3]⟩,
 ⟨some 5, none, .rd (.un .not) [.tmp 4]⟩,
 ⟨some 2, none, .rd .mov [.tmp 5]⟩] L48)
 (.ret)),
 [.tmp 2]⟩

-- wagebook/wagebookref14.word
def L51 : List Nat := [0, 2]
def c51 : CF := ⟨11,
 .seq (.region false [⟨some 2, none, .rd .mov [.pv (.bool false)]⟩] L51)
 (.seq (.region false [⟨some 3, none, .rd .mov [.tmp 0]⟩,
 ⟨some 4, none, .rd .lenS [.tmp 3]⟩,
 ⟨some 5, none, .rd (.bin .gtr) [.tmp 4, .pv (.int .i64 0)]⟩,
 ⟨some 6, none, .rd .mov [.tmp 5]⟩,
 ⟨some 7, some (6, true), .rd .mov [.tmp 0]⟩,
 ⟨some 8, some (6, true), .rd .lenS [.tmp 7]⟩,
 ⟨some 9, some (6, true), .rd (.bin .lss) [.tmp 8, .pv (.int .i64 33)]⟩,
 ⟨some 10, none, .rd .pick [.tmp 6, .tmp 9, .pv (.bool false)]⟩,
 ⟨some 2, none, .rd .mov [.tmp 10]⟩] L51)
 (.ret)),
 [.tmp 2]⟩

-- wagebook/order.wrong
def L27 : List Nat := [0, 2, 3, 5, 8, 10, 11, 12, 13, 16, 21, 26, 39]
def c27 : CF := ⟨41,
 .seq (.region false [⟨some 2, none, .rd .mov [.pv (.int .i64 0)]⟩] L27)
 (.seq (.seq (.region false [⟨some 6, none, .rd .mov [.tmp 0]⟩,
 ⟨some 7, none, .rd .lenL [.tmp 6]⟩,
 ⟨some 8, none, .rd (.bin .gtr) [.tmp 7, .pv (.int .i64 64)]⟩] L27)
 (.cond (.tmp 8)
 (.seq (.region false [⟨some 2, none, .rd .mov [.pv (.int .i64 5)]⟩] L27)
 (.ret))
 (.skip)))
 (.seq (.region false [⟨some 9, none, .eff (.mmk .str) []⟩,
 ⟨some 3, none, .rd .mov [.tmp 9]⟩] L27)
 (.seq (.seq (.region false [⟨some 10, none, .rd .mov [.tmp 0]⟩,
 ⟨some 11, none, .rd .lenL [.tmp 10]⟩,
 ⟨some 12, none, .rd .mov [.pv (.int .i64 0)]⟩] L27)
 (.block 0
 (.loop
 (.seq (.region false [⟨some 13, none, .rd (.bin .lss) [.tmp 12, .tmp 11]⟩] L27)
 (.seq (.cond (.tmp 13)
 (.skip)
 (.exit 0))
 (.seq (.block 1
 (.seq (.region false [⟨some 14, none, .rd (.idxAddr (some 2)) [.tmp 10, .tmp 12]⟩,
 ⟨some 15, none, .rd (.load (some 2)) [.tmp 14]⟩,
 ⟨some 5, none, .eff (.alloc (some 2) (.agg [(.str []), .nilSl])) []⟩,
 ⟨none, none, .eff (.store (some 2)) [.tmp 5, .tmp 15]⟩] L27)
 (.seq (.block 2
 (.seq (.region false [⟨some 17, none, .rd (.fldAddr 0) [.tmp 5]⟩,
 ⟨some 18, none, .rd (.load none) [.tmp 17]⟩,
 ⟨some 19, none, .call (.pv (.fn 47 [] [])) [.tmp 18]⟩,
 ⟨some 20, none, .rd (.un .not) [.tmp 19]⟩,
 ⟨some 16, none, .rd .mov [.tmp 20]⟩] L27)
 (.cond (.tmp 16)
 (.seq (.region false [⟨some 2, none, .rd .mov [.pv (.int .i64 12)]⟩] L27)
 (.ret))
 (.seq (.region false [⟨some 22, none, .rd (.fldAddr 1) [.tmp 5]⟩,
 ⟨some 23, none, .rd (.load none) [.tmp 22]⟩,
 ⟨some 24, none, .rd .lenL [.tmp 23]⟩,
 ⟨some 25, none, .rd (.bin .gtr) [.tmp 24, .pv (.int .i64 64)]⟩,
 ⟨some 21, none, .rd .mov [.tmp 25]⟩] L27)
 (.cond (.tmp 21)
 (.seq (.region false [⟨some 2, none, .rd .mov [.pv (.int .i64 5)]⟩] L27)
 (.ret))
 (.seq (.region false [⟨some 27, none, .rd (.fldAddr 1) [.tmp 5]⟩,
 ⟨some 28, none, .rd (.load none) [.tmp 27]⟩,
 ⟨some 29, none, .call (.pv (.fn 43 [] [])) [.tmp 28, .pv (.fn 48 [] [])]⟩,
 ⟨some 26, none, .rd .mov [.tmp 29]⟩] L27)
 (.cond (.tmp 26)
 (.seq (.region false [⟨some 2, none, .rd .mov [.pv (.int .i64 12)]⟩] L27)
 (.ret))
 (.skip))))))))
 (.seq (.region false [⟨some 30, none, .rd .mov [.tmp 3]⟩,
 ⟨some 31, none, .rd (.fldAddr 0) [.tmp 5]⟩,
 ⟨some 32, none, .rd (.load none) [.tmp 31]⟩,
 ⟨some 33, none, .rd (.look .str false (.int .i64 0)) [.tmp 30, .tmp 32]⟩,
 ⟨some 34, none, .rd (.bin .add) [.tmp 33, .pv (.int .i64 1)]⟩,
 ⟨none, none, .eff (.mupd .str) [.tmp 30, .tmp 32, .tmp 34]⟩] L27)
 (.seq (.region false [⟨some 35, none, .rd .mov [.tmp 3]⟩,
 ⟨some 36, none, .rd (.fldAddr 0) [.tmp 5]⟩,
 ⟨some 37, none, .rd (.load none) [.tmp 36]⟩,
 ⟨some 38, none, .rd (.look .str false (.int .i64 0)) [.tmp 35, .tmp 37]⟩,
 ⟨some 39, none, .rd (.bin .gtr) [.tmp 38, .pv (.int .i64 1)]⟩] L27)
 (.cond (.tmp 39)
 (.seq (.region false [⟨some 2, none, .rd .mov [.pv (.int .i64 7)]⟩] L27)
 (.ret))
 (.skip)))))))
 (.region false [⟨some 40, none, .rd (.bin .add) [.tmp 12, .pv (.int .i64 1)]⟩,
 ⟨some 12, none, .rd .mov [.tmp 40]⟩] L27)))))))
 (.seq (.region false [⟨some 2, none, .rd .mov [.pv (.int .i64 0)]⟩] L27)
 (.ret))))),
 [.tmp 2]⟩

-- wagebook/order.table
def L28 : List Nat := [0, 2, 3, 5, 7, 8, 9, 10]
def c28 : CF := ⟨20,
 .seq (.region false [⟨some 2, none, .rd .mov [.pv .nilMap]⟩] L28)
 (.seq (.region false [⟨some 6, none, .eff (.mmk .str) []⟩,
 ⟨some 3, none, .rd .mov [.tmp 6]⟩] L28)
 (.seq (.seq (.region false [⟨some 7, none, .rd .mov [.tmp 0]⟩,
 ⟨some 8, none, .rd .lenL [.tmp 7]⟩,
 ⟨some 9, none, .rd .mov [.pv (.int .i64 0)]⟩] L28)
 (.block 0
 (.loop
 (.seq (.region false [⟨some 10, none, .rd (.bin .lss) [.tmp 9, .tmp 8]⟩] L28)
 (.seq (.cond (.tmp 10)
 (.skip)
 (.exit 0))
 (.seq (.block 1
 (.seq (.region false [⟨some 11, none, .rd (.idxAddr (some 2)) [.tmp 7, .tmp 9]⟩,
 ⟨some 12, none, .rd (.load (some 2)) [.tmp 11]⟩,
 ⟨some 5, none, .eff (.alloc (some 2) (.agg [(.str []), .nilSl])) []⟩,
 ⟨none, none, .eff (.store (some 2)) [.tmp 5, .tmp 12]⟩] L28)
 (.region false [⟨some 13, none, .rd .mov [.tmp 3]⟩,
 ⟨some 14, none, .rd (.fldAddr 0) [.tmp 5]⟩,
 ⟨some 15, none, .rd (.load none) [.tmp 14]⟩,
 ⟨some 16, none, .rd (.fldAddr 1) [.tmp 5]⟩,
 ⟨some 17, none, .rd (.load none) [.tmp 16]⟩,
 ⟨none, none, .eff (.mupd .str) [.tmp 13, .tmp 15, .tmp 17]⟩] L28)))
 (.region false [⟨some 18, none, .rd (.bin .add) [.tmp 9, .pv (.int .i64 1)]⟩,
 ⟨some 9, none, .rd .mov [.tmp 18]⟩] L28)))))))
 (.seq (.region false [⟨some 19, none, .rd .mov [.tmp 3]⟩,
 ⟨some 2, none, .rd .mov [.tmp 19]⟩] L28)
 (.ret)))),
 [.tmp 2]⟩

-- wagebook/order.names
def L29 : List Nat := [0, 2, 3, 5, 6, 7, 8, 9]
def c29 : CF := ⟨21,
 .seq (.region false [⟨some 2, none, .rd .mov [.pv .nilSl]⟩] L29)
 (.seq (.region false [⟨some 3, none, .rd .mov [.pv .nilSl]⟩] L29)
 (.seq (.seq (.region false [⟨some 6, none, .rd .mov [.tmp 0]⟩,
 ⟨some 7, none, .rd .lenL [.tmp 6]⟩,
 ⟨some 8, none, .rd .mov [.pv (.int .i64 0)]⟩] L29)
 (.block 0
 (.loop
 (.seq (.region false [⟨some 9, none, .rd (.bin .lss) [.tmp 8, .tmp 7]⟩] L29)
 (.seq (.cond (.tmp 9)
 (.skip)
 (.exit 0))
 (.seq (.block 1
 (.seq (.region false [⟨some 10, none, .rd (.idxAddr (some 2)) [.tmp 6, .tmp 8]⟩,
 ⟨some 11, none, .rd (.load (some 2)) [.tmp 10]⟩,
 ⟨some 5, none, .eff (.alloc (some 2) (.agg [(.str []), .nilSl])) []⟩,
 ⟨none, none, .eff (.store (some 2)) [.tmp 5, .tmp 11]⟩] L29)
 (.region false [⟨some 12, none, .rd .mov [.tmp 3]⟩,
 ⟨some 13, none, .rd (.fldAddr 0) [.tmp 5]⟩,
 ⟨some 14, none, .rd (.load none) [.tmp 13]⟩,
 ⟨some 15, none, .eff (.lit none false) [.tmp 14]⟩,
 ⟨some 16, none, .eff (.append none 16) [.tmp 12, .tmp 15]⟩,
 ⟨some 3, none, .rd .mov [.tmp 16]⟩] L29)))
 (.region false [⟨some 17, none, .rd (.bin .add) [.tmp 8, .pv (.int .i64 1)]⟩,
 ⟨some 8, none, .rd .mov [.tmp 17]⟩] L29)))))))
 (.seq (.region false [⟨some 18, none, .rd .mov [.tmp 3]⟩,
 ⟨some 19, none, .call (.pv (.fn 36 [] [])) [.tmp 18]⟩] L29)
 (.seq (.region false [⟨some 20, none, .rd .mov [.tmp 3]⟩,
 ⟨some 2, none, .rd .mov [.tmp 20]⟩] L29)
 (.ret))))),
 [.tmp 2]⟩

-- wagebook/order.Sort$1
def L40 : List Nat := [0, 1, 2, 4, 6]
def c40 : CF := ⟨20,
 .seq (.region false [⟨some 4, none, .rd .mov [.pv (.bool false)]⟩] L40)
 (.seq (.region false [⟨some 8, none, .rd (.load none) [.tmp 1]⟩,
 ⟨some 9, none, .rd .mov [.tmp 0]⟩,
 ⟨some 10, none, .rd (.look .str true .nilSl) [.tmp 8, .tmp 9]⟩,
 ⟨some 7, none, .rd .mov [.tmp 10]⟩,
 ⟨some 11, none, .rd (.ext 0) [.tmp 7]⟩,
 ⟨some 12, none, .rd (.ext 1) [.tmp 7]⟩,
 ⟨some 5, none, .rd .mov [.tmp 11]⟩,
 ⟨some 6, none, .rd .mov [.tmp 12]⟩] L40)
 (.seq (.region false [⟨some 13, none, .rd .mov [.tmp 6]⟩,
 ⟨some 14, none, .rd .mov [.tmp 13]⟩,
 ⟨some 15, some (14, true), .rd (.load none) [.tmp 2]⟩,
 ⟨some 16, some (14, true), .rd .mov [.tmp 0]⟩,
 ⟨some 17, some (14, true), .rd (.look .str false (.bool false)) [.tmp 15, .tmp 16]⟩,
 ⟨some 18, some (14, true), .rd (.un .not) [.tmp 17]⟩,
 ⟨some 19, none, .rd .pick [.tmp 14, .tmp 18, .pv (.bool false)]⟩,
 ⟨some 4, none, .rd .mov [.tmp 19]⟩] L40)
 (.ret))),
 [.tmp 4]⟩

-- wagebook/order.Sort$2
def L42 : List Nat := [0, 1, 2, 3, 5]
def c42 : CF := ⟨18,
 .seq (.region false [⟨some 5, none, .rd .mov [.pv (.bool false)]⟩] L42)
 (.seq (.region false [⟨some 6, none, .rd (.load none) [.tmp 1]⟩,
 ⟨some 7, none, .rd .mov [.tmp 0]⟩,
 ⟨some 8, none, .rd (.look .str false (.bool false)) [.tmp 6, .tmp 7]⟩,
 ⟨some 9, none, .rd (.un .not) [.tmp 8]⟩,
 ⟨some 10, none, .rd .mov [.tmp 9]⟩,
 ⟨some 11, some (10, true), .rd (.load none) [.tmp 2]⟩,
 ⟨some 12, some (10, true), .rd .mov [.tmp 0]⟩,
 ⟨some 13, some (10, true), .rd (.look .str false .nilSl) [.tmp 11, .tmp 12]⟩,
 ⟨some 14, some (10, true), .rd (.load none) [.tmp 3]⟩,
 ⟨some 15, some (10, true), .call (.pv (.fn 43 [] [])) [.tmp 13, .tmp 14]⟩,
 ⟨some 16, some (10, true), .rd (.un .not) [.tmp 15]⟩,
 ⟨some 17, none, .rd .pick [.tmp 10, .tmp 16, .pv (.bool false)]⟩,
 ⟨some 5, none, .rd .mov [.tmp 17]⟩] L42)
 (.ret)),
 [.tmp 5]⟩

-- wagebook/order.far$1
def L49 : List Nat := [0, 1, 2, 3, 5]
def c49 : CF := ⟨35,
 .seq (.region false [⟨some 5, none, .rd .mov [.pv (.bool false)]⟩] L49)
 (.seq (.region false [⟨some 6, none, .rd (.load none) [.tmp 1]⟩,
 ⟨some 7, none, .rd (.bin .eql) [.tmp 6, .pv (.int .i64 1)]⟩,
 ⟨some 8, none, .rd .mov [.tmp 7]⟩,
 ⟨some 9, some (8, true), .rd .mov [.tmp 0]⟩,
 ⟨some 10, some (8, true), .rd (.load none) [.tmp 2]⟩,
 ⟨some 11, some (8, true), .rd (.bin .eql) [.tmp 9, .tmp 10]⟩,
 ⟨some 12, none, .rd .pick [.tmp 8, .tmp 11, .pv (.bool false)]⟩,
 ⟨some 13, none, .rd .mov [.tmp 12]⟩,
 ⟨some 14, some (13, false), .rd (.load none) [.tmp 1]⟩,
 ⟨some 15, some (13, false), .rd (.bin .gtr) [.tmp 14, .pv (.int .i64 1)]⟩,
 ⟨some 16, some (13, false), .rd .mov [.tmp 15]⟩,
 ⟨some 17, some (16, true), .rd .mov [.tmp 0]⟩,
 ⟨some 18, some (16, true), .rd (.load none) [.tmp 2]⟩,
 ⟨some 19, some (16, true), .rd (.bin .geq) [.tmp 17, .tmp 18]⟩,
 ⟨some 20, some (13, false), .rd .pick [.tmp 16, .tmp 19, .pv (.bool false)]⟩,
 ⟨some 21, some (13, false), .rd .mov [.tmp 20]⟩,
 ⟨some 22, some (21, true), .rd .mov [.tmp 0]⟩,
 ⟨some 23, some (21, true), .rd (.load none) [.tmp 2]⟩,
 ⟨some 24, some (21, true), .rd (.bin .neq) [.tmp 22, .tmp 23]⟩,
 ⟨some 25, some (13, false), .rd .pick [.tmp 21, .tmp 24, .pv (.bool false)]⟩,
 ⟨some 26, some (13, false), .rd .mov [.tmp 25]⟩,
 ⟨some 27, some (26, true), .rd (.load none) [.tmp 3]⟩,
 ⟨some 28, some (26, true), .rd .mov [.tmp 0]⟩,
 ⟨some 29, some (26, true), .rd (.look .str false (.int .i64 0)) [.tmp 27, .tmp 28]⟩,
 ⟨some 30, some (26, true), .rd (.load none) [.tmp 1]⟩,
 ⟨some 31, some (26, true), .rd (.bin .sub) [.tmp 30, .pv (.int .i64 1)]⟩,
 ⟨some 32, some (26, true), .rd (.bin .eql) [.tmp 29, .tmp 31]⟩,
 ⟨some 33, some (13, false), .rd .pick [.tmp 26, .tmp 32, .pv (.bool false)]⟩,
 ⟨some 34, none, .rd .pick [.tmp 13, .pv (.bool true), .tmp 33]⟩,
 ⟨some 5, none, .rd .mov [.tmp 34]⟩] L49)
 (.ret)),
 [.tmp 5]⟩

-- wagebook/order.ring$1
def L50 : List Nat := [0, 1, 2, 3, 5]
def c50 : CF := ⟨17,
 .seq (.region false [⟨some 5, none, .rd .mov [.pv (.bool false)]⟩] L50)
 (.seq (.region false [⟨some 6, none, .rd .mov [.tmp 0]⟩,
 ⟨some 7, none, .rd (.load none) [.tmp 1]⟩,
 ⟨some 8, none, .rd (.bin .gtr) [.tmp 6, .tmp 7]⟩,
 ⟨some 9, none, .rd .mov [.tmp 8]⟩,
 ⟨some 10, some (9, true), .rd (.load none) [.tmp 2]⟩,
 ⟨some 11, some (9, true), .rd .mov [.tmp 0]⟩,
 ⟨some 12, some (9, true), .rd (.look .str false (.int .i64 0)) [.tmp 10, .tmp 11]⟩,
 ⟨some 13, some (9, true), .rd (.load none) [.tmp 3]⟩,
 ⟨some 14, some (9, true), .rd (.bin .sub) [.tmp 13, .pv (.int .i64 1)]⟩,
 ⟨some 15, some (9, true), .rd (.bin .eql) [.tmp 12, .tmp 14]⟩,
 ⟨some 16, none, .rd .pick [.tmp 9, .tmp 15, .pv (.bool false)]⟩,
 ⟨some 5, none, .rd .mov [.tmp 16]⟩] L50)
 (.ret)),
 [.tmp 5]⟩

-- wagebook/order.Below$1
def L35 : List Nat := [0, 1, 2, 3, 4, 7, 10, 11, 12, 13, 18]
def c35 : CF := ⟨29,
 .scope (.seq (.label)
 (.seq (.region false [⟨some 8, none, .rd (.load none) [.tmp 1]⟩,
 ⟨some 9, none, .rd .mov [.tmp 0]⟩,
 ⟨some 10, none, .rd (.look .str false .nilSl) [.tmp 8, .tmp 9]⟩,
 ⟨some 11, none, .rd .lenL [.tmp 10]⟩,
 ⟨some 12, none, .rd .mov [.pv (.int .i64 0)]⟩] L35)
 (.block 0
 (.loop
 (.seq (.region false [⟨some 13, none, .rd (.bin .lss) [.tmp 12, .tmp 11]⟩] L35)
 (.seq (.cond (.tmp 13)
 (.skip)
 (.exit 0))
 (.seq (.block 1
 (.seq (.region false [⟨some 14, none, .rd (.idxAddr none) [.tmp 10, .tmp 12]⟩,
 ⟨some 15, none, .rd (.load none) [.tmp 14]⟩,
 ⟨some 7, none, .rd .mov [.tmp 15]⟩] L35)
 (.seq (.seq (.region false [⟨some 16, none, .rd (.load none) [.tmp 2]⟩,
 ⟨some 17, none, .rd .mov [.tmp 7]⟩,
 ⟨some 18, none, .rd (.look .str false (.bool false)) [.tmp 16, .tmp 17]⟩] L35)
 (.cond (.tmp 18)
 (.exit 1)
 (.skip)))
 (.seq (.region false [⟨some 19, none, .rd (.load none) [.tmp 2]⟩,
 ⟨some 20, none, .rd .mov [.tmp 7]⟩,
 ⟨none, none, .eff (.mupd .str) [.tmp 19, .tmp 20, .pv (.bool true)]⟩] L35)
 (.seq (.region false [⟨some 21, none, .rd (.load none) [.tmp 3]⟩,
 ⟨some 22, none, .rd .mov [.tmp 7]⟩,
 ⟨some 23, none, .eff (.lit none false) [.tmp 22]⟩,
 ⟨some 24, none, .eff (.append none 16) [.tmp 21, .tmp 23]⟩,
 ⟨none, none, .eff (.store none) [.tmp 3, .tmp 24]⟩] L35)
 (.region false [⟨some 25, none, .rd (.load none) [.tmp 4]⟩,
 ⟨some 26, none, .rd .mov [.tmp 7]⟩,
 ⟨some 27, none, .call (.tmp 25) [.tmp 26]⟩] L35))))))
 (.region false [⟨some 28, none, .rd (.bin .add) [.tmp 12, .pv (.int .i64 1)]⟩,
 ⟨some 12, none, .rd .mov [.tmp 28]⟩] L35)))))))),
 []⟩

-- wagebook/order.Below
def L16 : List Nat := [0, 1, 4, 5, 7, 8, 9, 10, 25]
def c16 : CF := ⟨34,
 .seq (.region false [⟨some 4, none, .rd .mov [.pv .nilSl]⟩] L16)
 (.seq (.region false [⟨some 11, none, .rd .mov [.tmp 1]⟩,
 ⟨some 12, none, .call (.pv (.fn 28 [] [])) [.tmp 11]⟩,
 ⟨some 5, none, .eff (.alloc none .nilMap) []⟩,
 ⟨none, none, .eff (.store none) [.tmp 5, .tmp 12]⟩] L16)
 (.seq (.seq (.region false [⟨some 14, none, .rd (.load none) [.tmp 5]⟩,
 ⟨some 15, none, .rd .mov [.tmp 0]⟩,
 ⟨some 16, none, .rd (.look .str true .nilSl) [.tmp 14, .tmp 15]⟩,
 ⟨some 13, none, .rd .mov [.tmp 16]⟩,
 ⟨some 17, none, .rd (.ext 0) [.tmp 13]⟩,
 ⟨some 18, none, .rd (.ext 1) [.tmp 13]⟩,
 ⟨some 6, none, .rd .mov [.tmp 17]⟩,
 ⟨some 7, none, .rd .mov [.tmp 18]⟩] L16)
 (.seq (.region false [⟨some 19, none, .rd .mov [.tmp 7]⟩,
 ⟨some 20, none, .rd (.un .not) [.tmp 19]⟩,
 ⟨some 21, none, .rd .mov [.tmp 20]⟩,
 ⟨some 22, some (21, false), .rd .mov [.tmp 1]⟩,
 ⟨some 23, some (21, false), .call (.pv (.fn 27 [] [])) [.tmp 22]⟩,
 ⟨some 24, some (21, false), .rd (.bin .neq) [.tmp 23, .pv (.int .i64 0)]⟩,
 ⟨some 25, none, .rd .pick [.tmp 21, .pv (.bool true), .tmp 24]⟩] L16)
 (.cond (.tmp 25)
 (.seq (.region false [⟨some 4, none, .rd .mov [.pv .nilSl]⟩] L16)
 (.ret))
 (.skip))))
 (.seq (.region false [⟨some 26, none, .eff (.mmk .str) []⟩,
 ⟨some 8, none, .eff (.alloc none .nilMap) []⟩,
 ⟨none, none, .eff (.store none) [.tmp 8, .tmp 26]⟩] L16)
 (.seq (.region false [⟨some 9, none, .eff (.alloc none .nilSl) []⟩] L16)
 (.seq (.region false [⟨some 10, none, .eff (.alloc none .nilFn) []⟩] L16)
 (.seq (.region false [⟨some 27, none, .rd (.mkFn 35 0) [.tmp 5, .tmp 8, .tmp 9, .tmp 10]⟩,
 ⟨none, none, .eff (.store none) [.tmp 10, .tmp 27]⟩] L16)
 (.seq (.region false [⟨some 28, none, .rd (.load none) [.tmp 10]⟩,
 ⟨some 29, none, .rd .mov [.tmp 0]⟩,
 ⟨some 30, none, .call (.tmp 28) [.tmp 29]⟩] L16)
 (.seq (.region false [⟨some 31, none, .rd (.load none) [.tmp 9]⟩,
 ⟨some 32, none, .call (.pv (.fn 36 [] [])) [.tmp 31]⟩] L16)
 (.seq (.region false [⟨some 33, none, .rd (.load none) [.tmp 9]⟩,
 ⟨some 4, none, .rd .mov [.tmp 33]⟩] L16)
 (.ret)))))))))),
 [.tmp 4]⟩

-- wagebook/order.Above
def L18 : List Nat := [0, 1, 4, 5, 7, 10, 11, 12, 13, 14, 22]
def c18 : CF := ⟨32,
 .seq (.region false [⟨some 4, none, .rd .mov [.pv .nilSl]⟩] L18)
 (.seq (.seq (.region false [⟨some 8, none, .rd .mov [.tmp 1]⟩,
 ⟨some 9, none, .call (.pv (.fn 27 [] [])) [.tmp 8]⟩,
 ⟨some 10, none, .rd (.bin .neq) [.tmp 9, .pv (.int .i64 0)]⟩] L18)
 (.cond (.tmp 10)
 (.seq (.region false [⟨some 4, none, .rd .mov [.pv .nilSl]⟩] L18)
 (.ret))
 (.skip)))
 (.seq (.region false [⟨some 5, none, .rd .mov [.pv .nilSl]⟩] L18)
 (.seq (.seq (.region false [⟨some 11, none, .rd .mov [.tmp 1]⟩,
 ⟨some 12, none, .rd .lenL [.tmp 11]⟩,
 ⟨some 13, none, .rd .mov [.pv (.int .i64 0)]⟩] L18)
 (.block 0
 (.loop
 (.seq (.region false [⟨some 14, none, .rd (.bin .lss) [.tmp 13, .tmp 12]⟩] L18)
 (.seq (.cond (.tmp 14)
 (.skip)
 (.exit 0))
 (.seq (.block 1
 (.seq (.region false [⟨some 15, none, .rd (.idxAddr (some 2)) [.tmp 11, .tmp 13]⟩,
 ⟨some 16, none, .rd (.load (some 2)) [.tmp 15]⟩,
 ⟨some 7, none, .eff (.alloc (some 2) (.agg [(.str []), .nilSl])) []⟩,
 ⟨none, none, .eff (.store (some 2)) [.tmp 7, .tmp 16]⟩] L18)
 (.seq (.region false [⟨some 17, none, .rd (.fldAddr 0) [.tmp 7]⟩,
 ⟨some 18, none, .rd (.load none) [.tmp 17]⟩,
 ⟨some 19, none, .rd .mov [.tmp 1]⟩,
 ⟨some 20, none, .call (.pv (.fn 16 [] [])) [.tmp 18, .tmp 19]⟩,
 ⟨some 21, none, .rd .mov [.tmp 0]⟩,
 ⟨some 22, none, .call (.pv (.fn 39 [] [])) [.tmp 20, .tmp 21]⟩] L18)
 (.cond (.tmp 22)
 (.region false [⟨some 23, none, .rd .mov [.tmp 5]⟩,
 ⟨some 24, none, .rd (.fldAddr 0) [.tmp 7]⟩,
 ⟨some 25, none, .rd (.load none) [.tmp 24]⟩,
 ⟨some 26, none, .eff (.lit none false) [.tmp 25]⟩,
 ⟨some 27, none, .eff (.append none 16) [.tmp 23, .tmp 26]⟩,
 ⟨some 5, none, .rd .mov [.tmp 27]⟩] L18)
 (.skip)))))
 (.region false [⟨some 28, none, .rd (.bin .add) [.tmp 13, .pv (.int .i64 1)]⟩,
 ⟨some 13, none, .rd .mov [.tmp 28]⟩] L18)))))))
 (.seq (.region false [⟨some 29, none, .rd .mov [.tmp 5]⟩,
 ⟨some 30, none, .call (.pv (.fn 36 [] [])) [.tmp 29]⟩] L18)
 (.seq (.region false [⟨some 31, none, .rd .mov [.tmp 5]⟩,
 ⟨some 4, none, .rd .mov [.tmp 31]⟩] L18)
 (.ret)))))),
 [.tmp 4]⟩

-- wagebook/order.Sort
def L20 : List Nat := [0, 2, 3, 4, 5, 6, 7, 8, 9, 10, 14, 23, 24, 25, 30]
def c20 : CF := ⟨45,
 .seq (.region false [⟨some 2, none, .rd .mov [.pv .nilSl]⟩,
 ⟨some 3, none, .rd .mov [.pv (.int .i64 0)]⟩] L20)
 (.seq (.seq (.region false [⟨some 11, none, .rd .mov [.tmp 0]⟩,
 ⟨some 12, none, .call (.pv (.fn 27 [] [])) [.tmp 11]⟩,
 ⟨some 4, none, .rd .mov [.tmp 12]⟩] L20)
 (.seq (.region false [⟨some 13, none, .rd .mov [.tmp 4]⟩,
 ⟨some 14, none, .rd (.bin .neq) [.tmp 13, .pv (.int .i64 0)]⟩] L20)
 (.cond (.tmp 14)
 (.seq (.region false [⟨some 15, none, .rd .mov [.tmp 4]⟩,
 ⟨some 2, none, .rd .mov [.pv .nilSl]⟩,
 ⟨some 3, none, .rd .mov [.tmp 15]⟩] L20)
 (.ret))
 (.skip))))
 (.seq (.region false [⟨some 16, none, .rd .mov [.tmp 0]⟩,
 ⟨some 17, none, .call (.pv (.fn 28 [] [])) [.tmp 16]⟩,
 ⟨some 18, none, .rd .mov [.tmp 0]⟩,
 ⟨some 19, none, .call (.pv (.fn 29 [] [])) [.tmp 18]⟩,
 ⟨some 5, none, .eff (.alloc none .nilMap) []⟩,
 ⟨none, none, .eff (.store none) [.tmp 5, .tmp 17]⟩,
 ⟨some 6, none, .rd .mov [.tmp 19]⟩] L20)
 (.seq (.region false [⟨some 20, none, .eff (.mmk .str) []⟩,
 ⟨some 7, none, .eff (.alloc none .nilMap) []⟩,
 ⟨none, none, .eff (.store none) [.tmp 7, .tmp 20]⟩] L20)
 (.seq (.region false [⟨some 21, none, .rd (.mkFn 40 0) [.tmp 5, .tmp 7]⟩,
 ⟨some 8, none, .eff (.alloc none .nilFn) []⟩,
 ⟨none, none, .eff (.store none) [.tmp 8, .tmp 21]⟩] L20)
 (.seq (.region false [⟨some 9, none, .rd .mov [.pv .nilSl]⟩] L20)
 (.seq (.seq (.region false [⟨some 22, none, .rd .mov [.tmp 6]⟩,
 ⟨some 23, none, .rd .lenL [.tmp 22]⟩,
 ⟨some 24, none, .rd .mov [.pv (.int .i64 0)]⟩] L20)
 (.block 0
 (.loop
 (.seq (.region false [⟨some 25, none, .rd (.bin .lss) [.tmp 24, .tmp 23]⟩] L20)
 (.seq (.cond (.tmp 25)
 (.skip)
 (.exit 0))
 (.seq (.block 1
 (.seq (.region false [⟨some 26, none, .rd .mov [.tmp 6]⟩,
 ⟨some 27, none, .rd (.mkFn 42 0) [.tmp 7, .tmp 5, .tmp 8]⟩,
 ⟨some 28, none, .call (.pv (.fn 41 [] [])) [.tmp 26, .tmp 27]⟩,
 ⟨some 10, none, .rd .mov [.tmp 28]⟩] L20)
 (.seq (.seq (.region false [⟨some 29, none, .rd .mov [.tmp 10]⟩,
 ⟨some 30, none, .rd (.bin .lss) [.tmp 29, .pv (.int .i64 0)]⟩] L20)
 (.cond (.tmp 30)
 (.seq (.region false [⟨some 2, none, .rd .mov [.pv .nilSl]⟩,
 ⟨some 3, none, .rd .mov [.pv (.int .i64 13)]⟩] L20)
 (.ret))
 (.skip)))
 (.seq (.regionA (.alt [⟨some 32, none, .rd .mov [.tmp 6]⟩,
 ⟨some 33, none, .rd .mov [.tmp 10]⟩,
 ⟨some 34, none, .rd (.idxAddr none) [.tmp 32, .tmp 33]⟩]
 (.alt [⟨some 31, none, .rd (.load none) [.tmp 7]⟩,
 ⟨some 35, none, .rd (.load none) [.tmp 34]⟩,
 ⟨none, none, .eff (.mupd .str) [.tmp 31, .tmp 35, .pv (.bool true)]⟩]
 .done
 (.alt [⟨some 35, none, .rd (.load none) [.tmp 34]⟩,
 ⟨some 31, none, .rd (.load none) [.tmp 7]⟩,
 ⟨none, none, .eff (.mupd .str) [.tmp 31, .tmp 35, .pv (.bool true)]⟩]
 .done
 .stop))
 .stop) L20)
 (.region false [⟨some 36, none, .rd .mov [.tmp 9]⟩,
 ⟨some 37, none, .rd .mov [.tmp 6]⟩,
 ⟨some 38, none, .rd .mov [.tmp 10]⟩,
 ⟨some 39, none, .rd (.idxAddr none) [.tmp 37, .tmp 38]⟩,
 ⟨some 40, none, .rd (.load none) [.tmp 39]⟩,
 ⟨some 41, none, .eff (.lit none false) [.tmp 40]⟩,
 ⟨some 42, none, .eff (.append none 16) [.tmp 36, .tmp 41]⟩,
 ⟨some 9, none, .rd .mov [.tmp 42]⟩] L20)))))
 (.region false [⟨some 43, none, .rd (.bin .add) [.tmp 24, .pv (.int .i64 1)]⟩,
 ⟨some 24, none, .rd .mov [.tmp 43]⟩] L20)))))))
 (.seq (.region false [⟨some 44, none, .rd .mov [.tmp 9]⟩,
 ⟨some 2, none, .rd .mov [.tmp 44]⟩,
 ⟨some 3, none, .rd .mov [.pv (.int .i64 0)]⟩] L20)
 (.ret)))))))),
 [.tmp 2, .tmp 3]⟩

-- wagebook/order.Right
def L21 : List Nat := [0, 1, 4, 5, 6, 7, 8, 9, 10, 12, 13, 14, 26, 30, 31, 32, 33, 42, 44, 48, 49, 50, 51, 67]
def c21 : CF := ⟨69,
 .seq (.region false [⟨some 4, none, .rd .mov [.pv (.bool false)]⟩] L21)
 (.seq (.seq (.region false [⟨some 15, none, .rd .mov [.tmp 1]⟩,
 ⟨some 16, none, .call (.pv (.fn 27 [] [])) [.tmp 15]⟩,
 ⟨some 17, none, .rd (.bin .neq) [.tmp 16, .pv (.int .i64 0)]⟩,
 ⟨some 18, none, .rd .mov [.tmp 17]⟩,
 ⟨some 19, some (18, false), .rd .mov [.tmp 0]⟩,
 ⟨some 20, some (18, false), .call (.pv (.fn 46 [] [])) [.tmp 19]⟩,
 ⟨some 21, some (18, false), .call (.pv (.fn 45 [] [])) [.tmp 20]⟩,
 ⟨some 22, some (18, false), .rd .mov [.tmp 1]⟩,
 ⟨some 23, some (18, false), .call (.pv (.fn 29 [] [])) [.tmp 22]⟩,
 ⟨some 24, some (18, false), .call (.pv (.fn 44 [] [])) [.tmp 21, .tmp 23]⟩,
 ⟨some 25, some (18, false), .rd (.un .not) [.tmp 24]⟩,
 ⟨some 26, none, .rd .pick [.tmp 18, .pv (.bool true), .tmp 25]⟩] L21)
 (.cond (.tmp 26)
 (.seq (.region false [⟨some 4, none, .rd .mov [.pv (.bool false)]⟩] L21)
 (.ret))
 (.skip)))
 (.seq (.region false [⟨some 27, none, .rd .mov [.tmp 1]⟩,
 ⟨some 28, none, .call (.pv (.fn 28 [] [])) [.tmp 27]⟩,
 ⟨some 5, none, .rd .mov [.tmp 28]⟩] L21)
 (.seq (.region false [⟨some 29, none, .eff (.mmk .str) []⟩,
 ⟨some 6, none, .rd .mov [.tmp 29]⟩] L21)
 (.seq (.seq (.region false [⟨some 30, none, .rd .mov [.tmp 0]⟩,
 ⟨some 31, none, .rd .lenL [.tmp 30]⟩,
 ⟨some 32, none, .rd .mov [.pv (.int .i64 0)]⟩] L21)
 (.block 0
 (.loop
 (.seq (.region false [⟨some 33, none, .rd (.bin .lss) [.tmp 32, .tmp 31]⟩] L21)
 (.seq (.cond (.tmp 33)
 (.skip)
 (.exit 0))
 (.seq (.block 1
 (.seq (.region false [⟨some 34, none, .rd .mov [.tmp 32]⟩,
 ⟨some 35, none, .rd (.idxAddr none) [.tmp 30, .tmp 32]⟩,
 ⟨some 36, none, .rd (.load none) [.tmp 35]⟩,
 ⟨some 7, none, .rd .mov [.tmp 34]⟩,
 ⟨some 8, none, .rd .mov [.tmp 36]⟩] L21)
 (.region false [⟨some 37, none, .rd .mov [.tmp 6]⟩,
 ⟨some 38, none, .rd .mov [.tmp 8]⟩,
 ⟨some 39, none, .rd .mov [.tmp 7]⟩,
 ⟨none, none, .eff (.mupd .str) [.tmp 37, .tmp 38, .tmp 39]⟩] L21)))
 (.region false [⟨some 40, none, .rd (.bin .add) [.tmp 32, .pv (.int .i64 1)]⟩,
 ⟨some 32, none, .rd .mov [.tmp 40]⟩] L21)))))))
 (.seq (.seq (.region false [⟨some 41, none, .rd .mov [.tmp 5]⟩,
 ⟨some 42, none, .eff (.rng .str) [.tmp 41]⟩] L21)
 (.block 2
 (.loop
 (.seq (.region false [⟨some 43, none, .eff .nxt [.tmp 42]⟩,
 ⟨some 44, none, .rd (.ext 0) [.tmp 43]⟩] L21)
 (.seq (.cond (.tmp 44)
 (.skip)
 (.exit 2))
 (.block 3
 (.seq (.region false [⟨some 45, none, .eff .ent [.tmp 42]⟩,
 ⟨some 46, none, .rd (.ext 0) [.tmp 45]⟩,
 ⟨some 47, none, .rd (.ext 1) [.tmp 45]⟩,
 ⟨some 9, none, .rd .mov [.tmp 46]⟩,
 ⟨some 10, none, .rd .mov [.tmp 47]⟩] L21)
 (.seq (.region false [⟨some 48, none, .rd .mov [.tmp 10]⟩,
 ⟨some 49, none, .rd .lenL [.tmp 48]⟩,
 ⟨some 50, none, .rd .mov [.pv (.int .i64 0)]⟩] L21)
 (.block 4
 (.loop
 (.seq (.region false [⟨some 51, none, .rd (.bin .lss) [.tmp 50, .tmp 49]⟩] L21)
 (.seq (.cond (.tmp 51)
 (.skip)
 (.exit 4))
 (.seq (.block 5
 (.seq (.region false [⟨some 52, none, .rd (.idxAddr none) [.tmp 48, .tmp 50]⟩,
 ⟨some 53, none, .rd (.load none) [.tmp 52]⟩,
 ⟨some 12, none, .rd .mov [.tmp 53]⟩] L21)
 (.seq (.region false [⟨some 55, none, .rd .mov [.tmp 6]⟩,
 ⟨some 56, none, .rd .mov [.tmp 12]⟩,
 ⟨some 57, none, .rd (.look .str true (.int .i64 0)) [.tmp 55, .tmp 56]⟩,
 ⟨some 54, none, .rd .mov [.tmp 57]⟩,
 ⟨some 58, none, .rd (.ext 0) [.tmp 54]⟩,
 ⟨some 59, none, .rd (.ext 1) [.tmp 54]⟩,
 ⟨some 13, none, .rd .mov [.tmp 58]⟩,
 ⟨some 14, none, .rd .mov [.tmp 59]⟩] L21)
 (.seq (.region false [⟨some 60, none, .rd .mov [.tmp 14]⟩,
 ⟨some 61, none, .rd .mov [.tmp 60]⟩,
 ⟨some 62, some (61, true), .rd .mov [.tmp 13]⟩,
 ⟨some 63, some (61, true), .rd .mov [.tmp 6]⟩,
 ⟨some 64, some (61, true), .rd .mov [.tmp 9]⟩,
 ⟨some 65, some (61, true), .rd (.look .str false (.int .i64 0)) [.tmp 63, .tmp 64]⟩,
 ⟨some 66, some (61, true), .rd (.bin .geq) [.tmp 62, .tmp 65]⟩,
 ⟨some 67, none, .rd .pick [.tmp 61, .tmp 66, .pv (.bool false)]⟩] L21)
 (.cond (.tmp 67)
 (.seq (.region false [⟨some 4, none, .rd .mov [.pv (.bool false)]⟩] L21)
 (.ret))
 (.skip))))))
 (.region false [⟨some 68, none, .rd (.bin .add) [.tmp 50, .pv (.int .i64 1)]⟩,
 ⟨some 50, none, .rd .mov [.tmp 68]⟩] L21))))))))))))))
 (.seq (.region false [⟨some 4, none, .rd .mov [.pv (.bool true)]⟩] L21)
 (.ret))))))),
 [.tmp 4]⟩

-- wagebook/order.Ring
def L13 : List Nat := [0, 2, 3, 4, 5, 7, 8, 9, 12, 17, 18, 19, 20, 41]
def c13 : CF := ⟨48,
 .seq (.region false [⟨some 2, none, .rd .mov [.pv .nilSl]⟩] L13)
 (.seq (.seq (.region false [⟨some 10, none, .rd .mov [.tmp 0]⟩,
 ⟨some 11, none, .call (.pv (.fn 27 [] [])) [.tmp 10]⟩,
 ⟨some 12, none, .rd (.bin .neq) [.tmp 11, .pv (.int .i64 0)]⟩] L13)
 (.cond (.tmp 12)
 (.seq (.region false [⟨some 2, none, .rd .mov [.pv .nilSl]⟩] L13)
 (.ret))
 (.skip)))
 (.seq (.region false [⟨some 13, none, .rd .mov [.tmp 0]⟩,
 ⟨some 14, none, .call (.pv (.fn 28 [] [])) [.tmp 13]⟩,
 ⟨some 15, none, .rd .mov [.tmp 0]⟩,
 ⟨some 16, none, .call (.pv (.fn 29 [] [])) [.tmp 15]⟩,
 ⟨some 3, none, .rd .mov [.tmp 14]⟩,
 ⟨some 4, none, .rd .mov [.tmp 16]⟩] L13)
 (.seq (.region false [⟨some 5, none, .rd .mov [.pv .nilSl]⟩] L13)
 (.seq (.seq (.region false [⟨some 17, none, .rd .mov [.tmp 4]⟩,
 ⟨some 18, none, .rd .lenL [.tmp 17]⟩,
 ⟨some 19, none, .rd .mov [.pv (.int .i64 0)]⟩] L13)
 (.block 0
 (.loop
 (.seq (.region false [⟨some 20, none, .rd (.bin .lss) [.tmp 19, .tmp 18]⟩] L13)
 (.seq (.cond (.tmp 20)
 (.skip)
 (.exit 0))
 (.seq (.block 1
 (.seq (.region false [⟨some 21, none, .rd (.idxAddr none) [.tmp 17, .tmp 19]⟩,
 ⟨some 22, none, .rd (.load none) [.tmp 21]⟩,
 ⟨some 7, none, .rd .mov [.tmp 22]⟩] L13)
 (.seq (.region false [⟨some 23, none, .rd .mov [.tmp 3]⟩,
 ⟨some 24, none, .rd .mov [.tmp 4]⟩,
 ⟨some 25, none, .rd .mov [.tmp 7]⟩,
 ⟨some 26, none, .call (.pv (.fn 30 [] [])) [.tmp 23, .tmp 24, .tmp 25]⟩,
 ⟨some 8, none, .rd .mov [.tmp 26]⟩] L13)
 (.seq (.region false [⟨some 27, none, .rd .mov [.tmp 8]⟩,
 ⟨some 28, none, .rd .mov [.tmp 7]⟩,
 ⟨some 29, none, .rd (.look .str false (.int .i64 0)) [.tmp 27, .tmp 28]⟩,
 ⟨some 9, none, .rd .mov [.tmp 29]⟩] L13)
 (.seq (.region false [⟨some 30, none, .rd .mov [.tmp 9]⟩,
 ⟨some 31, none, .rd (.bin .gtr) [.tmp 30, .pv (.int .i64 0)]⟩,
 ⟨some 32, none, .rd .mov [.tmp 31]⟩,
 ⟨some 33, some (32, true), .rd .mov [.tmp 5]⟩,
 ⟨some 34, some (32, true), .rd (.nilEq false 0) [.tmp 33, .pv .nilSl]⟩,
 ⟨some 35, some (32, true), .rd .mov [.tmp 34]⟩,
 ⟨some 36, some (35, false), .rd .mov [.tmp 9]⟩,
 ⟨some 37, some (35, false), .rd .mov [.tmp 5]⟩,
 ⟨some 38, some (35, false), .rd .lenL [.tmp 37]⟩,
 ⟨some 39, some (35, false), .rd (.bin .lss) [.tmp 36, .tmp 38]⟩,
 ⟨some 40, some (32, true), .rd .pick [.tmp 35, .pv (.bool true), .tmp 39]⟩,
 ⟨some 41, none, .rd .pick [.tmp 32, .tmp 40, .pv (.bool false)]⟩] L13)
 (.cond (.tmp 41)
 (.region false [⟨some 42, none, .rd .mov [.tmp 3]⟩,
 ⟨some 43, none, .rd .mov [.tmp 8]⟩,
 ⟨some 44, none, .rd .mov [.tmp 7]⟩,
 ⟨some 45, none, .call (.pv (.fn 31 [] [])) [.tmp 42, .tmp 43, .tmp 44]⟩,
 ⟨some 5, none, .rd .mov [.tmp 45]⟩] L13)
 (.skip)))))))
 (.region false [⟨some 46, none, .rd (.bin .add) [.tmp 19, .pv (.int .i64 1)]⟩,
 ⟨some 19, none, .rd .mov [.tmp 46]⟩] L13)))))))
 (.seq (.region false [⟨some 47, none, .rd .mov [.tmp 5]⟩,
 ⟨some 2, none, .rd .mov [.tmp 47]⟩] L13)
 (.ret)))))),
 [.tmp 2]⟩

-- wagebook/order.far
def L30 : List Nat := [0, 1, 2, 5, 6, 7, 8, 9, 11, 13, 18, 21, 22, 23, 24, 35, 40, 46, 47, 48, 49, 56]
def c30 : CF := ⟨58,
 .seq (.region false [⟨some 5, none, .eff (.box none) [.tmp 2]⟩,
 ⟨some 6, none, .rd .mov [.pv .nilMap]⟩] L30)
 (.seq (.region false [⟨some 14, none, .eff (.mmk .str) []⟩,
 ⟨some 7, none, .eff (.alloc none .nilMap) []⟩,
 ⟨none, none, .eff (.store none) [.tmp 7, .tmp 14]⟩] L30)
 (.seq (.seq (.region false [⟨some 8, none, .eff (.alloc none (.int .i64 0)) []⟩,
 ⟨none, none, .eff (.store none) [.tmp 8, .pv (.int .i64 1)]⟩] L30)
 (.block 0
 (.loop
 (.seq (.seq (.region false [⟨some 15, none, .rd (.load none) [.tmp 8]⟩,
 ⟨some 16, none, .rd .mov [.tmp 1]⟩,
 ⟨some 17, none, .rd .lenL [.tmp 16]⟩,
 ⟨some 18, none, .rd (.bin .leq) [.tmp 15, .tmp 17]⟩] L30)
 (.cond (.tmp 18)
 (.skip)
 (.exit 0)))
 (.seq (.block 1
 (.seq (.region false [⟨some 9, none, .rd .mov [.pv .nilSl]⟩] L30)
 (.seq (.seq (.region false [⟨some 21, none, .rd .mov [.tmp 1]⟩,
 ⟨some 22, none, .rd .lenL [.tmp 21]⟩,
 ⟨some 23, none, .rd .mov [.pv (.int .i64 0)]⟩] L30)
 (.block 2
 (.loop
 (.seq (.region false [⟨some 24, none, .rd (.bin .lss) [.tmp 23, .tmp 22]⟩] L30)
 (.seq (.cond (.tmp 24)
 (.skip)
 (.exit 2))
 (.seq (.block 3
 (.seq (.region false [⟨some 25, none, .rd (.idxAddr none) [.tmp 21, .tmp 23]⟩,
 ⟨some 26, none, .rd (.load none) [.tmp 25]⟩,
 ⟨some 11, none, .rd .mov [.tmp 26]⟩] L30)
 (.seq (.seq (.region false [⟨some 27, none, .rd (.load none) [.tmp 7]⟩,
 ⟨some 28, none, .rd .mov [.tmp 11]⟩,
 ⟨some 29, none, .rd (.look .str false (.int .i64 0)) [.tmp 27, .tmp 28]⟩,
 ⟨some 30, none, .rd (.bin .gtr) [.tmp 29, .pv (.int .i64 0)]⟩,
 ⟨some 31, none, .rd .mov [.tmp 30]⟩,
 ⟨some 32, some (31, false), .rd .mov [.tmp 11]⟩,
 ⟨some 33, some (31, false), .rd (.load none) [.tmp 5]⟩,
 ⟨some 34, some (31, false), .rd (.bin .lss) [.tmp 32, .tmp 33]⟩,
 ⟨some 35, none, .rd .pick [.tmp 31, .pv (.bool true), .tmp 34]⟩] L30)
 (.cond (.tmp 35)
 (.exit 3)
 (.skip)))
 (.seq (.region false [⟨some 36, none, .rd .mov [.tmp 0]⟩,
 ⟨some 37, none, .rd .mov [.tmp 11]⟩,
 ⟨some 38, none, .rd (.look .str false .nilSl) [.tmp 36, .tmp 37]⟩,
 ⟨some 39, none, .rd (.mkFn 49 0) [.tmp 8, .tmp 5, .tmp 7]⟩,
 ⟨some 40, none, .call (.pv (.fn 43 [] [])) [.tmp 38, .tmp 39]⟩] L30)
 (.cond (.tmp 40)
 (.region false [⟨some 41, none, .rd .mov [.tmp 9]⟩,
 ⟨some 42, none, .rd .mov [.tmp 11]⟩,
 ⟨some 43, none, .eff (.lit none false) [.tmp 42]⟩,
 ⟨some 44, none, .eff (.append none 16) [.tmp 41, .tmp 43]⟩,
 ⟨some 9, none, .rd .mov [.tmp 44]⟩] L30)
 (.skip))))))
 (.region false [⟨some 45, none, .rd (.bin .add) [.tmp 23, .pv (.int .i64 1)]⟩,
 ⟨some 23, none, .rd .mov [.tmp 45]⟩] L30)))))))
 (.seq (.region false [⟨some 46, none, .rd .mov [.tmp 9]⟩,
 ⟨some 47, none, .rd .lenL [.tmp 46]⟩,
 ⟨some 48, none, .rd .mov [.pv (.int .i64 0)]⟩] L30)
 (.block 4
 (.loop
 (.seq (.region false [⟨some 49, none, .rd (.bin .lss) [.tmp 48, .tmp 47]⟩] L30)
 (.seq (.cond (.tmp 49)
 (.skip)
 (.exit 4))
 (.seq (.block 5
 (.seq (.region false [⟨some 50, none, .rd (.idxAddr none) [.tmp 46, .tmp 48]⟩,
 ⟨some 51, none, .rd (.load none) [.tmp 50]⟩,
 ⟨some 13, none, .rd .mov [.tmp 51]⟩] L30)
 (.region false [⟨some 52, none, .rd (.load none) [.tmp 7]⟩,
 ⟨some 53, none, .rd .mov [.tmp 13]⟩,
 ⟨some 54, none, .rd (.load none) [.tmp 8]⟩,
 ⟨none, none, .eff (.mupd .str) [.tmp 52, .tmp 53, .tmp 54]⟩] L30)))
 (.region false [⟨some 55, none, .rd (.bin .add) [.tmp 48, .pv (.int .i64 1)]⟩,
 ⟨some 48, none, .rd .mov [.tmp 55]⟩] L30))))))))))
 (.seq (.seq (.region false [⟨some 56, none, .rd (.load none) [.tmp 8]⟩] L30)
 (.region false [⟨some 8, none, .eff (.alloc none (.int .i64 0)) []⟩,
 ⟨none, none, .eff (.store none) [.tmp 8, .tmp 56]⟩] L30))
 (.region false [⟨some 19, none, .rd (.load none) [.tmp 8]⟩,
 ⟨some 20, none, .rd (.bin .add) [.tmp 19, .pv (.int .i64 1)]⟩,
 ⟨none, none, .eff (.store none) [.tmp 8, .tmp 20]⟩] L30)))))))
 (.seq (.region false [⟨some 57, none, .rd (.load none) [.tmp 7]⟩,
 ⟨some 6, none, .rd .mov [.tmp 57]⟩] L30)
 (.ret)))),
 [.tmp 6]⟩

-- wagebook/order.ring
def L45 : List Nat := [0, 2, 3]
def c45 : CF := ⟨9,
 .seq (.region false [⟨some 2, none, .rd .mov [.pv .nilSl]⟩] L45)
 (.seq (.region false [⟨some 4, none, .rd .mov [.tmp 0]⟩,
 ⟨some 5, none, .call (.pv (.fn 56 [] [])) [.tmp 4]⟩,
 ⟨some 3, none, .rd .mov [.tmp 5]⟩] L45)
 (.seq (.region false [⟨some 6, none, .rd .mov [.tmp 3]⟩,
 ⟨some 7, none, .call (.pv (.fn 36 [] [])) [.tmp 6]⟩] L45)
 (.seq (.region false [⟨some 8, none, .rd .mov [.tmp 3]⟩,
 ⟨some 2, none, .rd .mov [.tmp 8]⟩] L45)
 (.ret)))),
 [.tmp 2]⟩

-- slices.Values[[]string,string]
def L46 : List Nat := [0, 1, 2]
def c46 : CF := ⟨4,
 .seq (.region false [⟨some 1, none, .eff (.box none) [.tmp 0]⟩,
 ⟨some 2, none, .rd .mov [.pv .nilFn]⟩] L46)
 (.seq (.region false [⟨some 3, none, .rd (.mkFn 57 0) [.tmp 1]⟩,
 ⟨some 2, none, .rd .mov [.tmp 3]⟩] L46)
 (.ret)),
 [.tmp 2]⟩

-- slices.Values[[]string,string]$1
def L56 : List Nat := [0, 2]
def c56 : CF := ⟨5,
 .seq (.region false [⟨some 2, none, .rd .mov [.pv .nilSl]⟩] L56)
 (.seq (.region false [⟨some 3, none, .rd .mov [.tmp 0]⟩,
 ⟨some 4, none, .call (.pv (.fn 69 [] [])) [.pv .nilSl, .tmp 3]⟩,
 ⟨some 2, none, .rd .mov [.tmp 4]⟩] L56)
 (.ret)),
 [.tmp 2]⟩
theorem k12 : compileF Try.prog [] L12 Try.f12 = some c12 := by kernel_rfl
theorem k15 : compileF Try.prog [] L15 Try.f15 = some c15 := by kernel_rfl
theorem k23 : compileF Try.prog [] L23 Try.f23 = some c23 := by kernel_rfl
theorem k24 : compileF Try.prog [] L24 Try.f24 = some c24 := by kernel_rfl
theorem k25 : compileF Try.prog [] L25 Try.f25 = some c25 := by kernel_rfl
theorem k26 : compileF Try.prog [] L26 Try.f26 = some c26 := by kernel_rfl
theorem k11 : compileF Try.prog [] L11 Try.f11 = some c11 := by kernel_rfl
theorem k37 : compileF Try.prog [] L37 Try.f37 = some c37 := by kernel_rfl
theorem k38 : compileF Try.prog [] L38 Try.f38 = some c38 := by kernel_rfl
theorem k39 : compileF Try.prog [] L39 Try.f39 = some c39 := by kernel_rfl
theorem k55 : compileF Try.prog [] L55 Try.f55 = some c55 := by kernel_rfl
theorem k41 : compileF Try.prog [] L41 Try.f41 = some c41 := by kernel_rfl
theorem k43 : compileF Try.prog [] L43 Try.f43 = some c43 := by kernel_rfl
theorem k44 : compileF Try.prog [] L44 Try.f44 = some c44 := by kernel_rfl
theorem k47 : compileF Try.prog [] L47 Try.f47 = some c47 := by kernel_rfl
theorem k48 : compileF Try.prog [] L48 Try.f48 = some c48 := by kernel_rfl
theorem k51 : compileF Try.prog [] L51 Try.f51 = some c51 := by kernel_rfl
theorem k27 : compileF Try.prog [] L27 Try.f27 = some c27 := by kernel_rfl
theorem k28 : compileF Try.prog [] L28 Try.f28 = some c28 := by kernel_rfl
theorem k29 : compileF Try.prog [] L29 Try.f29 = some c29 := by kernel_rfl
theorem k40 : compileF Try.prog [] L40 Try.f40 = some c40 := by kernel_rfl
theorem k42 : compileF Try.prog [] L42 Try.f42 = some c42 := by kernel_rfl
theorem k49 : compileF Try.prog [] L49 Try.f49 = some c49 := by kernel_rfl
theorem k50 : compileF Try.prog [] L50 Try.f50 = some c50 := by kernel_rfl
theorem k35 : compileF Try.prog [] L35 Try.f35 = some c35 := by kernel_rfl
theorem k16 : compileF Try.prog [] L16 Try.f16 = some c16 := by kernel_rfl
theorem k18 : compileF Try.prog [] L18 Try.f18 = some c18 := by kernel_rfl
theorem k20 : compileF Try.prog [] L20 Try.f20 = some c20 := by kernel_rfl
theorem k21 : compileF Try.prog [] L21 Try.f21 = some c21 := by kernel_rfl
theorem k13 : compileF Try.prog [] L13 Try.f13 = some c13 := by kernel_rfl
theorem k30 : compileF Try.prog [] L30 Try.f30 = some c30 := by kernel_rfl
theorem k45 : compileF Try.prog [] L45 Try.f45 = some c45 := by kernel_rfl
theorem k46 : compileF Try.prog [] L46 Try.f46 = some c46 := by kernel_rfl
theorem k56 : compileF Try.prog [] L56 Try.f56 = some c56 := by kernel_rfl
end Go.Proofs.Ytdiokmmjdpbdbaa

