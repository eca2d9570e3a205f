import Derived.Test.YthekpjhffciakaaDoorProg
import Derived.KernelRfl
import Derived.Sort.Walk0
import Derived.Handy
import Derived.Test.YthekpjhffciakaaDoorP4
import Derived.Test.YthekpjhffciakaaDoorQ7
import Derived.Test.YthekpjhffciakaaDoorQ6
namespace Go.Proofs.YthekpjhffciakaaDoor
open PG Go.Proofs
-- wagebook/order.Sort
def L94 : List Nat := [0, 2, 3, 4, 5, 6, 7, 8, 9, 10, 14, 23, 24, 25, 30]
def c94 : CF := ⟨45,
 .seq (.region false [⟨some 2, none, .rd .mov [.pv .nilSl]⟩,
 ⟨some 3, none, .rd .mov [.pv (.int .i64 0)]⟩] L94)
 (.seq (.seq (.region false [⟨some 11, none, .rd .mov [.tmp 0]⟩,
 ⟨some 12, none, .call (.pv (.fn 118 [] [])) [.tmp 11]⟩,
 ⟨some 4, none, .rd .mov [.tmp 12]⟩] L94)
 (.seq (.region false [⟨some 13, none, .rd .mov [.tmp 4]⟩,
 ⟨some 14, none, .rd (.bin .neq) [.tmp 13, .pv (.int .i64 0)]⟩] L94)
 (.cond (.tmp 14)
 (.seq (.region false [⟨some 15, none, .rd .mov [.tmp 4]⟩,
 ⟨some 2, none, .rd .mov [.pv .nilSl]⟩,
 ⟨some 3, none, .rd .mov [.tmp 15]⟩] L94)
 (.ret))
 (.skip))))
 (.seq (.region false [⟨some 16, none, .rd .mov [.tmp 0]⟩,
 ⟨some 17, none, .call (.pv (.fn 119 [] [])) [.tmp 16]⟩,
 ⟨some 18, none, .rd .mov [.tmp 0]⟩,
 ⟨some 19, none, .call (.pv (.fn 120 [] [])) [.tmp 18]⟩,
 ⟨some 5, none, .eff (.alloc none .nilMap) []⟩,
 ⟨none, none, .eff (.store none) [.tmp 5, .tmp 17]⟩,
 ⟨some 6, none, .rd .mov [.tmp 19]⟩] L94)
 (.seq (.region false [⟨some 20, none, .eff (.mmk .str) []⟩,
 ⟨some 7, none, .eff (.alloc none .nilMap) []⟩,
 ⟨none, none, .eff (.store none) [.tmp 7, .tmp 20]⟩] L94)
 (.seq (.region false [⟨some 21, none, .rd (.mkFn 121 0) [.tmp 5, .tmp 7]⟩,
 ⟨some 8, none, .eff (.alloc none .nilFn) []⟩,
 ⟨none, none, .eff (.store none) [.tmp 8, .tmp 21]⟩] L94)
 (.seq (.region false [⟨some 9, none, .rd .mov [.pv .nilSl]⟩] L94)
 (.seq (.seq (.region false [⟨some 22, none, .rd .mov [.tmp 6]⟩,
 ⟨some 23, none, .rd .lenL [.tmp 22]⟩,
 ⟨some 24, none, .rd .mov [.pv (.int .i64 0)]⟩] L94)
 (.block 0
 (.loop
 (.seq (.region false [⟨some 25, none, .rd (.bin .lss) [.tmp 24, .tmp 23]⟩] L94)
 (.seq (.cond (.tmp 25)
 (.skip)
 (.exit 0))
 (.seq (.block 1
 (.seq (.region false [⟨some 26, none, .rd .mov [.tmp 6]⟩,
 ⟨some 27, none, .rd (.mkFn 123 0) [.tmp 7, .tmp 5, .tmp 8]⟩,
 ⟨some 28, none, .call (.pv (.fn 122 [] [])) [.tmp 26, .tmp 27]⟩,
 ⟨some 10, none, .rd .mov [.tmp 28]⟩] L94)
 (.seq (.seq (.region false [⟨some 29, none, .rd .mov [.tmp 10]⟩,
 ⟨some 30, none, .rd (.bin .lss) [.tmp 29, .pv (.int .i64 0)]⟩] L94)
 (.cond (.tmp 30)
 (.seq (.region false [⟨some 2, none, .rd .mov [.pv .nilSl]⟩,
 ⟨some 3, none, .rd .mov [.pv (.int .i64 13)]⟩] L94)
 (.ret))
 (.skip)))
 (.seq (.regionA (.alt [⟨some 32, none, .rd .mov [.tmp 6]⟩,
 ⟨some 33, none, .rd .mov [.tmp 10]⟩,
 ⟨some 34, none, .rd (.idxAddr none) [.tmp 32, .tmp 33]⟩]
 (.alt [⟨some 31, none, .rd (.load none) [.tmp 7]⟩,
 ⟨some 35, none, .rd (.load none) [.tmp 34]⟩,
 ⟨none, none, .eff (.mupd .str) [.tmp 31, .tmp 35, .pv (.bool true)]⟩]
 .done
 (.alt [⟨some 35, none, .rd (.load none) [.tmp 34]⟩,
 ⟨some 31, none, .rd (.load none) [.tmp 7]⟩,
 ⟨none, none, .eff (.mupd .str) [.tmp 31, .tmp 35, .pv (.bool true)]⟩]
 .done
 .stop))
 .stop) L94)
 (.region false [⟨some 36, none, .rd .mov [.tmp 9]⟩,
 ⟨some 37, none, .rd .mov [.tmp 6]⟩,
 ⟨some 38, none, .rd .mov [.tmp 10]⟩,
 ⟨some 39, none, .rd (.idxAddr none) [.tmp 37, .tmp 38]⟩,
 ⟨some 40, none, .rd (.load none) [.tmp 39]⟩,
 ⟨some 41, none, .eff (.lit none false) [.tmp 40]⟩,
 ⟨some 42, none, .eff (.append none 16) [.tmp 36, .tmp 41]⟩,
 ⟨some 9, none, .rd .mov [.tmp 42]⟩] L94)))))
 (.region false [⟨some 43, none, .rd (.bin .add) [.tmp 24, .pv (.int .i64 1)]⟩,
 ⟨some 24, none, .rd .mov [.tmp 43]⟩] L94)))))))
 (.seq (.region false [⟨some 44, none, .rd .mov [.tmp 9]⟩,
 ⟨some 2, none, .rd .mov [.tmp 44]⟩,
 ⟨some 3, none, .rd .mov [.pv (.int .i64 0)]⟩] L94)
 (.ret)))))))),
 [.tmp 2, .tmp 3]⟩

-- wagebook/order.wrong
def L118 : List Nat := [0, 2, 3, 5, 8, 10, 11, 12, 13, 16, 21, 26, 39]
def c118 : CF := ⟨41,
 .seq (.region false [⟨some 2, none, .rd .mov [.pv (.int .i64 0)]⟩] L118)
 (.seq (.seq (.region false [⟨some 6, none, .rd .mov [.tmp 0]⟩,
 ⟨some 7, none, .rd .lenL [.tmp 6]⟩,
 ⟨some 8, none, .rd (.bin .gtr) [.tmp 7, .pv (.int .i64 64)]⟩] L118)
 (.cond (.tmp 8)
 (.seq (.region false [⟨some 2, none, .rd .mov [.pv (.int .i64 5)]⟩] L118)
 (.ret))
 (.skip)))
 (.seq (.region false [⟨some 9, none, .eff (.mmk .str) []⟩,
 ⟨some 3, none, .rd .mov [.tmp 9]⟩] L118)
 (.seq (.seq (.region false [⟨some 10, none, .rd .mov [.tmp 0]⟩,
 ⟨some 11, none, .rd .lenL [.tmp 10]⟩,
 ⟨some 12, none, .rd .mov [.pv (.int .i64 0)]⟩] L118)
 (.block 0
 (.loop
 (.seq (.region false [⟨some 13, none, .rd (.bin .lss) [.tmp 12, .tmp 11]⟩] L118)
 (.seq (.cond (.tmp 13)
 (.skip)
 (.exit 0))
 (.seq (.block 1
 (.seq (.region false [⟨some 14, none, .rd (.idxAddr (some 2)) [.tmp 10, .tmp 12]⟩,
 ⟨some 15, none, .rd (.load (some 2)) [.tmp 14]⟩,
 ⟨some 5, none, .eff (.alloc (some 2) (.agg [(.str []), .nilSl])) []⟩,
 ⟨none, none, .eff (.store (some 2)) [.tmp 5, .tmp 15]⟩] L118)
 (.seq (.block 2
 (.seq (.region false [⟨some 17, none, .rd (.fldAddr 0) [.tmp 5]⟩,
 ⟨some 18, none, .rd (.load none) [.tmp 17]⟩,
 ⟨some 19, none, .call (.pv (.fn 138 [] [])) [.tmp 18]⟩,
 ⟨some 20, none, .rd (.un .not) [.tmp 19]⟩,
 ⟨some 16, none, .rd .mov [.tmp 20]⟩] L118)
 (.cond (.tmp 16)
 (.seq (.region false [⟨some 2, none, .rd .mov [.pv (.int .i64 12)]⟩] L118)
 (.ret))
 (.seq (.region false [⟨some 22, none, .rd (.fldAddr 1) [.tmp 5]⟩,
 ⟨some 23, none, .rd (.load none) [.tmp 22]⟩,
 ⟨some 24, none, .rd .lenL [.tmp 23]⟩,
 ⟨some 25, none, .rd (.bin .gtr) [.tmp 24, .pv (.int .i64 64)]⟩,
 ⟨some 21, none, .rd .mov [.tmp 25]⟩] L118)
 (.cond (.tmp 21)
 (.seq (.region false [⟨some 2, none, .rd .mov [.pv (.int .i64 5)]⟩] L118)
 (.ret))
 (.seq (.region false [⟨some 27, none, .rd (.fldAddr 1) [.tmp 5]⟩,
 ⟨some 28, none, .rd (.load none) [.tmp 27]⟩,
 ⟨some 29, none, .call (.pv (.fn 124 [] [])) [.tmp 28, .pv (.fn 139 [] [])]⟩,
 ⟨some 26, none, .rd .mov [.tmp 29]⟩] L118)
 (.cond (.tmp 26)
 (.seq (.region false [⟨some 2, none, .rd .mov [.pv (.int .i64 12)]⟩] L118)
 (.ret))
 (.skip))))))))
 (.seq (.region false [⟨some 30, none, .rd .mov [.tmp 3]⟩,
 ⟨some 31, none, .rd (.fldAddr 0) [.tmp 5]⟩,
 ⟨some 32, none, .rd (.load none) [.tmp 31]⟩,
 ⟨some 33, none, .rd (.look .str false (.int .i64 0)) [.tmp 30, .tmp 32]⟩,
 ⟨some 34, none, .rd (.bin .add) [.tmp 33, .pv (.int .i64 1)]⟩,
 ⟨none, none, .eff (.mupd .str) [.tmp 30, .tmp 32, .tmp 34]⟩] L118)
 (.seq (.region false [⟨some 35, none, .rd .mov [.tmp 3]⟩,
 ⟨some 36, none, .rd (.fldAddr 0) [.tmp 5]⟩,
 ⟨some 37, none, .rd (.load none) [.tmp 36]⟩,
 ⟨some 38, none, .rd (.look .str false (.int .i64 0)) [.tmp 35, .tmp 37]⟩,
 ⟨some 39, none, .rd (.bin .gtr) [.tmp 38, .pv (.int .i64 1)]⟩] L118)
 (.cond (.tmp 39)
 (.seq (.region false [⟨some 2, none, .rd .mov [.pv (.int .i64 7)]⟩] L118)
 (.ret))
 (.skip)))))))
 (.region false [⟨some 40, none, .rd (.bin .add) [.tmp 12, .pv (.int .i64 1)]⟩,
 ⟨some 12, none, .rd .mov [.tmp 40]⟩] L118)))))))
 (.seq (.region false [⟨some 2, none, .rd .mov [.pv (.int .i64 0)]⟩] L118)
 (.ret))))),
 [.tmp 2]⟩

-- wagebook/order.table
def L119 : List Nat := [0, 2, 3, 5, 7, 8, 9, 10]
def c119 : CF := ⟨20,
 .seq (.region false [⟨some 2, none, .rd .mov [.pv .nilMap]⟩] L119)
 (.seq (.region false [⟨some 6, none, .eff (.mmk .str) []⟩,
 ⟨some 3, none, .rd .mov [.tmp 6]⟩] L119)
 (.seq (.seq (.region false [⟨some 7, none, .rd .mov [.tmp 0]⟩,
 ⟨some 8, none, .rd .lenL [.tmp 7]⟩,
 ⟨some 9, none, .rd .mov [.pv (.int .i64 0)]⟩] L119)
 (.block 0
 (.loop
 (.seq (.region false [⟨some 10, none, .rd (.bin .lss) [.tmp 9, .tmp 8]⟩] L119)
 (.seq (.cond (.tmp 10)
 (.skip)
 (.exit 0))
 (.seq (.block 1
 (.seq (.region false [⟨some 11, none, .rd (.idxAddr (some 2)) [.tmp 7, .tmp 9]⟩,
 ⟨some 12, none, .rd (.load (some 2)) [.tmp 11]⟩,
 ⟨some 5, none, .eff (.alloc (some 2) (.agg [(.str []), .nilSl])) []⟩,
 ⟨none, none, .eff (.store (some 2)) [.tmp 5, .tmp 12]⟩] L119)
 (.region false [⟨some 13, none, .rd .mov [.tmp 3]⟩,
 ⟨some 14, none, .rd (.fldAddr 0) [.tmp 5]⟩,
 ⟨some 15, none, .rd (.load none) [.tmp 14]⟩,
 ⟨some 16, none, .rd (.fldAddr 1) [.tmp 5]⟩,
 ⟨some 17, none, .rd (.load none) [.tmp 16]⟩,
 ⟨none, none, .eff (.mupd .str) [.tmp 13, .tmp 15, .tmp 17]⟩] L119)))
 (.region false [⟨some 18, none, .rd (.bin .add) [.tmp 9, .pv (.int .i64 1)]⟩,
 ⟨some 9, none, .rd .mov [.tmp 18]⟩] L119)))))))
 (.seq (.region false [⟨some 19, none, .rd .mov [.tmp 3]⟩,
 ⟨some 2, none, .rd .mov [.tmp 19]⟩] L119)
 (.ret)))),
 [.tmp 2]⟩

-- wagebook/order.names
def L120 : List Nat := [0, 2, 3, 5, 6, 7, 8, 9]
def c120 : CF := ⟨21,
 .seq (.region false [⟨some 2, none, .rd .mov [.pv .nilSl]⟩] L120)
 (.seq (.region false [⟨some 3, none, .rd .mov [.pv .nilSl]⟩] L120)
 (.seq (.seq (.region false [⟨some 6, none, .rd .mov [.tmp 0]⟩,
 ⟨some 7, none, .rd .lenL [.tmp 6]⟩,
 ⟨some 8, none, .rd .mov [.pv (.int .i64 0)]⟩] L120)
 (.block 0
 (.loop
 (.seq (.region false [⟨some 9, none, .rd (.bin .lss) [.tmp 8, .tmp 7]⟩] L120)
 (.seq (.cond (.tmp 9)
 (.skip)
 (.exit 0))
 (.seq (.block 1
 (.seq (.region false [⟨some 10, none, .rd (.idxAddr (some 2)) [.tmp 6, .tmp 8]⟩,
 ⟨some 11, none, .rd (.load (some 2)) [.tmp 10]⟩,
 ⟨some 5, none, .eff (.alloc (some 2) (.agg [(.str []), .nilSl])) []⟩,
 ⟨none, none, .eff (.store (some 2)) [.tmp 5, .tmp 11]⟩] L120)
 (.region false [⟨some 12, none, .rd .mov [.tmp 3]⟩,
 ⟨some 13, none, .rd (.fldAddr 0) [.tmp 5]⟩,
 ⟨some 14, none, .rd (.load none) [.tmp 13]⟩,
 ⟨some 15, none, .eff (.lit none false) [.tmp 14]⟩,
 ⟨some 16, none, .eff (.append none 16) [.tmp 12, .tmp 15]⟩,
 ⟨some 3, none, .rd .mov [.tmp 16]⟩] L120)))
 (.region false [⟨some 17, none, .rd (.bin .add) [.tmp 8, .pv (.int .i64 1)]⟩,
 ⟨some 8, none, .rd .mov [.tmp 17]⟩] L120)))))))
 (.seq (.region false [⟨some 18, none, .rd .mov [.tmp 3]⟩,
 ⟨some 19, none, .call (.pv (.fn 63 [] [])) [.tmp 18]⟩] L120)
 (.seq (.region false [⟨some 20, none, .rd .mov [.tmp 3]⟩,
 ⟨some 2, none, .rd .mov [.tmp 20]⟩] L120)
 (.ret))))),
 [.tmp 2]⟩

-- wagebook/order.Sort$1
def L121 : List Nat := [0, 1, 2, 4, 6]
def c121 : CF := ⟨20,
 .seq (.region false [⟨some 4, none, .rd .mov [.pv (.bool false)]⟩] L121)
 (.seq (.region false [⟨some 8, none, .rd (.load none) [.tmp 1]⟩,
 ⟨some 9, none, .rd .mov [.tmp 0]⟩,
 ⟨some 10, none, .rd (.look .str true .nilSl) [.tmp 8, .tmp 9]⟩,
 ⟨some 7, none, .rd .mov [.tmp 10]⟩,
 ⟨some 11, none, .rd (.ext 0) [.tmp 7]⟩,
 ⟨some 12, none, .rd (.ext 1) [.tmp 7]⟩,
 ⟨some 5, none, .rd .mov [.tmp 11]⟩,
 ⟨some 6, none, .rd .mov [.tmp 12]⟩] L121)
 (.seq (.region false [⟨some 13, none, .rd .mov [.tmp 6]⟩,
 ⟨some 14, none, .rd .mov [.tmp 13]⟩,
 ⟨some 15, some (14, true), .rd (.load none) [.tmp 2]⟩,
 ⟨some 16, some (14, true), .rd .mov [.tmp 0]⟩,
 ⟨some 17, some (14, true), .rd (.look .str false (.bool false)) [.tmp 15, .tmp 16]⟩,
 ⟨some 18, some (14, true), .rd (.un .not) [.tmp 17]⟩,
 ⟨some 19, none, .rd .pick [.tmp 14, .tmp 18, .pv (.bool false)]⟩,
 ⟨some 4, none, .rd .mov [.tmp 19]⟩] L121)
 (.ret))),
 [.tmp 4]⟩

-- slices.IndexFunc[[]string,string]
def L122 : List Nat := [0, 1, 4, 5, 7, 8, 9, 16]
def c122 : CF := ⟨19,
 .seq (.region false [⟨some 4, none, .rd .mov [.pv (.int .i64 0)]⟩] L122)
 (.seq (.seq (.region false [⟨some 6, none, .rd .mov [.tmp 0]⟩,
 ⟨some 7, none, .rd .lenL [.tmp 6]⟩,
 ⟨some 8, none, .rd .mov [.pv (.int .i64 0)]⟩] L122)
 (.block 0
 (.loop
 (.seq (.region false [⟨some 9, none, .rd (.bin .lss) [.tmp 8, .tmp 7]⟩] L122)
 (.seq (.cond (.tmp 9)
 (.skip)
 (.exit 0))
 (.seq (.block 1
 (.seq (.region false [⟨some 10, none, .rd .mov [.tmp 8]⟩,
 ⟨some 5, none, .rd .mov [.tmp 10]⟩] L122)
 (.seq (.region false [⟨some 11, none, .rd .mov [.tmp 1]⟩,
 ⟨some 12, none, .rd .mov [.tmp 0]⟩,
 ⟨some 13, none, .rd .mov [.tmp 5]⟩,
 ⟨some 14, none, .rd (.idxAddr none) [.tmp 12, .tmp 13]⟩,
 ⟨some 15, none, .rd (.load none) [.tmp 14]⟩,
 ⟨some 16, none, .call (.tmp 11) [.tmp 15]⟩] L122)
 (.cond (.tmp 16)
 (.seq (.region false [⟨some 17, none, .rd .mov [.tmp 5]⟩,
 ⟨some 4, none, .rd .mov [.tmp 17]⟩] L122)
 (.ret))
 (.skip)))))
 (.region false [⟨some 18, none, .rd (.bin .add) [.tmp 8, .pv (.int .i64 1)]⟩,
 ⟨some 8, none, .rd .mov [.tmp 18]⟩] L122)))))))
 (.seq (.region false [⟨some 4, none, .rd .mov [.pv (.int .i64 (-1))]⟩] L122)
 (.ret))),
 [.tmp 4]⟩

-- wagebook/order.Sort$2
def L123 : List Nat := [0, 1, 2, 3, 5]
def c123 : CF := ⟨18,
 .seq (.region false [⟨some 5, none, .rd .mov [.pv (.bool false)]⟩] L123)
 (.seq (.region false [⟨some 6, none, .rd (.load none) [.tmp 1]⟩,
 ⟨some 7, none, .rd .mov [.tmp 0]⟩,
 ⟨some 8, none, .rd (.look .str false (.bool false)) [.tmp 6, .tmp 7]⟩,
 ⟨some 9, none, .rd (.un .not) [.tmp 8]⟩,
 ⟨some 10, none, .rd .mov [.tmp 9]⟩,
 ⟨some 11, some (10, true), .rd (.load none) [.tmp 2]⟩,
 ⟨some 12, some (10, true), .rd .mov [.tmp 0]⟩,
 ⟨some 13, some (10, true), .rd (.look .str false .nilSl) [.tmp 11, .tmp 12]⟩,
 ⟨some 14, some (10, true), .rd (.load none) [.tmp 3]⟩,
 ⟨some 15, some (10, true), .call (.pv (.fn 124 [] [])) [.tmp 13, .tmp 14]⟩,
 ⟨some 16, some (10, true), .rd (.un .not) [.tmp 15]⟩,
 ⟨some 17, none, .rd .pick [.tmp 10, .tmp 16, .pv (.bool false)]⟩,
 ⟨some 5, none, .rd .mov [.tmp 17]⟩] L123)
 (.ret)),
 [.tmp 5]⟩

-- slices.ContainsFunc[[]string,string]
def L124 : List Nat := [0, 1, 4]
def c124 : CF := ⟨9,
 .seq (.region false [⟨some 4, none, .rd .mov [.pv (.bool false)]⟩] L124)
 (.seq (.region false [⟨some 5, none, .rd .mov [.tmp 0]⟩,
 ⟨some 6, none, .rd .mov [.tmp 1]⟩,
 ⟨some 7, none, .call (.pv (.fn 122 [] [])) [.tmp 5, .tmp 6]⟩,
 ⟨some 8, none, .rd (.bin .geq) [.tmp 7, .pv (.int .i64 0)]⟩,
 ⟨some 4, none, .rd .mov [.tmp 8]⟩] L124)
 (.ret)),
 [.tmp 4]⟩

-- wagebook/order.named
def L138 : List Nat := [0, 2]
def c138 : CF := ⟨10,
 .seq (.region false [⟨some 2, none, .rd .mov [.pv (.bool false)]⟩] L138)
 (.seq (.region false [⟨some 3, none, .rd .mov [.tmp 0]⟩,
 ⟨some 4, none, .rd (.bin .neq) [.tmp 3, .pv (.str [])]⟩,
 ⟨some 5, none, .rd .mov [.tmp 4]⟩,
 ⟨some 6, some (5, true), .rd .mov [.tmp 0]⟩,
 ⟨some 7, some (5, true), .rd .lenS [.tmp 6]⟩,
 ⟨some 8, some (5, true), .rd (.bin .leq) [.tmp 7, .pv (.int .i64 32)]⟩,
 ⟨some 9, none, .rd .pick [.tmp 5, .tmp 8, .pv (.bool false)]⟩,
 ⟨some 2, none, .rd .mov [.tmp 9]⟩] L138)
 (.ret)),
 [.tmp 2]⟩

-- wagebook/order.wrong$1
def L139 : List Nat := [0, 2]
def c139 : CF := ⟨6,
 .seq (.region false [⟨some 2, none, .rd .mov [.pv (.bool false)]⟩] L139)
 (.seq (.region false [⟨some 3, none, .rd .mov [.tmp 0]⟩,
 ⟨some 4, none, .call (.pv (.fn 138 [] [])) [.tmp 3]⟩,
 ⟨some 5, none, .rd (.un .not) [.tmp 4]⟩,
 ⟨some 2, none, .rd .mov [.tmp 5]⟩] L139)
 (.ret)),
 [.tmp 2]⟩
theorem k94 : compileF Tryd.prog [] L94 Tryd.f94 = some c94 := by kernel_rfl
theorem k118 : compileF Tryd.prog [] L118 Tryd.f118 = some c118 := by kernel_rfl
theorem k119 : compileF Tryd.prog [] L119 Tryd.f119 = some c119 := by kernel_rfl
theorem k120 : compileF Tryd.prog [] L120 Tryd.f120 = some c120 := by kernel_rfl
theorem k121 : compileF Tryd.prog [] L121 Tryd.f121 = some c121 := by kernel_rfl
theorem k122 : compileF Tryd.prog [] L122 Tryd.f122 = some c122 := by kernel_rfl
theorem k123 : compileF Tryd.prog [] L123 Tryd.f123 = some c123 := by kernel_rfl
theorem k124 : compileF Tryd.prog [] L124 Tryd.f124 = some c124 := by kernel_rfl
theorem k138 : compileF Tryd.prog [] L138 Tryd.f138 = some c138 := by kernel_rfl
theorem k139 : compileF Tryd.prog [] L139 Tryd.f139 = some c139 := by kernel_rfl
end Go.Proofs.YthekpjhffciakaaDoor

namespace Go.Proofs.YthekpjhffciakaaDoor
open Go PG
set_option linter.unusedSimpArgs false
set_option linter.unusedVariables false
/-! Texts, and what rises -/
abbrev St := List UInt8
abbrev Rise (L : List St) : Prop := L.Pairwise (· < ·)
theorem Olt_of {a b : St} (h : a ≤ b) (hn : a ≠ b) : a < b := by
  by_cases h1 : a < b
  · exact h1
  · exact absurd (List.le_antisymm h h1) hn
theorem lt_irr (a : St) : ¬ a < a := List.lt_irrefl a
theorem Rise.nodup {L : List St} (h : Rise L) : L.Nodup := h.imp fun h e => by subst e; exact lt_irr _ h
theorem nodup_len : ∀ {a b : List St}, a.Nodup → (∀ x ∈ a, x ∈ b) → a.length ≤ b.length
  | [], b, _, _ => by simp
  | x :: a, b, hn, h => by
    have hx := h x (by simp)
    rw [List.nodup_cons] at hn
    have := nodup_len (a := a) (b := b.erase x) hn.2 (fun y hy => by
      have hne : y ≠ x := fun e => hn.1 (e ▸ hy)
      exact (List.mem_erase_of_ne hne).2 (h y (by simp [hy])))
    rw [List.length_erase_of_mem hx] at this
    have : 0 < b.length := List.length_pos_of_mem hx
    simp only [List.length_cons]; omega
section
variable (N : List St) (nd : St → List St)
/-! How far, over greater names alone -/
inductive Rw (to : St) : Nat → St → Prop
  | one (s : St) (h : s ∈ N) (hl : ¬ s < to) (hx : to ∈ nd s) : Rw to 1 s
  | more (k : Nat) (s x : St) (h : s ∈ N) (hl : ¬ s < to) (hx : x ∈ nd s) (hge : ¬ x < to) (hne : x ≠ to) (hr : Rw to (k + 1) x) : Rw to (k + 2) s
variable {N nd}
/-! A way from one to one over greater names, by least names -/
variable (nd)
def Path (to : St) : St → List St → Prop
  | s, [] => to ∈ nd s
  | s, y :: l => y ∈ nd s ∧ Path to y l
def OsortT (L : List St) : List St := L.mergeSort (fun x y => decide (x ≤ y))
variable {nd}
theorem Osort_mem {L : List St} {x : St} : x ∈ OsortT L ↔ x ∈ L := (List.mergeSort_perm L _).mem_iff
theorem Otx_tr (a b c : St) : decide (a ≤ b) = true → decide (b ≤ c) = true → decide (a ≤ c) = true := by
  simp only [decide_eq_true_eq]; exact List.le_trans
theorem Otx_tt (a b : St) : (decide (a ≤ b) || decide (b ≤ a)) = true := by
  simp only [Bool.or_eq_true, decide_eq_true_eq]; exact List.le_total a b
theorem sort_rise {L : List St} (h : L.Nodup) : Rise (OsortT L) := by
  have h1 := List.pairwise_mergeSort Otx_tr Otx_tt L
  have h2 : (OsortT L).Nodup := (List.mergeSort_perm L _).nodup_iff.2 h
  have := h1.and h2
  refine this.imp fun ⟨a, b⟩ => ?_
  simp only [decide_eq_true_eq] at a
  exact Olt_of a b
/-! An order -/
variable (N nd)
def readyG (out : List St) (s : St) : Bool := !decide (s ∈ out) && (nd s).all fun x => !(decide (x ∈ N)) || decide (x ∈ out)
def sortG : Nat → List St → Option (List St)
  | 0, out => some out
  | n + 1, out => match N.find? (readyG N nd out) with
    | none => none
    | some s => sortG n (out ++ [s])
/-- Each stands behind all that it needs. -/
def OrdG (out : List St) : Prop := ∀ a s b, out = a ++ s :: b → ∀ x ∈ nd s, x ∈ N → x ∈ a
variable {N nd}
theorem ready_iff {out : List St} {s : St} : readyG N nd out s = true ↔ s ∉ out ∧ ∀ x ∈ nd s, x ∈ N → x ∈ out := by
  unfold readyG
  simp only [Bool.and_eq_true, Bool.not_eq_true', decide_eq_false_iff_not, List.all_eq_true, Bool.or_eq_true, decide_eq_true_eq]
  exact ⟨fun ⟨a, b⟩ => ⟨a, fun x hx hn => (b x hx).resolve_left (fun h => h hn)⟩, fun ⟨a, b⟩ => ⟨a, fun x hx => (Decidable.em (x ∈ N)).elim (fun h => .inr (b x hx h)) .inl⟩⟩
theorem OrdG.snoc {out : List St} {s : St} (h : OrdG N nd out) (hs : ∀ x ∈ nd s, x ∈ N → x ∈ out) : OrdG N nd (out ++ [s]) := by
  intro a t b he x hx hn
  rcases List.append_eq_append_iff.1 he with ⟨c, h1, h2⟩ | ⟨c, h1, h2⟩
  · cases c with
    | nil => simp at h1 h2; obtain ⟨rfl, rfl⟩ := h2; rw [h1]; exact hs x hx hn
    | cons y c => simp at h2
  · cases c with
    | nil => simp at h1 h2; obtain ⟨rfl, rfl⟩ := h2; rw [← h1]; exact hs x hx hn
    | cons y c =>
      simp only [List.cons_append, List.cons.injEq] at h2
      obtain ⟨rfl, h2⟩ := h2
      exact h a t c h1 x hx hn
theorem sortG_spec : ∀ {n : Nat} {out out' : List St}, sortG N nd n out = some out' → OrdG N nd out → out.Nodup → (∀ s ∈ out, s ∈ N) → OrdG N nd out' ∧ out'.Nodup ∧ (∀ s ∈ out', s ∈ N) ∧ out'.length = out.length + n
  | 0, out, out', h, h1, h2, h3 => by cases h; exact ⟨h1, h2, h3, rfl⟩
  | n + 1, out, out', h, h1, h2, h3 => by
    unfold sortG at h
    split at h
    · cases h
    · rename_i s hf
      have hr := ready_iff.1 (List.find?_some hf)
      have hm := List.mem_of_find?_eq_some hf
      obtain ⟨a, b, c, d⟩ := sortG_spec h (h1.snoc hr.2) (by
        rw [List.nodup_append]
        refine ⟨h2, by simp, fun x hx y hy e => ?_⟩
        simp at hy; subst hy; subst e; exact hr.1 hx) (fun x hx => by
        rcases List.mem_append.1 hx with hx | hx
        · exact h3 x hx
        · simp at hx; subst hx; exact hm)
      exact ⟨a, b, c, by rw [d]; simp; omega⟩
theorem full_of {out : List St} (hN : N.Nodup) (h2 : out.Nodup) (h3 : ∀ s ∈ out, s ∈ N) (hl : out.length = N.length) : out.Perm N := by
  refine (List.perm_ext_iff_of_nodup h2 hN).2 fun s => ⟨h3 s, fun hs => ?_⟩
  refine Decidable.byContradiction fun hno => ?_
  have := nodup_len (a := s :: out) (b := N) (List.nodup_cons.2 ⟨hno, h2⟩) (fun x hx => by
    rcases List.mem_cons.1 hx with rfl | hx
    · exact hs
    · exact h3 x hx)
  simp at this; omega
end
end Go.Proofs.YthekpjhffciakaaDoor

namespace Go.Proofs.YthekpjhffciakaaDoor
open Go PG
set_option linter.unusedSimpArgs false
set_option linter.unusedVariables false
section
variable (nd : St → List St)
/-! All that a name needs -/
inductive Rch : St → St → Prop
  | one (s y : St) (h : y ∈ nd s) : Rch s y
  | more (s x y : St) (h : x ∈ nd s) (hr : Rch x y) : Rch s y
mutual
def dfs : Nat → St → List St → List St
  | 0, _, out => out
  | n + 1, s, out => dfsL n (nd s) out
termination_by n _ _ => (n, 0)
def dfsL : Nat → List St → List St → List St
  | _, [], out => out
  | n, x :: xs, out => if x ∈ out then dfsL n xs out else dfsL n xs (dfs n x (out ++ [x]))
termination_by n xs _ => (n, xs.length + 1)
end
variable {nd}
theorem Rch.trans {a b c : St} (h : Rch nd a b) (k : Rch nd b c) : Rch nd a c := by
  induction h with
  | one s y h => exact .more s y c h k
  | more s x y h hr ih => exact .more s x c h (ih k)
structure DfsOk (U : List St) (R : St → Prop) (xs out o : List St) : Prop where
  sub : ∀ x ∈ out, x ∈ o
  nodup : o.Nodup
  has : ∀ x ∈ xs, x ∈ o
  closed : ∀ y ∈ o, y ∉ out → ∀ x ∈ nd y, x ∈ o
  reach : ∀ y ∈ o, y ∉ out → R y
end
/-! Edges -/
structure Ed where
  name : St
  needs : List St
def nmOk (s : St) : Bool := !decide (s = []) && decide (s.length ≤ 32)
def wrongF : List St → List Ed → Int
  | _, [] => 0
  | seen, e :: l => if nmOk e.name = false then 12 else if 64 < e.needs.length then 5 else if e.needs.all nmOk = false then 12 else if e.name ∈ seen then 7 else wrongF (seen ++ [e.name]) l
def wrongM (l : List Ed) : Int := if 64 < l.length then 5 else wrongF [] l
def nsM (l : List Ed) : List St := OsortT (l.map (·.name))
def ndM (l : List Ed) (s : St) : List St := match l.find? (fun e => decide (e.name = s)) with
  | some e => e.needs
  | none => []
theorem wrongF_0 : ∀ {l : List Ed} {seen : List St}, wrongF seen l = 0 → (l.map (·.name)).Nodup ∧ (∀ e ∈ l, e.name ∉ seen ∧ nmOk e.name = true ∧ e.needs.length ≤ 64 ∧ e.needs.all nmOk = true)
  | [], _, _ => ⟨List.nodup_nil, fun e h => by cases h⟩
  | e :: l, seen, h => by
    unfold wrongF at h
    split at h
    · cases h
    split at h
    · cases h
    split at h
    · cases h
    split at h
    · cases h
    rename_i h1 h2 h3 h4
    obtain ⟨i1, i2⟩ := wrongF_0 h
    refine ⟨?_, fun x hx => ?_⟩
    · rw [List.map_cons, List.nodup_cons]
      refine ⟨fun hm => ?_, i1⟩
      obtain ⟨x, hx, he⟩ := List.mem_map.1 hm
      exact (i2 x hx).1 (by simp [he])
    · rcases List.mem_cons.1 hx with rfl | hx
      · exact ⟨h4, by simpa using h1, by omega, by simpa using h3⟩
      · obtain ⟨a, b⟩ := i2 x hx
        exact ⟨fun hh => a (by simp [hh]), b⟩
theorem wrongF_intro : ∀ {l : List Ed} {seen : List St}, (l.map (·.name)).Nodup → (∀ e ∈ l, e.name ∉ seen ∧ nmOk e.name = true ∧ e.needs.length ≤ 64 ∧ e.needs.all nmOk = true) → wrongF seen l = 0
  | [], _, _, _ => rfl
  | e :: l, seen, hn, h => by
    obtain ⟨h1, h2, h3, h4⟩ := h e (by simp)
    rw [List.map_cons, List.nodup_cons] at hn
    unfold wrongF
    rw [if_neg (by simp [h2]), if_neg (by omega), if_neg (by simp [h4]), if_neg h1]
    refine wrongF_intro hn.2 fun x hx => ?_
    obtain ⟨a, b⟩ := h x (by simp [hx])
    refine ⟨fun hh => ?_, b⟩
    rcases List.mem_append.1 hh with hh | hh
    · exact a hh
    · simp at hh; exact hn.1 (List.mem_map.2 ⟨x, hx, hh⟩)
theorem wrongM_0 {l : List Ed} : wrongM l = 0 ↔ l.length ≤ 64 ∧ (l.map (·.name)).Nodup ∧ ∀ e ∈ l, nmOk e.name = true ∧ e.needs.length ≤ 64 ∧ e.needs.all nmOk = true := by
  unfold wrongM
  constructor
  · intro h
    split at h
    · cases h
    · obtain ⟨a, b⟩ := wrongF_0 h
      exact ⟨by omega, a, fun e he => (b e he).2⟩
  · rintro ⟨a, b, c⟩
    rw [if_neg (by omega)]
    exact wrongF_intro b fun e he => ⟨by simp, c e he⟩
theorem ns_mem {l : List Ed} {s : St} : s ∈ nsM l ↔ ∃ e ∈ l, e.name = s := by
  unfold nsM; rw [Osort_mem, List.mem_map]
theorem ns_len (l : List Ed) : (nsM l).length = l.length := by
  unfold nsM OsortT; rw [(List.mergeSort_perm _ _).length_eq]; simp
theorem ns_rise {l : List Ed} (h : wrongM l = 0) : Rise (nsM l) := sort_rise (wrongM_0.1 h).2.1
theorem nd_at {l : List Ed} (hn : (l.map (·.name)).Nodup) {e : Ed} (he : e ∈ l) : ndM l e.name = e.needs := by
  unfold ndM
  induction l with
  | nil => cases he
  | cons x l ih =>
    rw [List.map_cons, List.nodup_cons] at hn
    rw [List.find?_cons]
    rcases List.mem_cons.1 he with rfl | he
    · simp
    · have : x.name ≠ e.name := fun h => hn.1 (h ▸ List.mem_map.2 ⟨e, he, rfl⟩)
      simp only [this, decide_false]
      exact ih hn.2 he
theorem nd_out {l : List Ed} {s : St} (h : s ∉ nsM l) : ndM l s = [] := by
  unfold ndM
  have : l.find? (fun e => decide (e.name = s)) = none := List.find?_eq_none.2 fun e he hh => h (ns_mem.2 ⟨e, he, by simpa using hh⟩)
  rw [this]
theorem nd_in {l : List Ed} {s x : St} (h : x ∈ ndM l s) : s ∈ nsM l ∧ ∃ e ∈ l, e.name = s ∧ x ∈ e.needs := by
  unfold ndM at h
  cases hf : l.find? (fun e => decide (e.name = s)) with
  | none => rw [hf] at h; cases h
  | some e =>
    rw [hf] at h
    have h1 := List.find?_some hf
    have h2 := List.mem_of_find?_eq_some hf
    simp only [decide_eq_true_eq] at h1
    exact ⟨ns_mem.2 ⟨e, h2, h1⟩, e, h2, h1, h⟩
/-! What the chapter's functions come to -/
def OsortM (l : List Ed) : List St × Int := if wrongM l ≠ 0 then ([], wrongM l) else match sortG (nsM l) (ndM l) (nsM l).length [] with
  | none => ([], 13)
  | some o => (o, 0)
end Go.Proofs.YthekpjhffciakaaDoor

namespace Go.Proofs.YthekpjhffciakaaDoor
open Go PG
set_option linter.unusedSimpArgs false
set_option linter.unusedVariables false
/-! The least ring is one -/
structure IsRing (N : List St) (nd : St → List St) (r : List St) : Prop where
  some : ∃ s T, r = s :: T ∧ s ∈ N ∧ Path nd s s T ∧ (∀ y ∈ T, s < y ∧ y ∈ N) ∧ T.Nodup
/-! Sort -/
theorem wrong_vals : ∀ (l : List Ed) (seen : List St), wrongF seen l = 0 ∨ wrongF seen l = 5 ∨ wrongF seen l = 7 ∨ wrongF seen l = 12
  | [], _ => .inl rfl
  | e :: l, seen => by
    unfold wrongF
    split
    · simp
    split
    · simp
    split
    · simp
    split
    · simp
    · exact wrong_vals l _
theorem wrongM_vals (l : List Ed) : wrongM l = 0 ∨ wrongM l = 5 ∨ wrongM l = 7 ∨ wrongM l = 12 := by
  unfold wrongM
  split
  · simp
  · exact wrong_vals l []
theorem sort_wrong {l : List Ed} (h : wrongM l ≠ 0) : OsortM l = ([], wrongM l) := by unfold OsortM; rw [if_pos h]
theorem sort_ok {l : List Ed} (h : (OsortM l).2 = 0) : wrongM l = 0 ∧ sortG (nsM l) (ndM l) (nsM l).length [] = some (OsortM l).1 := by
  unfold OsortM at h ⊢
  by_cases hw : wrongM l = 0
  · rw [if_neg (by simp [hw])] at h ⊢
    cases hg : sortG (nsM l) (ndM l) (nsM l).length [] with
    | none => rw [hg] at h; cases h
    | some o => exact ⟨hw, rfl⟩
  · rw [if_pos hw] at h; exact absurd h hw
theorem ordG_nil (N : List St) (nd : St → List St) : OrdG N nd [] := by
  intro a s b h; simp at h
theorem sort_spec {l : List Ed} (h : (OsortM l).2 = 0) : wrongM l = 0 ∧ OrdG (nsM l) (ndM l) (OsortM l).1 ∧ (OsortM l).1.Perm (nsM l) := by
  obtain ⟨hw, hg⟩ := sort_ok h
  obtain ⟨a, b, c, d⟩ := sortG_spec hg (ordG_nil _ _) List.nodup_nil (by simp)
  exact ⟨hw, a, full_of (ns_rise hw).nodup b c (by simpa using d)⟩
end Go.Proofs.YthekpjhffciakaaDoor

namespace Go.Proofs.YthekpjhffciakaaDoor
open Go PG
set_option linter.unusedSimpArgs false
set_option linter.unusedVariables false
set_option linter.unusedSectionVars false
/-! Nothing hangs on more than the names, and what each one needs -/
section
variable {N : List St} {nd nd' : St → List St} (h : ∀ s x, x ∈ nd s ↔ x ∈ nd' s)
include h
theorem all_same {p : St → Bool} (s : St) : (nd s).all p = (nd' s).all p := by
  rw [Bool.eq_iff_iff]; simp only [List.all_eq_true]
  exact ⟨fun g x a => g x ((h s x).2 a), fun g x a => g x ((h s x).1 a)⟩
theorem ready_same (out : List St) : readyG N nd out = readyG N nd' out := by
  funext s; unfold readyG; rw [all_same h s]
theorem sortG_same : ∀ (n : Nat) (out : List St), sortG N nd n out = sortG N nd' n out
  | 0, out => rfl
  | n + 1, out => by
    unfold sortG
    rw [ready_same h]
    cases N.find? (readyG N nd' out) with
    | none => rfl
    | some s => exact sortG_same n _
end
section
variable {N : List St} {nd nd' : St → List St} (h : ∀ s x, x ∈ nd s ↔ x ∈ nd' s)
include h
end
theorem wrong_all {l l' : List Ed} (hl : l.length = l'.length) (hp : (l.map (·.name)).Perm (l'.map (·.name))) (h : (∀ e ∈ l, nmOk e.name = true ∧ e.needs.length ≤ 64 ∧ e.needs.all nmOk = true) ↔ (∀ e ∈ l', nmOk e.name = true ∧ e.needs.length ≤ 64 ∧ e.needs.all nmOk = true)) :
    wrongM l = 0 ↔ wrongM l' = 0 := by
  rw [wrongM_0, wrongM_0, hl, hp.nodup_iff, h]
structure SameE (l l' : List Ed) : Prop where
  wrong : wrongM l = 0 ↔ wrongM l' = 0
  ns : nsM l = nsM l'
  nd : wrongM l = 0 → ∀ s x, x ∈ ndM l s ↔ x ∈ ndM l' s
theorem same_sort {l l' : List Ed} (h : SameE l l') : (OsortM l).1 = (OsortM l').1 ∧ ((OsortM l).2 = 0 ↔ (OsortM l').2 = 0) ∧ ((OsortM l).2 = 13 ↔ (OsortM l').2 = 13) := by
  by_cases hw : wrongM l = 0
  · have hw' := h.wrong.1 hw
    have e : OsortM l = OsortM l' := by
      unfold OsortM
      rw [if_neg (by simp [hw]), if_neg (by simp [hw']), h.ns, sortG_same (h.nd hw)]
    rw [e]; exact ⟨rfl, Iff.rfl, Iff.rfl⟩
  · have hw' : wrongM l' ≠ 0 := fun h' => hw (h.wrong.2 h')
    rw [sort_wrong hw, sort_wrong hw']
    refine ⟨rfl, ⟨fun h => absurd h hw, fun h => absurd h hw'⟩, ?_⟩
    have a := wrongM_vals l
    have b := wrongM_vals l'
    simp only; omega
/-! One edge more -/
structure NewE (l : List Ed) (x : Ed) : Prop where
  name : ∀ e ∈ l, e.name ≠ x.name ∧ x.name ∉ e.needs
  self : x.name ∉ x.needs
section
variable {l : List Ed} {x : Ed} (hn : NewE l x) (hw : wrongM (l ++ [x]) = 0)
include hn hw
end
end Go.Proofs.YthekpjhffciakaaDoor

namespace Go.Proofs.YthekpjhffciakaaDoor
open Go PG Go.Proofs
set_option linter.unusedSimpArgs false
set_option linter.unusedVariables false
set_option maxHeartbeats 4000000
set_option maxRecDepth 100000
theorem e94 : Ent Tryd.prog 94 := ⟨Tryd.f94, Tryd.func94, by kernel_rfl, by kernel_rfl⟩
theorem e118 : Ent Tryd.prog 118 := ⟨Tryd.f118, Tryd.func118, by kernel_rfl, by kernel_rfl⟩
theorem e119 : Ent Tryd.prog 119 := ⟨Tryd.f119, Tryd.func119, by kernel_rfl, by kernel_rfl⟩
theorem e120 : Ent Tryd.prog 120 := ⟨Tryd.f120, Tryd.func120, by kernel_rfl, by kernel_rfl⟩
theorem e121 : Ent Tryd.prog 121 := ⟨Tryd.f121, Tryd.func121, by kernel_rfl, by kernel_rfl⟩
theorem e122 : Ent Tryd.prog 122 := ⟨Tryd.f122, Tryd.func122, by kernel_rfl, by kernel_rfl⟩
theorem e123 : Ent Tryd.prog 123 := ⟨Tryd.f123, Tryd.func123, by kernel_rfl, by kernel_rfl⟩
theorem e124 : Ent Tryd.prog 124 := ⟨Tryd.f124, Tryd.func124, by kernel_rfl, by kernel_rfl⟩
theorem e138 : Ent Tryd.prog 138 := ⟨Tryd.f138, Tryd.func138, by kernel_rfl, by kernel_rfl⟩
theorem e139 : Ent Tryd.prog 139 := ⟨Tryd.f139, Tryd.func139, by kernel_rfl, by kernel_rfl⟩
def edP (e : Ed) : PV := .agg [.str e.name, .list none (e.needs.map PV.str)]
abbrev edL (l : List Ed) : PV := .list (some 2) (l.map edP)
abbrev txL (l : List St) : PV := .list none (l.map PV.str)
theorem ed_getD (l : List Ed) (i : Nat) (h : i < l.length) : (l.map edP).getD i .junk = edP l[i] := by simp [List.getD, h]
theorem tx_getD (l : List St) (i : Nat) (h : i < l.length) : (l.map PV.str).getD i .junk = .str l[i] := by simp [List.getD, h]
/-- What a closure holds is closed. -/
structure Cl (caps : List PV) : Prop where
  view : ∀ μ, caps.map (PV.view μ) = caps
  seen : ∀ μ, (caps.map (PV.seen μ)).all id = true
def idxF (p : St → Bool) (xs : List St) : Int := match xs.findIdx? p with
  | some i => i
  | none => -1
theorem idxF_at {p : St → Bool} {xs : List St} {i : Nat} (h : i < xs.length) (hp : p xs[i] = true) (hn : ∀ j (h : j < xs.length), j < i → p xs[j] = false) : idxF p xs = i := by
  have : xs.findIdx? p = some i := List.findIdx?_eq_some_iff_getElem.2 ⟨h, hp, fun j hj => by rw [hn j (by omega) hj]; simp⟩
  unfold idxF; rw [this]
theorem idxF_none {p : St → Bool} {xs : List St} (hn : ∀ j (h : j < xs.length), p xs[j] = false) : idxF p xs = -1 := by
  have : xs.findIdx? p = none := List.findIdx?_eq_none_iff.2 fun x hx => by
    obtain ⟨j, hj, rfl⟩ := List.getElem_of_mem hx; exact hn j hj
  unfold idxF; rw [this]
theorem idxF_any (p : St → Bool) (xs : List St) : decide (0 ≤ idxF p xs) = xs.any p := by
  unfold idxF
  cases h : xs.findIdx? p with
  | some i =>
    obtain ⟨h1, h2, -⟩ := List.findIdx?_eq_some_iff_getElem.1 h
    have : xs.any p = true := List.any_eq_true.2 ⟨xs[i], List.getElem_mem h1, h2⟩
    rw [this]; simp only [decide_eq_true_eq]; omega
  | none =>
    have : xs.any p = false := by
      rw [List.any_eq_false]
      intro x hx; rw [List.findIdx?_eq_none_iff.1 h x hx]; simp
    rw [this]; rfl
theorem v122 (xs : List St) (p : St → Bool) (g : Nat) (caps : List PV) (hE : Ent Tryd.prog g) (hC : Cl caps) (hl : xs.length ≤ 9223372036854775807) (hg : ∀ x ∈ xs, VCalls Tryd.prog GK g (.str x :: caps) (.bool (p x))) :
    VCalls Tryd.prog GK 122 [txL xs, .fn g [] caps] (.int .i64 (idxF p xs)) := by
  refine VCalls.of_PW Tryd.func122 k122 mix (by simp [c122]) ?_
  simp only [c122, L122, argE]
  have hv := hC.view
  have hs := hC.seen
  have hlen : ((xs.map PV.str).length : Nat) = xs.length := by simp
  repeat' (first | exact True.intro | (refine PW.seqK ?_; intro K hK) | refine stp ?_ | refine seqK_n ‹_› ?_ | refine seqK_r ‹_› ?_ | refine seqK_e ‹_› ?_ | exact schedW_stop_i | refine schK_n ‹_› ?_ | (refine PW.cond rfl ?_ ?_ <;> intro hcond <;> (try contradiction) <;> try simp only [DD] at hcond) | (refine gd_i ?_; intro hg; try simp only [hg]) | (refine ari ?_; first | omega | (simp only [DD, LL] <;> omega) | (go_unwrap; omega)) | ((first | refine stq ?_ | show (_ : Post) _ _ _ | (refine schedW_alt_k ?_ ?_; intro K hK)); focus (simp only [hlen, SA, Nat.reduceAdd, reduceIte, Nat.reduceEqDiff, Nat.reduceBEq, reduceCtorEq]; (try go_unwrap; try simp only [hlen, RR, reduceCtorEq]))) | refine And.intro ?_ ?_ | exact Or.inr ⟨rfl, Nat.le_refl _⟩ | exact (fun h => Bool.noConfusion h))
  refine PW.loop (σ := Nat) [0, 1, 4, 7, 8] (fun i => [txL xs, .fn g [] caps, .int .i64 0, .int .i64 xs.length, .int .i64 i]) (fun _ => []) (fun i => i ≤ xs.length ∧ ∀ j (h : j < xs.length), j < i → p xs[j] = false) (fun i => xs.length - i) 0 ?_ rfl ⟨by omega, fun j _ h => by omega⟩ ?_
  · simp only [SA, Nat.reduceAdd, reduceIte, Nat.reduceEqDiff, Nat.reduceBEq, reduceCtorEq]; rfl
  rintro i ⟨hi, hall⟩
  simp only [List.zip_cons_cons, List.zip_nil_left]
  rcases Nat.lt_or_ge i xs.length with h | h
  · have hd : decide ((i : Int) < xs.length) = true := by simp only [decide_eq_true_eq]; omega
    have hgt := tx_getD xs i h
    have hgx := hg xs[i] (List.getElem_mem h)
    have hat : p xs[i] = true → idxF p xs = i := fun hp => idxF_at h hp hall
    have hnx : p xs[i] = false → ∀ j (h : j < xs.length), j < i + 1 → p xs[j] = false := fun hp j hj hji => by
      rcases Nat.lt_or_ge j i with h' | h'
      · exact hall j hj h'
      · obtain rfl : j = i := by omega
        exact hp
    generalize xs[i] = x at hgt hgx hat hnx
    generalize p x = b at hgx hat hnx
    cases b
    · repeat' (first | exact True.intro | (refine PW.seqK ?_; intro K hK) | refine stp ?_ | refine seqK_n ‹_› ?_ | refine seqK_r ‹_› ?_ | refine seqK_e ‹_› ?_ | exact schedW_stop_i | refine schK_n ‹_› ?_ | (refine PW.cond rfl ?_ ?_ <;> intro hcond <;> (try contradiction) <;> try simp only [DD] at hcond) | (refine gd_i ?_; intro hg; try simp only [hg]) | refine goCall_W hE (hgx) ?_ ?_ ?_ ?_ | (refine ari ?_; first | omega | (simp only [DD, LL] <;> omega) | (go_unwrap; omega)) | ((first | refine stq ?_ | show (_ : Post) _ _ _ | (refine schedW_alt_k ?_ ?_; intro K hK)); focus (simp only [hd, hgt, hlen, hv, hs, List.nil_append, List.cons_append, List.all_cons, SA, Nat.reduceAdd, reduceIte, Nat.reduceEqDiff, Nat.reduceBEq, reduceCtorEq]; (try go_unwrap; try simp only [hd, hgt, hlen, hv, hs, List.nil_append, List.cons_append, List.all_cons, RR, reduceCtorEq]))) | refine And.intro ?_ ?_ | exact Or.inr ⟨rfl, Nat.le_refl _⟩ | exact (fun h => Bool.noConfusion h))
      all_goals exact ⟨i + 1, rfl, ⟨by omega, hnx (by first | rfl | trivial)⟩, by omega⟩
    · have := hat rfl
      repeat' (first | exact True.intro | (refine PW.seqK ?_; intro K hK) | refine stp ?_ | refine seqK_n ‹_› ?_ | refine seqK_r ‹_› ?_ | refine seqK_e ‹_› ?_ | exact schedW_stop_i | refine schK_n ‹_› ?_ | (refine PW.cond rfl ?_ ?_ <;> intro hcond <;> (try contradiction) <;> try simp only [DD] at hcond) | (refine gd_i ?_; intro hg; try simp only [hg]) | refine goCall_W hE (hgx) ?_ ?_ ?_ ?_ | (refine ari ?_; first | omega | (simp only [DD, LL] <;> omega) | (go_unwrap; omega)) | ((first | refine stq ?_ | show (_ : Post) _ _ _ | (refine schedW_alt_k ?_ ?_; intro K hK)); focus (simp only [hd, hgt, hlen, hv, hs, List.nil_append, List.cons_append, List.all_cons, SA, Nat.reduceAdd, reduceIte, Nat.reduceEqDiff, Nat.reduceBEq, reduceCtorEq]; (try go_unwrap; try simp only [hd, hgt, hlen, hv, hs, List.nil_append, List.cons_append, List.all_cons, RR, reduceCtorEq]))) | refine And.intro ?_ ?_ | exact Or.inr ⟨rfl, Nat.le_refl _⟩ | exact (fun h => Bool.noConfusion h))
      all_goals (rw [this])
  · have hd : decide ((i : Int) < xs.length) = false := by simp only [decide_eq_false_iff_not]; omega
    have := idxF_none (p := p) (xs := xs) (fun j hj => hall j hj (by omega))
    repeat' (first | exact True.intro | (refine PW.seqK ?_; intro K hK) | refine stp ?_ | refine seqK_n ‹_› ?_ | refine seqK_r ‹_› ?_ | refine seqK_e ‹_› ?_ | exact schedW_stop_i | refine schK_n ‹_› ?_ | (refine PW.cond rfl ?_ ?_ <;> intro hcond <;> (try contradiction) <;> try simp only [DD] at hcond) | (refine gd_i ?_; intro hg; try simp only [hg]) | (refine ari ?_; first | omega | (simp only [DD, LL] <;> omega) | (go_unwrap; omega)) | ((first | refine stq ?_ | show (_ : Post) _ _ _ | (refine schedW_alt_k ?_ ?_; intro K hK)); focus (simp only [hd, hlen, SA, Nat.reduceAdd, reduceIte, Nat.reduceEqDiff, Nat.reduceBEq, reduceCtorEq]; (try go_unwrap; try simp only [hd, hlen, RR, reduceCtorEq]))) | refine And.intro ?_ ?_ | exact Or.inr ⟨rfl, Nat.le_refl _⟩ | exact (fun h => Bool.noConfusion h))
    all_goals (rw [this])
theorem v124 (xs : List St) (p : St → Bool) (g : Nat) (caps : List PV) (hE : Ent Tryd.prog g) (hC : Cl caps) (hl : xs.length ≤ 9223372036854775807) (hg : ∀ x ∈ xs, VCalls Tryd.prog GK g (.str x :: caps) (.bool (p x))) :
    VCalls Tryd.prog GK 124 [txL xs, .fn g [] caps] (.bool (xs.any p)) := by
  refine VCalls.of_PW Tryd.func124 k124 mix (by simp [c124]) ?_
  simp only [c124, L124, argE]
  have hv := hC.view
  have hs := hC.seen
  have h41 := v122 xs p g caps hE hC hl hg
  rw [← idxF_any]
  repeat' (first | exact True.intro | (refine PW.seqK ?_; intro K hK) | refine stp ?_ | refine seqK_n ‹_› ?_ | refine seqK_r ‹_› ?_ | refine seqK_e ‹_› ?_ | exact schedW_stop_i | refine schK_n ‹_› ?_ | (refine PW.cond rfl ?_ ?_ <;> intro hcond <;> (try contradiction) <;> try simp only [DD] at hcond) | (refine gd_i ?_; intro hg; try simp only [hg]) | refine goCall_W e122 (h41) ?_ ?_ ?_ ?_ | (refine ari ?_; first | omega | (simp only [DD, LL] <;> omega) | (go_unwrap; omega)) | ((first | refine stq ?_ | show (_ : Post) _ _ _ | (refine schedW_alt_k ?_ ?_; intro K hK)); focus (simp only [hv, hs, SA, Nat.reduceAdd, reduceIte, Nat.reduceEqDiff, Nat.reduceBEq, reduceCtorEq]; (try go_unwrap; try simp only [hv, hs, RR, reduceCtorEq]))) | refine And.intro ?_ ?_ | exact Or.inr ⟨rfl, Nat.le_refl _⟩ | exact (fun h => Bool.noConfusion h))
theorem cl0 : Cl [] := ⟨fun _ => rfl, fun _ => rfl⟩
theorem v138 (s : St) : VCalls Tryd.prog GK 138 [.str s] (.bool (nmOk s)) := by
  refine VCalls.of_PW Tryd.func138 k138 mix (by simp [c138]) ?_
  simp only [c138, L138, argE]
  by_cases h : s = []
  · have d1 : decide (s = []) = true := by simpa using h
    have : nmOk s = false := by unfold nmOk; rw [d1]; rfl
    rw [this]
    repeat' (first | exact True.intro | (refine PW.seqK ?_; intro K hK) | refine stp ?_ | refine seqK_n ‹_› ?_ | refine seqK_r ‹_› ?_ | refine seqK_e ‹_› ?_ | exact schedW_stop_i | refine schK_n ‹_› ?_ | (refine PW.cond rfl ?_ ?_ <;> intro hcond <;> (try contradiction) <;> try simp only [DD] at hcond) | (refine gd_i ?_; intro hg; try simp only [hg]) | (refine ari ?_; first | omega | (simp only [DD, LL] <;> omega) | (go_unwrap; omega)) | ((first | refine stq ?_ | show (_ : Post) _ _ _ | (refine schedW_alt_k ?_ ?_; intro K hK)); focus (simp only [d1, SA, Nat.reduceAdd, reduceIte, Nat.reduceEqDiff, Nat.reduceBEq, reduceCtorEq]; (try go_unwrap; try simp only [d1, RR, reduceCtorEq]))) | refine And.intro ?_ ?_ | exact Or.inr ⟨rfl, Nat.le_refl _⟩ | exact (fun h => Bool.noConfusion h))
  · have d1 : decide (s = []) = false := by simpa using h
    have : nmOk s = decide ((s.length : Int) ≤ 32) := by unfold nmOk; rw [d1]; simp; omega
    rw [this]
    repeat' (first | exact True.intro | (refine PW.seqK ?_; intro K hK) | refine stp ?_ | refine seqK_n ‹_› ?_ | refine seqK_r ‹_› ?_ | refine seqK_e ‹_› ?_ | exact schedW_stop_i | refine schK_n ‹_› ?_ | (refine PW.cond rfl ?_ ?_ <;> intro hcond <;> (try contradiction) <;> try simp only [DD] at hcond) | (refine gd_i ?_; intro hg; try simp only [hg]) | (refine ari ?_; first | omega | (simp only [DD, LL] <;> omega) | (go_unwrap; omega)) | ((first | refine stq ?_ | show (_ : Post) _ _ _ | (refine schedW_alt_k ?_ ?_; intro K hK)); focus (simp only [d1, SA, Nat.reduceAdd, reduceIte, Nat.reduceEqDiff, Nat.reduceBEq, reduceCtorEq]; (try go_unwrap; try simp only [d1, RR, reduceCtorEq]))) | refine And.intro ?_ ?_ | exact Or.inr ⟨rfl, Nat.le_refl _⟩ | exact (fun h => Bool.noConfusion h))
theorem v139 (s : St) : VCalls Tryd.prog GK 139 [.str s] (.bool (!nmOk s)) := by
  refine VCalls.of_PW Tryd.func139 k139 mix (by simp [c139]) ?_
  simp only [c139, L139, argE]
  have h47 := v138 s
  repeat' (first | exact True.intro | (refine PW.seqK ?_; intro K hK) | refine stp ?_ | refine seqK_n ‹_› ?_ | refine seqK_r ‹_› ?_ | refine seqK_e ‹_› ?_ | exact schedW_stop_i | refine schK_n ‹_› ?_ | (refine PW.cond rfl ?_ ?_ <;> intro hcond <;> (try contradiction) <;> try simp only [DD] at hcond) | (refine gd_i ?_; intro hg; try simp only [hg]) | refine goCall_W e138 (h47) ?_ ?_ ?_ ?_ | (refine ari ?_; first | omega | (simp only [DD, LL] <;> omega) | (go_unwrap; omega)) | ((first | refine stq ?_ | show (_ : Post) _ _ _ | (refine schedW_alt_k ?_ ?_; intro K hK)); focus (simp only [SA, Nat.reduceAdd, reduceIte, Nat.reduceEqDiff, Nat.reduceBEq, reduceCtorEq]; (try go_unwrap; try simp only [RR, reduceCtorEq]))) | refine And.intro ?_ ?_ | exact Or.inr ⟨rfl, Nat.le_refl _⟩ | exact (fun h => Bool.noConfusion h))
/-! The document's helpers -/
end Go.Proofs.YthekpjhffciakaaDoor

