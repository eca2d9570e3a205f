import Derived.Test.YtcdfmdngnidpaaaGreatDoorProg
import Derived.KernelRfl
import Derived.Test.YtcdfmdngnidpaaaGreatDoorP4
namespace Go.Proofs.YtcdfmdngnidpaaaGreatDoor
open PG Go.Proofs
-- (wagebook/fact.Fact).Check
def L24 : List Nat := [0, 1, 2, 3, 4, 8, 18, 23, 25, 32, 45, 50]
def c24 : CF := ⟨56,
 .seq (.region false [⟨some 1, none, .eff (.box (some 8)) [.tmp 0]⟩,
 ⟨some 2, none, .rd .mov [.pv (.int .i64 0)]⟩] L24)
 (.seq (.seq (.region false [⟨some 5, none, .rd (.fldAddr 2) [.tmp 1]⟩,
 ⟨some 6, none, .rd (.load none) [.tmp 5]⟩,
 ⟨some 7, none, .call (.pv (.fn 29 [] [])) [.tmp 6]⟩,
 ⟨some 8, none, .rd (.un .not) [.tmp 7]⟩] L24)
 (.cond (.tmp 8)
 (.seq (.region false [⟨some 2, none, .rd .mov [.pv (.int .i64 11)]⟩] L24)
 (.ret))
 (.skip)))
 (.seq (.regionA (.alt [⟨some 10, none, .rd (.fldAddr 2) [.tmp 1]⟩]
 (.alt [⟨some 9, none, .call (.pv (.fn 30 [] [])) []⟩]
 (.alt [⟨some 11, none, .rd (.load none) [.tmp 10]⟩,
 ⟨some 12, none, .rd (.idxA 19 (some 7)) [.tmp 9, .tmp 11]⟩,
 ⟨some 3, none, .eff (.alloc (some 7) (.agg [(.str []), (.bool false), (.bool false), .nilFn, (.int .i64 0), (.int .i64 0), .nilFn])) []⟩,
 ⟨none, none, .eff (.store (some 7)) [.tmp 3, .tmp 12]⟩]
 .done
 (.alt [⟨some 3, none, .eff (.alloc (some 7) (.agg [(.str []), (.bool false), (.bool false), .nilFn, (.int .i64 0), (.int .i64 0), .nilFn])) []⟩,
 ⟨some 11, none, .rd (.load none) [.tmp 10]⟩,
 ⟨some 12, none, .rd (.idxA 19 (some 7)) [.tmp 9, .tmp 11]⟩,
 ⟨none, none, .eff (.store (some 7)) [.tmp 3, .tmp 12]⟩]
 .done
 .stop))
 (.alt [⟨some 11, none, .rd (.load none) [.tmp 10]⟩]
 (.alt [⟨some 9, none, .call (.pv (.fn 30 [] [])) []⟩,
 ⟨some 12, none, .rd (.idxA 19 (some 7)) [.tmp 9, .tmp 11]⟩,
 ⟨some 3, none, .eff (.alloc (some 7) (.agg [(.str []), (.bool false), (.bool false), .nilFn, (.int .i64 0), (.int .i64 0), .nilFn])) []⟩,
 ⟨none, none, .eff (.store (some 7)) [.tmp 3, .tmp 12]⟩]
 .done
 (.alt [⟨some 3, none, .eff (.alloc (some 7) (.agg [(.str []), (.bool false), (.bool false), .nilFn, (.int .i64 0), (.int .i64 0), .nilFn])) []⟩,
 ⟨some 9, none, .call (.pv (.fn 30 [] [])) []⟩,
 ⟨some 12, none, .rd (.idxA 19 (some 7)) [.tmp 9, .tmp 11]⟩,
 ⟨none, none, .eff (.store (some 7)) [.tmp 3, .tmp 12]⟩]
 .done
 .stop))
 (.alt [⟨some 3, none, .eff (.alloc (some 7) (.agg [(.str []), (.bool false), (.bool false), .nilFn, (.int .i64 0), (.int .i64 0), .nilFn])) []⟩]
 (.alt [⟨some 9, none, .call (.pv (.fn 30 [] [])) []⟩,
 ⟨some 11, none, .rd (.load none) [.tmp 10]⟩,
 ⟨some 12, none, .rd (.idxA 19 (some 7)) [.tmp 9, .tmp 11]⟩,
 ⟨none, none, .eff (.store (some 7)) [.tmp 3, .tmp 12]⟩]
 .done
 (.alt [⟨some 11, none, .rd (.load none) [.tmp 10]⟩,
 ⟨some 9, none, .call (.pv (.fn 30 [] [])) []⟩,
 ⟨some 12, none, .rd (.idxA 19 (some 7)) [.tmp 9, .tmp 11]⟩,
 ⟨none, none, .eff (.store (some 7)) [.tmp 3, .tmp 12]⟩]
 .done
 .stop))
 .stop)))
 .stop) L24)
 (.seq (.seq (.region false [⟨some 13, none, .rd (.fldAddr 1) [.tmp 3]⟩,
 ⟨some 14, none, .rd (.load none) [.tmp 13]⟩,
 ⟨some 15, none, .rd (.fldAddr 1) [.tmp 1]⟩,
 ⟨some 16, none, .rd (.load none) [.tmp 15]⟩,
 ⟨some 17, none, .rd (.bin .eql) [.tmp 16, .pv (.int .u32 0)]⟩,
 ⟨some 18, none, .rd (.eqB true) [.tmp 14, .tmp 17]⟩] L24)
 (.cond (.tmp 18)
 (.seq (.region false [⟨some 2, none, .rd .mov [.pv (.int .i64 2)]⟩] L24)
 (.ret))
 (.skip)))
 (.seq (.seq (.region false [⟨some 19, none, .rd (.load (some 8)) [.tmp 1]⟩,
 ⟨some 20, none, .rd (.load (some 7)) [.tmp 3]⟩,
 ⟨some 21, none, .call (.pv (.fn 31 [] [])) [.tmp 19, .tmp 20]⟩,
 ⟨some 4, none, .rd .mov [.tmp 21]⟩] L24)
 (.seq (.region false [⟨some 22, none, .rd .mov [.tmp 4]⟩,
 ⟨some 23, none, .rd (.bin .neq) [.tmp 22, .pv (.int .i64 0)]⟩] L24)
 (.cond (.tmp 23)
 (.seq (.region false [⟨some 24, none, .rd .mov [.tmp 4]⟩,
 ⟨some 2, none, .rd .mov [.tmp 24]⟩] L24)
 (.ret))
 (.skip))))
 (.seq (.block 0
 (.seq (.region false [⟨some 26, none, .rd (.fldAddr 3) [.tmp 3]⟩,
 ⟨some 27, none, .rd (.load none) [.tmp 26]⟩,
 ⟨some 28, none, .rd (.fldAddr 5) [.tmp 1]⟩,
 ⟨some 29, none, .rd (.load none) [.tmp 28]⟩,
 ⟨some 30, none, .call (.tmp 27) [.tmp 29]⟩,
 ⟨some 31, none, .rd (.un .not) [.tmp 30]⟩,
 ⟨some 25, none, .rd .mov [.tmp 31]⟩] L24)
 (.cond (.tmp 25)
 (.seq (.region false [⟨some 2, none, .rd .mov [.pv (.int .i64 12)]⟩] L24)
 (.ret))
 (.seq (.region false [⟨some 33, none, .rd (.fldAddr 6) [.tmp 1]⟩,
 ⟨some 34, none, .rd (.load none) [.tmp 33]⟩,
 ⟨some 35, none, .rd (.fldAddr 4) [.tmp 3]⟩,
 ⟨some 36, none, .rd (.load none) [.tmp 35]⟩,
 ⟨some 37, none, .rd (.bin .lss) [.tmp 34, .tmp 36]⟩,
 ⟨some 38, none, .rd .mov [.tmp 37]⟩,
 ⟨some 39, some (38, false), .rd (.fldAddr 6) [.tmp 1]⟩,
 ⟨some 40, some (38, false), .rd (.load none) [.tmp 39]⟩,
 ⟨some 41, some (38, false), .rd (.fldAddr 5) [.tmp 3]⟩,
 ⟨some 42, some (38, false), .rd (.load none) [.tmp 41]⟩,
 ⟨some 43, some (38, false), .rd (.bin .gtr) [.tmp 40, .tmp 42]⟩,
 ⟨some 44, none, .rd .pick [.tmp 38, .pv (.bool true), .tmp 43]⟩,
 ⟨some 32, none, .rd .mov [.tmp 44]⟩] L24)
 (.cond (.tmp 32)
 (.seq (.region false [⟨some 2, none, .rd .mov [.pv (.int .i64 2)]⟩] L24)
 (.ret))
 (.seq (.region false [⟨some 46, none, .rd (.fldAddr 7) [.tmp 1]⟩,
 ⟨some 47, none, .rd (.load none) [.tmp 46]⟩,
 ⟨some 48, none, .rd .lenS [.tmp 47]⟩,
 ⟨some 49, none, .rd (.bin .gtr) [.tmp 48, .pv (.int .i64 4096)]⟩,
 ⟨some 45, none, .rd .mov [.tmp 49]⟩] L24)
 (.cond (.tmp 45)
 (.seq (.region false [⟨some 2, none, .rd .mov [.pv (.int .i64 4)]⟩] L24)
 (.ret))
 (.seq (.region false [⟨some 51, none, .rd (.fldAddr 6) [.tmp 3]⟩,
 ⟨some 52, none, .rd (.load none) [.tmp 51]⟩,
 ⟨some 53, none, .rd (.load (some 8)) [.tmp 1]⟩,
 ⟨some 54, none, .call (.tmp 52) [.tmp 53]⟩,
 ⟨some 55, none, .rd (.un .not) [.tmp 54]⟩,
 ⟨some 50, none, .rd .mov [.tmp 55]⟩] L24)
 (.cond (.tmp 50)
 (.seq (.region false [⟨some 2, none, .rd .mov [.pv (.int .i64 3)]⟩] L24)
 (.ret))
 (.skip))))))))))
 (.seq (.region false [⟨some 2, none, .rd .mov [.pv (.int .i64 0)]⟩] L24)
 (.ret))))))),
 [.tmp 2]⟩

-- (wagebook/store.Store).place
def L25 : List Nat := [0, 1, 2, 3, 4, 6]
def c25 : CF := ⟨11,
 .seq (.region false [⟨some 2, none, .eff (.box (some 1)) [.tmp 0]⟩,
 ⟨some 3, none, .eff (.box none) [.tmp 1]⟩,
 ⟨some 4, none, .rd .mov [.pv (.int .i64 0)]⟩] L25)
 (.seq (.seq (.region false [⟨some 5, none, .rd (.load none) [.tmp 3]⟩,
 ⟨some 6, none, .rd (.bin .eql) [.tmp 5, .pv (.int .u32 0)]⟩] L25)
 (.cond (.tmp 6)
 (.seq (.region false [⟨some 4, none, .rd .mov [.pv (.int .i64 (-1))]⟩] L25)
 (.ret))
 (.skip)))
 (.seq (.region false [⟨some 7, none, .rd (.fldAddr 0) [.tmp 2]⟩,
 ⟨some 8, none, .rd (.load none) [.tmp 7]⟩,
 ⟨some 9, none, .rd (.mkFn 33 0) [.tmp 3]⟩,
 ⟨some 10, none, .call (.pv (.fn 32 [] [])) [.tmp 8, .tmp 9]⟩,
 ⟨some 4, none, .rd .mov [.tmp 10]⟩] L25)
 (.ret))),
 [.tmp 4]⟩

-- (wagebook/store.Store).cancel
def L26 : List Nat := [0, 1, 2, 3, 4, 5, 9, 16, 26]
def c26 : CF := ⟨32,
 .seq (.region false [⟨some 2, none, .eff (.box (some 1)) [.tmp 0]⟩,
 ⟨some 3, none, .eff (.box (some 8)) [.tmp 1]⟩,
 ⟨some 4, none, .rd .mov [.pv (.int .i64 0)]⟩] L26)
 (.seq (.block 0
 (.seq (.region false [⟨some 6, none, .rd (.fldAddr 2) [.tmp 3]⟩,
 ⟨some 7, none, .rd (.load none) [.tmp 6]⟩,
 ⟨some 8, none, .rd (.bin .neq) [.tmp 7, .pv (.int .i64 18)]⟩,
 ⟨some 5, none, .rd .mov [.tmp 8]⟩] L26)
 (.cond (.tmp 5)
 (.seq (.region false [⟨some 4, none, .rd .mov [.pv (.int .i64 0)]⟩] L26)
 (.ret))
 (.seq (.region false [⟨some 10, none, .rd (.fldAddr 6) [.tmp 3]⟩,
 ⟨some 11, none, .rd (.load none) [.tmp 10]⟩,
 ⟨some 12, none, .rd (.fldAddr 0) [.tmp 2]⟩,
 ⟨some 13, none, .rd (.load none) [.tmp 12]⟩,
 ⟨some 14, none, .rd .lenL [.tmp 13]⟩,
 ⟨some 15, none, .rd (.bin .gtr) [.tmp 11, .tmp 14]⟩,
 ⟨some 9, none, .rd .mov [.tmp 15]⟩] L26)
 (.cond (.tmp 9)
 (.seq (.region false [⟨some 4, none, .rd .mov [.pv (.int .i64 6)]⟩] L26)
 (.ret))
 (.seq (.region false [⟨some 17, none, .rd (.fldAddr 0) [.tmp 2]⟩,
 ⟨some 18, none, .rd (.load none) [.tmp 17]⟩,
 ⟨some 19, none, .rd (.fldAddr 6) [.tmp 3]⟩,
 ⟨some 20, none, .rd (.load none) [.tmp 19]⟩,
 ⟨some 21, none, .rd (.bin .sub) [.tmp 20, .pv (.int .i64 1)]⟩,
 ⟨some 22, none, .rd (.idxAddr (some 8)) [.tmp 18, .tmp 21]⟩,
 ⟨some 23, none, .rd (.fldAddr 2) [.tmp 22]⟩,
 ⟨some 24, none, .rd (.load none) [.tmp 23]⟩,
 ⟨some 25, none, .rd (.bin .eql) [.tmp 24, .pv (.int .i64 18)]⟩,
 ⟨some 16, none, .rd .mov [.tmp 25]⟩] L26)
 (.cond (.tmp 16)
 (.seq (.region false [⟨some 4, none, .rd .mov [.pv (.int .i64 11)]⟩] L26)
 (.ret))
 (.seq (.region false [⟨some 27, none, .rd (.fldAddr 0) [.tmp 2]⟩,
 ⟨some 28, none, .rd (.load none) [.tmp 27]⟩,
 ⟨some 29, none, .rd (.fldAddr 6) [.tmp 3]⟩,
 ⟨some 30, none, .rd (.load none) [.tmp 29]⟩,
 ⟨some 31, none, .call (.pv (.fn 34 [] [])) [.tmp 28, .tmp 30]⟩,
 ⟨some 26, none, .rd .mov [.tmp 31]⟩] L26)
 (.cond (.tmp 26)
 (.seq (.region false [⟨some 4, none, .rd .mov [.pv (.int .i64 18)]⟩] L26)
 (.ret))
 (.skip))))))))))
 (.seq (.region false [⟨some 4, none, .rd .mov [.pv (.int .i64 0)]⟩] L26)
 (.ret))),
 [.tmp 4]⟩

-- (wagebook/fact.Fact).Same
def L28 : List Nat := [0, 1, 2, 3, 5, 11, 12, 13, 14, 31]
def c28 : CF := ⟨39,
 .seq (.region false [⟨some 1, none, .eff (.box (some 1)) [.tmp 0]⟩,
 ⟨some 2, none, .rd .mov [.pv .nilSl]⟩] L28)
 (.seq (.region false [⟨some 6, none, .rd (.fldAddr 0) [.tmp 1]⟩,
 ⟨some 7, none, .rd (.load none) [.tmp 6]⟩,
 ⟨some 8, none, .rd .lenL [.tmp 7]⟩,
 ⟨some 9, none, .eff (.make none (.bool false) 1) [.tmp 8, .tmp 8]⟩,
 ⟨some 3, none, .rd .mov [.tmp 9]⟩] L28)
 (.seq (.seq (.region false [⟨some 10, none, .rd (.fldAddr 0) [.tmp 1]⟩,
 ⟨some 11, none, .rd (.load none) [.tmp 10]⟩,
 ⟨some 12, none, .rd .lenL [.tmp 11]⟩,
 ⟨some 13, none, .rd .mov [.pv (.int .i64 0)]⟩] L28)
 (.block 0
 (.loop
 (.seq (.region false [⟨some 14, none, .rd (.bin .lss) [.tmp 13, .tmp 12]⟩] L28)
 (.seq (.cond (.tmp 14)
 (.skip)
 (.exit 0))
 (.seq (.block 1
 (.seq (.region false [⟨some 15, none, .rd (.idxAddr (some 8)) [.tmp 11, .tmp 13]⟩,
 ⟨some 16, none, .rd (.load (some 8)) [.tmp 15]⟩,
 ⟨some 5, none, .eff (.alloc (some 8) (.agg [(.int .u32 0), (.int .u32 0), (.int .i64 0), (.int .i64 0), (.int .i64 0), (.str []), (.int .i64 0), (.str [])])) []⟩,
 ⟨none, none, .eff (.store (some 8)) [.tmp 5, .tmp 16]⟩] L28)
 (.seq (.region false [⟨some 17, none, .rd (.fldAddr 2) [.tmp 5]⟩,
 ⟨some 18, none, .rd (.load none) [.tmp 17]⟩,
 ⟨some 19, none, .rd (.bin .eql) [.tmp 18, .pv (.int .i64 18)]⟩,
 ⟨some 20, none, .rd .mov [.tmp 19]⟩,
 ⟨some 21, some (20, true), .rd (.fldAddr 6) [.tmp 5]⟩,
 ⟨some 22, some (20, true), .rd (.load none) [.tmp 21]⟩,
 ⟨some 23, some (20, true), .rd (.bin .geq) [.tmp 22, .pv (.int .i64 1)]⟩,
 ⟨some 24, none, .rd .pick [.tmp 20, .tmp 23, .pv (.bool false)]⟩,
 ⟨some 25, none, .rd .mov [.tmp 24]⟩,
 ⟨some 26, some (25, true), .rd (.fldAddr 6) [.tmp 5]⟩,
 ⟨some 27, some (25, true), .rd (.load none) [.tmp 26]⟩,
 ⟨some 28, some (25, true), .rd .mov [.tmp 3]⟩,
 ⟨some 29, some (25, true), .rd .lenL [.tmp 28]⟩,
 ⟨some 30, some (25, true), .rd (.bin .leq) [.tmp 27, .tmp 29]⟩,
 ⟨some 31, none, .rd .pick [.tmp 25, .tmp 30, .pv (.bool false)]⟩] L28)
 (.cond (.tmp 31)
 (.region false [⟨some 32, none, .rd .mov [.tmp 3]⟩,
 ⟨some 33, none, .rd (.fldAddr 6) [.tmp 5]⟩,
 ⟨some 34, none, .rd (.load none) [.tmp 33]⟩,
 ⟨some 35, none, .rd (.bin .sub) [.tmp 34, .pv (.int .i64 1)]⟩,
 ⟨some 36, none, .rd (.idxAddr none) [.tmp 32, .tmp 35]⟩,
 ⟨none, none, .eff (.store none) [.tmp 36, .pv (.bool true)]⟩] L28)
 (.skip)))))
 (.region false [⟨some 37, none, .rd (.bin .add) [.tmp 13, .pv (.int .i64 1)]⟩,
 ⟨some 13, none, .rd .mov [.tmp 37]⟩] L28)))))))
 (.seq (.region false [⟨some 38, none, .rd .mov [.tmp 3]⟩,
 ⟨some 2, none, .rd .mov [.tmp 38]⟩] L28)
 (.ret)))),
 [.tmp 2]⟩

-- wagebook/fact.known
def L29 : List Nat := [0, 2]
def c29 : CF := ⟨9,
 .seq (.region false [⟨some 2, none, .rd .mov [.pv (.bool false)]⟩] L29)
 (.seq (.region false [⟨some 3, none, .rd .mov [.tmp 0]⟩,
 ⟨some 4, none, .rd (.bin .geq) [.tmp 3, .pv (.int .i64 1)]⟩,
 ⟨some 5, none, .rd .mov [.tmp 4]⟩,
 ⟨some 6, some (5, true), .rd .mov [.tmp 0]⟩,
 ⟨some 7, some (5, true), .rd (.bin .leq) [.tmp 6, .pv (.int .i64 18)]⟩,
 ⟨some 8, none, .rd .pick [.tmp 5, .tmp 7, .pv (.bool false)]⟩,
 ⟨some 2, none, .rd .mov [.tmp 8]⟩] L29)
 (.ret)),
 [.tmp 2]⟩

-- wagebook/fact.rules
def L30 : List Nat := [0, 1, 2, 3, 4]
def c30 : CF := ⟨29,
 .seq (.region false [⟨some 0, none, .eff (.alloc (some 133) (.agg [(.str []), (.bool false), (.bool false), .nilFn, (.int .i64 0), (.int .i64 0), .nilFn, (.str []), (.bool false), (.bool false), .nilFn, (.int .i64 0), (.int .i64 0), .nilFn, (.str []), (.bool false), (.bool false), .nilFn, (.int .i64 0), (.int .i64 0), .nilFn, (.str []), (.bool false), (.bool false), .nilFn, (.int .i64 0), (.int .i64 0), .nilFn, (.str []), (.bool false), (.bool false), .nilFn, (.int .i64 0), (.int .i64 0), .nilFn, (.str []), (.bool false), (.bool false), .nilFn, (.int .i64 0), (.int .i64 0), .nilFn, (.str []), (.bool false), (.bool false), .nilFn, (.int .i64 0), (.int .i64 0), .nilFn, (.str []), (.bool false), (.bool false), .nilFn, (.int .i64 0), (.int .i64 0), .nilFn, (.str []), (.bool false), (.bool false), .nilFn, (.int .i64 0), (.int .i64 0), .nilFn, (.str []), (.bool false), (.bool false), .nilFn, (.int .i64 0), (.int .i64 0), .nilFn, (.str []), (.bool false), (.bool false), .nilFn, (.int .i64 0), (.int .i64 0), .nilFn, (.str []), (.bool false), (.bool false), .nilFn, (.int .i64 0), (.int .i64 0), .nilFn, (.str []), (.bool false), (.bool false), .nilFn, (.int .i64 0), (.int .i64 0), .nilFn, (.str []), (.bool false), (.bool false), .nilFn, (.int .i64 0), (.int .i64 0), .nilFn, (.str []), (.bool false), (.bool false), .nilFn, (.int .i64 0), (.int .i64 0), .nilFn, (.str []), (.bool false), (.bool false), .nilFn, (.int .i64 0), (.int .i64 0), .nilFn, (.str []), (.bool false), (.bool false), .nilFn, (.int .i64 0), (.int .i64 0), .nilFn, (.str []), (.bool false), (.bool false), .nilFn, (.int .i64 0), (.int .i64 0), .nilFn, (.str []), (.bool false), (.bool false), .nilFn, (.int .i64 0), (.int .i64 0), .nilFn])) []⟩] L30)
 (.seq (.region false [⟨some 1, none, .rd .mov [.pv (.fn 35 [] [])]⟩] L30)
 (.seq (.region false [⟨some 2, none, .rd .mov [.pv (.fn 37 [] [])]⟩] L30)
 (.seq (.region false [⟨some 3, none, .rd .mov [.pv (.fn 38 [] [])]⟩] L30)
 (.seq (.region false [⟨some 4, none, .rd .mov [.pv (.fn 40 [] [])]⟩] L30)
 (.seq (.region false [⟨some 5, none, .rd (.build [(.str []), (.bool false), (.bool false), .nilFn, (.int .i64 0), (.int .i64 0), .nilFn] [(0, 1), (1, 1), (2, 1), (3, 1), (4, 1), (5, 1), (6, 1)]) [.pv (.str [101, 109, 112, 108, 111, 121]), .pv (.bool false), .pv (.bool true), .pv (.fn 41 [] []), .pv (.int .i64 0), .pv (.int .i64 1), .pv (.fn 42 [] [])]⟩,
 ⟨some 6, none, .rd (.build [(.str []), (.bool false), (.bool false), .nilFn, (.int .i64 0), (.int .i64 0), .nilFn] [(0, 1), (1, 1), (2, 1), (3, 1), (4, 1), (5, 1), (6, 1)]) [.pv (.str [115, 97, 108, 97, 114, 121]), .pv (.bool false), .pv (.bool true), .pv (.fn 41 [] []), .pv (.int .i64 0), .pv (.int .i64 1125899906842624), .pv (.fn 42 [] [])]⟩,
 ⟨some 7, none, .rd (.build [(.str []), (.bool false), (.bool false), .nilFn, (.int .i64 0), (.int .i64 0), .nilFn] [(0, 1), (1, 1), (2, 1), (3, 1), (4, 1), (5, 1), (6, 1)]) [.pv (.str [112, 97, 114, 116]), .pv (.bool false), .pv (.bool true), .pv (.fn 41 [] []), .pv (.int .i64 0), .pv (.int .i64 1000000), .pv (.fn 42 [] [])]⟩,
 ⟨some 8, none, .rd (.build [(.str []), (.bool false), (.bool false), .nilFn, (.int .i64 0), (.int .i64 0), .nilFn] [(0, 1), (1, 1), (2, 1), (3, 1), (4, 1), (5, 1), (6, 1)]) [.pv (.str [104, 111, 117, 114, 115]), .pv (.bool false), .pv (.bool true), .pv (.fn 41 [] []), .pv (.int .i64 0), .pv (.int .i64 0), .pv (.fn 43 [] [])]⟩,
 ⟨some 9, none, .rd (.build [(.str []), (.bool false), (.bool false), .nilFn, (.int .i64 0), (.int .i64 0), .nilFn] [(0, 1), (1, 1), (2, 1), (3, 1), (4, 1), (5, 1), (6, 1)]) [.pv (.str [99, 111, 115, 116]), .pv (.bool false), .pv (.bool true), .pv (.fn 41 [] []), .pv (.int .i64 0), .pv (.int .i64 0), .pv (.fn 44 [] [])]⟩,
 ⟨some 10, none, .rd .mov [.tmp 1]⟩,
 ⟨some 11, none, .rd (.build [(.str []), (.bool false), (.bool false), .nilFn, (.int .i64 0), (.int .i64 0), .nilFn] [(0, 1), (1, 1), (2, 1), (3, 1), (4, 1), (5, 1), (6, 1)]) [.pv (.str [115, 104, 101, 101, 116]), .pv (.bool false), .pv (.bool false), .tmp 10, .pv (.int .i64 0), .pv (.int .i64 1440), .pv (.fn 46 [] [])]⟩,
 ⟨some 12, none, .rd (.build [(.str []), (.bool false), (.bool false), .nilFn, (.int .i64 0), (.int .i64 0), .nilFn] [(0, 1), (1, 1), (2, 1), (3, 1), (4, 1), (5, 1), (6, 1)]) [.pv (.str [97, 98, 115, 101, 110, 116]), .pv (.bool false), .pv (.bool true), .pv (.fn 47 [] []), .pv (.int .i64 0), .pv (.int .i64 1000000), .pv (.fn 42 [] [])]⟩,
 ⟨some 13, none, .rd (.build [(.str []), (.bool false), (.bool false), .nilFn, (.int .i64 0), (.int .i64 0), .nilFn] [(0, 1), (1, 1), (2, 1), (3, 1), (4, 1), (5, 1), (6, 1)]) [.pv (.str [98, 111, 110, 117, 115]), .pv (.bool false), .pv (.bool false), .pv (.fn 36 [] []), .pv (.int .i64 (-1125899906842624)), .pv (.int .i64 1125899906842624), .pv (.fn 42 [] [])]⟩,
 ⟨some 14, none, .rd (.build [(.str []), (.bool false), (.bool false), .nilFn, (.int .i64 0), (.int .i64 0), .nilFn] [(0, 1), (1, 1), (2, 1), (3, 1), (4, 1), (5, 1), (6, 1)]) [.pv (.str [101, 110, 114, 111, 108]), .pv (.bool false), .pv (.bool true), .pv (.fn 36 [] []), .pv (.int .i64 0), .pv (.int .i64 1125899906842624), .pv (.fn 42 [] [])]⟩,
 ⟨some 15, none, .rd (.build [(.str []), (.bool false), (.bool false), .nilFn, (.int .i64 0), (.int .i64 0), .nilFn] [(0, 1), (1, 1), (2, 1), (3, 1), (4, 1), (5, 1), (6, 1)]) [.pv (.str [100, 101, 100, 117, 99, 116]), .pv (.bool false), .pv (.bool true), .pv (.fn 36 [] []), .pv (.int .i64 0), .pv (.int .i64 1125899906842624), .pv (.fn 42 [] [])]⟩,
 ⟨some 16, none, .rd .mov [.tmp 2]⟩,
 ⟨some 17, none, .rd (.build [(.str []), (.bool false), (.bool false), .nilFn, (.int .i64 0), (.int .i64 0), .nilFn] [(0, 1), (1, 1), (2, 1), (3, 1), (4, 1), (5, 1), (6, 1)]) [.pv (.str [99, 97, 114, 100]), .pv (.bool false), .pv (.bool true), .pv (.fn 41 [] []), .pv (.int .i64 0), .pv (.int .i64 1125899906842624), .tmp 16]⟩,
 ⟨some 18, none, .rd (.build [(.str []), (.bool false), (.bool false), .nilFn, (.int .i64 0), (.int .i64 0), .nilFn] [(0, 1), (1, 1), (2, 1), (3, 1), (4, 1), (5, 1), (6, 1)]) [.pv (.str [97, 116, 116, 97, 99, 104]), .pv (.bool false), .pv (.bool true), .pv (.fn 36 [] []), .pv (.int .i64 0), .pv (.int .i64 1125899906842624), .pv (.fn 48 [] [])]⟩,
 ⟨some 19, none, .rd .mov [.tmp 2]⟩,
 ⟨some 20, none, .rd (.build [(.str []), (.bool false), (.bool false), .nilFn, (.int .i64 0), (.int .i64 0), .nilFn] [(0, 1), (1, 1), (2, 1), (3, 1), (4, 1), (5, 1), (6, 1)]) [.pv (.str [98, 97, 110, 107]), .pv (.bool false), .pv (.bool true), .pv (.fn 41 [] []), .pv (.int .i64 0), .pv (.int .i64 0), .tmp 19]⟩,
 ⟨some 21, none, .rd .mov [.tmp 3]⟩,
 ⟨some 22, none, .rd (.build [(.str []), (.bool false), (.bool false), .nilFn, (.int .i64 0), (.int .i64 0), .nilFn] [(0, 1), (1, 1), (2, 1), (3, 1), (4, 1), (5, 1), (6, 1)]) [.pv (.str [114, 117, 108, 101]), .pv (.bool true), .pv (.bool true), .pv (.fn 36 [] []), .pv (.int .i64 (-1125899906842624)), .pv (.int .i64 1125899906842624), .tmp 21]⟩,
 ⟨some 23, none, .rd .mov [.tmp 4]⟩,
 ⟨some 24, none, .rd (.build [(.str []), (.bool false), (.bool false), .nilFn, (.int .i64 0), (.int .i64 0), .nilFn] [(0, 1), (1, 1), (2, 1), (3, 1), (4, 1), (5, 1), (6, 1)]) [.pv (.str [101, 108, 101, 109, 101, 110, 116]), .pv (.bool true), .pv (.bool true), .pv (.fn 36 [] []), .pv (.int .i64 0), .pv (.int .i64 0), .tmp 23]⟩,
 ⟨some 25, none, .rd (.build [(.str []), (.bool false), (.bool false), .nilFn, (.int .i64 0), (.int .i64 0), .nilFn] [(0, 1), (1, 1), (2, 1), (3, 1), (4, 1), (5, 1), (6, 1)]) [.pv (.str [104, 111, 108, 105, 100, 97, 121]), .pv (.bool true), .pv (.bool false), .pv (.fn 41 [] []), .pv (.int .i64 0), .pv (.int .i64 0), .pv (.fn 42 [] [])]⟩,
 ⟨some 26, none, .rd (.build [(.str []), (.bool false), (.bool false), .nilFn, (.int .i64 0), (.int .i64 0), .nilFn] [(0, 1), (1, 1), (2, 1), (3, 1), (4, 1), (5, 1), (6, 1)]) [.pv (.str [103, 114, 97, 110, 116]), .pv (.bool false), .pv (.bool false), .pv (.fn 41 [] []), .pv (.int .i64 0), .pv (.int .i64 100000), .pv (.fn 42 [] [])]⟩,
 ⟨some 27, none, .rd (.build [(.str []), (.bool false), (.bool false), .nilFn, (.int .i64 0), (.int .i64 0), .nilFn] [(0, 1), (1, 1), (2, 1), (3, 1), (4, 1), (5, 1), (6, 1)]) [.pv (.str [99, 97, 110, 99, 101, 108]), .pv (.bool true), .pv (.bool false), .pv (.fn 41 [] []), .pv (.int .i64 1), .pv (.int .i64 4096), .pv (.fn 42 [] [])]⟩,
 ⟨some 28, none, .rd (.build [(.str []), (.bool false), (.bool false), .nilFn, (.int .i64 0), (.int .i64 0), .nilFn, (.str []), (.bool false), (.bool false), .nilFn, (.int .i64 0), (.int .i64 0), .nilFn, (.str []), (.bool false), (.bool false), .nilFn, (.int .i64 0), (.int .i64 0), .nilFn, (.str []), (.bool false), (.bool false), .nilFn, (.int .i64 0), (.int .i64 0), .nilFn, (.str []), (.bool false), (.bool false), .nilFn, (.int .i64 0), (.int .i64 0), .nilFn, (.str []), (.bool false), (.bool false), .nilFn, (.int .i64 0), (.int .i64 0), .nilFn, (.str []), (.bool false), (.bool false), .nilFn, (.int .i64 0), (.int .i64 0), .nilFn, (.str []), (.bool false), (.bool false), .nilFn, (.int .i64 0), (.int .i64 0), .nilFn, (.str []), (.bool false), (.bool false), .nilFn, (.int .i64 0), (.int .i64 0), .nilFn, (.str []), (.bool false), (.bool false), .nilFn, (.int .i64 0), (.int .i64 0), .nilFn, (.str []), (.bool false), (.bool false), .nilFn, (.int .i64 0), (.int .i64 0), .nilFn, (.str []), (.bool false), (.bool false), .nilFn, (.int .i64 0), (.int .i64 0), .nilFn, (.str []), (.bool false), (.bool false), .nilFn, (.int .i64 0), (.int .i64 0), .nilFn, (.str []), (.bool false), (.bool false), .nilFn, (.int .i64 0), (.int .i64 0), .nilFn, (.str []), (.bool false), (.bool false), .nilFn, (.int .i64 0), (.int .i64 0), .nilFn, (.str []), (.bool false), (.bool false), .nilFn, (.int .i64 0), (.int .i64 0), .nilFn, (.str []), (.bool false), (.bool false), .nilFn, (.int .i64 0), (.int .i64 0), .nilFn, (.str []), (.bool false), (.bool false), .nilFn, (.int .i64 0), (.int .i64 0), .nilFn, (.str []), (.bool false), (.bool false), .nilFn, (.int .i64 0), (.int .i64 0), .nilFn] [(7, 7), (14, 7), (21, 7), (28, 7), (35, 7), (42, 7), (49, 7), (56, 7), (63, 7), (70, 7), (77, 7), (84, 7), (91, 7), (98, 7), (105, 7), (112, 7), (119, 7), (126, 7)]) [.tmp 5, .tmp 6, .tmp 7, .tmp 8, .tmp 9, .tmp 11, .tmp 12, .tmp 13, .tmp 14, .tmp 15, .tmp 17, .tmp 18, .tmp 20, .tmp 22, .tmp 24, .tmp 25, .tmp 26, .tmp 27]⟩,
 ⟨none, none, .eff (.store (some 133)) [.tmp 0, .tmp 28]⟩] L30)
 (.ret)))))),
 [.cell 0 (some 133)]⟩

-- (wagebook/fact.Fact).days
def L31 : List Nat := [0, 1, 2, 3, 4, 5, 22, 38]
def c31 : CF := ⟨42,
 .seq (.region false [⟨some 2, none, .eff (.box (some 8)) [.tmp 0]⟩,
 ⟨some 3, none, .eff (.box (some 7)) [.tmp 1]⟩,
 ⟨some 4, none, .rd .mov [.pv (.int .i64 0)]⟩] L31)
 (.seq (.block 0
 (.seq (.seq (.region false [⟨some 6, none, .rd (.fldAddr 2) [.tmp 2]⟩,
 ⟨some 7, none, .rd (.load none) [.tmp 6]⟩,
 ⟨some 8, none, .rd (.bin .eql) [.tmp 7, .pv (.int .i64 18)]⟩,
 ⟨some 9, none, .rd .mov [.tmp 8]⟩,
 ⟨some 10, some (9, true), .rd (.fldAddr 3) [.tmp 2]⟩,
 ⟨some 11, some (9, true), .rd (.load none) [.tmp 10]⟩,
 ⟨some 12, some (9, true), .rd (.bin .neq) [.tmp 11, .pv (.int .i64 0)]⟩,
 ⟨some 13, none, .rd .pick [.tmp 9, .tmp 12, .pv (.bool false)]⟩,
 ⟨some 5, none, .rd .mov [.tmp 13]⟩] L31)
 (.cond (.tmp 5)
 (.skip)
 (.region false [⟨some 14, none, .rd (.fldAddr 3) [.tmp 2]⟩,
 ⟨some 15, none, .rd (.load none) [.tmp 14]⟩,
 ⟨some 16, none, .rd (.bin .lss) [.tmp 15, .pv (.int .i64 (-25567))]⟩,
 ⟨some 17, none, .rd .mov [.tmp 16]⟩,
 ⟨some 18, some (17, false), .rd (.fldAddr 3) [.tmp 2]⟩,
 ⟨some 19, some (17, false), .rd (.load none) [.tmp 18]⟩,
 ⟨some 20, some (17, false), .rd (.bin .gtr) [.tmp 19, .pv (.int .i64 84005)]⟩,
 ⟨some 21, none, .rd .pick [.tmp 17, .pv (.bool true), .tmp 20]⟩,
 ⟨some 5, none, .rd .mov [.tmp 21]⟩] L31)))
 (.cond (.tmp 5)
 (.seq (.region false [⟨some 4, none, .rd .mov [.pv (.int .i64 15)]⟩] L31)
 (.ret))
 (.seq (.region false [⟨some 23, none, .rd (.fldAddr 4) [.tmp 2]⟩,
 ⟨some 24, none, .rd (.load none) [.tmp 23]⟩,
 ⟨some 25, none, .rd (.bin .neq) [.tmp 24, .pv (.int .i64 0)]⟩,
 ⟨some 26, none, .rd .mov [.tmp 25]⟩,
 ⟨some 27, some (26, true), .rd (.fldAddr 2) [.tmp 3]⟩,
 ⟨some 28, some (26, true), .rd (.load none) [.tmp 27]⟩,
 ⟨some 29, some (26, true), .rd (.un .not) [.tmp 28]⟩,
 ⟨some 30, some (26, true), .rd .mov [.tmp 29]⟩,
 ⟨some 31, some (30, false), .rd (.fldAddr 4) [.tmp 2]⟩,
 ⟨some 32, some (30, false), .rd (.load none) [.tmp 31]⟩,
 ⟨some 33, some (30, false), .rd (.fldAddr 3) [.tmp 2]⟩,
 ⟨some 34, some (30, false), .rd (.load none) [.tmp 33]⟩,
 ⟨some 35, some (30, false), .rd (.bin .leq) [.tmp 32, .tmp 34]⟩,
 ⟨some 36, some (26, true), .rd .pick [.tmp 30, .pv (.bool true), .tmp 35]⟩,
 ⟨some 37, none, .rd .pick [.tmp 26, .tmp 36, .pv (.bool false)]⟩,
 ⟨some 22, none, .rd .mov [.tmp 37]⟩] L31)
 (.cond (.tmp 22)
 (.seq (.region false [⟨some 4, none, .rd .mov [.pv (.int .i64 24)]⟩] L31)
 (.ret))
 (.seq (.region false [⟨some 39, none, .rd (.fldAddr 4) [.tmp 2]⟩,
 ⟨some 40, none, .rd (.load none) [.tmp 39]⟩,
 ⟨some 41, none, .rd (.bin .gtr) [.tmp 40, .pv (.int .i64 84006)]⟩,
 ⟨some 38, none, .rd .mov [.tmp 41]⟩] L31)
 (.cond (.tmp 38)
 (.seq (.region false [⟨some 4, none, .rd .mov [.pv (.int .i64 15)]⟩] L31)
 (.ret))
 (.skip))))))))
 (.seq (.region false [⟨some 4, none, .rd .mov [.pv (.int .i64 0)]⟩] L31)
 (.ret))),
 [.tmp 4]⟩

-- slices.IndexFunc[[]wagebook/fact.Fact,wagebook/fact.Fact]
def L32 : List Nat := [0, 1, 4, 5, 7, 8, 9, 16]
def c32 : CF := ⟨19,
 .seq (.region false [⟨some 4, none, .rd .mov [.pv (.int .i64 0)]⟩] L32)
 (.seq (.seq (.region false [⟨some 6, none, .rd .mov [.tmp 0]⟩,
 ⟨some 7, none, .rd .lenL [.tmp 6]⟩,
 ⟨some 8, none, .rd .mov [.pv (.int .i64 0)]⟩] L32)
 (.block 0
 (.loop
 (.seq (.region false [⟨some 9, none, .rd (.bin .lss) [.tmp 8, .tmp 7]⟩] L32)
 (.seq (.cond (.tmp 9)
 (.skip)
 (.exit 0))
 (.seq (.block 1
 (.seq (.region false [⟨some 10, none, .rd .mov [.tmp 8]⟩,
 ⟨some 5, none, .rd .mov [.tmp 10]⟩] L32)
 (.seq (.region false [⟨some 11, none, .rd .mov [.tmp 1]⟩,
 ⟨some 12, none, .rd .mov [.tmp 0]⟩,
 ⟨some 13, none, .rd .mov [.tmp 5]⟩,
 ⟨some 14, none, .rd (.idxAddr (some 8)) [.tmp 12, .tmp 13]⟩,
 ⟨some 15, none, .rd (.load (some 8)) [.tmp 14]⟩,
 ⟨some 16, none, .call (.tmp 11) [.tmp 15]⟩] L32)
 (.cond (.tmp 16)
 (.seq (.region false [⟨some 17, none, .rd .mov [.tmp 5]⟩,
 ⟨some 4, none, .rd .mov [.tmp 17]⟩] L32)
 (.ret))
 (.skip)))))
 (.region false [⟨some 18, none, .rd (.bin .add) [.tmp 8, .pv (.int .i64 1)]⟩,
 ⟨some 8, none, .rd .mov [.tmp 18]⟩] L32)))))))
 (.seq (.region false [⟨some 4, none, .rd .mov [.pv (.int .i64 (-1))]⟩] L32)
 (.ret))),
 [.tmp 4]⟩

-- (wagebook/store.Store).place$1
def L33 : List Nat := [0, 1, 2, 3]
def c33 : CF := ⟨8,
 .seq (.region false [⟨some 2, none, .eff (.box (some 8)) [.tmp 0]⟩,
 ⟨some 3, none, .rd .mov [.pv (.bool false)]⟩] L33)
 (.seq (.region false [⟨some 4, none, .rd (.fldAddr 0) [.tmp 2]⟩,
 ⟨some 5, none, .rd (.load none) [.tmp 4]⟩,
 ⟨some 6, none, .rd (.load none) [.tmp 1]⟩,
 ⟨some 7, none, .rd (.bin .eql) [.tmp 5, .tmp 6]⟩,
 ⟨some 3, none, .rd .mov [.tmp 7]⟩] L33)
 (.ret)),
 [.tmp 3]⟩

-- wagebook/store.taken
def L34 : List Nat := [0, 1, 4, 6, 7, 8, 9, 10, 21]
def c34 : CF := ⟨23,
 .seq (.region false [⟨some 4, none, .rd .mov [.pv (.bool false)]⟩] L34)
 (.seq (.seq (.region false [⟨some 7, none, .rd .mov [.tmp 0]⟩,
 ⟨some 8, none, .rd .lenL [.tmp 7]⟩,
 ⟨some 9, none, .rd .mov [.pv (.int .i64 0)]⟩] L34)
 (.block 0
 (.loop
 (.seq (.region false [⟨some 10, none, .rd (.bin .lss) [.tmp 9, .tmp 8]⟩] L34)
 (.seq (.cond (.tmp 10)
 (.skip)
 (.exit 0))
 (.seq (.block 1
 (.seq (.region false [⟨some 11, none, .rd (.idxAddr (some 8)) [.tmp 7, .tmp 9]⟩,
 ⟨some 12, none, .rd (.load (some 8)) [.tmp 11]⟩,
 ⟨some 6, none, .eff (.alloc (some 8) (.agg [(.int .u32 0), (.int .u32 0), (.int .i64 0), (.int .i64 0), (.int .i64 0), (.str []), (.int .i64 0), (.str [])])) []⟩,
 ⟨none, none, .eff (.store (some 8)) [.tmp 6, .tmp 12]⟩] L34)
 (.seq (.region false [⟨some 13, none, .rd (.fldAddr 2) [.tmp 6]⟩,
 ⟨some 14, none, .rd (.load none) [.tmp 13]⟩,
 ⟨some 15, none, .rd (.bin .eql) [.tmp 14, .pv (.int .i64 18)]⟩,
 ⟨some 16, none, .rd .mov [.tmp 15]⟩,
 ⟨some 17, some (16, true), .rd (.fldAddr 6) [.tmp 6]⟩,
 ⟨some 18, some (16, true), .rd (.load none) [.tmp 17]⟩,
 ⟨some 19, some (16, true), .rd .mov [.tmp 1]⟩,
 ⟨some 20, some (16, true), .rd (.bin .eql) [.tmp 18, .tmp 19]⟩,
 ⟨some 21, none, .rd .pick [.tmp 16, .tmp 20, .pv (.bool false)]⟩] L34)
 (.cond (.tmp 21)
 (.seq (.region false [⟨some 4, none, .rd .mov [.pv (.bool true)]⟩] L34)
 (.ret))
 (.skip)))))
 (.region false [⟨some 22, none, .rd (.bin .add) [.tmp 9, .pv (.int .i64 1)]⟩,
 ⟨some 9, none, .rd .mov [.tmp 22]⟩] L34)))))))
 (.seq (.region false [⟨some 4, none, .rd .mov [.pv (.bool false)]⟩] L34)
 (.ret))),
 [.tmp 4]⟩

-- wagebook/fact.empty
def L41 : List Nat := [0, 2]
def c41 : CF := ⟨5,
 .seq (.region false [⟨some 2, none, .rd .mov [.pv (.bool false)]⟩] L41)
 (.seq (.region false [⟨some 3, none, .rd .mov [.tmp 0]⟩,
 ⟨some 4, none, .rd (.bin .eql) [.tmp 3, .pv (.str [])]⟩,
 ⟨some 2, none, .rd .mov [.tmp 4]⟩] L41)
 (.ret)),
 [.tmp 2]⟩

-- wagebook/fact.silent
def L42 : List Nat := [0, 1, 2]
def c42 : CF := ⟨6,
 .seq (.region false [⟨some 1, none, .eff (.box (some 8)) [.tmp 0]⟩,
 ⟨some 2, none, .rd .mov [.pv (.bool false)]⟩] L42)
 (.seq (.region false [⟨some 3, none, .rd (.fldAddr 7) [.tmp 1]⟩,
 ⟨some 4, none, .rd (.load none) [.tmp 3]⟩,
 ⟨some 5, none, .rd (.bin .eql) [.tmp 4, .pv (.str [])]⟩,
 ⟨some 2, none, .rd .mov [.tmp 5]⟩] L42)
 (.ret)),
 [.tmp 2]⟩

-- wagebook/wagebooktop.TopTold
def L3 : List Nat := [0, 1, 2, 6, 7, 8, 9, 10, 11, 12, 13, 14, 16, 17, 18, 19, 20, 21, 22, 23, 24, 25, 26, 27, 28, 29, 31, 32, 34, 42, 46, 47, 48, 49, 55, 80, 81, 82, 83, 89, 90, 91, 92, 127, 145, 146, 147, 187, 188, 189, 190, 191, 218, 230]
def c3 : CF := ⟨232,
 .seq (.region false [⟨some 6, none, .rd .mov [.pv (.bool false)]⟩] L3)
 (.seq (.seq (.region false [⟨some 33, none, .call (.pv (.fn 6 [] [])) []⟩,
 ⟨some 34, none, .rd (.un .not) [.tmp 33]⟩] L3)
 (.cond (.tmp 34)
 (.seq (.region false [⟨some 6, none, .rd .mov [.pv (.bool false)]⟩] L3)
 (.ret))
 (.skip)))
 (.seq (.seq (.region false [⟨some 35, none, .rd .mov [.tmp 0]⟩,
 ⟨some 36, none, .rd .lenL [.tmp 35]⟩,
 ⟨some 37, none, .rd (.bin .gtr) [.tmp 36, .pv (.int .i64 30)]⟩,
 ⟨some 38, none, .rd .mov [.tmp 37]⟩,
 ⟨some 39, some (38, false), .rd .mov [.tmp 1]⟩,
 ⟨some 40, some (38, false), .rd .lenL [.tmp 39]⟩,
 ⟨some 41, some (38, false), .rd (.bin .gtr) [.tmp 40, .pv (.int .i64 60)]⟩,
 ⟨some 42, none, .rd .pick [.tmp 38, .pv (.bool true), .tmp 41]⟩] L3)
 (.cond (.tmp 42)
 (.seq (.region false [⟨some 6, none, .rd .mov [.pv (.bool true)]⟩] L3)
 (.ret))
 (.skip)))
 (.seq (.region false [⟨some 43, none, .eff (.lit (some 5) true) []⟩,
 ⟨some 44, none, .rd .mov [.tmp 0]⟩,
 ⟨some 45, none, .eff (.append (some 5) 16) [.tmp 43, .tmp 44]⟩,
 ⟨some 7, none, .rd .mov [.tmp 45]⟩] L3)
 (.seq (.seq (.region false [⟨some 46, none, .rd .mov [.tmp 1]⟩,
 ⟨some 47, none, .rd .lenL [.tmp 46]⟩,
 ⟨some 48, none, .rd .mov [.pv (.int .i64 0)]⟩] L3)
 (.block 0
 (.loop
 (.seq (.region false [⟨some 49, none, .rd (.bin .lss) [.tmp 48, .tmp 47]⟩] L3)
 (.seq (.cond (.tmp 49)
 (.skip)
 (.exit 0))
 (.seq (.block 1
 (.seq (.region false [⟨some 50, none, .rd .mov [.tmp 48]⟩,
 ⟨some 51, none, .rd (.idxAddr none) [.tmp 46, .tmp 48]⟩,
 ⟨some 52, none, .rd (.load none) [.tmp 51]⟩,
 ⟨some 8, none, .rd .mov [.tmp 50]⟩,
 ⟨some 9, none, .rd .mov [.tmp 52]⟩] L3)
 (.seq (.region false [⟨some 53, none, .rd .mov [.tmp 0]⟩,
 ⟨some 54, none, .rd .lenL [.tmp 53]⟩,
 ⟨some 55, none, .rd (.bin .gtr) [.tmp 54, .pv (.int .i64 0)]⟩] L3)
 (.cond (.tmp 55)
 (.seq (.region true [⟨some 56, none, .rd .mov [.tmp 8]⟩,
 ⟨some 57, none, .rd .mov [.tmp 0]⟩,
 ⟨some 58, none, .rd .lenL [.tmp 57]⟩,
 ⟨some 59, none, .rd (.bin .rem) [.tmp 56, .tmp 58]⟩,
 ⟨some 60, none, .rd .mov [.tmp 9]⟩,
 ⟨some 61, none, .rd (.conv .i64) [.tmp 60]⟩,
 ⟨some 62, none, .rd .mov [.tmp 0]⟩,
 ⟨some 63, none, .rd .lenL [.tmp 62]⟩,
 ⟨some 64, none, .rd (.bin .rem) [.tmp 61, .tmp 63]⟩,
 ⟨some 10, none, .rd .mov [.tmp 59]⟩,
 ⟨some 11, none, .rd .mov [.tmp 64]⟩] L3)
 (.regionA (.alt [⟨some 65, none, .rd .mov [.tmp 7]⟩,
 ⟨some 66, none, .rd .mov [.tmp 10]⟩,
 ⟨some 67, none, .rd .mov [.tmp 7]⟩,
 ⟨some 68, none, .rd .mov [.tmp 11]⟩,
 ⟨some 69, none, .rd .mov [.tmp 7]⟩,
 ⟨some 70, none, .rd .mov [.tmp 11]⟩,
 ⟨some 71, none, .rd (.idxAddr (some 5)) [.tmp 69, .tmp 70]⟩,
 ⟨some 73, none, .rd .mov [.tmp 7]⟩,
 ⟨some 74, none, .rd .mov [.tmp 10]⟩,
 ⟨some 75, none, .rd (.idxAddr (some 5)) [.tmp 73, .tmp 74]⟩]
 (.alt [⟨some 72, none, .rd (.load (some 5)) [.tmp 71]⟩,
 ⟨some 76, none, .rd (.load (some 5)) [.tmp 75]⟩,
 ⟨some 77, none, .rd (.idxAddr (some 5)) [.tmp 65, .tmp 66]⟩,
 ⟨none, none, .eff (.store (some 5)) [.tmp 77, .tmp 72]⟩,
 ⟨some 78, none, .rd (.idxAddr (some 5)) [.tmp 67, .tmp 68]⟩,
 ⟨none, none, .eff (.store (some 5)) [.tmp 78, .tmp 76]⟩]
 .done
 (.alt [⟨some 76, none, .rd (.load (some 5)) [.tmp 75]⟩,
 ⟨some 72, none, .rd (.load (some 5)) [.tmp 71]⟩,
 ⟨some 77, none, .rd (.idxAddr (some 5)) [.tmp 65, .tmp 66]⟩,
 ⟨none, none, .eff (.store (some 5)) [.tmp 77, .tmp 72]⟩,
 ⟨some 78, none, .rd (.idxAddr (some 5)) [.tmp 67, .tmp 68]⟩,
 ⟨none, none, .eff (.store (some 5)) [.tmp 78, .tmp 76]⟩]
 .done
 .stop))
 .stop) L3))
 (.skip)))))
 (.region false [⟨some 79, none, .rd (.bin .add) [.tmp 48, .pv (.int .i64 1)]⟩,
 ⟨some 48, none, .rd .mov [.tmp 79]⟩] L3)))))))
 (.seq (.region false [⟨some 12, none, .rd .mov [.pv (.bool true)]⟩] L3)
 (.seq (.seq (.region false [⟨some 80, none, .rd .mov [.tmp 0]⟩,
 ⟨some 81, none, .rd .lenL [.tmp 80]⟩,
 ⟨some 82, none, .rd .mov [.pv (.int .i64 0)]⟩] L3)
 (.block 2
 (.loop
 (.seq (.region false [⟨some 83, none, .rd (.bin .lss) [.tmp 82, .tmp 81]⟩] L3)
 (.seq (.cond (.tmp 83)
 (.skip)
 (.exit 2))
 (.seq (.block 3
 (.seq (.region false [⟨some 84, none, .rd .mov [.tmp 82]⟩,
 ⟨some 85, none, .rd (.idxAddr (some 5)) [.tmp 80, .tmp 82]⟩,
 ⟨some 86, none, .rd (.load (some 5)) [.tmp 85]⟩,
 ⟨some 14, none, .eff (.alloc (some 5) (.agg [(.int .u8 0), (.int .u32 0), (.int .u16 0), (.int .u16 0), (.int .u16 0)])) []⟩,
 ⟨some 13, none, .rd .mov [.tmp 84]⟩,
 ⟨none, none, .eff (.store (some 5)) [.tmp 14, .tmp 86]⟩] L3)
 (.seq (.region false [⟨some 87, none, .rd .mov [.tmp 0]⟩,
 ⟨some 88, none, .rd .mov [.tmp 13]⟩,
 ⟨some 89, none, .rd (.slc (some 5) false true false) [.tmp 87, .tmp 88]⟩,
 ⟨some 90, none, .rd .lenL [.tmp 89]⟩,
 ⟨some 91, none, .rd .mov [.pv (.int .i64 0)]⟩] L3)
 (.block 4
 (.loop
 (.seq (.region false [⟨some 92, none, .rd (.bin .lss) [.tmp 91, .tmp 90]⟩] L3)
 (.seq (.cond (.tmp 92)
 (.skip)
 (.exit 4))
 (.seq (.block 5
 (.seq (.region false [⟨some 93, none, .rd (.idxAddr (some 5)) [.tmp 89, .tmp 91]⟩,
 ⟨some 94, none, .rd (.load (some 5)) [.tmp 93]⟩,
 ⟨some 16, none, .eff (.alloc (some 5) (.agg [(.int .u8 0), (.int .u32 0), (.int .u16 0), (.int .u16 0), (.int .u16 0)])) []⟩,
 ⟨none, none, .eff (.store (some 5)) [.tmp 16, .tmp 94]⟩] L3)
 (.seq (.regionA (.alt [⟨some 95, none, .rd (.load (some 5)) [.tmp 14]⟩]
 (.alt [⟨some 96, none, .call (.pv (.fn 7 [] [])) [.tmp 95]⟩]
 (.alt [⟨some 97, none, .rd (.load (some 5)) [.tmp 16]⟩]
 (.alt [⟨some 98, none, .call (.pv (.fn 7 [] [])) [.tmp 97]⟩]
 (.alt [⟨some 17, none, .eff (.alloc (some 8) (.agg [(.int .u32 0), (.int .u32 0), (.int .i64 0), (.int .i64 0), (.int .i64 0), (.str []), (.int .i64 0), (.str [])])) []⟩,
 ⟨some 18, none, .eff (.alloc (some 8) (.agg [(.int .u32 0), (.int .u32 0), (.int .i64 0), (.int .i64 0), (.int .i64 0), (.str []), (.int .i64 0), (.str [])])) []⟩,
 ⟨none, none, .eff (.store (some 8)) [.tmp 17, .tmp 96]⟩,
 ⟨none, none, .eff (.store (some 8)) [.tmp 18, .tmp 98]⟩]
 .done
 (.alt [⟨some 18, none, .eff (.alloc (some 8) (.agg [(.int .u32 0), (.int .u32 0), (.int .i64 0), (.int .i64 0), (.int .i64 0), (.str []), (.int .i64 0), (.str [])])) []⟩,
 ⟨some 17, none, .eff (.alloc (some 8) (.agg [(.int .u32 0), (.int .u32 0), (.int .i64 0), (.int .i64 0), (.int .i64 0), (.str []), (.int .i64 0), (.str [])])) []⟩,
 ⟨none, none, .eff (.store (some 8)) [.tmp 17, .tmp 96]⟩,
 ⟨none, none, .eff (.store (some 8)) [.tmp 18, .tmp 98]⟩]
 .done
 .stop))
 (.alt [⟨some 17, none, .eff (.alloc (some 8) (.agg [(.int .u32 0), (.int .u32 0), (.int .i64 0), (.int .i64 0), (.int .i64 0), (.str []), (.int .i64 0), (.str [])])) []⟩]
 (.alt [⟨some 98, none, .call (.pv (.fn 7 [] [])) [.tmp 97]⟩,
 ⟨some 18, none, .eff (.alloc (some 8) (.agg [(.int .u32 0), (.int .u32 0), (.int .i64 0), (.int .i64 0), (.int .i64 0), (.str []), (.int .i64 0), (.str [])])) []⟩,
 ⟨none, none, .eff (.store (some 8)) [.tmp 17, .tmp 96]⟩,
 ⟨none, none, .eff (.store (some 8)) [.tmp 18, .tmp 98]⟩]
 .done
 (.alt [⟨some 18, none, .eff (.alloc (some 8) (.agg [(.int .u32 0), (.int .u32 0), (.int .i64 0), (.int .i64 0), (.int .i64 0), (.str []), (.int .i64 0), (.str [])])) []⟩,
 ⟨some 98, none, .call (.pv (.fn 7 [] [])) [.tmp 97]⟩,
 ⟨none, none, .eff (.store (some 8)) [.tmp 17, .tmp 96]⟩,
 ⟨none, none, .eff (.store (some 8)) [.tmp 18, .tmp 98]⟩]
 .done
 .stop))
 (.alt [⟨some 18, none, .eff (.alloc (some 8) (.agg [(.int .u32 0), (.int .u32 0), (.int .i64 0), (.int .i64 0), (.int .i64 0), (.str []), (.int .i64 0), (.str [])])) []⟩]
 (.alt [⟨some 98, none, .call (.pv (.fn 7 [] [])) [.tmp 97]⟩,
 ⟨some 17, none, .eff (.alloc (some 8) (.agg [(.int .u32 0), (.int .u32 0), (.int .i64 0), (.int .i64 0), (.int .i64 0), (.str []), (.int .i64 0), (.str [])])) []⟩,
 ⟨none, none, .eff (.store (some 8)) [.tmp 17, .tmp 96]⟩,
 ⟨none, none, .eff (.store (some 8)) [.tmp 18, .tmp 98]⟩]
 .done
 (.alt [⟨some 17, none, .eff (.alloc (some 8) (.agg [(.int .u32 0), (.int .u32 0), (.int .i64 0), (.int .i64 0), (.int .i64 0), (.str []), (.int .i64 0), (.str [])])) []⟩,
 ⟨some 98, none, .call (.pv (.fn 7 [] [])) [.tmp 97]⟩,
 ⟨none, none, .eff (.store (some 8)) [.tmp 17, .tmp 96]⟩,
 ⟨none, none, .eff (.store (some 8)) [.tmp 18, .tmp 98]⟩]
 .done
 .stop))
 .stop)))
 (.alt [⟨some 17, none, .eff (.alloc (some 8) (.agg [(.int .u32 0), (.int .u32 0), (.int .i64 0), (.int .i64 0), (.int .i64 0), (.str []), (.int .i64 0), (.str [])])) []⟩]
 (.alt [⟨some 97, none, .rd (.load (some 5)) [.tmp 16]⟩]
 (.alt [⟨some 98, none, .call (.pv (.fn 7 [] [])) [.tmp 97]⟩,
 ⟨some 18, none, .eff (.alloc (some 8) (.agg [(.int .u32 0), (.int .u32 0), (.int .i64 0), (.int .i64 0), (.int .i64 0), (.str []), (.int .i64 0), (.str [])])) []⟩,
 ⟨none, none, .eff (.store (some 8)) [.tmp 17, .tmp 96]⟩,
 ⟨none, none, .eff (.store (some 8)) [.tmp 18, .tmp 98]⟩]
 .done
 (.alt [⟨some 18, none, .eff (.alloc (some 8) (.agg [(.int .u32 0), (.int .u32 0), (.int .i64 0), (.int .i64 0), (.int .i64 0), (.str []), (.int .i64 0), (.str [])])) []⟩,
 ⟨some 98, none, .call (.pv (.fn 7 [] [])) [.tmp 97]⟩,
 ⟨none, none, .eff (.store (some 8)) [.tmp 17, .tmp 96]⟩,
 ⟨none, none, .eff (.store (some 8)) [.tmp 18, .tmp 98]⟩]
 .done
 .stop))
 (.alt [⟨some 18, none, .eff (.alloc (some 8) (.agg [(.int .u32 0), (.int .u32 0), (.int .i64 0), (.int .i64 0), (.int .i64 0), (.str []), (.int .i64 0), (.str [])])) []⟩,
 ⟨some 97, none, .rd (.load (some 5)) [.tmp 16]⟩,
 ⟨some 98, none, .call (.pv (.fn 7 [] [])) [.tmp 97]⟩,
 ⟨none, none, .eff (.store (some 8)) [.tmp 17, .tmp 96]⟩,
 ⟨none, none, .eff (.store (some 8)) [.tmp 18, .tmp 98]⟩]
 .done
 .stop))
 (.alt [⟨some 18, none, .eff (.alloc (some 8) (.agg [(.int .u32 0), (.int .u32 0), (.int .i64 0), (.int .i64 0), (.int .i64 0), (.str []), (.int .i64 0), (.str [])])) []⟩]
 (.alt [⟨some 97, none, .rd (.load (some 5)) [.tmp 16]⟩]
 (.alt [⟨some 98, none, .call (.pv (.fn 7 [] [])) [.tmp 97]⟩,
 ⟨some 17, none, .eff (.alloc (some 8) (.agg [(.int .u32 0), (.int .u32 0), (.int .i64 0), (.int .i64 0), (.int .i64 0), (.str []), (.int .i64 0), (.str [])])) []⟩,
 ⟨none, none, .eff (.store (some 8)) [.tmp 17, .tmp 96]⟩,
 ⟨none, none, .eff (.store (some 8)) [.tmp 18, .tmp 98]⟩]
 .done
 (.alt [⟨some 17, none, .eff (.alloc (some 8) (.agg [(.int .u32 0), (.int .u32 0), (.int .i64 0), (.int .i64 0), (.int .i64 0), (.str []), (.int .i64 0), (.str [])])) []⟩,
 ⟨some 98, none, .call (.pv (.fn 7 [] [])) [.tmp 97]⟩,
 ⟨none, none, .eff (.store (some 8)) [.tmp 17, .tmp 96]⟩,
 ⟨none, none, .eff (.store (some 8)) [.tmp 18, .tmp 98]⟩]
 .done
 .stop))
 (.alt [⟨some 17, none, .eff (.alloc (some 8) (.agg [(.int .u32 0), (.int .u32 0), (.int .i64 0), (.int .i64 0), (.int .i64 0), (.str []), (.int .i64 0), (.str [])])) []⟩,
 ⟨some 97, none, .rd (.load (some 5)) [.tmp 16]⟩,
 ⟨some 98, none, .call (.pv (.fn 7 [] [])) [.tmp 97]⟩,
 ⟨none, none, .eff (.store (some 8)) [.tmp 17, .tmp 96]⟩,
 ⟨none, none, .eff (.store (some 8)) [.tmp 18, .tmp 98]⟩]
 .done
 .stop))
 .stop)))
 (.alt [⟨some 97, none, .rd (.load (some 5)) [.tmp 16]⟩]
 (.alt [⟨some 96, none, .call (.pv (.fn 7 [] [])) [.tmp 95]⟩]
 (.alt [⟨some 98, none, .call (.pv (.fn 7 [] [])) [.tmp 97]⟩]
 (.alt [⟨some 17, none, .eff (.alloc (some 8) (.agg [(.int .u32 0), (.int .u32 0), (.int .i64 0), (.int .i64 0), (.int .i64 0), (.str []), (.int .i64 0), (.str [])])) []⟩,
 ⟨some 18, none, .eff (.alloc (some 8) (.agg [(.int .u32 0), (.int .u32 0), (.int .i64 0), (.int .i64 0), (.int .i64 0), (.str []), (.int .i64 0), (.str [])])) []⟩,
 ⟨none, none, .eff (.store (some 8)) [.tmp 17, .tmp 96]⟩,
 ⟨none, none, .eff (.store (some 8)) [.tmp 18, .tmp 98]⟩]
 .done
 (.alt [⟨some 18, none, .eff (.alloc (some 8) (.agg [(.int .u32 0), (.int .u32 0), (.int .i64 0), (.int .i64 0), (.int .i64 0), (.str []), (.int .i64 0), (.str [])])) []⟩,
 ⟨some 17, none, .eff (.alloc (some 8) (.agg [(.int .u32 0), (.int .u32 0), (.int .i64 0), (.int .i64 0), (.int .i64 0), (.str []), (.int .i64 0), (.str [])])) []⟩,
 ⟨none, none, .eff (.store (some 8)) [.tmp 17, .tmp 96]⟩,
 ⟨none, none, .eff (.store (some 8)) [.tmp 18, .tmp 98]⟩]
 .done
 .stop))
 (.alt [⟨some 17, none, .eff (.alloc (some 8) (.agg [(.int .u32 0), (.int .u32 0), (.int .i64 0), (.int .i64 0), (.int .i64 0), (.str []), (.int .i64 0), (.str [])])) []⟩]
 (.alt [⟨some 98, none, .call (.pv (.fn 7 [] [])) [.tmp 97]⟩,
 ⟨some 18, none, .eff (.alloc (some 8) (.agg [(.int .u32 0), (.int .u32 0), (.int .i64 0), (.int .i64 0), (.int .i64 0), (.str []), (.int .i64 0), (.str [])])) []⟩,
 ⟨none, none, .eff (.store (some 8)) [.tmp 17, .tmp 96]⟩,
 ⟨none, none, .eff (.store (some 8)) [.tmp 18, .tmp 98]⟩]
 .done
 (.alt [⟨some 18, none, .eff (.alloc (some 8) (.agg [(.int .u32 0), (.int .u32 0), (.int .i64 0), (.int .i64 0), (.int .i64 0), (.str []), (.int .i64 0), (.str [])])) []⟩,
 ⟨some 98, none, .call (.pv (.fn 7 [] [])) [.tmp 97]⟩,
 ⟨none, none, .eff (.store (some 8)) [.tmp 17, .tmp 96]⟩,
 ⟨none, none, .eff (.store (some 8)) [.tmp 18, .tmp 98]⟩]
 .done
 .stop))
 (.alt [⟨some 18, none, .eff (.alloc (some 8) (.agg [(.int .u32 0), (.int .u32 0), (.int .i64 0), (.int .i64 0), (.int .i64 0), (.str []), (.int .i64 0), (.str [])])) []⟩]
 (.alt [⟨some 98, none, .call (.pv (.fn 7 [] [])) [.tmp 97]⟩,
 ⟨some 17, none, .eff (.alloc (some 8) (.agg [(.int .u32 0), (.int .u32 0), (.int .i64 0), (.int .i64 0), (.int .i64 0), (.str []), (.int .i64 0), (.str [])])) []⟩,
 ⟨none, none, .eff (.store (some 8)) [.tmp 17, .tmp 96]⟩,
 ⟨none, none, .eff (.store (some 8)) [.tmp 18, .tmp 98]⟩]
 .done
 (.alt [⟨some 17, none, .eff (.alloc (some 8) (.agg [(.int .u32 0), (.int .u32 0), (.int .i64 0), (.int .i64 0), (.int .i64 0), (.str []), (.int .i64 0), (.str [])])) []⟩,
 ⟨some 98, none, .call (.pv (.fn 7 [] [])) [.tmp 97]⟩,
 ⟨none, none, .eff (.store (some 8)) [.tmp 17, .tmp 96]⟩,
 ⟨none, none, .eff (.store (some 8)) [.tmp 18, .tmp 98]⟩]
 .done
 .stop))
 .stop)))
 (.alt [⟨some 17, none, .eff (.alloc (some 8) (.agg [(.int .u32 0), (.int .u32 0), (.int .i64 0), (.int .i64 0), (.int .i64 0), (.str []), (.int .i64 0), (.str [])])) []⟩]
 (.alt [⟨some 96, none, .call (.pv (.fn 7 [] [])) [.tmp 95]⟩]
 (.alt [⟨some 98, none, .call (.pv (.fn 7 [] [])) [.tmp 97]⟩,
 ⟨some 18, none, .eff (.alloc (some 8) (.agg [(.int .u32 0), (.int .u32 0), (.int .i64 0), (.int .i64 0), (.int .i64 0), (.str []), (.int .i64 0), (.str [])])) []⟩,
 ⟨none, none, .eff (.store (some 8)) [.tmp 17, .tmp 96]⟩,
 ⟨none, none, .eff (.store (some 8)) [.tmp 18, .tmp 98]⟩]
 .done
 (.alt [⟨some 18, none, .eff (.alloc (some 8) (.agg [(.int .u32 0), (.int .u32 0), (.int .i64 0), (.int .i64 0), (.int .i64 0), (.str []), (.int .i64 0), (.str [])])) []⟩,
 ⟨some 98, none, .call (.pv (.fn 7 [] [])) [.tmp 97]⟩,
 ⟨none, none, .eff (.store (some 8)) [.tmp 17, .tmp 96]⟩,
 ⟨none, none, .eff (.store (some 8)) [.tmp 18, .tmp 98]⟩]
 .done
 .stop))
 (.alt [⟨some 18, none, .eff (.alloc (some 8) (.agg [(.int .u32 0), (.int .u32 0), (.int .i64 0), (.int .i64 0), (.int .i64 0), (.str []), (.int .i64 0), (.str [])])) []⟩,
 ⟨some 96, none, .call (.pv (.fn 7 [] [])) [.tmp 95]⟩,
 ⟨some 98, none, .call (.pv (.fn 7 [] [])) [.tmp 97]⟩,
 ⟨none, none, .eff (.store (some 8)) [.tmp 17, .tmp 96]⟩,
 ⟨none, none, .eff (.store (some 8)) [.tmp 18, .tmp 98]⟩]
 .done
 .stop))
 (.alt [⟨some 18, none, .eff (.alloc (some 8) (.agg [(.int .u32 0), (.int .u32 0), (.int .i64 0), (.int .i64 0), (.int .i64 0), (.str []), (.int .i64 0), (.str [])])) []⟩]
 (.alt [⟨some 96, none, .call (.pv (.fn 7 [] [])) [.tmp 95]⟩]
 (.alt [⟨some 98, none, .call (.pv (.fn 7 [] [])) [.tmp 97]⟩,
 ⟨some 17, none, .eff (.alloc (some 8) (.agg [(.int .u32 0), (.int .u32 0), (.int .i64 0), (.int .i64 0), (.int .i64 0), (.str []), (.int .i64 0), (.str [])])) []⟩,
 ⟨none, none, .eff (.store (some 8)) [.tmp 17, .tmp 96]⟩,
 ⟨none, none, .eff (.store (some 8)) [.tmp 18, .tmp 98]⟩]
 .done
 (.alt [⟨some 17, none, .eff (.alloc (some 8) (.agg [(.int .u32 0), (.int .u32 0), (.int .i64 0), (.int .i64 0), (.int .i64 0), (.str []), (.int .i64 0), (.str [])])) []⟩,
 ⟨some 98, none, .call (.pv (.fn 7 [] [])) [.tmp 97]⟩,
 ⟨none, none, .eff (.store (some 8)) [.tmp 17, .tmp 96]⟩,
 ⟨none, none, .eff (.store (some 8)) [.tmp 18, .tmp 98]⟩]
 .done
 .stop))
 (.alt [⟨some 17, none, .eff (.alloc (some 8) (.agg [(.int .u32 0), (.int .u32 0), (.int .i64 0), (.int .i64 0), (.int .i64 0), (.str []), (.int .i64 0), (.str [])])) []⟩,
 ⟨some 96, none, .call (.pv (.fn 7 [] [])) [.tmp 95]⟩,
 ⟨some 98, none, .call (.pv (.fn 7 [] [])) [.tmp 97]⟩,
 ⟨none, none, .eff (.store (some 8)) [.tmp 17, .tmp 96]⟩,
 ⟨none, none, .eff (.store (some 8)) [.tmp 18, .tmp 98]⟩]
 .done
 .stop))
 .stop)))
 (.alt [⟨some 17, none, .eff (.alloc (some 8) (.agg [(.int .u32 0), (.int .u32 0), (.int .i64 0), (.int .i64 0), (.int .i64 0), (.str []), (.int .i64 0), (.str [])])) []⟩]
 (.alt [⟨some 96, none, .call (.pv (.fn 7 [] [])) [.tmp 95]⟩]
 (.alt [⟨some 97, none, .rd (.load (some 5)) [.tmp 16]⟩]
 (.alt [⟨some 98, none, .call (.pv (.fn 7 [] [])) [.tmp 97]⟩,
 ⟨some 18, none, .eff (.alloc (some 8) (.agg [(.int .u32 0), (.int .u32 0), (.int .i64 0), (.int .i64 0), (.int .i64 0), (.str []), (.int .i64 0), (.str [])])) []⟩,
 ⟨none, none, .eff (.store (some 8)) [.tmp 17, .tmp 96]⟩,
 ⟨none, none, .eff (.store (some 8)) [.tmp 18, .tmp 98]⟩]
 .done
 (.alt [⟨some 18, none, .eff (.alloc (some 8) (.agg [(.int .u32 0), (.int .u32 0), (.int .i64 0), (.int .i64 0), (.int .i64 0), (.str []), (.int .i64 0), (.str [])])) []⟩,
 ⟨some 98, none, .call (.pv (.fn 7 [] [])) [.tmp 97]⟩,
 ⟨none, none, .eff (.store (some 8)) [.tmp 17, .tmp 96]⟩,
 ⟨none, none, .eff (.store (some 8)) [.tmp 18, .tmp 98]⟩]
 .done
 .stop))
 (.alt [⟨some 18, none, .eff (.alloc (some 8) (.agg [(.int .u32 0), (.int .u32 0), (.int .i64 0), (.int .i64 0), (.int .i64 0), (.str []), (.int .i64 0), (.str [])])) []⟩,
 ⟨some 97, none, .rd (.load (some 5)) [.tmp 16]⟩,
 ⟨some 98, none, .call (.pv (.fn 7 [] [])) [.tmp 97]⟩,
 ⟨none, none, .eff (.store (some 8)) [.tmp 17, .tmp 96]⟩,
 ⟨none, none, .eff (.store (some 8)) [.tmp 18, .tmp 98]⟩]
 .done
 .stop))
 (.alt [⟨some 97, none, .rd (.load (some 5)) [.tmp 16]⟩]
 (.alt [⟨some 96, none, .call (.pv (.fn 7 [] [])) [.tmp 95]⟩]
 (.alt [⟨some 98, none, .call (.pv (.fn 7 [] [])) [.tmp 97]⟩,
 ⟨some 18, none, .eff (.alloc (some 8) (.agg [(.int .u32 0), (.int .u32 0), (.int .i64 0), (.int .i64 0), (.int .i64 0), (.str []), (.int .i64 0), (.str [])])) []⟩,
 ⟨none, none, .eff (.store (some 8)) [.tmp 17, .tmp 96]⟩,
 ⟨none, none, .eff (.store (some 8)) [.tmp 18, .tmp 98]⟩]
 .done
 (.alt [⟨some 18, none, .eff (.alloc (some 8) (.agg [(.int .u32 0), (.int .u32 0), (.int .i64 0), (.int .i64 0), (.int .i64 0), (.str []), (.int .i64 0), (.str [])])) []⟩,
 ⟨some 98, none, .call (.pv (.fn 7 [] [])) [.tmp 97]⟩,
 ⟨none, none, .eff (.store (some 8)) [.tmp 17, .tmp 96]⟩,
 ⟨none, none, .eff (.store (some 8)) [.tmp 18, .tmp 98]⟩]
 .done
 .stop))
 (.alt [⟨some 18, none, .eff (.alloc (some 8) (.agg [(.int .u32 0), (.int .u32 0), (.int .i64 0), (.int .i64 0), (.int .i64 0), (.str []), (.int .i64 0), (.str [])])) []⟩,
 ⟨some 96, none, .call (.pv (.fn 7 [] [])) [.tmp 95]⟩,
 ⟨some 98, none, .call (.pv (.fn 7 [] [])) [.tmp 97]⟩,
 ⟨none, none, .eff (.store (some 8)) [.tmp 17, .tmp 96]⟩,
 ⟨none, none, .eff (.store (some 8)) [.tmp 18, .tmp 98]⟩]
 .done
 .stop))
 (.alt [⟨some 18, none, .eff (.alloc (some 8) (.agg [(.int .u32 0), (.int .u32 0), (.int .i64 0), (.int .i64 0), (.int .i64 0), (.str []), (.int .i64 0), (.str [])])) []⟩]
 (.alt [⟨some 96, none, .call (.pv (.fn 7 [] [])) [.tmp 95]⟩,
 ⟨some 97, none, .rd (.load (some 5)) [.tmp 16]⟩,
 ⟨some 98, none, .call (.pv (.fn 7 [] [])) [.tmp 97]⟩,
 ⟨none, none, .eff (.store (some 8)) [.tmp 17, .tmp 96]⟩,
 ⟨none, none, .eff (.store (some 8)) [.tmp 18, .tmp 98]⟩]
 .done
 (.alt [⟨some 97, none, .rd (.load (some 5)) [.tmp 16]⟩,
 ⟨some 96, none, .call (.pv (.fn 7 [] [])) [.tmp 95]⟩,
 ⟨some 98, none, .call (.pv (.fn 7 [] [])) [.tmp 97]⟩,
 ⟨none, none, .eff (.store (some 8)) [.tmp 17, .tmp 96]⟩,
 ⟨none, none, .eff (.store (some 8)) [.tmp 18, .tmp 98]⟩]
 .done
 .stop))
 .stop)))
 (.alt [⟨some 18, none, .eff (.alloc (some 8) (.agg [(.int .u32 0), (.int .u32 0), (.int .i64 0), (.int .i64 0), (.int .i64 0), (.str []), (.int .i64 0), (.str [])])) []⟩]
 (.alt [⟨some 96, none, .call (.pv (.fn 7 [] [])) [.tmp 95]⟩]
 (.alt [⟨some 97, none, .rd (.load (some 5)) [.tmp 16]⟩]
 (.alt [⟨some 98, none, .call (.pv (.fn 7 [] [])) [.tmp 97]⟩,
 ⟨some 17, none, .eff (.alloc (some 8) (.agg [(.int .u32 0), (.int .u32 0), (.int .i64 0), (.int .i64 0), (.int .i64 0), (.str []), (.int .i64 0), (.str [])])) []⟩,
 ⟨none, none, .eff (.store (some 8)) [.tmp 17, .tmp 96]⟩,
 ⟨none, none, .eff (.store (some 8)) [.tmp 18, .tmp 98]⟩]
 .done
 (.alt [⟨some 17, none, .eff (.alloc (some 8) (.agg [(.int .u32 0), (.int .u32 0), (.int .i64 0), (.int .i64 0), (.int .i64 0), (.str []), (.int .i64 0), (.str [])])) []⟩,
 ⟨some 98, none, .call (.pv (.fn 7 [] [])) [.tmp 97]⟩,
 ⟨none, none, .eff (.store (some 8)) [.tmp 17, .tmp 96]⟩,
 ⟨none, none, .eff (.store (some 8)) [.tmp 18, .tmp 98]⟩]
 .done
 .stop))
 (.alt [⟨some 17, none, .eff (.alloc (some 8) (.agg [(.int .u32 0), (.int .u32 0), (.int .i64 0), (.int .i64 0), (.int .i64 0), (.str []), (.int .i64 0), (.str [])])) []⟩,
 ⟨some 97, none, .rd (.load (some 5)) [.tmp 16]⟩,
 ⟨some 98, none, .call (.pv (.fn 7 [] [])) [.tmp 97]⟩,
 ⟨none, none, .eff (.store (some 8)) [.tmp 17, .tmp 96]⟩,
 ⟨none, none, .eff (.store (some 8)) [.tmp 18, .tmp 98]⟩]
 .done
 .stop))
 (.alt [⟨some 97, none, .rd (.load (some 5)) [.tmp 16]⟩]
 (.alt [⟨some 96, none, .call (.pv (.fn 7 [] [])) [.tmp 95]⟩]
 (.alt [⟨some 98, none, .call (.pv (.fn 7 [] [])) [.tmp 97]⟩,
 ⟨some 17, none, .eff (.alloc (some 8) (.agg [(.int .u32 0), (.int .u32 0), (.int .i64 0), (.int .i64 0), (.int .i64 0), (.str []), (.int .i64 0), (.str [])])) []⟩,
 ⟨none, none, .eff (.store (some 8)) [.tmp 17, .tmp 96]⟩,
 ⟨none, none, .eff (.store (some 8)) [.tmp 18, .tmp 98]⟩]
 .done
 (.alt [⟨some 17, none, .eff (.alloc (some 8) (.agg [(.int .u32 0), (.int .u32 0), (.int .i64 0), (.int .i64 0), (.int .i64 0), (.str []), (.int .i64 0), (.str [])])) []⟩,
 ⟨some 98, none, .call (.pv (.fn 7 [] [])) [.tmp 97]⟩,
 ⟨none, none, .eff (.store (some 8)) [.tmp 17, .tmp 96]⟩,
 ⟨none, none, .eff (.store (some 8)) [.tmp 18, .tmp 98]⟩]
 .done
 .stop))
 (.alt [⟨some 17, none, .eff (.alloc (some 8) (.agg [(.int .u32 0), (.int .u32 0), (.int .i64 0), (.int .i64 0), (.int .i64 0), (.str []), (.int .i64 0), (.str [])])) []⟩,
 ⟨some 96, none, .call (.pv (.fn 7 [] [])) [.tmp 95]⟩,
 ⟨some 98, none, .call (.pv (.fn 7 [] [])) [.tmp 97]⟩,
 ⟨none, none, .eff (.store (some 8)) [.tmp 17, .tmp 96]⟩,
 ⟨none, none, .eff (.store (some 8)) [.tmp 18, .tmp 98]⟩]
 .done
 .stop))
 (.alt [⟨some 17, none, .eff (.alloc (some 8) (.agg [(.int .u32 0), (.int .u32 0), (.int .i64 0), (.int .i64 0), (.int .i64 0), (.str []), (.int .i64 0), (.str [])])) []⟩]
 (.alt [⟨some 96, none, .call (.pv (.fn 7 [] [])) [.tmp 95]⟩,
 ⟨some 97, none, .rd (.load (some 5)) [.tmp 16]⟩,
 ⟨some 98, none, .call (.pv (.fn 7 [] [])) [.tmp 97]⟩,
 ⟨none, none, .eff (.store (some 8)) [.tmp 17, .tmp 96]⟩,
 ⟨none, none, .eff (.store (some 8)) [.tmp 18, .tmp 98]⟩]
 .done
 (.alt [⟨some 97, none, .rd (.load (some 5)) [.tmp 16]⟩,
 ⟨some 96, none, .call (.pv (.fn 7 [] [])) [.tmp 95]⟩,
 ⟨some 98, none, .call (.pv (.fn 7 [] [])) [.tmp 97]⟩,
 ⟨none, none, .eff (.store (some 8)) [.tmp 17, .tmp 96]⟩,
 ⟨none, none, .eff (.store (some 8)) [.tmp 18, .tmp 98]⟩]
 .done
 .stop))
 .stop)))
 .stop))))
 (.alt [⟨some 97, none, .rd (.load (some 5)) [.tmp 16]⟩]
 (.alt [⟨some 95, none, .rd (.load (some 5)) [.tmp 14]⟩]
 (.alt [⟨some 96, none, .call (.pv (.fn 7 [] [])) [.tmp 95]⟩]
 (.alt [⟨some 98, none, .call (.pv (.fn 7 [] [])) [.tmp 97]⟩]
 (.alt [⟨some 17, none, .eff (.alloc (some 8) (.agg [(.int .u32 0), (.int .u32 0), (.int .i64 0), (.int .i64 0), (.int .i64 0), (.str []), (.int .i64 0), (.str [])])) []⟩,
 ⟨some 18, none, .eff (.alloc (some 8) (.agg [(.int .u32 0), (.int .u32 0), (.int .i64 0), (.int .i64 0), (.int .i64 0), (.str []), (.int .i64 0), (.str [])])) []⟩,
 ⟨none, none, .eff (.store (some 8)) [.tmp 17, .tmp 96]⟩,
 ⟨none, none, .eff (.store (some 8)) [.tmp 18, .tmp 98]⟩]
 .done
 (.alt [⟨some 18, none, .eff (.alloc (some 8) (.agg [(.int .u32 0), (.int .u32 0), (.int .i64 0), (.int .i64 0), (.int .i64 0), (.str []), (.int .i64 0), (.str [])])) []⟩,
 ⟨some 17, none, .eff (.alloc (some 8) (.agg [(.int .u32 0), (.int .u32 0), (.int .i64 0), (.int .i64 0), (.int .i64 0), (.str []), (.int .i64 0), (.str [])])) []⟩,
 ⟨none, none, .eff (.store (some 8)) [.tmp 17, .tmp 96]⟩,
 ⟨none, none, .eff (.store (some 8)) [.tmp 18, .tmp 98]⟩]
 .done
 .stop))
 (.alt [⟨some 17, none, .eff (.alloc (some 8) (.agg [(.int .u32 0), (.int .u32 0), (.int .i64 0), (.int .i64 0), (.int .i64 0), (.str []), (.int .i64 0), (.str [])])) []⟩]
 (.alt [⟨some 98, none, .call (.pv (.fn 7 [] [])) [.tmp 97]⟩,
 ⟨some 18, none, .eff (.alloc (some 8) (.agg [(.int .u32 0), (.int .u32 0), (.int .i64 0), (.int .i64 0), (.int .i64 0), (.str []), (.int .i64 0), (.str [])])) []⟩,
 ⟨none, none, .eff (.store (some 8)) [.tmp 17, .tmp 96]⟩,
 ⟨none, none, .eff (.store (some 8)) [.tmp 18, .tmp 98]⟩]
 .done
 (.alt [⟨some 18, none, .eff (.alloc (some 8) (.agg [(.int .u32 0), (.int .u32 0), (.int .i64 0), (.int .i64 0), (.int .i64 0), (.str []), (.int .i64 0), (.str [])])) []⟩,
 ⟨some 98, none, .call (.pv (.fn 7 [] [])) [.tmp 97]⟩,
 ⟨none, none, .eff (.store (some 8)) [.tmp 17, .tmp 96]⟩,
 ⟨none, none, .eff (.store (some 8)) [.tmp 18, .tmp 98]⟩]
 .done
 .stop))
 (.alt [⟨some 18, none, .eff (.alloc (some 8) (.agg [(.int .u32 0), (.int .u32 0), (.int .i64 0), (.int .i64 0), (.int .i64 0), (.str []), (.int .i64 0), (.str [])])) []⟩]
 (.alt [⟨some 98, none, .call (.pv (.fn 7 [] [])) [.tmp 97]⟩,
 ⟨some 17, none, .eff (.alloc (some 8) (.agg [(.int .u32 0), (.int .u32 0), (.int .i64 0), (.int .i64 0), (.int .i64 0), (.str []), (.int .i64 0), (.str [])])) []⟩,
 ⟨none, none, .eff (.store (some 8)) [.tmp 17, .tmp 96]⟩,
 ⟨none, none, .eff (.store (some 8)) [.tmp 18, .tmp 98]⟩]
 .done
 (.alt [⟨some 17, none, .eff (.alloc (some 8) (.agg [(.int .u32 0), (.int .u32 0), (.int .i64 0), (.int .i64 0), (.int .i64 0), (.str []), (.int .i64 0), (.str [])])) []⟩,
 ⟨some 98, none, .call (.pv (.fn 7 [] [])) [.tmp 97]⟩,
 ⟨none, none, .eff (.store (some 8)) [.tmp 17, .tmp 96]⟩,
 ⟨none, none, .eff (.store (some 8)) [.tmp 18, .tmp 98]⟩]
 .done
 .stop))
 .stop)))
 (.alt [⟨some 17, none, .eff (.alloc (some 8) (.agg [(.int .u32 0), (.int .u32 0), (.int .i64 0), (.int .i64 0), (.int .i64 0), (.str []), (.int .i64 0), (.str [])])) []⟩]
 (.alt [⟨some 96, none, .call (.pv (.fn 7 [] [])) [.tmp 95]⟩]
 (.alt [⟨some 98, none, .call (.pv (.fn 7 [] [])) [.tmp 97]⟩,
 ⟨some 18, none, .eff (.alloc (some 8) (.agg [(.int .u32 0), (.int .u32 0), (.int .i64 0), (.int .i64 0), (.int .i64 0), (.str []), (.int .i64 0), (.str [])])) []⟩,
 ⟨none, none, .eff (.store (some 8)) [.tmp 17, .tmp 96]⟩,
 ⟨none, none, .eff (.store (some 8)) [.tmp 18, .tmp 98]⟩]
 .done
 (.alt [⟨some 18, none, .eff (.alloc (some 8) (.agg [(.int .u32 0), (.int .u32 0), (.int .i64 0), (.int .i64 0), (.int .i64 0), (.str []), (.int .i64 0), (.str [])])) []⟩,
 ⟨some 98, none, .call (.pv (.fn 7 [] [])) [.tmp 97]⟩,
 ⟨none, none, .eff (.store (some 8)) [.tmp 17, .tmp 96]⟩,
 ⟨none, none, .eff (.store (some 8)) [.tmp 18, .tmp 98]⟩]
 .done
 .stop))
 (.alt [⟨some 18, none, .eff (.alloc (some 8) (.agg [(.int .u32 0), (.int .u32 0), (.int .i64 0), (.int .i64 0), (.int .i64 0), (.str []), (.int .i64 0), (.str [])])) []⟩,
 ⟨some 96, none, .call (.pv (.fn 7 [] [])) [.tmp 95]⟩,
 ⟨some 98, none, .call (.pv (.fn 7 [] [])) [.tmp 97]⟩,
 ⟨none, none, .eff (.store (some 8)) [.tmp 17, .tmp 96]⟩,
 ⟨none, none, .eff (.store (some 8)) [.tmp 18, .tmp 98]⟩]
 .done
 .stop))
 (.alt [⟨some 18, none, .eff (.alloc (some 8) (.agg [(.int .u32 0), (.int .u32 0), (.int .i64 0), (.int .i64 0), (.int .i64 0), (.str []), (.int .i64 0), (.str [])])) []⟩]
 (.alt [⟨some 96, none, .call (.pv (.fn 7 [] [])) [.tmp 95]⟩]
 (.alt [⟨some 98, none, .call (.pv (.fn 7 [] [])) [.tmp 97]⟩,
 ⟨some 17, none, .eff (.alloc (some 8) (.agg [(.int .u32 0), (.int .u32 0), (.int .i64 0), (.int .i64 0), (.int .i64 0), (.str []), (.int .i64 0), (.str [])])) []⟩,
 ⟨none, none, .eff (.store (some 8)) [.tmp 17, .tmp 96]⟩,
 ⟨none, none, .eff (.store (some 8)) [.tmp 18, .tmp 98]⟩]
 .done
 (.alt [⟨some 17, none, .eff (.alloc (some 8) (.agg [(.int .u32 0), (.int .u32 0), (.int .i64 0), (.int .i64 0), (.int .i64 0), (.str []), (.int .i64 0), (.str [])])) []⟩,
 ⟨some 98, none, .call (.pv (.fn 7 [] [])) [.tmp 97]⟩,
 ⟨none, none, .eff (.store (some 8)) [.tmp 17, .tmp 96]⟩,
 ⟨none, none, .eff (.store (some 8)) [.tmp 18, .tmp 98]⟩]
 .done
 .stop))
 (.alt [⟨some 17, none, .eff (.alloc (some 8) (.agg [(.int .u32 0), (.int .u32 0), (.int .i64 0), (.int .i64 0), (.int .i64 0), (.str []), (.int .i64 0), (.str [])])) []⟩,
 ⟨some 96, none, .call (.pv (.fn 7 [] [])) [.tmp 95]⟩,
 ⟨some 98, none, .call (.pv (.fn 7 [] [])) [.tmp 97]⟩,
 ⟨none, none, .eff (.store (some 8)) [.tmp 17, .tmp 96]⟩,
 ⟨none, none, .eff (.store (some 8)) [.tmp 18, .tmp 98]⟩]
 .done
 .stop))
 .stop)))
 (.alt [⟨some 17, none, .eff (.alloc (some 8) (.agg [(.int .u32 0), (.int .u32 0), (.int .i64 0), (.int .i64 0), (.int .i64 0), (.str []), (.int .i64 0), (.str [])])) []⟩]
 (.alt [⟨some 95, none, .rd (.load (some 5)) [.tmp 14]⟩]
 (.alt [⟨some 96, none, .call (.pv (.fn 7 [] [])) [.tmp 95]⟩]
 (.alt [⟨some 98, none, .call (.pv (.fn 7 [] [])) [.tmp 97]⟩,
 ⟨some 18, none, .eff (.alloc (some 8) (.agg [(.int .u32 0), (.int .u32 0), (.int .i64 0), (.int .i64 0), (.int .i64 0), (.str []), (.int .i64 0), (.str [])])) []⟩,
 ⟨none, none, .eff (.store (some 8)) [.tmp 17, .tmp 96]⟩,
 ⟨none, none, .eff (.store (some 8)) [.tmp 18, .tmp 98]⟩]
 .done
 (.alt [⟨some 18, none, .eff (.alloc (some 8) (.agg [(.int .u32 0), (.int .u32 0), (.int .i64 0), (.int .i64 0), (.int .i64 0), (.str []), (.int .i64 0), (.str [])])) []⟩,
 ⟨some 98, none, .call (.pv (.fn 7 [] [])) [.tmp 97]⟩,
 ⟨none, none, .eff (.store (some 8)) [.tmp 17, .tmp 96]⟩,
 ⟨none, none, .eff (.store (some 8)) [.tmp 18, .tmp 98]⟩]
 .done
 .stop))
 (.alt [⟨some 18, none, .eff (.alloc (some 8) (.agg [(.int .u32 0), (.int .u32 0), (.int .i64 0), (.int .i64 0), (.int .i64 0), (.str []), (.int .i64 0), (.str [])])) []⟩,
 ⟨some 96, none, .call (.pv (.fn 7 [] [])) [.tmp 95]⟩,
 ⟨some 98, none, .call (.pv (.fn 7 [] [])) [.tmp 97]⟩,
 ⟨none, none, .eff (.store (some 8)) [.tmp 17, .tmp 96]⟩,
 ⟨none, none, .eff (.store (some 8)) [.tmp 18, .tmp 98]⟩]
 .done
 .stop))
 (.alt [⟨some 18, none, .eff (.alloc (some 8) (.agg [(.int .u32 0), (.int .u32 0), (.int .i64 0), (.int .i64 0), (.int .i64 0), (.str []), (.int .i64 0), (.str [])])) []⟩,
 ⟨some 95, none, .rd (.load (some 5)) [.tmp 14]⟩,
 ⟨some 96, none, .call (.pv (.fn 7 [] [])) [.tmp 95]⟩,
 ⟨some 98, none, .call (.pv (.fn 7 [] [])) [.tmp 97]⟩,
 ⟨none, none, .eff (.store (some 8)) [.tmp 17, .tmp 96]⟩,
 ⟨none, none, .eff (.store (some 8)) [.tmp 18, .tmp 98]⟩]
 .done
 .stop))
 (.alt [⟨some 18, none, .eff (.alloc (some 8) (.agg [(.int .u32 0), (.int .u32 0), (.int .i64 0), (.int .i64 0), (.int .i64 0), (.str []), (.int .i64 0), (.str [])])) []⟩]
 (.alt [⟨some 95, none, .rd (.load (some 5)) [.tmp 14]⟩]
 (.alt [⟨some 96, none, .call (.pv (.fn 7 [] [])) [.tmp 95]⟩]
 (.alt [⟨some 98, none, .call (.pv (.fn 7 [] [])) [.tmp 97]⟩,
 ⟨some 17, none, .eff (.alloc (some 8) (.agg [(.int .u32 0), (.int .u32 0), (.int .i64 0), (.int .i64 0), (.int .i64 0), (.str []), (.int .i64 0), (.str [])])) []⟩,
 ⟨none, none, .eff (.store (some 8)) [.tmp 17, .tmp 96]⟩,
 ⟨none, none, .eff (.store (some 8)) [.tmp 18, .tmp 98]⟩]
 .done
 (.alt [⟨some 17, none, .eff (.alloc (some 8) (.agg [(.int .u32 0), (.int .u32 0), (.int .i64 0), (.int .i64 0), (.int .i64 0), (.str []), (.int .i64 0), (.str [])])) []⟩,
 ⟨some 98, none, .call (.pv (.fn 7 [] [])) [.tmp 97]⟩,
 ⟨none, none, .eff (.store (some 8)) [.tmp 17, .tmp 96]⟩,
 ⟨none, none, .eff (.store (some 8)) [.tmp 18, .tmp 98]⟩]
 .done
 .stop))
 (.alt [⟨some 17, none, .eff (.alloc (some 8) (.agg [(.int .u32 0), (.int .u32 0), (.int .i64 0), (.int .i64 0), (.int .i64 0), (.str []), (.int .i64 0), (.str [])])) []⟩,
 ⟨some 96, none, .call (.pv (.fn 7 [] [])) [.tmp 95]⟩,
 ⟨some 98, none, .call (.pv (.fn 7 [] [])) [.tmp 97]⟩,
 ⟨none, none, .eff (.store (some 8)) [.tmp 17, .tmp 96]⟩,
 ⟨none, none, .eff (.store (some 8)) [.tmp 18, .tmp 98]⟩]
 .done
 .stop))
 (.alt [⟨some 17, none, .eff (.alloc (some 8) (.agg [(.int .u32 0), (.int .u32 0), (.int .i64 0), (.int .i64 0), (.int .i64 0), (.str []), (.int .i64 0), (.str [])])) []⟩,
 ⟨some 95, none, .rd (.load (some 5)) [.tmp 14]⟩,
 ⟨some 96, none, .call (.pv (.fn 7 [] [])) [.tmp 95]⟩,
 ⟨some 98, none, .call (.pv (.fn 7 [] [])) [.tmp 97]⟩,
 ⟨none, none, .eff (.store (some 8)) [.tmp 17, .tmp 96]⟩,
 ⟨none, none, .eff (.store (some 8)) [.tmp 18, .tmp 98]⟩]
 .done
 .stop))
 .stop)))
 (.alt [⟨some 17, none, .eff (.alloc (some 8) (.agg [(.int .u32 0), (.int .u32 0), (.int .i64 0), (.int .i64 0), (.int .i64 0), (.str []), (.int .i64 0), (.str [])])) []⟩]
 (.alt [⟨some 95, none, .rd (.load (some 5)) [.tmp 14]⟩]
 (.alt [⟨some 96, none, .call (.pv (.fn 7 [] [])) [.tmp 95]⟩]
 (.alt [⟨some 97, none, .rd (.load (some 5)) [.tmp 16]⟩]
 (.alt [⟨some 98, none, .call (.pv (.fn 7 [] [])) [.tmp 97]⟩,
 ⟨some 18, none, .eff (.alloc (some 8) (.agg [(.int .u32 0), (.int .u32 0), (.int .i64 0), (.int .i64 0), (.int .i64 0), (.str []), (.int .i64 0), (.str [])])) []⟩,
 ⟨none, none, .eff (.store (some 8)) [.tmp 17, .tmp 96]⟩,
 ⟨none, none, .eff (.store (some 8)) [.tmp 18, .tmp 98]⟩]
 .done
 (.alt [⟨some 18, none, .eff (.alloc (some 8) (.agg [(.int .u32 0), (.int .u32 0), (.int .i64 0), (.int .i64 0), (.int .i64 0), (.str []), (.int .i64 0), (.str [])])) []⟩,
 ⟨some 98, none, .call (.pv (.fn 7 [] [])) [.tmp 97]⟩,
 ⟨none, none, .eff (.store (some 8)) [.tmp 17, .tmp 96]⟩,
 ⟨none, none, .eff (.store (some 8)) [.tmp 18, .tmp 98]⟩]
 .done
 .stop))
 (.alt [⟨some 18, none, .eff (.alloc (some 8) (.agg [(.int .u32 0), (.int .u32 0), (.int .i64 0), (.int .i64 0), (.int .i64 0), (.str []), (.int .i64 0), (.str [])])) []⟩,
 ⟨some 97, none, .rd (.load (some 5)) [.tmp 16]⟩,
 ⟨some 98, none, .call (.pv (.fn 7 [] [])) [.tmp 97]⟩,
 ⟨none, none, .eff (.store (some 8)) [.tmp 17, .tmp 96]⟩,
 ⟨none, none, .eff (.store (some 8)) [.tmp 18, .tmp 98]⟩]
 .done
 .stop))
 (.alt [⟨some 97, none, .rd (.load (some 5)) [.tmp 16]⟩]
 (.alt [⟨some 96, none, .call (.pv (.fn 7 [] [])) [.tmp 95]⟩]
 (.alt [⟨some 98, none, .call (.pv (.fn 7 [] [])) [.tmp 97]⟩,
 ⟨some 18, none, .eff (.alloc (some 8) (.agg [(.int .u32 0), (.int .u32 0), (.int .i64 0), (.int .i64 0), (.int .i64 0), (.str []), (.int .i64 0), (.str [])])) []⟩,
 ⟨none, none, .eff (.store (some 8)) [.tmp 17, .tmp 96]⟩,
 ⟨none, none, .eff (.store (some 8)) [.tmp 18, .tmp 98]⟩]
 .done
 (.alt [⟨some 18, none, .eff (.alloc (some 8) (.agg [(.int .u32 0), (.int .u32 0), (.int .i64 0), (.int .i64 0), (.int .i64 0), (.str []), (.int .i64 0), (.str [])])) []⟩,
 ⟨some 98, none, .call (.pv (.fn 7 [] [])) [.tmp 97]⟩,
 ⟨none, none, .eff (.store (some 8)) [.tmp 17, .tmp 96]⟩,
 ⟨none, none, .eff (.store (some 8)) [.tmp 18, .tmp 98]⟩]
 .done
 .stop))
 (.alt [⟨some 18, none, .eff (.alloc (some 8) (.agg [(.int .u32 0), (.int .u32 0), (.int .i64 0), (.int .i64 0), (.int .i64 0), (.str []), (.int .i64 0), (.str [])])) []⟩,
 ⟨some 96, none, .call (.pv (.fn 7 [] [])) [.tmp 95]⟩,
 ⟨some 98, none, .call (.pv (.fn 7 [] [])) [.tmp 97]⟩,
 ⟨none, none, .eff (.store (some 8)) [.tmp 17, .tmp 96]⟩,
 ⟨none, none, .eff (.store (some 8)) [.tmp 18, .tmp 98]⟩]
 .done
 .stop))
 (.alt [⟨some 18, none, .eff (.alloc (some 8) (.agg [(.int .u32 0), (.int .u32 0), (.int .i64 0), (.int .i64 0), (.int .i64 0), (.str []), (.int .i64 0), (.str [])])) []⟩]
 (.alt [⟨some 96, none, .call (.pv (.fn 7 [] [])) [.tmp 95]⟩,
 ⟨some 97, none, .rd (.load (some 5)) [.tmp 16]⟩,
 ⟨some 98, none, .call (.pv (.fn 7 [] [])) [.tmp 97]⟩,
 ⟨none, none, .eff (.store (some 8)) [.tmp 17, .tmp 96]⟩,
 ⟨none, none, .eff (.store (some 8)) [.tmp 18, .tmp 98]⟩]
 .done
 (.alt [⟨some 97, none, .rd (.load (some 5)) [.tmp 16]⟩,
 ⟨some 96, none, .call (.pv (.fn 7 [] [])) [.tmp 95]⟩,
 ⟨some 98, none, .call (.pv (.fn 7 [] [])) [.tmp 97]⟩,
 ⟨none, none, .eff (.store (some 8)) [.tmp 17, .tmp 96]⟩,
 ⟨none, none, .eff (.store (some 8)) [.tmp 18, .tmp 98]⟩]
 .done
 .stop))
 .stop)))
 (.alt [⟨some 97, none, .rd (.load (some 5)) [.tmp 16]⟩]
 (.alt [⟨some 95, none, .rd (.load (some 5)) [.tmp 14]⟩]
 (.alt [⟨some 96, none, .call (.pv (.fn 7 [] [])) [.tmp 95]⟩]
 (.alt [⟨some 98, none, .call (.pv (.fn 7 [] [])) [.tmp 97]⟩,
 ⟨some 18, none, .eff (.alloc (some 8) (.agg [(.int .u32 0), (.int .u32 0), (.int .i64 0), (.int .i64 0), (.int .i64 0), (.str []), (.int .i64 0), (.str [])])) []⟩,
 ⟨none, none, .eff (.store (some 8)) [.tmp 17, .tmp 96]⟩,
 ⟨none, none, .eff (.store (some 8)) [.tmp 18, .tmp 98]⟩]
 .done
 (.alt [⟨some 18, none, .eff (.alloc (some 8) (.agg [(.int .u32 0), (.int .u32 0), (.int .i64 0), (.int .i64 0), (.int .i64 0), (.str []), (.int .i64 0), (.str [])])) []⟩,
 ⟨some 98, none, .call (.pv (.fn 7 [] [])) [.tmp 97]⟩,
 ⟨none, none, .eff (.store (some 8)) [.tmp 17, .tmp 96]⟩,
 ⟨none, none, .eff (.store (some 8)) [.tmp 18, .tmp 98]⟩]
 .done
 .stop))
 (.alt [⟨some 18, none, .eff (.alloc (some 8) (.agg [(.int .u32 0), (.int .u32 0), (.int .i64 0), (.int .i64 0), (.int .i64 0), (.str []), (.int .i64 0), (.str [])])) []⟩,
 ⟨some 96, none, .call (.pv (.fn 7 [] [])) [.tmp 95]⟩,
 ⟨some 98, none, .call (.pv (.fn 7 [] [])) [.tmp 97]⟩,
 ⟨none, none, .eff (.store (some 8)) [.tmp 17, .tmp 96]⟩,
 ⟨none, none, .eff (.store (some 8)) [.tmp 18, .tmp 98]⟩]
 .done
 .stop))
 (.alt [⟨some 18, none, .eff (.alloc (some 8) (.agg [(.int .u32 0), (.int .u32 0), (.int .i64 0), (.int .i64 0), (.int .i64 0), (.str []), (.int .i64 0), (.str [])])) []⟩,
 ⟨some 95, none, .rd (.load (some 5)) [.tmp 14]⟩,
 ⟨some 96, none, .call (.pv (.fn 7 [] [])) [.tmp 95]⟩,
 ⟨some 98, none, .call (.pv (.fn 7 [] [])) [.tmp 97]⟩,
 ⟨none, none, .eff (.store (some 8)) [.tmp 17, .tmp 96]⟩,
 ⟨none, none, .eff (.store (some 8)) [.tmp 18, .tmp 98]⟩]
 .done
 .stop))
 (.alt [⟨some 18, none, .eff (.alloc (some 8) (.agg [(.int .u32 0), (.int .u32 0), (.int .i64 0), (.int .i64 0), (.int .i64 0), (.str []), (.int .i64 0), (.str [])])) []⟩]
 (.alt [⟨some 95, none, .rd (.load (some 5)) [.tmp 14]⟩]
 (.alt [⟨some 96, none, .call (.pv (.fn 7 [] [])) [.tmp 95]⟩,
 ⟨some 97, none, .rd (.load (some 5)) [.tmp 16]⟩,
 ⟨some 98, none, .call (.pv (.fn 7 [] [])) [.tmp 97]⟩,
 ⟨none, none, .eff (.store (some 8)) [.tmp 17, .tmp 96]⟩,
 ⟨none, none, .eff (.store (some 8)) [.tmp 18, .tmp 98]⟩]
 .done
 (.alt [⟨some 97, none, .rd (.load (some 5)) [.tmp 16]⟩,
 ⟨some 96, none, .call (.pv (.fn 7 [] [])) [.tmp 95]⟩,
 ⟨some 98, none, .call (.pv (.fn 7 [] [])) [.tmp 97]⟩,
 ⟨none, none, .eff (.store (some 8)) [.tmp 17, .tmp 96]⟩,
 ⟨none, none, .eff (.store (some 8)) [.tmp 18, .tmp 98]⟩]
 .done
 .stop))
 (.alt [⟨some 97, none, .rd (.load (some 5)) [.tmp 16]⟩,
 ⟨some 95, none, .rd (.load (some 5)) [.tmp 14]⟩,
 ⟨some 96, none, .call (.pv (.fn 7 [] [])) [.tmp 95]⟩,
 ⟨some 98, none, .call (.pv (.fn 7 [] [])) [.tmp 97]⟩,
 ⟨none, none, .eff (.store (some 8)) [.tmp 17, .tmp 96]⟩,
 ⟨none, none, .eff (.store (some 8)) [.tmp 18, .tmp 98]⟩]
 .done
 .stop))
 .stop)))
 (.alt [⟨some 18, none, .eff (.alloc (some 8) (.agg [(.int .u32 0), (.int .u32 0), (.int .i64 0), (.int .i64 0), (.int .i64 0), (.str []), (.int .i64 0), (.str [])])) []⟩]
 (.alt [⟨some 95, none, .rd (.load (some 5)) [.tmp 14]⟩]
 (.alt [⟨some 96, none, .call (.pv (.fn 7 [] [])) [.tmp 95]⟩]
 (.alt [⟨some 97, none, .rd (.load (some 5)) [.tmp 16]⟩]
 (.alt [⟨some 98, none, .call (.pv (.fn 7 [] [])) [.tmp 97]⟩,
 ⟨some 17, none, .eff (.alloc (some 8) (.agg [(.int .u32 0), (.int .u32 0), (.int .i64 0), (.int .i64 0), (.int .i64 0), (.str []), (.int .i64 0), (.str [])])) []⟩,
 ⟨none, none, .eff (.store (some 8)) [.tmp 17, .tmp 96]⟩,
 ⟨none, none, .eff (.store (some 8)) [.tmp 18, .tmp 98]⟩]
 .done
 (.alt [⟨some 17, none, .eff (.alloc (some 8) (.agg [(.int .u32 0), (.int .u32 0), (.int .i64 0), (.int .i64 0), (.int .i64 0), (.str []), (.int .i64 0), (.str [])])) []⟩,
 ⟨some 98, none, .call (.pv (.fn 7 [] [])) [.tmp 97]⟩,
 ⟨none, none, .eff (.store (some 8)) [.tmp 17, .tmp 96]⟩,
 ⟨none, none, .eff (.store (some 8)) [.tmp 18, .tmp 98]⟩]
 .done
 .stop))
 (.alt [⟨some 17, none, .eff (.alloc (some 8) (.agg [(.int .u32 0), (.int .u32 0), (.int .i64 0), (.int .i64 0), (.int .i64 0), (.str []), (.int .i64 0), (.str [])])) []⟩,
 ⟨some 97, none, .rd (.load (some 5)) [.tmp 16]⟩,
 ⟨some 98, none, .call (.pv (.fn 7 [] [])) [.tmp 97]⟩,
 ⟨none, none, .eff (.store (some 8)) [.tmp 17, .tmp 96]⟩,
 ⟨none, none, .eff (.store (some 8)) [.tmp 18, .tmp 98]⟩]
 .done
 .stop))
 (.alt [⟨some 97, none, .rd (.load (some 5)) [.tmp 16]⟩]
 (.alt [⟨some 96, none, .call (.pv (.fn 7 [] [])) [.tmp 95]⟩]
 (.alt [⟨some 98, none, .call (.pv (.fn 7 [] [])) [.tmp 97]⟩,
 ⟨some 17, none, .eff (.alloc (some 8) (.agg [(.int .u32 0), (.int .u32 0), (.int .i64 0), (.int .i64 0), (.int .i64 0), (.str []), (.int .i64 0), (.str [])])) []⟩,
 ⟨none, none, .eff (.store (some 8)) [.tmp 17, .tmp 96]⟩,
 ⟨none, none, .eff (.store (some 8)) [.tmp 18, .tmp 98]⟩]
 .done
 (.alt [⟨some 17, none, .eff (.alloc (some 8) (.agg [(.int .u32 0), (.int .u32 0), (.int .i64 0), (.int .i64 0), (.int .i64 0), (.str []), (.int .i64 0), (.str [])])) []⟩,
 ⟨some 98, none, .call (.pv (.fn 7 [] [])) [.tmp 97]⟩,
 ⟨none, none, .eff (.store (some 8)) [.tmp 17, .tmp 96]⟩,
 ⟨none, none, .eff (.store (some 8)) [.tmp 18, .tmp 98]⟩]
 .done
 .stop))
 (.alt [⟨some 17, none, .eff (.alloc (some 8) (.agg [(.int .u32 0), (.int .u32 0), (.int .i64 0), (.int .i64 0), (.int .i64 0), (.str []), (.int .i64 0), (.str [])])) []⟩,
 ⟨some 96, none, .call (.pv (.fn 7 [] [])) [.tmp 95]⟩,
 ⟨some 98, none, .call (.pv (.fn 7 [] [])) [.tmp 97]⟩,
 ⟨none, none, .eff (.store (some 8)) [.tmp 17, .tmp 96]⟩,
 ⟨none, none, .eff (.store (some 8)) [.tmp 18, .tmp 98]⟩]
 .done
 .stop))
 (.alt [⟨some 17, none, .eff (.alloc (some 8) (.agg [(.int .u32 0), (.int .u32 0), (.int .i64 0), (.int .i64 0), (.int .i64 0), (.str []), (.int .i64 0), (.str [])])) []⟩]
 (.alt [⟨some 96, none, .call (.pv (.fn 7 [] [])) [.tmp 95]⟩,
 ⟨some 97, none, .rd (.load (some 5)) [.tmp 16]⟩,
 ⟨some 98, none, .call (.pv (.fn 7 [] [])) [.tmp 97]⟩,
 ⟨none, none, .eff (.store (some 8)) [.tmp 17, .tmp 96]⟩,
 ⟨none, none, .eff (.store (some 8)) [.tmp 18, .tmp 98]⟩]
 .done
 (.alt [⟨some 97, none, .rd (.load (some 5)) [.tmp 16]⟩,
 ⟨some 96, none, .call (.pv (.fn 7 [] [])) [.tmp 95]⟩,
 ⟨some 98, none, .call (.pv (.fn 7 [] [])) [.tmp 97]⟩,
 ⟨none, none, .eff (.store (some 8)) [.tmp 17, .tmp 96]⟩,
 ⟨none, none, .eff (.store (some 8)) [.tmp 18, .tmp 98]⟩]
 .done
 .stop))
 .stop)))
 (.alt [⟨some 97, none, .rd (.load (some 5)) [.tmp 16]⟩]
 (.alt [⟨some 95, none, .rd (.load (some 5)) [.tmp 14]⟩]
 (.alt [⟨some 96, none, .call (.pv (.fn 7 [] [])) [.tmp 95]⟩]
 (.alt [⟨some 98, none, .call (.pv (.fn 7 [] [])) [.tmp 97]⟩,
 ⟨some 17, none, .eff (.alloc (some 8) (.agg [(.int .u32 0), (.int .u32 0), (.int .i64 0), (.int .i64 0), (.int .i64 0), (.str []), (.int .i64 0), (.str [])])) []⟩,
 ⟨none, none, .eff (.store (some 8)) [.tmp 17, .tmp 96]⟩,
 ⟨none, none, .eff (.store (some 8)) [.tmp 18, .tmp 98]⟩]
 .done
 (.alt [⟨some 17, none, .eff (.alloc (some 8) (.agg [(.int .u32 0), (.int .u32 0), (.int .i64 0), (.int .i64 0), (.int .i64 0), (.str []), (.int .i64 0), (.str [])])) []⟩,
 ⟨some 98, none, .call (.pv (.fn 7 [] [])) [.tmp 97]⟩,
 ⟨none, none, .eff (.store (some 8)) [.tmp 17, .tmp 96]⟩,
 ⟨none, none, .eff (.store (some 8)) [.tmp 18, .tmp 98]⟩]
 .done
 .stop))
 (.alt [⟨some 17, none, .eff (.alloc (some 8) (.agg [(.int .u32 0), (.int .u32 0), (.int .i64 0), (.int .i64 0), (.int .i64 0), (.str []), (.int .i64 0), (.str [])])) []⟩,
 ⟨some 96, none, .call (.pv (.fn 7 [] [])) [.tmp 95]⟩,
 ⟨some 98, none, .call (.pv (.fn 7 [] [])) [.tmp 97]⟩,
 ⟨none, none, .eff (.store (some 8)) [.tmp 17, .tmp 96]⟩,
 ⟨none, none, .eff (.store (some 8)) [.tmp 18, .tmp 98]⟩]
 .done
 .stop))
 (.alt [⟨some 17, none, .eff (.alloc (some 8) (.agg [(.int .u32 0), (.int .u32 0), (.int .i64 0), (.int .i64 0), (.int .i64 0), (.str []), (.int .i64 0), (.str [])])) []⟩,
 ⟨some 95, none, .rd (.load (some 5)) [.tmp 14]⟩,
 ⟨some 96, none, .call (.pv (.fn 7 [] [])) [.tmp 95]⟩,
 ⟨some 98, none, .call (.pv (.fn 7 [] [])) [.tmp 97]⟩,
 ⟨none, none, .eff (.store (some 8)) [.tmp 17, .tmp 96]⟩,
 ⟨none, none, .eff (.store (some 8)) [.tmp 18, .tmp 98]⟩]
 .done
 .stop))
 (.alt [⟨some 17, none, .eff (.alloc (some 8) (.agg [(.int .u32 0), (.int .u32 0), (.int .i64 0), (.int .i64 0), (.int .i64 0), (.str []), (.int .i64 0), (.str [])])) []⟩]
 (.alt [⟨some 95, none, .rd (.load (some 5)) [.tmp 14]⟩]
 (.alt [⟨some 96, none, .call (.pv (.fn 7 [] [])) [.tmp 95]⟩,
 ⟨some 97, none, .rd (.load (some 5)) [.tmp 16]⟩,
 ⟨some 98, none, .call (.pv (.fn 7 [] [])) [.tmp 97]⟩,
 ⟨none, none, .eff (.store (some 8)) [.tmp 17, .tmp 96]⟩,
 ⟨none, none, .eff (.store (some 8)) [.tmp 18, .tmp 98]⟩]
 .done
 (.alt [⟨some 97, none, .rd (.load (some 5)) [.tmp 16]⟩,
 ⟨some 96, none, .call (.pv (.fn 7 [] [])) [.tmp 95]⟩,
 ⟨some 98, none, .call (.pv (.fn 7 [] [])) [.tmp 97]⟩,
 ⟨none, none, .eff (.store (some 8)) [.tmp 17, .tmp 96]⟩,
 ⟨none, none, .eff (.store (some 8)) [.tmp 18, .tmp 98]⟩]
 .done
 .stop))
 (.alt [⟨some 97, none, .rd (.load (some 5)) [.tmp 16]⟩,
 ⟨some 95, none, .rd (.load (some 5)) [.tmp 14]⟩,
 ⟨some 96, none, .call (.pv (.fn 7 [] [])) [.tmp 95]⟩,
 ⟨some 98, none, .call (.pv (.fn 7 [] [])) [.tmp 97]⟩,
 ⟨none, none, .eff (.store (some 8)) [.tmp 17, .tmp 96]⟩,
 ⟨none, none, .eff (.store (some 8)) [.tmp 18, .tmp 98]⟩]
 .done
 .stop))
 .stop)))
 .stop)))) L3)
 (.seq (.region false [⟨some 99, none, .rd (.fldAddr 1) [.tmp 17]⟩,
 ⟨some 100, none, .rd (.load none) [.tmp 99]⟩,
 ⟨some 101, none, .rd (.fldAddr 1) [.tmp 18]⟩,
 ⟨some 102, none, .rd (.load none) [.tmp 101]⟩,
 ⟨some 103, none, .rd (.bin .eql) [.tmp 100, .tmp 102]⟩,
 ⟨some 104, none, .rd .mov [.tmp 103]⟩,
 ⟨some 105, some (104, true), .rd (.fldAddr 4) [.tmp 17]⟩,
 ⟨some 106, some (104, true), .rd (.load none) [.tmp 105]⟩,
 ⟨some 107, some (104, true), .rd (.bin .eql) [.tmp 106, .pv (.int .i64 0)]⟩,
 ⟨some 108, some (104, true), .rd .mov [.tmp 107]⟩,
 ⟨some 109, some (108, false), .rd (.fldAddr 4) [.tmp 17]⟩,
 ⟨some 110, some (108, false), .rd (.load none) [.tmp 109]⟩,
 ⟨some 111, some (108, false), .rd (.fldAddr 3) [.tmp 18]⟩,
 ⟨some 112, some (108, false), .rd (.load none) [.tmp 111]⟩,
 ⟨some 113, some (108, false), .rd (.bin .gtr) [.tmp 110, .tmp 112]⟩,
 ⟨some 114, some (104, true), .rd .pick [.tmp 108, .pv (.bool true), .tmp 113]⟩,
 ⟨some 115, none, .rd .pick [.tmp 104, .tmp 114, .pv (.bool false)]⟩,
 ⟨some 116, none, .rd .mov [.tmp 115]⟩,
 ⟨some 117, some (116, true), .rd (.fldAddr 4) [.tmp 18]⟩,
 ⟨some 118, some (116, true), .rd (.load none) [.tmp 117]⟩,
 ⟨some 119, some (116, true), .rd (.bin .eql) [.tmp 118, .pv (.int .i64 0)]⟩,
 ⟨some 120, some (116, true), .rd .mov [.tmp 119]⟩,
 ⟨some 121, some (120, false), .rd (.fldAddr 4) [.tmp 18]⟩,
 ⟨some 122, some (120, false), .rd (.load none) [.tmp 121]⟩,
 ⟨some 123, some (120, false), .rd (.fldAddr 3) [.tmp 17]⟩,
 ⟨some 124, some (120, false), .rd (.load none) [.tmp 123]⟩,
 ⟨some 125, some (120, false), .rd (.bin .gtr) [.tmp 122, .tmp 124]⟩,
 ⟨some 126, some (116, true), .rd .pick [.tmp 120, .pv (.bool true), .tmp 125]⟩,
 ⟨some 127, none, .rd .pick [.tmp 116, .tmp 126, .pv (.bool false)]⟩] L3)
 (.cond (.tmp 127)
 (.region false [⟨some 12, none, .rd .mov [.pv (.bool false)]⟩] L3)
 (.skip))))))
 (.region false [⟨some 128, none, .rd (.bin .add) [.tmp 91, .pv (.int .i64 1)]⟩,
 ⟨some 91, none, .rd .mov [.tmp 128]⟩] L3)))))))))
 (.region false [⟨some 129, none, .rd (.bin .add) [.tmp 82, .pv (.int .i64 1)]⟩,
 ⟨some 82, none, .rd .mov [.tmp 129]⟩] L3)))))))
 (.seq (.region false [⟨some 131, none, .rd .mov [.tmp 0]⟩,
 ⟨some 132, none, .call (.pv (.fn 8 [] [])) [.tmp 131]⟩,
 ⟨some 130, none, .rd .mov [.tmp 132]⟩,
 ⟨some 133, none, .rd (.ext 0) [.tmp 130]⟩,
 ⟨some 134, none, .rd (.ext 1) [.tmp 130]⟩,
 ⟨some 19, none, .eff (.alloc (some 1) (.agg [.nilSl])) []⟩,
 ⟨none, none, .eff (.store (some 1)) [.tmp 19, .tmp 133]⟩,
 ⟨some 20, none, .rd .mov [.tmp 134]⟩] L3)
 (.seq (.region false [⟨some 136, none, .rd .mov [.tmp 7]⟩,
 ⟨some 137, none, .call (.pv (.fn 8 [] [])) [.tmp 136]⟩,
 ⟨some 135, none, .rd .mov [.tmp 137]⟩,
 ⟨some 138, none, .rd (.ext 0) [.tmp 135]⟩,
 ⟨some 139, none, .rd (.ext 1) [.tmp 135]⟩,
 ⟨some 21, none, .eff (.alloc (some 1) (.agg [.nilSl])) []⟩,
 ⟨none, none, .eff (.store (some 1)) [.tmp 21, .tmp 138]⟩,
 ⟨some 22, none, .rd .mov [.tmp 139]⟩] L3)
 (.seq (.seq (.region false [⟨some 140, none, .rd .mov [.tmp 20]⟩,
 ⟨some 141, none, .rd (.un .not) [.tmp 140]⟩,
 ⟨some 142, none, .rd .mov [.tmp 141]⟩,
 ⟨some 143, some (142, false), .rd .mov [.tmp 22]⟩,
 ⟨some 144, some (142, false), .rd (.un .not) [.tmp 143]⟩,
 ⟨some 145, none, .rd .pick [.tmp 142, .pv (.bool true), .tmp 144]⟩] L3)
 (.cond (.tmp 145)
 (.seq (.region false [⟨some 6, none, .rd .mov [.pv (.bool false)]⟩] L3)
 (.ret))
 (.skip)))
 (.seq (.seq (.region false [⟨some 146, none, .rd .mov [.pv (.int .u32 0)]⟩] L3)
 (.block 6
 (.loop
 (.seq (.region false [⟨some 147, none, .rd (.bin .lss) [.tmp 146, .pv (.int .u32 257)]⟩] L3)
 (.seq (.cond (.tmp 147)
 (.skip)
 (.exit 6))
 (.seq (.block 7
 (.seq (.region false [⟨some 148, none, .rd .mov [.tmp 146]⟩,
 ⟨some 23, none, .rd .mov [.tmp 148]⟩] L3)
 (.seq (.region false [⟨some 150, none, .rd (.load (some 1)) [.tmp 19]⟩,
 ⟨some 151, none, .rd .mov [.tmp 0]⟩,
 ⟨some 152, none, .rd .lenL [.tmp 151]⟩,
 ⟨some 153, none, .call (.pv (.fn 10 [] [])) [.tmp 150, .tmp 152]⟩,
 ⟨some 154, none, .rd .mov [.tmp 23]⟩,
 ⟨some 155, none, .call (.pv (.fn 11 [] [])) [.tmp 153, .tmp 154, .pv (.int .i64 2)]⟩,
 ⟨some 156, none, .call (.pv (.fn 9 [] [])) [.tmp 155]⟩,
 ⟨some 157, none, .rd .mov [.tmp 2]⟩,
 ⟨some 158, none, .rd (.conv .i64) [.tmp 157]⟩,
 ⟨some 159, none, .call (.pv (.fn 12 [] [])) [.tmp 156, .tmp 158]⟩,
 ⟨some 149, none, .rd .mov [.tmp 159]⟩,
 ⟨some 160, none, .rd (.ext 0) [.tmp 149]⟩,
 ⟨some 161, none, .rd (.ext 1) [.tmp 149]⟩,
 ⟨some 24, none, .eff (.alloc (some 3) (.agg [(.int .i64 0), (.int .i64 0), (.str [])])) []⟩,
 ⟨none, none, .eff (.store (some 3)) [.tmp 24, .tmp 160]⟩,
 ⟨some 25, none, .rd .mov [.tmp 161]⟩] L3)
 (.seq (.region false [⟨some 163, none, .rd (.load (some 1)) [.tmp 21]⟩,
 ⟨some 164, none, .rd .mov [.tmp 0]⟩,
 ⟨some 165, none, .rd .lenL [.tmp 164]⟩,
 ⟨some 166, none, .call (.pv (.fn 10 [] [])) [.tmp 163, .tmp 165]⟩,
 ⟨some 167, none, .rd .mov [.tmp 23]⟩,
 ⟨some 168, none, .call (.pv (.fn 11 [] [])) [.tmp 166, .tmp 167, .pv (.int .i64 2)]⟩,
 ⟨some 169, none, .call (.pv (.fn 9 [] [])) [.tmp 168]⟩,
 ⟨some 170, none, .rd .mov [.tmp 2]⟩,
 ⟨some 171, none, .rd (.conv .i64) [.tmp 170]⟩,
 ⟨some 172, none, .call (.pv (.fn 12 [] [])) [.tmp 169, .tmp 171]⟩,
 ⟨some 162, none, .rd .mov [.tmp 172]⟩,
 ⟨some 173, none, .rd (.ext 0) [.tmp 162]⟩,
 ⟨some 174, none, .rd (.ext 1) [.tmp 162]⟩,
 ⟨some 26, none, .eff (.alloc (some 3) (.agg [(.int .i64 0), (.int .i64 0), (.str [])])) []⟩,
 ⟨none, none, .eff (.store (some 3)) [.tmp 26, .tmp 173]⟩,
 ⟨some 27, none, .rd .mov [.tmp 174]⟩] L3)
 (.seq (.seq (.region false [⟨some 175, none, .rd .mov [.tmp 12]⟩,
 ⟨some 176, none, .rd .mov [.tmp 175]⟩,
 ⟨some 177, some (176, true), .rd .mov [.tmp 25]⟩,
 ⟨some 178, some (176, true), .rd .mov [.tmp 27]⟩,
 ⟨some 179, some (176, true), .rd (.eqB true) [.tmp 177, .tmp 178]⟩,
 ⟨some 180, some (176, true), .rd .mov [.tmp 179]⟩,
 ⟨some 181, some (180, false), .rd (.fldAddr 1) [.tmp 24]⟩,
 ⟨some 182, some (180, false), .rd (.load none) [.tmp 181]⟩,
 ⟨some 183, some (180, false), .rd (.fldAddr 1) [.tmp 26]⟩,
 ⟨some 184, some (180, false), .rd (.load none) [.tmp 183]⟩,
 ⟨some 185, some (180, false), .rd (.bin .neq) [.tmp 182, .tmp 184]⟩,
 ⟨some 186, some (176, true), .rd .pick [.tmp 180, .pv (.bool true), .tmp 185]⟩,
 ⟨some 187, none, .rd .pick [.tmp 176, .tmp 186, .pv (.bool false)]⟩] L3)
 (.cond (.tmp 187)
 (.seq (.region false [⟨some 6, none, .rd .mov [.pv (.bool false)]⟩] L3)
 (.ret))
 (.skip)))
 (.seq (.region false [⟨some 28, none, .rd .mov [.pv (.int .i64 0)]⟩,
 ⟨some 29, none, .rd .mov [.pv (.bool false)]⟩] L3)
 (.seq (.seq (.region false [⟨some 188, none, .rd .mov [.tmp 0]⟩,
 ⟨some 189, none, .rd .lenL [.tmp 188]⟩,
 ⟨some 190, none, .rd .mov [.pv (.int .i64 0)]⟩] L3)
 (.block 8
 (.loop
 (.seq (.region false [⟨some 191, none, .rd (.bin .lss) [.tmp 190, .tmp 189]⟩] L3)
 (.seq (.cond (.tmp 191)
 (.skip)
 (.exit 8))
 (.seq (.block 9
 (.seq (.region false [⟨some 192, none, .rd (.idxAddr (some 5)) [.tmp 188, .tmp 190]⟩,
 ⟨some 193, none, .rd (.load (some 5)) [.tmp 192]⟩,
 ⟨some 31, none, .eff (.alloc (some 5) (.agg [(.int .u8 0), (.int .u32 0), (.int .u16 0), (.int .u16 0), (.int .u16 0)])) []⟩,
 ⟨none, none, .eff (.store (some 5)) [.tmp 31, .tmp 193]⟩] L3)
 (.seq (.region false [⟨some 194, none, .rd (.load (some 5)) [.tmp 31]⟩,
 ⟨some 195, none, .call (.pv (.fn 7 [] [])) [.tmp 194]⟩,
 ⟨some 32, none, .eff (.alloc (some 8) (.agg [(.int .u32 0), (.int .u32 0), (.int .i64 0), (.int .i64 0), (.int .i64 0), (.str []), (.int .i64 0), (.str [])])) []⟩,
 ⟨none, none, .eff (.store (some 8)) [.tmp 32, .tmp 195]⟩] L3)
 (.seq (.region false [⟨some 196, none, .rd (.fldAddr 1) [.tmp 32]⟩,
 ⟨some 197, none, .rd (.load none) [.tmp 196]⟩,
 ⟨some 198, none, .rd .mov [.tmp 23]⟩,
 ⟨some 199, none, .rd (.bin .eql) [.tmp 197, .tmp 198]⟩,
 ⟨some 200, none, .rd .mov [.tmp 199]⟩,
 ⟨some 201, some (200, true), .rd (.fldAddr 3) [.tmp 32]⟩,
 ⟨some 202, some (200, true), .rd (.load none) [.tmp 201]⟩,
 ⟨some 203, some (200, true), .rd .mov [.tmp 2]⟩,
 ⟨some 204, some (200, true), .rd (.conv .i64) [.tmp 203]⟩,
 ⟨some 205, some (200, true), .rd (.bin .leq) [.tmp 202, .tmp 204]⟩,
 ⟨some 206, none, .rd .pick [.tmp 200, .tmp 205, .pv (.bool false)]⟩,
 ⟨some 207, none, .rd .mov [.tmp 206]⟩,
 ⟨some 208, some (207, true), .rd (.fldAddr 4) [.tmp 32]⟩,
 ⟨some 209, some (207, true), .rd (.load none) [.tmp 208]⟩,
 ⟨some 210, some (207, true), .rd (.bin .eql) [.tmp 209, .pv (.int .i64 0)]⟩,
 ⟨some 211, some (207, true), .rd .mov [.tmp 210]⟩,
 ⟨some 212, some (211, false), .rd .mov [.tmp 2]⟩,
 ⟨some 213, some (211, false), .rd (.conv .i64) [.tmp 212]⟩,
 ⟨some 214, some (211, false), .rd (.fldAddr 4) [.tmp 32]⟩,
 ⟨some 215, some (211, false), .rd (.load none) [.tmp 214]⟩,
 ⟨some 216, some (211, false), .rd (.bin .lss) [.tmp 213, .tmp 215]⟩,
 ⟨some 217, some (207, true), .rd .pick [.tmp 211, .pv (.bool true), .tmp 216]⟩,
 ⟨some 218, none, .rd .pick [.tmp 207, .tmp 217, .pv (.bool false)]⟩] L3)
 (.cond (.tmp 218)
 (.region false [⟨some 219, none, .rd (.fldAddr 6) [.tmp 32]⟩,
 ⟨some 220, none, .rd (.load none) [.tmp 219]⟩,
 ⟨some 28, none, .rd .mov [.tmp 220]⟩,
 ⟨some 29, none, .rd .mov [.pv (.bool true)]⟩] L3)
 (.skip))))))
 (.region false [⟨some 221, none, .rd (.bin .add) [.tmp 190, .pv (.int .i64 1)]⟩,
 ⟨some 190, none, .rd .mov [.tmp 221]⟩] L3)))))))
 (.seq (.region false [⟨some 222, none, .rd .mov [.tmp 25]⟩,
 ⟨some 223, none, .rd .mov [.tmp 29]⟩,
 ⟨some 224, none, .rd (.eqB true) [.tmp 222, .tmp 223]⟩,
 ⟨some 225, none, .rd .mov [.tmp 224]⟩,
 ⟨some 226, some (225, false), .rd (.fldAddr 1) [.tmp 24]⟩,
 ⟨some 227, some (225, false), .rd (.load none) [.tmp 226]⟩,
 ⟨some 228, some (225, false), .rd .mov [.tmp 28]⟩,
 ⟨some 229, some (225, false), .rd (.bin .neq) [.tmp 227, .tmp 228]⟩,
 ⟨some 230, none, .rd .pick [.tmp 225, .pv (.bool true), .tmp 229]⟩] L3)
 (.cond (.tmp 230)
 (.seq (.region false [⟨some 6, none, .rd .mov [.pv (.bool false)]⟩] L3)
 (.ret))
 (.skip))))))))))
 (.region false [⟨some 231, none, .rd (.bin .add) [.tmp 146, .pv (.int .u32 1)]⟩,
 ⟨some 146, none, .rd .mov [.tmp 231]⟩] L3)))))))
 (.seq (.region false [⟨some 6, none, .rd .mov [.pv (.bool true)]⟩] L3)
 (.ret)))))))))))),
 [.tmp 6]⟩

-- wagebook/wagebooktop.TopKnown
def L5 : List Nat := [0, 1, 2, 6, 7, 8, 9, 10, 11, 12, 13, 14, 15, 16, 17, 18, 20, 23, 24, 25, 26, 27, 61]
def c5 : CF := ⟨111,
 .seq (.region false [⟨some 6, none, .rd .mov [.pv (.bool false)]⟩] L5)
 (.seq (.seq (.region false [⟨some 19, none, .call (.pv (.fn 6 [] [])) []⟩,
 ⟨some 20, none, .rd (.un .not) [.tmp 19]⟩] L5)
 (.cond (.tmp 20)
 (.seq (.region false [⟨some 6, none, .rd .mov [.pv (.bool false)]⟩] L5)
 (.ret))
 (.skip)))
 (.seq (.seq (.region false [⟨some 21, none, .rd .mov [.tmp 0]⟩,
 ⟨some 22, none, .rd .lenL [.tmp 21]⟩,
 ⟨some 23, none, .rd (.bin .gtr) [.tmp 22, .pv (.int .i64 40)]⟩] L5)
 (.cond (.tmp 23)
 (.seq (.region false [⟨some 6, none, .rd .mov [.pv (.bool true)]⟩] L5)
 (.ret))
 (.skip)))
 (.seq (.region false [⟨some 7, none, .rd .mov [.pv .nilSl]⟩] L5)
 (.seq (.seq (.region false [⟨some 24, none, .rd .mov [.tmp 0]⟩,
 ⟨some 25, none, .rd .lenL [.tmp 24]⟩,
 ⟨some 26, none, .rd .mov [.pv (.int .i64 0)]⟩] L5)
 (.block 0
 (.loop
 (.seq (.region false [⟨some 27, none, .rd (.bin .lss) [.tmp 26, .tmp 25]⟩] L5)
 (.seq (.cond (.tmp 27)
 (.skip)
 (.exit 0))
 (.seq (.block 1
 (.seq (.region false [⟨some 28, none, .rd .mov [.tmp 26]⟩,
 ⟨some 29, none, .rd (.idxAddr (some 5)) [.tmp 24, .tmp 26]⟩,
 ⟨some 30, none, .rd (.load (some 5)) [.tmp 29]⟩,
 ⟨some 9, none, .eff (.alloc (some 5) (.agg [(.int .u8 0), (.int .u32 0), (.int .u16 0), (.int .u16 0), (.int .u16 0)])) []⟩,
 ⟨some 8, none, .rd .mov [.tmp 28]⟩,
 ⟨none, none, .eff (.store (some 5)) [.tmp 9, .tmp 30]⟩] L5)
 (.seq (.region false [⟨some 31, none, .rd (.load (some 5)) [.tmp 9]⟩,
 ⟨some 32, none, .call (.pv (.fn 7 [] [])) [.tmp 31]⟩,
 ⟨some 10, none, .eff (.alloc (some 8) (.agg [(.int .u32 0), (.int .u32 0), (.int .i64 0), (.int .i64 0), (.int .i64 0), (.str []), (.int .i64 0), (.str [])])) []⟩,
 ⟨none, none, .eff (.store (some 8)) [.tmp 10, .tmp 32]⟩] L5)
 (.seq (.region false [⟨some 33, none, .rd .mov [.tmp 8]⟩,
 ⟨some 34, none, .rd (.conv .u32) [.tmp 33]⟩,
 ⟨some 35, none, .rd (.bin .add) [.tmp 34, .pv (.int .u32 1)]⟩,
 ⟨some 36, none, .rd (.fldAddr 0) [.tmp 10]⟩,
 ⟨none, none, .eff (.store none) [.tmp 36, .tmp 35]⟩] L5)
 (.region false [⟨some 37, none, .rd .mov [.tmp 7]⟩,
 ⟨some 38, none, .rd (.load (some 8)) [.tmp 10]⟩,
 ⟨some 39, none, .eff (.lit (some 8) false) [.tmp 38]⟩,
 ⟨some 40, none, .eff (.append (some 8) 72) [.tmp 37, .tmp 39]⟩,
 ⟨some 7, none, .rd .mov [.tmp 40]⟩] L5)))))
 (.region false [⟨some 41, none, .rd (.bin .add) [.tmp 26, .pv (.int .i64 1)]⟩,
 ⟨some 26, none, .rd .mov [.tmp 41]⟩] L5)))))))
 (.seq (.region false [⟨some 43, none, .rd (.build [.nilSl] []) []⟩,
 ⟨some 44, none, .rd .mov [.tmp 7]⟩,
 ⟨some 45, none, .call (.pv (.fn 17 [] [])) [.tmp 43, .tmp 44]⟩,
 ⟨some 42, none, .rd .mov [.tmp 45]⟩,
 ⟨some 46, none, .rd (.ext 0) [.tmp 42]⟩,
 ⟨some 47, none, .rd (.ext 1) [.tmp 42]⟩,
 ⟨some 48, none, .rd (.ext 2) [.tmp 42]⟩,
 ⟨some 11, none, .eff (.alloc (some 1) (.agg [.nilSl])) []⟩,
 ⟨none, none, .eff (.store (some 1)) [.tmp 11, .tmp 46]⟩,
 ⟨some 12, none, .rd .mov [.tmp 47]⟩,
 ⟨some 13, none, .rd .mov [.tmp 48]⟩] L5)
 (.seq (.seq (.region false [⟨some 49, none, .rd .mov [.tmp 13]⟩,
 ⟨some 50, none, .rd (.bin .neq) [.tmp 49, .pv (.int .i64 0)]⟩,
 ⟨some 51, none, .rd .mov [.tmp 50]⟩,
 ⟨some 52, some (51, false), .rd .mov [.tmp 12]⟩,
 ⟨some 53, some (51, false), .rd (.bin .neq) [.tmp 52, .pv (.int .i64 0)]⟩,
 ⟨some 54, none, .rd .pick [.tmp 51, .pv (.bool true), .tmp 53]⟩,
 ⟨some 55, none, .rd .mov [.tmp 54]⟩,
 ⟨some 56, some (55, false), .rd (.load (some 1)) [.tmp 11]⟩,
 ⟨some 57, some (55, false), .call (.pv (.fn 13 [] [])) [.tmp 56]⟩,
 ⟨some 58, some (55, false), .rd .mov [.tmp 0]⟩,
 ⟨some 59, some (55, false), .rd .lenL [.tmp 58]⟩,
 ⟨some 60, some (55, false), .rd (.bin .neq) [.tmp 57, .tmp 59]⟩,
 ⟨some 61, none, .rd .pick [.tmp 55, .pv (.bool true), .tmp 60]⟩] L5)
 (.cond (.tmp 61)
 (.seq (.region false [⟨some 6, none, .rd .mov [.pv (.bool false)]⟩] L5)
 (.ret))
 (.skip)))
 (.seq (.region false [⟨some 62, none, .rd .mov [.tmp 1]⟩,
 ⟨some 63, none, .rd (.conv .i64) [.tmp 62]⟩,
 ⟨some 64, none, .rd .mov [.tmp 0]⟩,
 ⟨some 65, none, .rd .lenL [.tmp 64]⟩,
 ⟨some 66, none, .rd (.bin .add) [.tmp 65, .pv (.int .i64 1)]⟩,
 ⟨some 67, none, .rd (.bin .rem) [.tmp 63, .tmp 66]⟩,
 ⟨some 14, none, .rd .mov [.tmp 67]⟩] L5)
 (.seq (.region false [⟨some 68, none, .rd .mov [.tmp 14]⟩,
 ⟨some 69, none, .rd .mov [.tmp 2]⟩,
 ⟨some 70, none, .rd (.conv .i64) [.tmp 69]⟩,
 ⟨some 71, none, .rd .mov [.tmp 0]⟩,
 ⟨some 72, none, .rd .lenL [.tmp 71]⟩,
 ⟨some 73, none, .rd .mov [.tmp 14]⟩,
 ⟨some 74, none, .rd (.bin .sub) [.tmp 72, .tmp 73]⟩,
 ⟨some 75, none, .rd (.bin .add) [.tmp 74, .pv (.int .i64 1)]⟩,
 ⟨some 76, none, .rd (.bin .rem) [.tmp 70, .tmp 75]⟩,
 ⟨some 77, none, .rd (.bin .add) [.tmp 68, .tmp 76]⟩,
 ⟨some 15, none, .rd .mov [.tmp 77]⟩] L5)
 (.seq (.regionA (.alt [⟨some 80, none, .rd .mov [.tmp 7]⟩,
 ⟨some 81, none, .rd .mov [.tmp 14]⟩,
 ⟨some 82, none, .rd .mov [.tmp 15]⟩,
 ⟨some 83, none, .rd (.slc (some 8) true true false) [.tmp 80, .tmp 81, .tmp 82]⟩]
 (.alt [⟨some 79, none, .rd (.load (some 1)) [.tmp 11]⟩]
 (.alt [⟨some 84, none, .call (.pv (.fn 17 [] [])) [.tmp 79, .tmp 83]⟩,
 ⟨some 78, none, .rd .mov [.tmp 84]⟩,
 ⟨some 85, none, .rd (.ext 0) [.tmp 78]⟩,
 ⟨some 86, none, .rd (.ext 1) [.tmp 78]⟩,
 ⟨some 87, none, .rd (.ext 2) [.tmp 78]⟩,
 ⟨some 16, none, .eff (.alloc (some 1) (.agg [.nilSl])) []⟩,
 ⟨none, none, .eff (.store (some 1)) [.tmp 16, .tmp 85]⟩,
 ⟨some 17, none, .rd .mov [.tmp 86]⟩,
 ⟨some 18, none, .rd .mov [.tmp 87]⟩]
 .done
 (.alt [⟨some 16, none, .eff (.alloc (some 1) (.agg [.nilSl])) []⟩,
 ⟨some 84, none, .call (.pv (.fn 17 [] [])) [.tmp 79, .tmp 83]⟩,
 ⟨some 78, none, .rd .mov [.tmp 84]⟩,
 ⟨some 85, none, .rd (.ext 0) [.tmp 78]⟩,
 ⟨some 86, none, .rd (.ext 1) [.tmp 78]⟩,
 ⟨some 87, none, .rd (.ext 2) [.tmp 78]⟩,
 ⟨none, none, .eff (.store (some 1)) [.tmp 16, .tmp 85]⟩,
 ⟨some 17, none, .rd .mov [.tmp 86]⟩,
 ⟨some 18, none, .rd .mov [.tmp 87]⟩]
 .done
 .stop))
 (.alt [⟨some 16, none, .eff (.alloc (some 1) (.agg [.nilSl])) []⟩,
 ⟨some 79, none, .rd (.load (some 1)) [.tmp 11]⟩,
 ⟨some 84, none, .call (.pv (.fn 17 [] [])) [.tmp 79, .tmp 83]⟩,
 ⟨some 78, none, .rd .mov [.tmp 84]⟩,
 ⟨some 85, none, .rd (.ext 0) [.tmp 78]⟩,
 ⟨some 86, none, .rd (.ext 1) [.tmp 78]⟩,
 ⟨some 87, none, .rd (.ext 2) [.tmp 78]⟩,
 ⟨none, none, .eff (.store (some 1)) [.tmp 16, .tmp 85]⟩,
 ⟨some 17, none, .rd .mov [.tmp 86]⟩,
 ⟨some 18, none, .rd .mov [.tmp 87]⟩]
 .done
 .stop))
 .stop) L5)
 (.seq (.region true [⟨some 88, none, .rd .mov [.tmp 18]⟩,
 ⟨some 89, none, .rd (.bin .eql) [.tmp 88, .pv (.int .i64 0)]⟩,
 ⟨some 90, none, .rd .mov [.tmp 89]⟩,
 ⟨some 91, some (90, true), .rd .mov [.tmp 17]⟩,
 ⟨some 92, some (90, true), .rd .mov [.tmp 15]⟩,
 ⟨some 93, some (90, true), .rd .mov [.tmp 14]⟩,
 ⟨some 94, some (90, true), .rd (.bin .sub) [.tmp 92, .tmp 93]⟩,
 ⟨some 95, some (90, true), .rd (.bin .eql) [.tmp 91, .tmp 94]⟩,
 ⟨some 96, none, .rd .pick [.tmp 90, .tmp 95, .pv (.bool false)]⟩,
 ⟨some 97, none, .rd .mov [.tmp 96]⟩,
 ⟨some 98, some (97, true), .rd (.load (some 1)) [.tmp 16]⟩,
 ⟨some 99, some (97, true), .call (.pv (.fn 13 [] [])) [.tmp 98]⟩,
 ⟨some 100, some (97, true), .rd (.load (some 1)) [.tmp 11]⟩,
 ⟨some 101, some (97, true), .call (.pv (.fn 13 [] [])) [.tmp 100]⟩,
 ⟨some 102, some (97, true), .rd (.bin .eql) [.tmp 99, .tmp 101]⟩,
 ⟨some 103, none, .rd .pick [.tmp 97, .tmp 102, .pv (.bool false)]⟩,
 ⟨some 104, none, .rd .mov [.tmp 103]⟩,
 ⟨some 105, some (104, true), .rd (.load (some 1)) [.tmp 11]⟩,
 ⟨some 106, some (104, true), .call (.pv (.fn 18 [] [])) [.tmp 105]⟩,
 ⟨some 107, some (104, true), .rd (.load (some 1)) [.tmp 16]⟩,
 ⟨some 108, some (104, true), .call (.pv (.fn 18 [] [])) [.tmp 107]⟩,
 ⟨some 109, some (104, true), .call (.pv (.fn 15 [] [])) [.tmp 106, .tmp 108]⟩,
 ⟨some 110, none, .rd .pick [.tmp 104, .tmp 109, .pv (.bool false)]⟩,
 ⟨some 6, none, .rd .mov [.tmp 110]⟩] L5)
 (.ret))))))))))),
 [.tmp 6]⟩
theorem k24 : compileF Tryz.prog [] L24 Tryz.f24 = some c24 := by kernel_rfl
theorem k25 : compileF Tryz.prog [] L25 Tryz.f25 = some c25 := by kernel_rfl
theorem k26 : compileF Tryz.prog [] L26 Tryz.f26 = some c26 := by kernel_rfl
theorem k28 : compileF Tryz.prog [] L28 Tryz.f28 = some c28 := by kernel_rfl
theorem k29 : compileF Tryz.prog [] L29 Tryz.f29 = some c29 := by kernel_rfl
theorem k30 : compileF Tryz.prog [] L30 Tryz.f30 = some c30 := by kernel_rfl
theorem k31 : compileF Tryz.prog [] L31 Tryz.f31 = some c31 := by kernel_rfl
theorem k32 : compileF Tryz.prog [] L32 Tryz.f32 = some c32 := by kernel_rfl
theorem k33 : compileF Tryz.prog [] L33 Tryz.f33 = some c33 := by kernel_rfl
theorem k34 : compileF Tryz.prog [] L34 Tryz.f34 = some c34 := by kernel_rfl
theorem k41 : compileF Tryz.prog [] L41 Tryz.f41 = some c41 := by kernel_rfl
theorem k42 : compileF Tryz.prog [] L42 Tryz.f42 = some c42 := by kernel_rfl
theorem k3 : compileF Tryz.prog [] L3 Tryz.f3 = some c3 := by kernel_rfl
end Go.Proofs.YtcdfmdngnidpaaaGreatDoor

