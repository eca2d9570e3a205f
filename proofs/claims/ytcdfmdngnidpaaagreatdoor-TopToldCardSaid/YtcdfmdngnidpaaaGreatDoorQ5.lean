import Derived.Test.YtcdfmdngnidpaaaGreatDoorProg
import Derived.KernelRfl
import Derived.Test.YtcdfmdngnidpaaaGreatDoorP4
namespace Go.Proofs.YtcdfmdngnidpaaaGreatDoor
open PG Go.Proofs
-- wagebook/wagebooktop.there
def L6 : List Nat := [0, 1, 2, 3, 4]
def c6 : CF := ⟨33,
 .seq (.region false [⟨some 0, none, .rd .mov [.pv (.bool false)]⟩] L6)
 (.seq (.region false [⟨some 6, none, .rd (.build [(.int .u8 0), (.int .u32 0), (.int .u16 0), (.int .u16 0), (.int .u16 0)] [(1, 1), (2, 1)]) [.pv (.int .u32 5), .pv (.int .u16 3)]⟩,
 ⟨some 7, none, .eff (.lit (some 5) false) [.tmp 6]⟩,
 ⟨some 8, none, .call (.pv (.fn 8 [] [])) [.tmp 7]⟩,
 ⟨some 5, none, .rd .mov [.tmp 8]⟩,
 ⟨some 9, none, .rd (.ext 0) [.tmp 5]⟩,
 ⟨some 10, none, .rd (.ext 1) [.tmp 5]⟩,
 ⟨some 1, none, .eff (.alloc (some 1) (.agg [.nilSl])) []⟩,
 ⟨none, none, .eff (.store (some 1)) [.tmp 1, .tmp 9]⟩,
 ⟨some 2, none, .rd .mov [.tmp 10]⟩] L6)
 (.seq (.region false [⟨some 12, none, .rd (.load (some 1)) [.tmp 1]⟩,
 ⟨some 13, none, .call (.pv (.fn 10 [] [])) [.tmp 12, .pv (.int .i64 1)]⟩,
 ⟨some 14, none, .call (.pv (.fn 11 [] [])) [.tmp 13, .pv (.int .u32 1), .pv (.int .i64 2)]⟩,
 ⟨some 15, none, .call (.pv (.fn 9 [] [])) [.tmp 14]⟩,
 ⟨some 16, none, .call (.pv (.fn 12 [] [])) [.tmp 15, .pv (.int .i64 4)]⟩,
 ⟨some 11, none, .rd .mov [.tmp 16]⟩,
 ⟨some 17, none, .rd (.ext 0) [.tmp 11]⟩,
 ⟨some 18, none, .rd (.ext 1) [.tmp 11]⟩,
 ⟨some 3, none, .eff (.alloc (some 3) (.agg [(.int .i64 0), (.int .i64 0), (.str [])])) []⟩,
 ⟨none, none, .eff (.store (some 3)) [.tmp 3, .tmp 17]⟩,
 ⟨some 4, none, .rd .mov [.tmp 18]⟩] L6)
 (.seq (.region false [⟨some 19, none, .rd .mov [.tmp 2]⟩,
 ⟨some 20, none, .rd .mov [.tmp 19]⟩,
 ⟨some 21, some (20, true), .rd .mov [.tmp 4]⟩,
 ⟨some 22, none, .rd .pick [.tmp 20, .tmp 21, .pv (.bool false)]⟩,
 ⟨some 23, none, .rd .mov [.tmp 22]⟩,
 ⟨some 24, some (23, true), .rd (.load (some 1)) [.tmp 1]⟩,
 ⟨some 25, some (23, true), .call (.pv (.fn 13 [] [])) [.tmp 24]⟩,
 ⟨some 26, some (23, true), .rd (.bin .eql) [.tmp 25, .pv (.int .i64 1)]⟩,
 ⟨some 27, none, .rd .pick [.tmp 23, .tmp 26, .pv (.bool false)]⟩,
 ⟨some 28, none, .rd .mov [.tmp 27]⟩,
 ⟨some 29, some (28, true), .rd (.fldAddr 1) [.tmp 3]⟩,
 ⟨some 30, some (28, true), .rd (.load none) [.tmp 29]⟩,
 ⟨some 31, some (28, true), .rd (.bin .eql) [.tmp 30, .pv (.int .i64 5)]⟩,
 ⟨some 32, none, .rd .pick [.tmp 28, .tmp 31, .pv (.bool false)]⟩,
 ⟨some 0, none, .rd .mov [.tmp 32]⟩] L6)
 (.ret)))),
 [.tmp 0]⟩

-- (wagebook/wagebooktop.Told).fact
def L7 : List Nat := [0, 1, 2, 3, 22]
def c7 : CF := ⟨32,
 .seq (.region false [⟨some 1, none, .eff (.box (some 5)) [.tmp 0]⟩,
 ⟨some 2, none, .eff (.alloc (some 8) (.agg [(.int .u32 0), (.int .u32 0), (.int .i64 0), (.int .i64 0), (.int .i64 0), (.str []), (.int .i64 0), (.str [])])) []⟩] L7)
 (.seq (.region false [⟨some 4, none, .rd (.fldAddr 4) [.tmp 1]⟩,
 ⟨some 5, none, .rd (.load none) [.tmp 4]⟩,
 ⟨some 6, none, .rd (.conv .u32) [.tmp 5]⟩,
 ⟨some 7, none, .rd (.fldAddr 0) [.tmp 1]⟩,
 ⟨some 8, none, .rd (.load none) [.tmp 7]⟩,
 ⟨some 9, none, .rd (.conv .u32) [.tmp 8]⟩,
 ⟨some 10, none, .rd (.bin .add) [.tmp 9, .pv (.int .u32 1)]⟩,
 ⟨some 11, none, .rd (.fldAddr 2) [.tmp 1]⟩,
 ⟨some 12, none, .rd (.load none) [.tmp 11]⟩,
 ⟨some 13, none, .rd (.bin .rem) [.tmp 12, .pv (.int .u16 30000)]⟩,
 ⟨some 14, none, .rd (.conv .i64) [.tmp 13]⟩,
 ⟨some 15, none, .rd (.fldAddr 1) [.tmp 1]⟩,
 ⟨some 16, none, .rd (.load none) [.tmp 15]⟩,
 ⟨some 17, none, .rd (.conv .i64) [.tmp 16]⟩,
 ⟨some 18, none, .rd (.build [(.int .u32 0), (.int .u32 0), (.int .i64 0), (.int .i64 0), (.int .i64 0), (.str []), (.int .i64 0), (.str [])] [(0, 1), (1, 1), (2, 1), (3, 1), (6, 1)]) [.tmp 6, .tmp 10, .pv (.int .i64 2), .tmp 14, .tmp 17]⟩,
 ⟨some 3, none, .eff (.alloc (some 8) (.agg [(.int .u32 0), (.int .u32 0), (.int .i64 0), (.int .i64 0), (.int .i64 0), (.str []), (.int .i64 0), (.str [])])) []⟩,
 ⟨none, none, .eff (.store (some 8)) [.tmp 3, .tmp 18]⟩] L7)
 (.seq (.seq (.region false [⟨some 19, none, .rd (.fldAddr 3) [.tmp 1]⟩,
 ⟨some 20, none, .rd (.load none) [.tmp 19]⟩,
 ⟨some 21, none, .rd (.bin .rem) [.tmp 20, .pv (.int .u16 30000)]⟩,
 ⟨some 22, none, .rd (.bin .gtr) [.tmp 21, .pv (.int .u16 0)]⟩] L7)
 (.cond (.tmp 22)
 (.region false [⟨some 23, none, .rd (.fldAddr 3) [.tmp 3]⟩,
 ⟨some 24, none, .rd (.load none) [.tmp 23]⟩,
 ⟨some 25, none, .rd (.fldAddr 3) [.tmp 1]⟩,
 ⟨some 26, none, .rd (.load none) [.tmp 25]⟩,
 ⟨some 27, none, .rd (.bin .rem) [.tmp 26, .pv (.int .u16 30000)]⟩,
 ⟨some 28, none, .rd (.conv .i64) [.tmp 27]⟩,
 ⟨some 29, none, .rd (.bin .add) [.tmp 24, .tmp 28]⟩,
 ⟨some 30, none, .rd (.fldAddr 4) [.tmp 3]⟩,
 ⟨none, none, .eff (.store none) [.tmp 30, .tmp 29]⟩] L7)
 (.skip)))
 (.seq (.region false [⟨some 31, none, .rd (.load (some 8)) [.tmp 3]⟩,
 ⟨none, none, .eff (.store (some 8)) [.tmp 2, .tmp 31]⟩] L7)
 (.ret)))),
 [.cell 2 (some 8)]⟩

-- wagebook/wagebooktop.told
def L8 : List Nat := [0, 2, 3, 4, 6, 7, 8, 9, 10, 11, 12, 13, 26]
def c8 : CF := ⟨31,
 .seq (.region false [⟨some 2, none, .eff (.alloc (some 1) (.agg [.nilSl])) []⟩,
 ⟨some 3, none, .rd .mov [.pv (.bool false)]⟩] L8)
 (.seq (.region false [⟨some 4, none, .eff (.alloc (some 1) (.agg [.nilSl])) []⟩] L8)
 (.seq (.seq (.region false [⟨some 10, none, .rd .mov [.tmp 0]⟩,
 ⟨some 11, none, .rd .lenL [.tmp 10]⟩,
 ⟨some 12, none, .rd .mov [.pv (.int .i64 0)]⟩] L8)
 (.block 0
 (.loop
 (.seq (.region false [⟨some 13, none, .rd (.bin .lss) [.tmp 12, .tmp 11]⟩] L8)
 (.seq (.cond (.tmp 13)
 (.skip)
 (.exit 0))
 (.seq (.block 1
 (.seq (.region false [⟨some 14, none, .rd (.idxAddr (some 5)) [.tmp 10, .tmp 12]⟩,
 ⟨some 15, none, .rd (.load (some 5)) [.tmp 14]⟩,
 ⟨some 6, none, .eff (.alloc (some 5) (.agg [(.int .u8 0), (.int .u32 0), (.int .u16 0), (.int .u16 0), (.int .u16 0)])) []⟩,
 ⟨none, none, .eff (.store (some 5)) [.tmp 6, .tmp 15]⟩] L8)
 (.seq (.region false [⟨some 16, none, .rd (.load (some 5)) [.tmp 6]⟩,
 ⟨some 17, none, .call (.pv (.fn 7 [] [])) [.tmp 16]⟩,
 ⟨some 7, none, .eff (.alloc (some 8) (.agg [(.int .u32 0), (.int .u32 0), (.int .i64 0), (.int .i64 0), (.int .i64 0), (.str []), (.int .i64 0), (.str [])])) []⟩,
 ⟨none, none, .eff (.store (some 8)) [.tmp 7, .tmp 17]⟩] L8)
 (.seq (.region false [⟨some 18, none, .rd (.fldAddr 0) [.tmp 7]⟩,
 ⟨none, none, .eff (.store none) [.tmp 18, .pv (.int .u32 0)]⟩] L8)
 (.seq (.region false [⟨some 20, none, .rd (.load (some 1)) [.tmp 4]⟩,
 ⟨some 21, none, .rd (.load (some 8)) [.tmp 7]⟩,
 ⟨some 22, none, .call (.pv (.fn 14 [] [])) [.tmp 20, .tmp 21]⟩,
 ⟨some 19, none, .rd .mov [.tmp 22]⟩,
 ⟨some 23, none, .rd (.ext 0) [.tmp 19]⟩,
 ⟨some 24, none, .rd (.ext 1) [.tmp 19]⟩,
 ⟨some 8, none, .eff (.alloc (some 1) (.agg [.nilSl])) []⟩,
 ⟨none, none, .eff (.store (some 1)) [.tmp 8, .tmp 23]⟩,
 ⟨some 9, none, .rd .mov [.tmp 24]⟩] L8)
 (.seq (.seq (.region false [⟨some 25, none, .rd .mov [.tmp 9]⟩,
 ⟨some 26, none, .rd (.bin .neq) [.tmp 25, .pv (.int .i64 0)]⟩] L8)
 (.cond (.tmp 26)
 (.seq (.region false [⟨some 27, none, .rd (.load (some 1)) [.tmp 4]⟩,
 ⟨none, none, .eff (.store (some 1)) [.tmp 2, .tmp 27]⟩,
 ⟨some 3, none, .rd .mov [.pv (.bool false)]⟩] L8)
 (.ret))
 (.skip)))
 (.region false [⟨some 28, none, .rd (.load (some 1)) [.tmp 8]⟩,
 ⟨none, none, .eff (.store (some 1)) [.tmp 4, .tmp 28]⟩] L8)))))))
 (.region false [⟨some 29, none, .rd (.bin .add) [.tmp 12, .pv (.int .i64 1)]⟩,
 ⟨some 12, none, .rd .mov [.tmp 29]⟩] L8)))))))
 (.seq (.region false [⟨some 30, none, .rd (.load (some 1)) [.tmp 4]⟩,
 ⟨none, none, .eff (.store (some 1)) [.tmp 2, .tmp 30]⟩,
 ⟨some 3, none, .rd .mov [.pv (.bool true)]⟩] L8)
 (.ret)))),
 [.cell 2 (some 1), .tmp 3]⟩

-- wagebook/line.Of
def L9 : List Nat := [0, 2]
def c9 : CF := ⟨6,
 .seq (.region false [⟨some 2, none, .eff (.alloc (some 1) (.agg [.nilSl])) []⟩] L9)
 (.seq (.region false [⟨some 3, none, .rd .mov [.tmp 0]⟩,
 ⟨some 4, none, .call (.pv (.fn 19 [] [])) [.tmp 3]⟩,
 ⟨some 5, none, .rd (.build [.nilSl] [(0, 1)]) [.tmp 4]⟩,
 ⟨none, none, .eff (.store (some 1)) [.tmp 2, .tmp 5]⟩] L9)
 (.ret)),
 [.cell 2 (some 1)]⟩

-- (wagebook/store.Store).At
def L10 : List Nat := [0, 1, 2, 4]
def c10 : CF := ⟨17,
 .seq (.region false [⟨some 2, none, .eff (.box (some 1)) [.tmp 0]⟩,
 ⟨some 4, none, .eff (.alloc (some 1) (.agg [.nilSl])) []⟩] L10)
 (.seq (.region false [⟨some 5, none, .rd .mov [.tmp 1]⟩,
 ⟨some 6, none, .rd (.fldAddr 0) [.tmp 2]⟩,
 ⟨some 7, none, .rd (.load none) [.tmp 6]⟩,
 ⟨some 8, none, .rd .lenL [.tmp 7]⟩,
 ⟨some 9, none, .rd .min [.tmp 5, .tmp 8]⟩,
 ⟨some 10, none, .rd .max [.pv (.int .i64 0), .tmp 9]⟩,
 ⟨some 1, none, .rd .mov [.tmp 10]⟩] L10)
 (.seq (.region false [⟨some 11, none, .rd (.fldAddr 0) [.tmp 2]⟩,
 ⟨some 12, none, .rd (.load none) [.tmp 11]⟩,
 ⟨some 13, none, .rd .mov [.tmp 1]⟩,
 ⟨some 14, none, .rd .mov [.tmp 1]⟩,
 ⟨some 15, none, .rd (.slc (some 8) false true true) [.tmp 12, .tmp 13, .tmp 14]⟩,
 ⟨some 16, none, .rd (.build [.nilSl] [(0, 1)]) [.tmp 15]⟩,
 ⟨none, none, .eff (.store (some 1)) [.tmp 4, .tmp 16]⟩] L10)
 (.ret))),
 [.cell 4 (some 1)]⟩

-- (wagebook/store.View).Facts
def L11 : List Nat := [0, 1, 2, 3, 4, 5, 6]
def c11 : CF := ⟨10,
 .seq (.region false [⟨some 3, none, .eff (.box (some 1)) [.tmp 0]⟩,
 ⟨some 4, none, .eff (.box none) [.tmp 1]⟩,
 ⟨some 5, none, .eff (.box none) [.tmp 2]⟩,
 ⟨some 6, none, .rd .mov [.pv .nilSl]⟩] L11)
 (.seq (.region false [⟨some 7, none, .rd (.load (some 1)) [.tmp 3]⟩,
 ⟨some 8, none, .rd (.mkFn 21 0) [.tmp 4, .tmp 5]⟩,
 ⟨some 9, none, .call (.pv (.fn 20 [] [])) [.tmp 7, .tmp 8]⟩,
 ⟨some 6, none, .rd .mov [.tmp 9]⟩] L11)
 (.ret)),
 [.tmp 6]⟩

-- (wagebook/line.Line).At
def L12 : List Nat := [0, 1, 2, 4, 5, 6]
def c12 : CF := ⟨15,
 .seq (.region false [⟨some 2, none, .eff (.box (some 1)) [.tmp 0]⟩,
 ⟨some 4, none, .eff (.alloc (some 3) (.agg [(.int .i64 0), (.int .i64 0), (.str [])])) []⟩,
 ⟨some 5, none, .rd .mov [.pv (.bool false)]⟩] L12)
 (.seq (.region false [⟨some 7, none, .rd (.load (some 1)) [.tmp 2]⟩,
 ⟨some 8, none, .rd .mov [.tmp 1]⟩,
 ⟨some 9, none, .call (.pv (.fn 22 [] [])) [.tmp 7, .tmp 8]⟩,
 ⟨some 6, none, .rd .mov [.tmp 9]⟩] L12)
 (.seq (.region false [⟨some 10, none, .rd (.load (some 1)) [.tmp 2]⟩,
 ⟨some 11, none, .rd .mov [.tmp 6]⟩,
 ⟨some 12, none, .call (.pv (.fn 23 [] [])) [.tmp 10, .tmp 11]⟩,
 ⟨some 13, none, .rd .mov [.tmp 6]⟩,
 ⟨some 14, none, .rd (.bin .geq) [.tmp 13, .pv (.int .i64 0)]⟩,
 ⟨none, none, .eff (.store (some 3)) [.tmp 4, .tmp 12]⟩,
 ⟨some 5, none, .rd .mov [.tmp 14]⟩] L12)
 (.ret))),
 [.cell 4 (some 3), .tmp 5]⟩

-- (wagebook/store.Store).Len
def L13 : List Nat := [0, 1, 2]
def c13 : CF := ⟨6,
 .seq (.region false [⟨some 1, none, .eff (.box (some 1)) [.tmp 0]⟩,
 ⟨some 2, none, .rd .mov [.pv (.int .i64 0)]⟩] L13)
 (.seq (.region false [⟨some 3, none, .rd (.fldAddr 0) [.tmp 1]⟩,
 ⟨some 4, none, .rd (.load none) [.tmp 3]⟩,
 ⟨some 5, none, .rd .lenL [.tmp 4]⟩,
 ⟨some 2, none, .rd .mov [.tmp 5]⟩] L13)
 (.ret)),
 [.tmp 2]⟩

-- (wagebook/store.Store).Add
def L14 : List Nat := [0, 1, 2, 3, 4, 5, 6, 7, 8, 9, 14, 19, 26, 32]
def c14 : CF := ⟨47,
 .seq (.region false [⟨some 2, none, .eff (.box (some 1)) [.tmp 0]⟩,
 ⟨some 3, none, .eff (.box (some 8)) [.tmp 1]⟩,
 ⟨some 4, none, .eff (.alloc (some 1) (.agg [.nilSl])) []⟩,
 ⟨some 5, none, .rd .mov [.pv (.int .i64 0)]⟩] L14)
 (.seq (.region false [⟨some 10, none, .rd (.fldAddr 0) [.tmp 2]⟩,
 ⟨some 11, none, .rd (.load none) [.tmp 10]⟩,
 ⟨some 12, none, .rd .lenL [.tmp 11]⟩,
 ⟨some 6, none, .rd .mov [.tmp 12]⟩] L14)
 (.seq (.seq (.region false [⟨some 13, none, .rd .mov [.tmp 6]⟩,
 ⟨some 14, none, .rd (.bin .geq) [.tmp 13, .pv (.int .i64 4096)]⟩] L14)
 (.cond (.tmp 14)
 (.seq (.region false [⟨some 15, none, .rd (.load (some 1)) [.tmp 2]⟩,
 ⟨none, none, .eff (.store (some 1)) [.tmp 4, .tmp 15]⟩,
 ⟨some 5, none, .rd .mov [.pv (.int .i64 5)]⟩] L14)
 (.ret))
 (.skip)))
 (.seq (.seq (.region false [⟨some 16, none, .rd (.load (some 8)) [.tmp 3]⟩,
 ⟨some 17, none, .call (.pv (.fn 24 [] [])) [.tmp 16]⟩,
 ⟨some 7, none, .rd .mov [.tmp 17]⟩] L14)
 (.seq (.region false [⟨some 18, none, .rd .mov [.tmp 7]⟩,
 ⟨some 19, none, .rd (.bin .neq) [.tmp 18, .pv (.int .i64 0)]⟩] L14)
 (.cond (.tmp 19)
 (.seq (.region false [⟨some 20, none, .rd (.load (some 1)) [.tmp 2]⟩,
 ⟨some 21, none, .rd .mov [.tmp 7]⟩,
 ⟨none, none, .eff (.store (some 1)) [.tmp 4, .tmp 20]⟩,
 ⟨some 5, none, .rd .mov [.tmp 21]⟩] L14)
 (.ret))
 (.skip))))
 (.seq (.seq (.region false [⟨some 22, none, .rd (.load (some 1)) [.tmp 2]⟩,
 ⟨some 23, none, .rd (.fldAddr 0) [.tmp 3]⟩,
 ⟨some 24, none, .rd (.load none) [.tmp 23]⟩,
 ⟨some 25, none, .call (.pv (.fn 25 [] [])) [.tmp 22, .tmp 24]⟩,
 ⟨some 26, none, .rd (.bin .geq) [.tmp 25, .pv (.int .i64 0)]⟩] L14)
 (.cond (.tmp 26)
 (.seq (.region false [⟨some 27, none, .rd (.load (some 1)) [.tmp 2]⟩,
 ⟨none, none, .eff (.store (some 1)) [.tmp 4, .tmp 27]⟩,
 ⟨some 5, none, .rd .mov [.pv (.int .i64 7)]⟩] L14)
 (.ret))
 (.skip)))
 (.seq (.seq (.region false [⟨some 28, none, .rd (.load (some 1)) [.tmp 2]⟩,
 ⟨some 29, none, .rd (.load (some 8)) [.tmp 3]⟩,
 ⟨some 30, none, .call (.pv (.fn 26 [] [])) [.tmp 28, .tmp 29]⟩,
 ⟨some 8, none, .rd .mov [.tmp 30]⟩] L14)
 (.seq (.region false [⟨some 31, none, .rd .mov [.tmp 8]⟩,
 ⟨some 32, none, .rd (.bin .neq) [.tmp 31, .pv (.int .i64 0)]⟩] L14)
 (.cond (.tmp 32)
 (.seq (.region false [⟨some 33, none, .rd (.load (some 1)) [.tmp 2]⟩,
 ⟨some 34, none, .rd .mov [.tmp 8]⟩,
 ⟨none, none, .eff (.store (some 1)) [.tmp 4, .tmp 33]⟩,
 ⟨some 5, none, .rd .mov [.tmp 34]⟩] L14)
 (.ret))
 (.skip))))
 (.seq (.region false [⟨some 35, none, .rd .mov [.tmp 6]⟩,
 ⟨some 36, none, .rd (.bin .add) [.tmp 35, .pv (.int .i64 1)]⟩,
 ⟨some 37, none, .eff (.make (some 8) (.agg [(.int .u32 0), (.int .u32 0), (.int .i64 0), (.int .i64 0), (.int .i64 0), (.str []), (.int .i64 0), (.str [])]) 72) [.tmp 36, .tmp 36]⟩,
 ⟨some 9, none, .rd .mov [.tmp 37]⟩] L14)
 (.seq (.regionA (.alt [⟨some 38, none, .rd .mov [.tmp 9]⟩,
 ⟨some 39, none, .rd .mov [.tmp 9]⟩,
 ⟨some 40, none, .rd (.fldAddr 0) [.tmp 2]⟩]
 (.alt [⟨some 41, none, .rd (.load none) [.tmp 40]⟩]
 (.alt [⟨some 42, none, .eff (.copy (some 8)) [.tmp 39, .tmp 41]⟩,
 ⟨some 43, none, .rd (.load (some 8)) [.tmp 3]⟩,
 ⟨some 44, none, .rd (.idxAddr (some 8)) [.tmp 38, .tmp 42]⟩,
 ⟨none, none, .eff (.store (some 8)) [.tmp 44, .tmp 43]⟩]
 .done
 (.alt [⟨some 43, none, .rd (.load (some 8)) [.tmp 3]⟩,
 ⟨some 42, none, .eff (.copy (some 8)) [.tmp 39, .tmp 41]⟩,
 ⟨some 44, none, .rd (.idxAddr (some 8)) [.tmp 38, .tmp 42]⟩,
 ⟨none, none, .eff (.store (some 8)) [.tmp 44, .tmp 43]⟩]
 .done
 .stop))
 (.alt [⟨some 43, none, .rd (.load (some 8)) [.tmp 3]⟩,
 ⟨some 41, none, .rd (.load none) [.tmp 40]⟩,
 ⟨some 42, none, .eff (.copy (some 8)) [.tmp 39, .tmp 41]⟩,
 ⟨some 44, none, .rd (.idxAddr (some 8)) [.tmp 38, .tmp 42]⟩,
 ⟨none, none, .eff (.store (some 8)) [.tmp 44, .tmp 43]⟩]
 .done
 .stop))
 .stop) L14)
 (.seq (.region false [⟨some 45, none, .rd .mov [.tmp 9]⟩,
 ⟨some 46, none, .rd (.build [.nilSl] [(0, 1)]) [.tmp 45]⟩,
 ⟨none, none, .eff (.store (some 1)) [.tmp 4, .tmp 46]⟩,
 ⟨some 5, none, .rd .mov [.pv (.int .i64 0)]⟩] L14)
 (.ret))))))))),
 [.cell 4 (some 1), .tmp 5]⟩

-- wagebook/wagebooktop.known
def L15 : List Nat := [0, 1, 4, 5, 10, 12, 13, 14, 24]
def c15 : CF := ⟨26,
 .seq (.region false [⟨some 4, none, .rd .mov [.pv (.bool false)]⟩] L15)
 (.seq (.seq (.region false [⟨some 6, none, .rd .mov [.tmp 0]⟩,
 ⟨some 7, none, .rd .lenL [.tmp 6]⟩,
 ⟨some 8, none, .rd .mov [.tmp 1]⟩,
 ⟨some 9, none, .rd .lenL [.tmp 8]⟩,
 ⟨some 10, none, .rd (.bin .neq) [.tmp 7, .tmp 9]⟩] L15)
 (.cond (.tmp 10)
 (.seq (.region false [⟨some 4, none, .rd .mov [.pv (.bool false)]⟩] L15)
 (.ret))
 (.skip)))
 (.seq (.seq (.region false [⟨some 11, none, .rd .mov [.tmp 0]⟩,
 ⟨some 12, none, .rd .lenL [.tmp 11]⟩,
 ⟨some 13, none, .rd .mov [.pv (.int .i64 0)]⟩] L15)
 (.block 0
 (.loop
 (.seq (.region false [⟨some 14, none, .rd (.bin .lss) [.tmp 13, .tmp 12]⟩] L15)
 (.seq (.cond (.tmp 14)
 (.skip)
 (.exit 0))
 (.seq (.block 1
 (.seq (.region false [⟨some 15, none, .rd .mov [.tmp 13]⟩,
 ⟨some 5, none, .rd .mov [.tmp 15]⟩] L15)
 (.seq (.region true [⟨some 16, none, .rd .mov [.tmp 0]⟩,
 ⟨some 17, none, .rd .mov [.tmp 5]⟩,
 ⟨some 18, none, .rd (.idxAddr (some 9)) [.tmp 16, .tmp 17]⟩,
 ⟨some 19, none, .rd (.load (some 9)) [.tmp 18]⟩,
 ⟨some 20, none, .rd .mov [.tmp 1]⟩,
 ⟨some 21, none, .rd .mov [.tmp 5]⟩,
 ⟨some 22, none, .rd (.idxAddr (some 9)) [.tmp 20, .tmp 21]⟩,
 ⟨some 23, none, .rd (.load (some 9)) [.tmp 22]⟩,
 ⟨some 24, none, .rd (.eqA true [0, 0, 0, 0, 0, 0, 2, 0, 2]) [.tmp 19, .tmp 23]⟩] L15)
 (.cond (.tmp 24)
 (.seq (.region false [⟨some 4, none, .rd .mov [.pv (.bool false)]⟩] L15)
 (.ret))
 (.skip)))))
 (.region false [⟨some 25, none, .rd (.bin .add) [.tmp 13, .pv (.int .i64 1)]⟩,
 ⟨some 13, none, .rd .mov [.tmp 25]⟩] L15)))))))
 (.seq (.region false [⟨some 4, none, .rd .mov [.pv (.bool true)]⟩] L15)
 (.ret)))),
 [.tmp 4]⟩

-- (wagebook/store.View).Len
def L16 : List Nat := [0, 1, 2]
def c16 : CF := ⟨6,
 .seq (.region false [⟨some 1, none, .eff (.box (some 1)) [.tmp 0]⟩,
 ⟨some 2, none, .rd .mov [.pv (.int .i64 0)]⟩] L16)
 (.seq (.region false [⟨some 3, none, .rd (.fldAddr 0) [.tmp 1]⟩,
 ⟨some 4, none, .rd (.load none) [.tmp 3]⟩,
 ⟨some 5, none, .rd .lenL [.tmp 4]⟩,
 ⟨some 2, none, .rd .mov [.tmp 5]⟩] L16)
 (.ret)),
 [.tmp 2]⟩

-- (wagebook/store.Store).Import
def L19 : List Nat := [0, 2, 4]
def c19 : CF := ⟨8,
 .seq (.region false [⟨some 2, none, .rd .mov [.pv .nilSl]⟩] L19)
 (.seq (.seq (.region false [⟨some 3, none, .rd .mov [.tmp 0]⟩,
 ⟨some 4, none, .rd (.nilEq false 0) [.tmp 3, .pv .nilSl]⟩] L19)
 (.cond (.tmp 4)
 (.seq (.region false [⟨some 2, none, .rd .mov [.pv .nilSl]⟩] L19)
 (.ret))
 (.skip)))
 (.seq (.region false [⟨some 5, none, .eff (.lit (some 9) true) []⟩,
 ⟨some 6, none, .rd .mov [.tmp 0]⟩,
 ⟨some 7, none, .eff (.append (some 9) 80) [.tmp 5, .tmp 6]⟩,
 ⟨some 2, none, .rd .mov [.tmp 7]⟩] L19)
 (.ret))),
 [.tmp 2]⟩

-- (wagebook/store.View).those
def L20 : List Nat := [0, 1, 2, 4, 5, 6, 7, 8, 12, 13, 14, 15, 28]
def c20 : CF := ⟨38,
 .seq (.region false [⟨some 2, none, .eff (.box (some 1)) [.tmp 0]⟩,
 ⟨some 4, none, .rd .mov [.pv .nilSl]⟩] L20)
 (.seq (.region false [⟨some 5, none, .rd .mov [.pv .nilSl]⟩] L20)
 (.seq (.region false [⟨some 9, none, .rd (.load (some 1)) [.tmp 2]⟩,
 ⟨some 10, none, .call (.pv (.fn 28 [] [])) [.tmp 9]⟩,
 ⟨some 6, none, .rd .mov [.tmp 10]⟩] L20)
 (.seq (.seq (.region false [⟨some 11, none, .rd (.fldAddr 0) [.tmp 2]⟩,
 ⟨some 12, none, .rd (.load none) [.tmp 11]⟩,
 ⟨some 13, none, .rd .lenL [.tmp 12]⟩,
 ⟨some 14, none, .rd .mov [.pv (.int .i64 0)]⟩] L20)
 (.block 0
 (.loop
 (.seq (.region false [⟨some 15, none, .rd (.bin .lss) [.tmp 14, .tmp 13]⟩] L20)
 (.seq (.cond (.tmp 15)
 (.skip)
 (.exit 0))
 (.seq (.block 1
 (.seq (.region false [⟨some 16, none, .rd .mov [.tmp 14]⟩,
 ⟨some 17, none, .rd (.idxAddr (some 8)) [.tmp 12, .tmp 14]⟩,
 ⟨some 18, none, .rd (.load (some 8)) [.tmp 17]⟩,
 ⟨some 8, none, .eff (.alloc (some 8) (.agg [(.int .u32 0), (.int .u32 0), (.int .i64 0), (.int .i64 0), (.int .i64 0), (.str []), (.int .i64 0), (.str [])])) []⟩,
 ⟨some 7, none, .rd .mov [.tmp 16]⟩,
 ⟨none, none, .eff (.store (some 8)) [.tmp 8, .tmp 18]⟩] L20)
 (.seq (.region false [⟨some 19, none, .rd .mov [.tmp 6]⟩,
 ⟨some 20, none, .rd .mov [.tmp 7]⟩,
 ⟨some 21, none, .rd (.idxAddr none) [.tmp 19, .tmp 20]⟩,
 ⟨some 22, none, .rd (.load none) [.tmp 21]⟩,
 ⟨some 23, none, .rd (.un .not) [.tmp 22]⟩,
 ⟨some 24, none, .rd .mov [.tmp 23]⟩,
 ⟨some 25, some (24, true), .rd .mov [.tmp 1]⟩,
 ⟨some 26, some (24, true), .rd (.load (some 8)) [.tmp 8]⟩,
 ⟨some 27, some (24, true), .call (.tmp 25) [.tmp 26]⟩,
 ⟨some 28, none, .rd .pick [.tmp 24, .tmp 27, .pv (.bool false)]⟩] L20)
 (.cond (.tmp 28)
 (.region false [⟨some 29, none, .rd .mov [.tmp 5]⟩,
 ⟨some 30, none, .rd .mov [.tmp 7]⟩,
 ⟨some 31, none, .rd (.bin .add) [.tmp 30, .pv (.int .i64 1)]⟩,
 ⟨some 32, none, .rd (.load (some 8)) [.tmp 8]⟩,
 ⟨some 33, none, .rd (.build [(.int .i64 0), (.int .u32 0), (.int .u32 0), (.int .i64 0), (.int .i64 0), (.int .i64 0), (.str []), (.int .i64 0), (.str [])] [(0, 1), (1, 8)]) [.tmp 31, .tmp 32]⟩,
 ⟨some 34, none, .eff (.lit (some 9) false) [.tmp 33]⟩,
 ⟨some 35, none, .eff (.append (some 9) 80) [.tmp 29, .tmp 34]⟩,
 ⟨some 5, none, .rd .mov [.tmp 35]⟩] L20)
 (.skip)))))
 (.region false [⟨some 36, none, .rd (.bin .add) [.tmp 14, .pv (.int .i64 1)]⟩,
 ⟨some 14, none, .rd .mov [.tmp 36]⟩] L20)))))))
 (.seq (.region false [⟨some 37, none, .rd .mov [.tmp 5]⟩,
 ⟨some 4, none, .rd .mov [.tmp 37]⟩] L20)
 (.ret))))),
 [.tmp 4]⟩

-- (wagebook/store.View).Facts$1
def L21 : List Nat := [0, 1, 2, 3, 4]
def c21 : CF := ⟨15,
 .seq (.region false [⟨some 3, none, .eff (.box (some 8)) [.tmp 0]⟩,
 ⟨some 4, none, .rd .mov [.pv (.bool false)]⟩] L21)
 (.seq (.region false [⟨some 5, none, .rd (.fldAddr 1) [.tmp 3]⟩,
 ⟨some 6, none, .rd (.load none) [.tmp 5]⟩,
 ⟨some 7, none, .rd (.load none) [.tmp 1]⟩,
 ⟨some 8, none, .rd (.bin .eql) [.tmp 6, .tmp 7]⟩,
 ⟨some 9, none, .rd .mov [.tmp 8]⟩,
 ⟨some 10, some (9, true), .rd (.fldAddr 2) [.tmp 3]⟩,
 ⟨some 11, some (9, true), .rd (.load none) [.tmp 10]⟩,
 ⟨some 12, some (9, true), .rd (.load none) [.tmp 2]⟩,
 ⟨some 13, some (9, true), .rd (.bin .eql) [.tmp 11, .tmp 12]⟩,
 ⟨some 14, none, .rd .pick [.tmp 9, .tmp 13, .pv (.bool false)]⟩,
 ⟨some 4, none, .rd .mov [.tmp 14]⟩] L21)
 (.ret)),
 [.tmp 4]⟩

-- (wagebook/line.Line).place
def L22 : List Nat := [0, 1, 2, 4, 5, 6, 7, 9, 10, 11, 12, 48]
def c22 : CF := ⟨52,
 .seq (.region false [⟨some 2, none, .eff (.box (some 1)) [.tmp 0]⟩,
 ⟨some 4, none, .rd .mov [.pv (.int .i64 0)]⟩] L22)
 (.seq (.region false [⟨some 5, none, .rd .mov [.pv (.int .i64 (-1))]⟩] L22)
 (.seq (.seq (.region false [⟨some 8, none, .rd (.fldAddr 0) [.tmp 2]⟩,
 ⟨some 9, none, .rd (.load none) [.tmp 8]⟩,
 ⟨some 10, none, .rd .lenL [.tmp 9]⟩,
 ⟨some 11, none, .rd .mov [.pv (.int .i64 0)]⟩] L22)
 (.block 0
 (.loop
 (.seq (.region false [⟨some 12, none, .rd (.bin .lss) [.tmp 11, .tmp 10]⟩] L22)
 (.seq (.cond (.tmp 12)
 (.skip)
 (.exit 0))
 (.seq (.block 1
 (.seq (.region false [⟨some 13, none, .rd .mov [.tmp 11]⟩,
 ⟨some 14, none, .rd (.idxAddr (some 9)) [.tmp 9, .tmp 11]⟩,
 ⟨some 15, none, .rd (.load (some 9)) [.tmp 14]⟩,
 ⟨some 7, none, .eff (.alloc (some 9) (.agg [(.int .i64 0), (.int .u32 0), (.int .u32 0), (.int .i64 0), (.int .i64 0), (.int .i64 0), (.str []), (.int .i64 0), (.str [])])) []⟩,
 ⟨some 6, none, .rd .mov [.tmp 13]⟩,
 ⟨none, none, .eff (.store (some 9)) [.tmp 7, .tmp 15]⟩] L22)
 (.seq (.region true [⟨some 16, none, .rd (.fldAddr 1) [.tmp 7]⟩,
 ⟨some 17, none, .rd (.fldAddr 3) [.tmp 16]⟩,
 ⟨some 18, none, .rd (.load none) [.tmp 17]⟩,
 ⟨some 19, none, .rd .mov [.tmp 1]⟩,
 ⟨some 20, none, .rd (.bin .leq) [.tmp 18, .tmp 19]⟩,
 ⟨some 21, none, .rd .mov [.tmp 20]⟩,
 ⟨some 22, some (21, true), .rd (.fldAddr 1) [.tmp 7]⟩,
 ⟨some 23, some (21, true), .rd (.fldAddr 4) [.tmp 22]⟩,
 ⟨some 24, some (21, true), .rd (.load none) [.tmp 23]⟩,
 ⟨some 25, some (21, true), .rd (.bin .eql) [.tmp 24, .pv (.int .i64 0)]⟩,
 ⟨some 26, some (21, true), .rd .mov [.tmp 25]⟩,
 ⟨some 27, some (26, false), .rd (.fldAddr 1) [.tmp 7]⟩,
 ⟨some 28, some (26, false), .rd (.fldAddr 4) [.tmp 27]⟩,
 ⟨some 29, some (26, false), .rd (.load none) [.tmp 28]⟩,
 ⟨some 30, some (26, false), .rd .mov [.tmp 1]⟩,
 ⟨some 31, some (26, false), .rd (.bin .gtr) [.tmp 29, .tmp 30]⟩,
 ⟨some 32, some (21, true), .rd .pick [.tmp 26, .pv (.bool true), .tmp 31]⟩,
 ⟨some 33, none, .rd .pick [.tmp 21, .tmp 32, .pv (.bool false)]⟩,
 ⟨some 34, none, .rd .mov [.tmp 33]⟩,
 ⟨some 35, some (34, true), .rd .mov [.tmp 5]⟩,
 ⟨some 36, some (34, true), .rd (.bin .lss) [.tmp 35, .pv (.int .i64 0)]⟩,
 ⟨some 37, some (34, true), .rd .mov [.tmp 36]⟩,
 ⟨some 38, some (37, false), .rd (.fldAddr 0) [.tmp 7]⟩,
 ⟨some 39, some (37, false), .rd (.load none) [.tmp 38]⟩,
 ⟨some 40, some (37, false), .rd (.fldAddr 0) [.tmp 2]⟩,
 ⟨some 41, some (37, false), .rd (.load none) [.tmp 40]⟩,
 ⟨some 42, some (37, false), .rd .mov [.tmp 5]⟩,
 ⟨some 43, some (37, false), .rd (.idxAddr (some 9)) [.tmp 41, .tmp 42]⟩,
 ⟨some 44, some (37, false), .rd (.fldAddr 0) [.tmp 43]⟩,
 ⟨some 45, some (37, false), .rd (.load none) [.tmp 44]⟩,
 ⟨some 46, some (37, false), .rd (.bin .gtr) [.tmp 39, .tmp 45]⟩,
 ⟨some 47, some (34, true), .rd .pick [.tmp 37, .pv (.bool true), .tmp 46]⟩,
 ⟨some 48, none, .rd .pick [.tmp 34, .tmp 47, .pv (.bool false)]⟩] L22)
 (.cond (.tmp 48)
 (.region false [⟨some 49, none, .rd .mov [.tmp 6]⟩,
 ⟨some 5, none, .rd .mov [.tmp 49]⟩] L22)
 (.skip)))))
 (.region false [⟨some 50, none, .rd (.bin .add) [.tmp 11, .pv (.int .i64 1)]⟩,
 ⟨some 11, none, .rd .mov [.tmp 50]⟩] L22)))))))
 (.seq (.region false [⟨some 51, none, .rd .mov [.tmp 5]⟩,
 ⟨some 4, none, .rd .mov [.tmp 51]⟩] L22)
 (.ret)))),
 [.tmp 4]⟩

-- (wagebook/line.Line).value
def L23 : List Nat := [0, 1, 2, 4, 5, 7]
def c23 : CF := ⟨23,
 .seq (.region false [⟨some 2, none, .eff (.box (some 1)) [.tmp 0]⟩,
 ⟨some 4, none, .eff (.alloc (some 3) (.agg [(.int .i64 0), (.int .i64 0), (.str [])])) []⟩] L23)
 (.seq (.seq (.region false [⟨some 6, none, .rd .mov [.tmp 1]⟩,
 ⟨some 7, none, .rd (.bin .lss) [.tmp 6, .pv (.int .i64 0)]⟩] L23)
 (.cond (.tmp 7)
 (.seq (.region false [⟨some 8, none, .rd (.build [(.int .i64 0), (.int .i64 0), (.str [])] []) []⟩,
 ⟨none, none, .eff (.store (some 3)) [.tmp 4, .tmp 8]⟩] L23)
 (.ret))
 (.skip)))
 (.seq (.region false [⟨some 9, none, .rd (.fldAddr 0) [.tmp 2]⟩,
 ⟨some 10, none, .rd (.load none) [.tmp 9]⟩,
 ⟨some 11, none, .rd .mov [.tmp 1]⟩,
 ⟨some 12, none, .rd (.idxAddr (some 9)) [.tmp 10, .tmp 11]⟩,
 ⟨some 13, none, .rd (.load (some 9)) [.tmp 12]⟩,
 ⟨some 5, none, .eff (.alloc (some 9) (.agg [(.int .i64 0), (.int .u32 0), (.int .u32 0), (.int .i64 0), (.int .i64 0), (.int .i64 0), (.str []), (.int .i64 0), (.str [])])) []⟩,
 ⟨none, none, .eff (.store (some 9)) [.tmp 5, .tmp 13]⟩] L23)
 (.seq (.region false [⟨some 14, none, .rd (.fldAddr 0) [.tmp 5]⟩,
 ⟨some 15, none, .rd (.load none) [.tmp 14]⟩,
 ⟨some 16, none, .rd (.fldAddr 1) [.tmp 5]⟩,
 ⟨some 17, none, .rd (.fldAddr 6) [.tmp 16]⟩,
 ⟨some 18, none, .rd (.load none) [.tmp 17]⟩,
 ⟨some 19, none, .rd (.fldAddr 1) [.tmp 5]⟩,
 ⟨some 20, none, .rd (.fldAddr 7) [.tmp 19]⟩,
 ⟨some 21, none, .rd (.load none) [.tmp 20]⟩,
 ⟨some 22, none, .rd (.build [(.int .i64 0), (.int .i64 0), (.str [])] [(0, 1), (1, 1), (2, 1)]) [.tmp 15, .tmp 18, .tmp 21]⟩,
 ⟨none, none, .eff (.store (some 3)) [.tmp 4, .tmp 22]⟩] L23)
 (.ret)))),
 [.cell 4 (some 3)]⟩
theorem k6 : compileF Tryz.prog [] L6 Tryz.f6 = some c6 := by kernel_rfl
theorem k7 : compileF Tryz.prog [] L7 Tryz.f7 = some c7 := by kernel_rfl
theorem k8 : compileF Tryz.prog [] L8 Tryz.f8 = some c8 := by kernel_rfl
theorem k9 : compileF Tryz.prog [] L9 Tryz.f9 = some c9 := by kernel_rfl
theorem k10 : compileF Tryz.prog [] L10 Tryz.f10 = some c10 := by kernel_rfl
theorem k11 : compileF Tryz.prog [] L11 Tryz.f11 = some c11 := by kernel_rfl
theorem k12 : compileF Tryz.prog [] L12 Tryz.f12 = some c12 := by kernel_rfl
theorem k13 : compileF Tryz.prog [] L13 Tryz.f13 = some c13 := by kernel_rfl
theorem k14 : compileF Tryz.prog [] L14 Tryz.f14 = some c14 := by kernel_rfl
theorem k15 : compileF Tryz.prog [] L15 Tryz.f15 = some c15 := by kernel_rfl
theorem k16 : compileF Tryz.prog [] L16 Tryz.f16 = some c16 := by kernel_rfl
theorem k19 : compileF Tryz.prog [] L19 Tryz.f19 = some c19 := by kernel_rfl
theorem k20 : compileF Tryz.prog [] L20 Tryz.f20 = some c20 := by kernel_rfl
theorem k21 : compileF Tryz.prog [] L21 Tryz.f21 = some c21 := by kernel_rfl
theorem k22 : compileF Tryz.prog [] L22 Tryz.f22 = some c22 := by kernel_rfl
theorem k23 : compileF Tryz.prog [] L23 Tryz.f23 = some c23 := by kernel_rfl
end Go.Proofs.YtcdfmdngnidpaaaGreatDoor

