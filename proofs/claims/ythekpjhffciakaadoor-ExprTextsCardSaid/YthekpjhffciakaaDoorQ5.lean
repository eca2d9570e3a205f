import Derived.Test.YthekpjhffciakaaDoorProg
import Derived.KernelRfl
import Derived.Handy
import Derived.Test.YthekpjhffciakaaDoorP4
namespace Go.Proofs.YthekpjhffciakaaDoor
open PG Go.Proofs
-- wagebook/lex.All
def L19 : List Nat := [0, 2, 3, 4, 5, 6, 7, 8, 9, 10, 13, 17, 21, 33]
def c19 : CF := ⟨57,
 .seq (.region false [⟨some 2, none, .rd .mov [.pv .nilSl]⟩,
 ⟨some 3, none, .rd .mov [.pv (.int .i64 0)]⟩,
 ⟨some 4, none, .rd .mov [.pv (.int .i64 0)]⟩] L19)
 (.seq (.seq (.region false [oM 11 0,
 ⟨some 12, none, .rd .lenS [.tmp 11]⟩,
 ⟨some 13, none, .rd (.bin .gtr) [.tmp 12, .pv (.int .i64 4096)]⟩] L19)
 (.cond (.tmp 13)
 (.seq (.region false [⟨some 2, none, .rd .mov [.pv .nilSl]⟩,
 ⟨some 3, none, .rd .mov [.pv (.int .i64 0)]⟩,
 ⟨some 4, none, .rd .mov [.pv (.int .i64 4)]⟩] L19)
 (.ret))
 (.skip)))
 (.seq (.region false [⟨some 5, none, .rd .mov [.pv .nilSl]⟩] L19)
 (.seq (.seq (.region false [⟨some 6, none, .rd .mov [.pv (.int .i64 0)]⟩] L19)
 (.block 0
 (.loop
 (.seq (.seq (.region false [oM 14 6,
 oM 15 0,
 ⟨some 16, none, .rd .lenS [.tmp 15]⟩,
 ⟨some 17, none, .rd (.bin .lss) [.tmp 14, .tmp 16]⟩] L19)
 (.cond (.tmp 17)
 (.skip)
 (.exit 0)))
 (.block 1
 (.seq (.seq (.region false [oM 18 0,
 oM 19 6,
 ⟨some 20, none, .rd .idxS [.tmp 18, .tmp 19]⟩,
 ⟨some 21, none, .rd (.bin .eql) [.tmp 20, .pv (.int .u8 32)]⟩] L19)
 (.cond (.tmp 21)
 (.seq (.region false [oM 22 6,
 ⟨some 23, none, .rd (.bin .add) [.tmp 22, .pv (.int .i64 1)]⟩,
 oM 6 23] L19)
 (.exit 1))
 (.skip)))
 (.seq (.region false [oM 25 0,
 oM 26 6,
 ⟨some 27, none, .call (.pv (.fn 43 [] [])) [.tmp 25, .tmp 26]⟩,
 oM 24 27,
 ⟨some 28, none, .rd (.ext 0) [.tmp 24]⟩,
 ⟨some 29, none, .rd (.ext 1) [.tmp 24]⟩,
 ⟨some 30, none, .rd (.ext 2) [.tmp 24]⟩,
 ⟨some 31, none, .rd (.ext 3) [.tmp 24]⟩,
 oM 7 28,
 oM 8 29,
 oM 9 30,
 oM 10 31] L19)
 (.seq (.seq (.region false [oM 32 10,
 ⟨some 33, none, .rd (.bin .neq) [.tmp 32, .pv (.int .i64 0)]⟩] L19)
 (.cond (.tmp 33)
 (.seq (.region false [oM 34 9,
 oM 35 10,
 ⟨some 2, none, .rd .mov [.pv .nilSl]⟩,
 oM 3 34,
 oM 4 35] L19)
 (.ret))
 (.skip)))
 (.seq (.region false [oM 36 5,
 oM 37 7,
 oM 38 0,
 oM 39 6,
 oM 40 6,
 oM 41 8,
 ⟨some 42, none, .rd (.bin .add) [.tmp 40, .tmp 41]⟩,
 ⟨some 43, none, .rd (.slcS true true) [.tmp 38, .tmp 39, .tmp 42]⟩,
 oM 44 6,
 ⟨some 45, none, .rd (.build [(.int .i64 0), (.str []), (.int .i64 0)] [(0, 1), (1, 1), (2, 1)]) [.tmp 37, .tmp 43, .tmp 44]⟩,
 ⟨some 46, none, .eff (.lit (some 3) false) [.tmp 45]⟩,
 ⟨some 47, none, .eff (.append (some 3) 32) [.tmp 36, .tmp 46]⟩,
 oM 5 47] L19)
 (.region false [oM 48 6,
 oM 49 8,
 ⟨some 50, none, .rd (.bin .add) [.tmp 48, .tmp 49]⟩,
 oM 6 50] L19))))))))))
 (.seq (.region false [oM 51 5,
 oM 52 0,
 ⟨some 53, none, .rd .lenS [.tmp 52]⟩,
 ⟨some 54, none, .rd (.build [(.int .i64 0), (.str []), (.int .i64 0)] [(0, 1), (1, 1), (2, 1)]) [.pv (.int .i64 0), .pv (.str []), .tmp 53]⟩,
 ⟨some 55, none, .eff (.lit (some 3) false) [.tmp 54]⟩,
 ⟨some 56, none, .eff (.append (some 3) 32) [.tmp 51, .tmp 55]⟩,
 oM 2 56,
 ⟨some 3, none, .rd .mov [.pv (.int .i64 0)]⟩,
 ⟨some 4, none, .rd .mov [.pv (.int .i64 0)]⟩] L19)
 (.ret))))),
 [.tmp 2, .tmp 3, .tmp 4]⟩

-- wagebook/lex.NumberOf
def L20 : List Nat := [0, 2, 3, 4, 6, 7, 16, 23, 38]
def c20 : CF := ⟨53,
 .seq (.region false [⟨some 2, none, .rd .mov [.pv (.int .i64 0)]⟩,
 ⟨some 3, none, .rd .mov [.pv (.int .i64 0)]⟩] L20)
 (.seq (.seq (.region false [oM 9 0,
 ⟨some 10, none, .rd (.bin .eql) [.tmp 9, .pv (.str [])]⟩,
 oM 11 10,
 qM 11 false 12 0,
 ⟨some 13, some (11, false), .rd .idxS [.tmp 12, .pv (.int .i64 0)]⟩,
 ⟨some 14, some (11, false), .call (.pv (.fn 44 [] [])) [.tmp 13]⟩,
 ⟨some 15, some (11, false), .rd (.un .not) [.tmp 14]⟩,
 ⟨some 16, none, .rd .pick [.tmp 11, .pv (.bool true), .tmp 15]⟩] L20)
 (.cond (.tmp 16)
 (.seq (.region false [⟨some 2, none, .rd .mov [.pv (.int .i64 0)]⟩,
 ⟨some 3, none, .rd .mov [.pv (.int .i64 3)]⟩] L20)
 (.ret))
 (.skip)))
 (.seq (.region false [oM 18 0,
 ⟨some 19, none, .call (.pv (.fn 45 [] [])) [.tmp 18, .pv (.int .i64 0)]⟩,
 oM 17 19,
 ⟨some 20, none, .rd (.ext 0) [.tmp 17]⟩,
 ⟨some 21, none, .rd (.ext 1) [.tmp 17]⟩,
 ⟨some 22, none, .rd (.ext 2) [.tmp 17]⟩,
 oM 4 20,
 oM 5 21,
 oM 6 22] L20)
 (.seq (.block 0
 (.seq (.region false [oM 24 6,
 ⟨some 25, none, .rd (.bin .eql) [.tmp 24, .pv (.int .i64 2)]⟩,
 oM 26 25,
 qM 26 true 27 0,
 ⟨some 28, some (26, true), .call (.pv (.fn 46 [] [])) [.tmp 27, .pv (.int .i64 0), .pv (.fn 47 [] [])]⟩,
 qM 26 true 29 0,
 ⟨some 30, some (26, true), .rd .lenS [.tmp 29]⟩,
 ⟨some 31, some (26, true), .rd (.bin .eql) [.tmp 28, .tmp 30]⟩,
 ⟨some 32, none, .rd .pick [.tmp 26, .tmp 31, .pv (.bool false)]⟩,
 oM 33 32,
 qM 33 true 34 0,
 ⟨some 35, some (33, true), .call (.pv (.fn 48 [] [])) [.tmp 34, .pv (.str [46])]⟩,
 ⟨some 36, some (33, true), .rd (.bin .lss) [.tmp 35, .pv (.int .i64 2)]⟩,
 ⟨some 37, none, .rd .pick [.tmp 33, .tmp 36, .pv (.bool false)]⟩,
 oM 23 37] L20)
 (.cond (.tmp 23)
 (.seq (.region false [⟨some 2, none, .rd .mov [.pv (.int .i64 0)]⟩,
 ⟨some 3, none, .rd .mov [.pv (.int .i64 2)]⟩] L20)
 (.ret))
 (.seq (.region false [oM 39 6,
 ⟨some 40, none, .rd (.bin .neq) [.tmp 39, .pv (.int .i64 0)]⟩,
 oM 41 40,
 qM 41 false 42 4,
 qM 41 false 43 0,
 ⟨some 44, some (41, false), .rd .lenS [.tmp 43]⟩,
 ⟨some 45, some (41, false), .rd (.bin .neq) [.tmp 42, .tmp 44]⟩,
 ⟨some 46, none, .rd .pick [.tmp 41, .pv (.bool true), .tmp 45]⟩,
 oM 38 46] L20)
 (.cond (.tmp 38)
 (.seq (.region false [⟨some 2, none, .rd .mov [.pv (.int .i64 0)]⟩,
 ⟨some 3, none, .rd .mov [.pv (.int .i64 3)]⟩] L20)
 (.ret))
 (.skip))))))
 (.seq (.region false [oM 48 0,
 ⟨some 49, none, .call (.pv (.fn 49 [] [])) [.tmp 48]⟩,
 oM 47 49,
 ⟨some 50, none, .rd (.ext 0) [.tmp 47]⟩,
 ⟨some 51, none, .rd (.ext 1) [.tmp 47]⟩,
 oM 7 50,
 oM 8 51] L20)
 (.seq (.region false [oM 52 7,
 oM 2 52,
 ⟨some 3, none, .rd .mov [.pv (.int .i64 0)]⟩] L20)
 (.ret)))))),
 [.tmp 2, .tmp 3]⟩

-- wagebook/lex.token
def L43 : List Nat := [0, 1, 4, 5, 6, 7, 8, 12, 25, 38]
def c43 : CF := ⟨43,
 .seq (.region false [⟨some 4, none, .rd .mov [.pv (.int .i64 0)]⟩,
 ⟨some 5, none, .rd .mov [.pv (.int .i64 0)]⟩,
 ⟨some 6, none, .rd .mov [.pv (.int .i64 0)]⟩,
 ⟨some 7, none, .rd .mov [.pv (.int .i64 0)]⟩] L43)
 (.seq (.seq (.region false [oM 9 0,
 oM 10 1,
 ⟨some 11, none, .rd .idxS [.tmp 9, .tmp 10]⟩,
 oM 8 11] L43)
 (.block 0
 (.seq (.region false [oM 13 8,
 ⟨some 14, none, .call (.pv (.fn 74 [] [])) [.tmp 13]⟩,
 oM 12 14] L43)
 (.cond (.tmp 12)
 (.seq (.region false [oM 16 0,
 oM 17 1,
 ⟨some 18, none, .call (.pv (.fn 75 [] [])) [.tmp 16, .tmp 17]⟩,
 oM 15 18,
 ⟨some 19, none, .rd (.ext 0) [.tmp 15]⟩,
 ⟨some 20, none, .rd (.ext 1) [.tmp 15]⟩,
 ⟨some 21, none, .rd (.ext 2) [.tmp 15]⟩,
 oM 5 19,
 oM 6 20,
 oM 7 21] L43)
 (.seq (.region false [oM 22 5,
 oM 23 6,
 oM 24 7,
 ⟨some 4, none, .rd .mov [.pv (.int .i64 1)]⟩,
 oM 5 22,
 oM 6 23,
 oM 7 24] L43)
 (.ret)))
 (.seq (.region false [oM 26 8,
 ⟨some 27, none, .call (.pv (.fn 44 [] [])) [.tmp 26]⟩,
 oM 25 27] L43)
 (.cond (.tmp 25)
 (.seq (.region false [oM 29 0,
 oM 30 1,
 ⟨some 31, none, .call (.pv (.fn 45 [] [])) [.tmp 29, .tmp 30]⟩,
 oM 28 31,
 ⟨some 32, none, .rd (.ext 0) [.tmp 28]⟩,
 ⟨some 33, none, .rd (.ext 1) [.tmp 28]⟩,
 ⟨some 34, none, .rd (.ext 2) [.tmp 28]⟩,
 oM 5 32,
 oM 6 33,
 oM 7 34] L43)
 (.seq (.region false [oM 35 5,
 oM 36 6,
 oM 37 7,
 ⟨some 4, none, .rd .mov [.pv (.int .i64 2)]⟩,
 oM 5 35,
 oM 6 36,
 oM 7 37] L43)
 (.ret)))
 (.seq (.region false [oM 39 8,
 ⟨some 40, none, .call (.pv (.fn 76 [] [])) [.pv (.str [43, 45, 42, 40, 41, 44, 60, 61]), .tmp 39]⟩,
 ⟨some 41, none, .rd (.bin .geq) [.tmp 40, .pv (.int .i64 0)]⟩,
 oM 38 41] L43)
 (.cond (.tmp 38)
 (.seq (.region false [⟨some 4, none, .rd .mov [.pv (.int .i64 3)]⟩,
 ⟨some 5, none, .rd .mov [.pv (.int .i64 1)]⟩,
 ⟨some 6, none, .rd .mov [.pv (.int .i64 0)]⟩,
 ⟨some 7, none, .rd .mov [.pv (.int .i64 0)]⟩] L43)
 (.ret))
 (.skip)))))))))
 (.seq (.region false [oM 42 1,
 ⟨some 4, none, .rd .mov [.pv (.int .i64 0)]⟩,
 ⟨some 5, none, .rd .mov [.pv (.int .i64 0)]⟩,
 oM 6 42,
 ⟨some 7, none, .rd .mov [.pv (.int .i64 3)]⟩] L43)
 (.ret))),
 [.tmp 4, .tmp 5, .tmp 6, .tmp 7]⟩

-- wagebook/lex.digit
def L44 : List Nat := [0, 2]
def c44 : CF := ⟨9,
 .seq (.region false [⟨some 2, none, .rd .mov [.pv (.bool false)]⟩] L44)
 (.seq (.region false [oM 3 0,
 ⟨some 4, none, .rd (.bin .geq) [.tmp 3, .pv (.int .u8 48)]⟩,
 oM 5 4,
 qM 5 true 6 0,
 ⟨some 7, some (5, true), .rd (.bin .leq) [.tmp 6, .pv (.int .u8 57)]⟩,
 ⟨some 8, none, .rd .pick [.tmp 5, .tmp 7, .pv (.bool false)]⟩,
 oM 2 8] L44)
 (.ret)),
 [.tmp 2]⟩

-- wagebook/lex.number
def L45 : List Nat := [0, 1, 4, 5, 6, 7, 8, 9, 11, 27, 32, 36, 57]
def c45 : CF := ⟨60,
 .seq (.region false [⟨some 4, none, .rd .mov [.pv (.int .i64 0)]⟩,
 ⟨some 5, none, .rd .mov [.pv (.int .i64 0)]⟩,
 ⟨some 6, none, .rd .mov [.pv (.int .i64 0)]⟩] L45)
 (.seq (.region false [oM 12 0,
 oM 13 1,
 ⟨some 14, none, .call (.pv (.fn 46 [] [])) [.tmp 12, .tmp 13, .pv (.fn 44 [] [])]⟩,
 oM 7 14] L45)
 (.seq (.seq (.region false [oM 15 1,
 oM 16 7,
 ⟨some 17, none, .rd (.bin .add) [.tmp 15, .tmp 16]⟩,
 oM 8 17] L45)
 (.seq (.region false [oM 18 8,
 oM 19 0,
 ⟨some 20, none, .rd .lenS [.tmp 19]⟩,
 ⟨some 21, none, .rd (.bin .lss) [.tmp 18, .tmp 20]⟩,
 oM 22 21,
 qM 22 true 23 0,
 qM 22 true 24 8,
 ⟨some 25, some (22, true), .rd .idxS [.tmp 23, .tmp 24]⟩,
 ⟨some 26, some (22, true), .rd (.bin .eql) [.tmp 25, .pv (.int .u8 46)]⟩,
 ⟨some 27, none, .rd .pick [.tmp 22, .tmp 26, .pv (.bool false)]⟩] L45)
 (.cond (.tmp 27)
 (.seq (.region false [oM 28 0,
 oM 29 8,
 ⟨some 30, none, .rd (.bin .add) [.tmp 29, .pv (.int .i64 1)]⟩,
 ⟨some 31, none, .call (.pv (.fn 46 [] [])) [.tmp 28, .tmp 30, .pv (.fn 44 [] [])]⟩,
 oM 9 31] L45)
 (.seq (.block 0
 (.seq (.region false [oM 33 9,
 ⟨some 34, none, .rd (.bin .eql) [.tmp 33, .pv (.int .i64 0)]⟩,
 oM 32 34] L45)
 (.cond (.tmp 32)
 (.seq (.region false [oM 35 8,
 ⟨some 4, none, .rd .mov [.pv (.int .i64 0)]⟩,
 oM 5 35,
 ⟨some 6, none, .rd .mov [.pv (.int .i64 3)]⟩] L45)
 (.ret))
 (.seq (.region false [oM 37 9,
 ⟨some 38, none, .rd (.bin .gtr) [.tmp 37, .pv (.int .i64 4)]⟩,
 oM 36 38] L45)
 (.cond (.tmp 36)
 (.seq (.region false [oM 39 8,
 ⟨some 40, none, .rd (.bin .add) [.tmp 39, .pv (.int .i64 1)]⟩,
 ⟨some 41, none, .rd (.bin .add) [.tmp 40, .pv (.int .i64 4)]⟩,
 ⟨some 4, none, .rd .mov [.pv (.int .i64 0)]⟩,
 oM 5 41,
 ⟨some 6, none, .rd .mov [.pv (.int .i64 3)]⟩] L45)
 (.ret))
 (.skip))))))
 (.region false [oM 42 7,
 oM 43 9,
 ⟨some 44, none, .rd (.bin .add) [.pv (.int .i64 1), .tmp 43]⟩,
 ⟨some 45, none, .rd (.bin .add) [.tmp 42, .tmp 44]⟩,
 oM 7 45] L45)))
 (.skip))))
 (.seq (.seq (.region false [oM 47 0,
 oM 48 1,
 oM 49 1,
 oM 50 7,
 ⟨some 51, none, .rd (.bin .add) [.tmp 49, .tmp 50]⟩,
 ⟨some 52, none, .rd (.slcS true true) [.tmp 47, .tmp 48, .tmp 51]⟩,
 ⟨some 53, none, .call (.pv (.fn 49 [] [])) [.tmp 52]⟩,
 oM 46 53,
 ⟨some 54, none, .rd (.ext 0) [.tmp 46]⟩,
 ⟨some 55, none, .rd (.ext 1) [.tmp 46]⟩,
 oM 10 54,
 oM 11 55] L45)
 (.seq (.region false [oM 56 11,
 ⟨some 57, none, .rd (.un .not) [.tmp 56]⟩] L45)
 (.cond (.tmp 57)
 (.seq (.region false [oM 58 1,
 ⟨some 4, none, .rd .mov [.pv (.int .i64 0)]⟩,
 oM 5 58,
 ⟨some 6, none, .rd .mov [.pv (.int .i64 2)]⟩] L45)
 (.ret))
 (.skip))))
 (.seq (.region false [oM 59 7,
 oM 4 59,
 ⟨some 5, none, .rd .mov [.pv (.int .i64 0)]⟩,
 ⟨some 6, none, .rd .mov [.pv (.int .i64 0)]⟩] L45)
 (.ret))))),
 [.tmp 4, .tmp 5, .tmp 6]⟩

-- wagebook/lex.run
def L46 : List Nat := [0, 1, 2, 6, 7, 22]
def c46 : CF := ⟨26,
 .seq (.region false [⟨some 6, none, .rd .mov [.pv (.int .i64 0)]⟩] L46)
 (.seq (.region false [⟨some 7, none, .rd .mov [.pv (.int .i64 0)]⟩] L46)
 (.seq (.block 0
 (.loop
 (.seq (.seq (.region false [oM 8 1,
 oM 9 7,
 ⟨some 10, none, .rd (.bin .add) [.tmp 8, .tmp 9]⟩,
 oM 11 0,
 ⟨some 12, none, .rd .lenS [.tmp 11]⟩,
 ⟨some 13, none, .rd (.bin .lss) [.tmp 10, .tmp 12]⟩,
 oM 14 13,
 qM 14 true 15 2,
 qM 14 true 16 0,
 qM 14 true 17 1,
 qM 14 true 18 7,
 ⟨some 19, some (14, true), .rd (.bin .add) [.tmp 17, .tmp 18]⟩,
 ⟨some 20, some (14, true), .rd .idxS [.tmp 16, .tmp 19]⟩,
 ⟨some 21, some (14, true), .call (.tmp 15) [.tmp 20]⟩,
 ⟨some 22, none, .rd .pick [.tmp 14, .tmp 21, .pv (.bool false)]⟩] L46)
 (.cond (.tmp 22)
 (.skip)
 (.exit 0)))
 (.block 1
 (.region false [oM 23 7,
 ⟨some 24, none, .rd (.bin .add) [.tmp 23, .pv (.int .i64 1)]⟩,
 oM 7 24] L46)))))
 (.seq (.region false [oM 25 7,
 oM 6 25] L46)
 (.ret)))),
 [.tmp 6]⟩

-- wagebook/lex.NumberOf$1
def L47 : List Nat := [0, 2]
def c47 : CF := ⟨9,
 .seq (.region false [⟨some 2, none, .rd .mov [.pv (.bool false)]⟩] L47)
 (.seq (.region false [oM 3 0,
 ⟨some 4, none, .call (.pv (.fn 44 [] [])) [.tmp 3]⟩,
 oM 5 4,
 qM 5 false 6 0,
 ⟨some 7, some (5, false), .rd (.bin .eql) [.tmp 6, .pv (.int .u8 46)]⟩,
 ⟨some 8, none, .rd .pick [.tmp 5, .pv (.bool true), .tmp 7]⟩,
 oM 2 8] L47)
 (.ret)),
 [.tmp 2]⟩

-- strings.Count
def L49 : List Nat := [0, 2, 3, 4, 5, 7, 9, 10, 11, 12, 20, 21, 22, 23, 33, 38, 57]
def c49 : CF := ⟨62,
 .seq (.region false [⟨some 2, none, .rd .mov [.pv (.int .i64 0)]⟩,
 ⟨some 3, none, .rd .mov [.pv (.bool false)]⟩] L49)
 (.seq (.region false [oM 14 0,
 ⟨some 15, none, .call (.pv (.fn 80 [] [])) [.tmp 14, .pv (.str [46])]⟩,
 oM 13 15,
 ⟨some 16, none, .rd (.ext 0) [.tmp 13]⟩,
 ⟨some 17, none, .rd (.ext 1) [.tmp 13]⟩,
 ⟨some 18, none, .rd (.ext 2) [.tmp 13]⟩,
 oM 4 16,
 oM 5 17,
 oM 6 18] L49)
 (.seq (.region false [⟨some 7, none, .rd .mov [.pv (.int .i64 0)]⟩] L49)
 (.seq (.seq (.region false [oM 19 4,
 ⟨some 20, none, .eff .s2b [.tmp 19]⟩,
 ⟨some 21, none, .rd .lenL [.tmp 20]⟩,
 ⟨some 22, none, .rd .mov [.pv (.int .i64 0)]⟩] L49)
 (.block 0
 (.loop
 (.seq (.region false [⟨some 23, none, .rd (.bin .lss) [.tmp 22, .tmp 21]⟩] L49)
 (.seq (.cond (.tmp 23)
 (.skip)
 (.exit 0))
 (.seq (.block 1
 (.seq (.region false [⟨some 24, none, .rd (.idxAddr none) [.tmp 20, .tmp 22]⟩,
 oL 25 24,
 oM 9 25] L49)
 (.seq (.region false [oM 26 7,
 ⟨some 27, none, .rd (.bin .mul) [.pv (.int .i64 10), .tmp 26]⟩,
 oM 28 9,
 ⟨some 29, none, .rd (.bin .sub) [.tmp 28, .pv (.int .u8 48)]⟩,
 ⟨some 30, none, .rd (.conv .i64) [.tmp 29]⟩,
 ⟨some 31, none, .rd (.bin .add) [.tmp 27, .tmp 30]⟩,
 oM 7 31] L49)
 (.seq (.region false [oM 32 7,
 ⟨some 33, none, .rd (.bin .gtr) [.tmp 32, .pv (.int .i64 1000000000000)]⟩] L49)
 (.cond (.tmp 33)
 (.seq (.region false [⟨some 2, none, .rd .mov [.pv (.int .i64 0)]⟩,
 ⟨some 3, none, .rd .mov [.pv (.bool false)]⟩] L49)
 (.ret))
 (.skip))))))
 (.region false [⟨some 34, none, .rd (.bin .add) [.tmp 22, .pv (.int .i64 1)]⟩,
 oM 22 34] L49)))))))
 (.seq (.region false [⟨some 10, none, .rd .mov [.pv (.int .i64 0)]⟩] L49)
 (.seq (.seq (.region false [⟨some 11, none, .rd .mov [.pv (.int .i64 0)]⟩,
 ⟨some 12, none, .rd .mov [.pv (.int .i64 100000)]⟩] L49)
 (.block 2
 (.loop
 (.seq (.seq (.region false [oM 35 11,
 oM 36 5,
 ⟨some 37, none, .rd .lenS [.tmp 36]⟩,
 ⟨some 38, none, .rd (.bin .lss) [.tmp 35, .tmp 37]⟩] L49)
 (.cond (.tmp 38)
 (.skip)
 (.exit 2)))
 (.seq (.block 3
 (.region false [oM 43 10,
 oM 44 12,
 oM 45 5,
 oM 46 11,
 ⟨some 47, none, .rd .idxS [.tmp 45, .tmp 46]⟩,
 ⟨some 48, none, .rd (.bin .sub) [.tmp 47, .pv (.int .u8 48)]⟩,
 ⟨some 49, none, .rd (.conv .i64) [.tmp 48]⟩,
 ⟨some 50, none, .rd (.bin .mul) [.tmp 44, .tmp 49]⟩,
 ⟨some 51, none, .rd (.bin .add) [.tmp 43, .tmp 50]⟩,
 oM 10 51] L49))
 (.region false [oM 39 11,
 ⟨some 40, none, .rd (.bin .add) [.tmp 39, .pv (.int .i64 1)]⟩,
 oM 41 12,
 ⟨some 42, none, .rd (.bin .quo) [.tmp 41, .pv (.int .i64 10)]⟩,
 oM 11 40,
 oM 12 42] L49))))))
 (.seq (.seq (.region false [oM 52 7,
 ⟨some 53, none, .rd (.bin .eql) [.tmp 52, .pv (.int .i64 1000000000000)]⟩,
 oM 54 53,
 qM 54 true 55 10,
 ⟨some 56, some (54, true), .rd (.bin .gtr) [.tmp 55, .pv (.int .i64 0)]⟩,
 ⟨some 57, none, .rd .pick [.tmp 54, .tmp 56, .pv (.bool false)]⟩] L49)
 (.cond (.tmp 57)
 (.seq (.region false [⟨some 2, none, .rd .mov [.pv (.int .i64 0)]⟩,
 ⟨some 3, none, .rd .mov [.pv (.bool false)]⟩] L49)
 (.ret))
 (.skip)))
 (.seq (.region false [oM 58 7,
 ⟨some 59, none, .rd (.bin .mul) [.tmp 58, .pv (.int .i64 1000000)]⟩,
 oM 60 10,
 ⟨some 61, none, .rd (.bin .add) [.tmp 59, .tmp 60]⟩,
 oM 2 61,
 ⟨some 3, none, .rd .mov [.pv (.bool true)]⟩] L49)
 (.ret)))))))),
 [.tmp 2, .tmp 3]⟩

-- wagebook/lex.letter
def L74 : List Nat := [0, 2]
def c74 : CF := ⟨9,
 .seq (.region false [⟨some 2, none, .rd .mov [.pv (.bool false)]⟩] L74)
 (.seq (.region false [oM 3 0,
 ⟨some 4, none, .rd (.bin .geq) [.tmp 3, .pv (.int .u8 97)]⟩,
 oM 5 4,
 qM 5 true 6 0,
 ⟨some 7, some (5, true), .rd (.bin .leq) [.tmp 6, .pv (.int .u8 122)]⟩,
 ⟨some 8, none, .rd .pick [.tmp 5, .tmp 7, .pv (.bool false)]⟩,
 oM 2 8] L74)
 (.ret)),
 [.tmp 2]⟩

-- wagebook/lex.name
def L75 : List Nat := [0, 1, 4, 5, 6, 7, 12]
def c75 : CF := ⟨15,
 .seq (.region false [⟨some 4, none, .rd .mov [.pv (.int .i64 0)]⟩,
 ⟨some 5, none, .rd .mov [.pv (.int .i64 0)]⟩,
 ⟨some 6, none, .rd .mov [.pv (.int .i64 0)]⟩] L75)
 (.seq (.region false [oM 8 0,
 oM 9 1,
 ⟨some 10, none, .call (.pv (.fn 46 [] [])) [.tmp 8, .tmp 9, .pv (.fn 84 [] [])]⟩,
 oM 7 10] L75)
 (.seq (.seq (.region false [oM 11 7,
 ⟨some 12, none, .rd (.bin .gtr) [.tmp 11, .pv (.int .i64 32)]⟩] L75)
 (.cond (.tmp 12)
 (.seq (.region false [oM 13 1,
 ⟨some 4, none, .rd .mov [.pv (.int .i64 0)]⟩,
 oM 5 13,
 ⟨some 6, none, .rd .mov [.pv (.int .i64 4)]⟩] L75)
 (.ret))
 (.skip)))
 (.seq (.region false [oM 14 7,
 oM 4 14,
 ⟨some 5, none, .rd .mov [.pv (.int .i64 0)]⟩,
 ⟨some 6, none, .rd .mov [.pv (.int .i64 0)]⟩] L75)
 (.ret)))),
 [.tmp 4, .tmp 5, .tmp 6]⟩

-- strings.IndexByte
def L76 : List Nat := [0, 1, 4]
def c76 : CF := ⟨8,
 .seq (.region false [⟨some 4, none, .rd .mov [.pv (.int .i64 0)]⟩] L76)
 (.seq (.region false [oM 5 0,
 oM 6 1,
 ⟨some 7, none, .call (.pv (.fn 101 [] [])) [.tmp 5, .tmp 6]⟩,
 oM 4 7] L76)
 (.ret)),
 [.tmp 4]⟩

-- strings.Index
def L80 : List Nat := [0, 1, 4, 5, 6]
def c80 : CF := ⟨13,
 .seq (.region false [⟨some 4, none, .rd .mov [.pv (.str [])]⟩,
 ⟨some 5, none, .rd .mov [.pv (.str [])]⟩,
 ⟨some 6, none, .rd .mov [.pv (.bool false)]⟩] L80)
 (.seq (.region false [oM 7 0,
 oM 8 1,
 ⟨some 9, none, .call (.pv (.fn 103 [] [])) [.tmp 7, .tmp 8]⟩,
 ⟨some 10, none, .rd (.ext 0) [.tmp 9]⟩,
 ⟨some 11, none, .rd (.ext 1) [.tmp 9]⟩,
 ⟨some 12, none, .rd (.ext 2) [.tmp 9]⟩,
 oM 4 10,
 oM 5 11,
 oM 6 12] L80)
 (.ret)),
 [.tmp 4, .tmp 5, .tmp 6]⟩

-- wagebook/lex.inName
def L84 : List Nat := [0, 2]
def c84 : CF := ⟨21,
 .seq (.region false [⟨some 2, none, .rd .mov [.pv (.bool false)]⟩] L84)
 (.seq (.region false [oM 3 0,
 ⟨some 4, none, .call (.pv (.fn 74 [] [])) [.tmp 3]⟩,
 oM 5 4,
 qM 5 false 6 0,
 ⟨some 7, some (5, false), .call (.pv (.fn 44 [] [])) [.tmp 6]⟩,
 ⟨some 8, none, .rd .pick [.tmp 5, .pv (.bool true), .tmp 7]⟩,
 oM 9 8,
 qM 9 false 10 0,
 ⟨some 11, some (9, false), .rd (.bin .eql) [.tmp 10, .pv (.int .u8 46)]⟩,
 ⟨some 12, none, .rd .pick [.tmp 9, .pv (.bool true), .tmp 11]⟩,
 oM 13 12,
 qM 13 false 14 0,
 ⟨some 15, some (13, false), .rd (.bin .eql) [.tmp 14, .pv (.int .u8 95)]⟩,
 ⟨some 16, none, .rd .pick [.tmp 13, .pv (.bool true), .tmp 15]⟩,
 oM 17 16,
 qM 17 false 18 0,
 ⟨some 19, some (17, false), .rd (.bin .eql) [.tmp 18, .pv (.int .u8 58)]⟩,
 ⟨some 20, none, .rd .pick [.tmp 17, .pv (.bool true), .tmp 19]⟩,
 oM 2 20] L84)
 (.ret)),
 [.tmp 2]⟩

-- internal/stringslite.IndexByte
def L102 : List Nat := [0, 1, 4, 5, 6, 7, 8, 9, 10, 11, 12, 13, 16, 24, 31, 36, 59, 64, 73, 93, 107, 114, 132, 139]
def c102 : CF := ⟨143,
 .seq (.region false [⟨some 4, none, .rd .mov [.pv (.int .i64 0)]⟩] L102)
 (.seq (.region false [oM 14 1,
 ⟨some 15, none, .rd .lenS [.tmp 14]⟩,
 oM 5 15] L102)
 (.seq (.block 0
 (.seq (.region false [oM 17 5,
 ⟨some 18, none, .rd (.bin .eql) [.tmp 17, .pv (.int .i64 0)]⟩,
 oM 19 18,
 qM 19 false 20 1,
 qM 19 false 21 0,
 ⟨some 22, some (19, false), .rd (.bin .eql) [.tmp 20, .tmp 21]⟩,
 ⟨some 23, none, .rd .pick [.tmp 19, .pv (.bool true), .tmp 22]⟩,
 oM 16 23] L102)
 (.cond (.tmp 16)
 (.seq (.region false [⟨some 4, none, .rd .mov [.pv (.int .i64 0)]⟩] L102)
 (.ret))
 (.seq (.region false [oM 25 5,
 ⟨some 26, none, .rd (.bin .eql) [.tmp 25, .pv (.int .i64 1)]⟩,
 oM 24 26] L102)
 (.cond (.tmp 24)
 (.seq (.region false [oM 27 0,
 oM 28 1,
 ⟨some 29, none, .rd .idxS [.tmp 28, .pv (.int .i64 0)]⟩,
 ⟨some 30, none, .call (.pv (.fn 101 [] [])) [.tmp 27, .tmp 29]⟩,
 oM 4 30] L102)
 (.ret))
 (.seq (.region false [oM 32 5,
 oM 33 0,
 ⟨some 34, none, .rd .lenS [.tmp 33]⟩,
 ⟨some 35, none, .rd (.bin .geq) [.tmp 32, .tmp 34]⟩,
 oM 31 35] L102)
 (.cond (.tmp 31)
 (.seq (.region false [⟨some 4, none, .rd .mov [.pv (.int .i64 (-1))]⟩] L102)
 (.ret))
 (.seq (.region false [oM 37 5,
 ⟨some 38, none, .rd (.load none) [.glob 2]⟩,
 ⟨some 39, none, .rd (.bin .leq) [.tmp 37, .tmp 38]⟩,
 oM 40 39,
 qM 40 true 41 0,
 ⟨some 42, some (40, true), .rd .lenS [.tmp 41]⟩,
 ⟨some 43, some (40, true), .rd (.bin .leq) [.tmp 42, .pv (.int .i64 64)]⟩,
 ⟨some 44, none, .rd .pick [.tmp 40, .tmp 43, .pv (.bool false)]⟩,
 oM 36 44] L102)
 (.cond (.tmp 36)
 (.seq (.region false [oM 45 0,
 oM 46 1,
 ⟨some 47, none, .call (.pv (.fn 128 [] [])) [.tmp 45, .tmp 46]⟩,
 oM 4 47] L102)
 (.ret))
 (.skip))))))))))
 (.seq (.region false [oM 48 1,
 ⟨some 49, none, .rd .idxS [.tmp 48, .pv (.int .i64 0)]⟩,
 oM 6 49] L102)
 (.seq (.region false [oM 50 1,
 ⟨some 51, none, .rd .idxS [.tmp 50, .pv (.int .i64 1)]⟩,
 oM 7 51] L102)
 (.seq (.region false [⟨some 8, none, .rd .mov [.pv (.int .i64 0)]⟩] L102)
 (.seq (.region false [oM 52 0,
 ⟨some 53, none, .rd .lenS [.tmp 52]⟩,
 oM 54 5,
 ⟨some 55, none, .rd (.bin .sub) [.tmp 53, .tmp 54]⟩,
 ⟨some 56, none, .rd (.bin .add) [.tmp 55, .pv (.int .i64 1)]⟩,
 oM 9 56] L102)
 (.seq (.region false [⟨some 10, none, .rd .mov [.pv (.int .i64 0)]⟩] L102)
 (.seq (.block 1
 (.loop
 (.seq (.seq (.region false [oM 57 8,
 oM 58 9,
 ⟨some 59, none, .rd (.bin .lss) [.tmp 57, .tmp 58]⟩] L102)
 (.cond (.tmp 59)
 (.skip)
 (.exit 1)))
 (.block 2
 (.seq (.seq (.region false [oM 60 0,
 oM 61 8,
 ⟨some 62, none, .rd .idxS [.tmp 60, .tmp 61]⟩,
 oM 63 6,
 ⟨some 64, none, .rd (.bin .neq) [.tmp 62, .tmp 63]⟩] L102)
 (.cond (.tmp 64)
 (.seq (.region false [oM 65 0,
 oM 66 8,
 ⟨some 67, none, .rd (.bin .add) [.tmp 66, .pv (.int .i64 1)]⟩,
 oM 68 9,
 ⟨some 69, none, .rd (.slcS true true) [.tmp 65, .tmp 67, .tmp 68]⟩,
 oM 70 6,
 ⟨some 71, none, .call (.pv (.fn 101 [] [])) [.tmp 69, .tmp 70]⟩,
 oM 11 71] L102)
 (.seq (.seq (.region false [oM 72 11,
 ⟨some 73, none, .rd (.bin .lss) [.tmp 72, .pv (.int .i64 0)]⟩] L102)
 (.cond (.tmp 73)
 (.seq (.region false [⟨some 4, none, .rd .mov [.pv (.int .i64 (-1))]⟩] L102)
 (.ret))
 (.skip)))
 (.region false [oM 74 8,
 oM 75 11,
 ⟨some 76, none, .rd (.bin .add) [.tmp 75, .pv (.int .i64 1)]⟩,
 ⟨some 77, none, .rd (.bin .add) [.tmp 74, .tmp 76]⟩,
 oM 8 77] L102)))
 (.skip)))
 (.seq (.seq (.region false [oM 78 0,
 oM 79 8,
 ⟨some 80, none, .rd (.bin .add) [.tmp 79, .pv (.int .i64 1)]⟩,
 ⟨some 81, none, .rd .idxS [.tmp 78, .tmp 80]⟩,
 oM 82 7,
 ⟨some 83, none, .rd (.bin .eql) [.tmp 81, .tmp 82]⟩,
 oM 84 83,
 qM 84 true 85 0,
 qM 84 true 86 8,
 qM 84 true 87 8,
 qM 84 true 88 5,
 ⟨some 89, some (84, true), .rd (.bin .add) [.tmp 87, .tmp 88]⟩,
 ⟨some 90, some (84, true), .rd (.slcS true true) [.tmp 85, .tmp 86, .tmp 89]⟩,
 qM 84 true 91 1,
 ⟨some 92, some (84, true), .rd (.bin .eql) [.tmp 90, .tmp 91]⟩,
 ⟨some 93, none, .rd .pick [.tmp 84, .tmp 92, .pv (.bool false)]⟩] L102)
 (.cond (.tmp 93)
 (.seq (.region false [oM 94 8,
 oM 4 94] L102)
 (.ret))
 (.skip)))
 (.seq (.region false [oM 95 8,
 ⟨some 96, none, .rd (.bin .add) [.tmp 95, .pv (.int .i64 1)]⟩,
 oM 8 96] L102)
 (.seq (.region false [oM 97 10,
 ⟨some 98, none, .rd (.bin .add) [.tmp 97, .pv (.int .i64 1)]⟩,
 oM 10 98] L102)
 (.seq (.region false [oM 99 5,
 ⟨some 100, none, .rd (.load none) [.glob 2]⟩,
 ⟨some 101, none, .rd (.bin .leq) [.tmp 99, .tmp 100]⟩,
 oM 102 101,
 qM 102 true 103 10,
 qM 102 true 104 8,
 ⟨some 105, some (102, true), .call (.pv (.fn 129 [] [])) [.tmp 104]⟩,
 ⟨some 106, some (102, true), .rd (.bin .gtr) [.tmp 103, .tmp 105]⟩,
 ⟨some 107, none, .rd .pick [.tmp 102, .tmp 106, .pv (.bool false)]⟩] L102)
 (.cond (.tmp 107)
 (.seq (.region false [oM 108 0,
 oM 109 8,
 ⟨some 110, none, .rd (.slcS true false) [.tmp 108, .tmp 109]⟩,
 oM 111 1,
 ⟨some 112, none, .call (.pv (.fn 128 [] [])) [.tmp 110, .tmp 111]⟩,
 oM 12 112] L102)
 (.seq (.seq (.region false [oM 113 12,
 ⟨some 114, none, .rd (.bin .geq) [.tmp 113, .pv (.int .i64 0)]⟩] L102)
 (.cond (.tmp 114)
 (.seq (.region false [oM 115 12,
 oM 116 8,
 ⟨some 117, none, .rd (.bin .add) [.tmp 115, .tmp 116]⟩,
 oM 4 117] L102)
 (.ret))
 (.skip)))
 (.seq (.region false [⟨some 4, none, .rd .mov [.pv (.int .i64 (-1))]⟩] L102)
 (.ret))))
 (.seq (.region false [oM 118 5,
 ⟨some 119, none, .rd (.load none) [.glob 2]⟩,
 ⟨some 120, none, .rd (.bin .gtr) [.tmp 118, .tmp 119]⟩,
 oM 121 120,
 qM 121 true 122 10,
 qM 121 true 123 8,
 ⟨some 124, some (121, true), .rd (.bin .shr) [.tmp 123, .pv (.int .u64 4)]⟩,
 ⟨some 125, some (121, true), .rd (.bin .add) [.pv (.int .i64 4), .tmp 124]⟩,
 ⟨some 126, some (121, true), .rd (.bin .geq) [.tmp 122, .tmp 125]⟩,
 ⟨some 127, none, .rd .pick [.tmp 121, .tmp 126, .pv (.bool false)]⟩,
 oM 128 127,
 qM 128 true 129 8,
 qM 128 true 130 9,
 ⟨some 131, some (128, true), .rd (.bin .lss) [.tmp 129, .tmp 130]⟩,
 ⟨some 132, none, .rd .pick [.tmp 128, .tmp 131, .pv (.bool false)]⟩] L102)
 (.cond (.tmp 132)
 (.seq (.region false [oM 133 0,
 oM 134 8,
 ⟨some 135, none, .rd (.slcS true false) [.tmp 133, .tmp 134]⟩,
 oM 136 1,
 ⟨some 137, none, .call (.pv (.fn 130 [] [])) [.tmp 135, .tmp 136]⟩,
 oM 13 137] L102)
 (.seq (.seq (.region false [oM 138 13,
 ⟨some 139, none, .rd (.bin .lss) [.tmp 138, .pv (.int .i64 0)]⟩] L102)
 (.cond (.tmp 139)
 (.seq (.region false [⟨some 4, none, .rd .mov [.pv (.int .i64 (-1))]⟩] L102)
 (.ret))
 (.skip)))
 (.seq (.region false [oM 140 8,
 oM 141 13,
 ⟨some 142, none, .rd (.bin .add) [.tmp 140, .tmp 141]⟩,
 oM 4 142] L102)
 (.ret))))
 (.skip)))))))))))))
 (.seq (.region false [⟨some 4, none, .rd .mov [.pv (.int .i64 (-1))]⟩] L102)
 (.ret)))))))))),
 [.tmp 4]⟩

-- internal/stringslite.Cut
def L103 : List Nat := [0, 1, 4, 5, 6, 7, 12]
def c103 : CF := ⟨23,
 .seq (.region false [⟨some 4, none, .rd .mov [.pv (.str [])]⟩,
 ⟨some 5, none, .rd .mov [.pv (.str [])]⟩,
 ⟨some 6, none, .rd .mov [.pv (.bool false)]⟩] L103)
 (.seq (.seq (.region false [oM 8 0,
 oM 9 1,
 ⟨some 10, none, .call (.pv (.fn 102 [] [])) [.tmp 8, .tmp 9]⟩,
 oM 7 10] L103)
 (.seq (.region false [oM 11 7,
 ⟨some 12, none, .rd (.bin .geq) [.tmp 11, .pv (.int .i64 0)]⟩] L103)
 (.cond (.tmp 12)
 (.seq (.region true [oM 13 0,
 oM 14 7,
 ⟨some 15, none, .rd (.slcS false true) [.tmp 13, .tmp 14]⟩,
 oM 16 0,
 oM 17 7,
 oM 18 1,
 ⟨some 19, none, .rd .lenS [.tmp 18]⟩,
 ⟨some 20, none, .rd (.bin .add) [.tmp 17, .tmp 19]⟩,
 ⟨some 21, none, .rd (.slcS true false) [.tmp 16, .tmp 20]⟩,
 oM 4 15,
 oM 5 21,
 ⟨some 6, none, .rd .mov [.pv (.bool true)]⟩] L103)
 (.ret))
 (.skip))))
 (.seq (.region false [oM 22 0,
 oM 4 22,
 ⟨some 5, none, .rd .mov [.pv (.str [])]⟩,
 ⟨some 6, none, .rd .mov [.pv (.bool false)]⟩] L103)
 (.ret))),
 [.tmp 4, .tmp 5, .tmp 6]⟩

-- wagebook/lex.IsName
def L53 : List Nat := [0, 2]
def c53 : CF := ⟨22,
 .seq (.region false [⟨some 2, none, .rd .mov [.pv (.bool false)]⟩] L53)
 (.seq (.region false [oM 3 0,
 ⟨some 4, none, .rd (.bin .neq) [.tmp 3, .pv (.str [])]⟩,
 oM 5 4,
 qM 5 true 6 0,
 ⟨some 7, some (5, true), .rd .lenS [.tmp 6]⟩,
 ⟨some 8, some (5, true), .rd (.bin .leq) [.tmp 7, .pv (.int .i64 32)]⟩,
 ⟨some 9, none, .rd .pick [.tmp 5, .tmp 8, .pv (.bool false)]⟩,
 oM 10 9,
 qM 10 true 11 0,
 ⟨some 12, some (10, true), .rd .idxS [.tmp 11, .pv (.int .i64 0)]⟩,
 ⟨some 13, some (10, true), .call (.pv (.fn 74 [] [])) [.tmp 12]⟩,
 ⟨some 14, none, .rd .pick [.tmp 10, .tmp 13, .pv (.bool false)]⟩,
 oM 15 14,
 qM 15 true 16 0,
 ⟨some 17, some (15, true), .call (.pv (.fn 46 [] [])) [.tmp 16, .pv (.int .i64 0), .pv (.fn 84 [] [])]⟩,
 qM 15 true 18 0,
 ⟨some 19, some (15, true), .rd .lenS [.tmp 18]⟩,
 ⟨some 20, some (15, true), .rd (.bin .eql) [.tmp 17, .tmp 19]⟩,
 ⟨some 21, none, .rd .pick [.tmp 15, .tmp 20, .pv (.bool false)]⟩,
 oM 2 21] L53)
 (.ret)),
 [.tmp 2]⟩

-- (wagebook/expr.Node).check
def L60 : List Nat := [0, 1, 2, 3, 4, 5, 6, 15, 24, 52]
def c60 : CF := ⟨72,
 .seq (.region false [⟨some 1, none, .eff (.box (some 4)) [.tmp 0]⟩,
 ⟨some 2, none, .rd .mov [.pv (.int .i64 0)]⟩,
 ⟨some 3, none, .rd .mov [.pv (.int .i64 0)]⟩] L60)
 (.seq (.region false [⟨some 4, none, .rd .mov [.pv (.int .i64 0)]⟩,
 ⟨some 5, none, .rd .mov [.pv (.int .i64 0)]⟩] L60)
 (.seq (.block 0
 (.seq (.region false [oF 0 7 1,
 oL 8 7,
 ⟨some 9, none, .rd (.bin .lss) [.tmp 8, .pv (.int .i64 0)]⟩,
 oM 10 9,
 qF 0 10 false 11 1,
 qL 10 false 12 11,
 ⟨some 13, some (10, false), .rd (.bin .gtr) [.tmp 12, .pv (.int .i64 9)]⟩,
 ⟨some 14, none, .rd .pick [.tmp 10, .pv (.bool true), .tmp 13]⟩,
 oM 6 14] L60)
 (.cond (.tmp 6)
 (.seq (.region false [⟨some 2, none, .rd .mov [.pv (.int .i64 11)]⟩,
 ⟨some 3, none, .rd .mov [.pv (.int .i64 0)]⟩] L60)
 (.ret))
 (.seq (.region true [oF 3 16 1,
 oL 17 16,
 ⟨some 18, none, .rd .lenL [.tmp 17]⟩,
 oF 0 19 1,
 oL 20 19,
 ⟨some 21, none, .rd (.idxAddrA 10 none) [.glob 1, .tmp 20]⟩,
 oL 22 21,
 ⟨some 23, none, .rd (.bin .neq) [.tmp 18, .tmp 22]⟩,
 oM 15 23] L60)
 (.cond (.tmp 15)
 (.region false [⟨some 4, none, .rd .mov [.pv (.int .i64 3)]⟩] L60)
 (.skip))))))
 (.seq (.block 1
 (.seq (.seq (.region false [oF 0 25 1,
 oL 26 25,
 ⟨some 27, none, .rd (.bin .eql) [.tmp 26, .pv (.int .i64 0)]⟩,
 oM 28 27,
 qF 1 28 true 29 1,
 qL 28 true 30 29,
 ⟨some 31, some (28, true), .rd (.bin .lss) [.tmp 30, .pv (.int .i64 0)]⟩,
 qM 28 true 32 31,
 qF 1 32 false 33 1,
 qL 32 false 34 33,
 ⟨some 35, some (32, false), .rd (.bin .gtr) [.tmp 34, .pv (.int .i64 1000000000000000000)]⟩,
 ⟨some 36, some (28, true), .rd .pick [.tmp 32, .pv (.bool true), .tmp 35]⟩,
 qM 28 true 37 36,
 qF 1 37 false 38 1,
 qL 37 false 39 38,
 ⟨some 40, some (37, false), .rd (.bin .rem) [.tmp 39, .pv (.int .i64 100)]⟩,
 ⟨some 41, some (37, false), .rd (.bin .neq) [.tmp 40, .pv (.int .i64 0)]⟩,
 ⟨some 42, some (28, true), .rd .pick [.tmp 37, .pv (.bool true), .tmp 41]⟩,
 ⟨some 43, none, .rd .pick [.tmp 28, .tmp 42, .pv (.bool false)]⟩,
 oM 24 43] L60)
 (.cond (.tmp 24)
 (.skip)
 (.region false [oF 0 44 1,
 oL 45 44,
 ⟨some 46, none, .rd (.bin .neq) [.tmp 45, .pv (.int .i64 0)]⟩,
 oM 47 46,
 qF 1 47 true 48 1,
 qL 47 true 49 48,
 ⟨some 50, some (47, true), .rd (.bin .neq) [.tmp 49, .pv (.int .i64 0)]⟩,
 ⟨some 51, none, .rd .pick [.tmp 47, .tmp 50, .pv (.bool false)]⟩,
 oM 24 51] L60)))
 (.cond (.tmp 24)
 (.region false [⟨some 5, none, .rd .mov [.pv (.int .i64 2)]⟩] L60)
 (.seq (.seq (.region false [oF 0 53 1,
 oL 54 53,
 ⟨some 55, none, .rd (.bin .eql) [.tmp 54, .pv (.int .i64 1)]⟩,
 oM 56 55,
 qF 2 56 true 57 1,
 qL 56 true 58 57,
 ⟨some 59, some (56, true), .call (.pv (.fn 53 [] [])) [.tmp 58]⟩,
 ⟨some 60, some (56, true), .rd (.un .not) [.tmp 59]⟩,
 ⟨some 61, none, .rd .pick [.tmp 56, .tmp 60, .pv (.bool false)]⟩,
 oM 52 61] L60)
 (.cond (.tmp 52)
 (.skip)
 (.region false [oF 0 62 1,
 oL 63 62,
 ⟨some 64, none, .rd (.bin .neq) [.tmp 63, .pv (.int .i64 1)]⟩,
 oM 65 64,
 qF 2 65 true 66 1,
 qL 65 true 67 66,
 ⟨some 68, some (65, true), .rd (.bin .neq) [.tmp 67, .pv (.str [])]⟩,
 ⟨some 69, none, .rd .pick [.tmp 65, .tmp 68, .pv (.bool false)]⟩,
 oM 52 69] L60)))
 (.cond (.tmp 52)
 (.region false [⟨some 5, none, .rd .mov [.pv (.int .i64 12)]⟩] L60)
 (.skip))))))
 (.seq (.region false [oM 70 4,
 oM 71 5,
 oM 2 70,
 oM 3 71] L60)
 (.ret))))),
 [.tmp 2, .tmp 3]⟩

-- slices.Contains[[]bool,bool]
def L61 : List Nat := [0, 1, 4]
def c61 : CF := ⟨9,
 .seq (.region false [⟨some 4, none, .rd .mov [.pv (.bool false)]⟩] L61)
 (.seq (.region false [oM 5 0,
 oM 6 1,
 ⟨some 7, none, .call (.pv (.fn 89 [] [])) [.tmp 5, .tmp 6]⟩,
 ⟨some 8, none, .rd (.bin .geq) [.tmp 7, .pv (.int .i64 0)]⟩,
 oM 4 8] L61)
 (.ret)),
 [.tmp 4]⟩

-- slices.Index[[]bool,bool]
def L89 : List Nat := [0, 1, 4, 5, 7, 8, 9, 16]
def c89 : CF := ⟨19,
 .seq (.region false [⟨some 4, none, .rd .mov [.pv (.int .i64 0)]⟩] L89)
 (.seq (.seq (.region false [oM 6 0,
 ⟨some 7, none, .rd .lenL [.tmp 6]⟩,
 ⟨some 8, none, .rd .mov [.pv (.int .i64 0)]⟩] L89)
 (.block 0
 (.loop
 (.seq (.region false [⟨some 9, none, .rd (.bin .lss) [.tmp 8, .tmp 7]⟩] L89)
 (.seq (.cond (.tmp 9)
 (.skip)
 (.exit 0))
 (.seq (.block 1
 (.seq (.region false [oM 10 8,
 oM 5 10] L89)
 (.seq (.region false [oM 11 1,
 oM 12 0,
 oM 13 5,
 ⟨some 14, none, .rd (.idxAddr none) [.tmp 12, .tmp 13]⟩,
 oL 15 14,
 ⟨some 16, none, .rd (.eqB false) [.tmp 11, .tmp 15]⟩] L89)
 (.cond (.tmp 16)
 (.seq (.region false [oM 17 5,
 oM 4 17] L89)
 (.ret))
 (.skip)))))
 (.region false [⟨some 18, none, .rd (.bin .add) [.tmp 8, .pv (.int .i64 1)]⟩,
 oM 8 18] L89)))))))
 (.seq (.region false [⟨some 4, none, .rd .mov [.pv (.int .i64 (-1))]⟩] L89)
 (.ret))),
 [.tmp 4]⟩

-- (wagebook/expr.Tree).depth
def L42 : List Nat := [0, 1, 2, 3, 4, 5, 7, 13, 14, 15, 16, 21, 22, 23, 24]
def c42 : CF := ⟨53,
 .seq (.region false [⟨some 1, none, .eff (.box (some 1)) [.tmp 0]⟩,
 ⟨some 2, none, .rd .mov [.pv (.int .i64 0)]⟩] L42)
 (.seq (.region false [oF 0 8 1,
 oL 9 8,
 ⟨some 10, none, .rd .lenL [.tmp 9]⟩,
 ⟨some 11, none, .eff (.make none (.int .i64 0) 8) [.tmp 10, .tmp 10]⟩,
 oM 3 11] L42)
 (.seq (.seq (.region false [oF 0 12 1,
 oL 13 12,
 ⟨some 14, none, .rd .lenL [.tmp 13]⟩,
 ⟨some 15, none, .rd .mov [.pv (.int .i64 0)]⟩] L42)
 (.block 0
 (.loop
 (.seq (.region false [⟨some 16, none, .rd (.bin .lss) [.tmp 15, .tmp 14]⟩] L42)
 (.seq (.cond (.tmp 16)
 (.skip)
 (.exit 0))
 (.seq (.block 1
 (.seq (.region false [oM 17 15,
 ⟨some 18, none, .rd (.idxAddr (some 4)) [.tmp 13, .tmp 15]⟩,
 ⟨some 19, none, .rd (.load (some 4)) [.tmp 18]⟩,
 ⟨some 5, none, .eff (.alloc (some 4) (.agg [(.int .i64 0), (.int .i64 0), (.str []), .nilSl])) []⟩,
 oM 4 17,
 ⟨none, none, .eff (.store (some 4)) [.tmp 5, .tmp 19]⟩] L42)
 (.seq (.seq (.region false [oF 3 20 5,
 oL 21 20,
 ⟨some 22, none, .rd .lenL [.tmp 21]⟩,
 ⟨some 23, none, .rd .mov [.pv (.int .i64 0)]⟩] L42)
 (.block 2
 (.loop
 (.seq (.region false [⟨some 24, none, .rd (.bin .lss) [.tmp 23, .tmp 22]⟩] L42)
 (.seq (.cond (.tmp 24)
 (.skip)
 (.exit 2))
 (.seq (.block 3
 (.seq (.region false [⟨some 25, none, .rd (.idxAddr none) [.tmp 21, .tmp 23]⟩,
 oL 26 25,
 oM 7 26] L42)
 (.regionA (.alt [oM 27 3,
 oM 28 4,
 oM 29 3,
 oM 30 4,
 ⟨some 31, none, .rd (.idxAddr none) [.tmp 29, .tmp 30]⟩,
 oM 33 3,
 oM 34 7,
 ⟨some 35, none, .rd (.idxAddr none) [.tmp 33, .tmp 34]⟩]
 (.alt [oL 32 31,
 oL 36 35,
 ⟨some 37, none, .rd .max [.tmp 32, .tmp 36]⟩,
 ⟨some 38, none, .rd (.idxAddr none) [.tmp 27, .tmp 28]⟩,
 ⟨none, none, .eff (.store none) [.tmp 38, .tmp 37]⟩]
 .done
 (.alt [oL 36 35,
 oL 32 31,
 ⟨some 37, none, .rd .max [.tmp 32, .tmp 36]⟩,
 ⟨some 38, none, .rd (.idxAddr none) [.tmp 27, .tmp 28]⟩,
 ⟨none, none, .eff (.store none) [.tmp 38, .tmp 37]⟩]
 .done
 .stop))
 .stop) L42)))
 (.region false [⟨some 39, none, .rd (.bin .add) [.tmp 23, .pv (.int .i64 1)]⟩,
 oM 23 39] L42)))))))
 (.region false [oM 40 3,
 oM 41 4,
 ⟨some 42, none, .rd (.idxAddr none) [.tmp 40, .tmp 41]⟩,
 oL 43 42,
 ⟨some 44, none, .rd (.bin .add) [.tmp 43, .pv (.int .i64 1)]⟩,
 ⟨some 45, none, .rd (.idxAddr none) [.tmp 40, .tmp 41]⟩,
 ⟨none, none, .eff (.store none) [.tmp 45, .tmp 44]⟩] L42))))
 (.region false [⟨some 46, none, .rd (.bin .add) [.tmp 15, .pv (.int .i64 1)]⟩,
 oM 15 46] L42)))))))
 (.seq (.region false [oM 47 3,
 oM 48 3,
 ⟨some 49, none, .rd .lenL [.tmp 48]⟩,
 ⟨some 50, none, .rd (.bin .sub) [.tmp 49, .pv (.int .i64 1)]⟩,
 ⟨some 51, none, .rd (.idxAddr none) [.tmp 47, .tmp 50]⟩,
 oL 52 51,
 oM 2 52] L42)
 (.ret)))),
 [.tmp 2]⟩

-- (wagebook/expr.Tree).Check
def L29 : List Nat := [0, 1, 2, 3, 4, 5, 6, 7, 9, 10, 15, 25, 26, 27, 28, 38, 41, 42, 43, 44, 59, 65, 73, 76]
def c29 : CF := ⟨77,
 .seq (.region false [⟨some 1, none, .eff (.box (some 1)) [.tmp 0]⟩,
 ⟨some 2, none, .rd .mov [.pv (.int .i64 0)]⟩] L29)
 (.seq (.block 0
 (.seq (.region false [oF 0 11 1,
 oL 12 11,
 ⟨some 13, none, .rd .lenL [.tmp 12]⟩,
 ⟨some 14, none, .rd (.bin .eql) [.tmp 13, .pv (.int .i64 0)]⟩,
 oM 10 14] L29)
 (.cond (.tmp 10)
 (.seq (.region false [⟨some 2, none, .rd .mov [.pv (.int .i64 10)]⟩] L29)
 (.ret))
 (.seq (.region false [oF 0 16 1,
 oL 17 16,
 ⟨some 18, none, .rd .lenL [.tmp 17]⟩,
 ⟨some 19, none, .rd (.bin .gtr) [.tmp 18, .pv (.int .i64 256)]⟩,
 oM 15 19] L29)
 (.cond (.tmp 15)
 (.seq (.region false [⟨some 2, none, .rd .mov [.pv (.int .i64 5)]⟩] L29)
 (.ret))
 (.skip))))))
 (.seq (.region false [oF 0 20 1,
 oL 21 20,
 ⟨some 22, none, .rd .lenL [.tmp 21]⟩,
 ⟨some 23, none, .eff (.make none (.bool false) 1) [.tmp 22, .tmp 22]⟩,
 oM 3 23] L29)
 (.seq (.seq (.region false [oF 0 24 1,
 oL 25 24,
 ⟨some 26, none, .rd .lenL [.tmp 25]⟩,
 ⟨some 27, none, .rd .mov [.pv (.int .i64 0)]⟩] L29)
 (.block 1
 (.loop
 (.seq (.region false [⟨some 28, none, .rd (.bin .lss) [.tmp 27, .tmp 26]⟩] L29)
 (.seq (.cond (.tmp 28)
 (.skip)
 (.exit 1))
 (.seq (.block 2
 (.seq (.region false [oM 29 27,
 ⟨some 30, none, .rd (.idxAddr (some 4)) [.tmp 25, .tmp 27]⟩,
 ⟨some 31, none, .rd (.load (some 4)) [.tmp 30]⟩,
 ⟨some 5, none, .eff (.alloc (some 4) (.agg [(.int .i64 0), (.int .i64 0), (.str []), .nilSl])) []⟩,
 oM 4 29,
 ⟨none, none, .eff (.store (some 4)) [.tmp 5, .tmp 31]⟩] L29)
 (.seq (.region false [⟨some 33, none, .rd (.load (some 4)) [.tmp 5]⟩,
 ⟨some 34, none, .call (.pv (.fn 60 [] [])) [.tmp 33]⟩,
 oM 32 34,
 ⟨some 35, none, .rd (.ext 0) [.tmp 32]⟩,
 ⟨some 36, none, .rd (.ext 1) [.tmp 32]⟩,
 oM 6 35,
 oM 7 36] L29)
 (.seq (.seq (.region false [oM 37 6,
 ⟨some 38, none, .rd (.bin .neq) [.tmp 37, .pv (.int .i64 0)]⟩] L29)
 (.cond (.tmp 38)
 (.seq (.region false [oM 39 6,
 oM 2 39] L29)
 (.ret))
 (.skip)))
 (.seq (.seq (.region false [oF 3 40 5,
 oL 41 40,
 ⟨some 42, none, .rd .lenL [.tmp 41]⟩,
 ⟨some 43, none, .rd .mov [.pv (.int .i64 0)]⟩] L29)
 (.block 3
 (.loop
 (.seq (.region false [⟨some 44, none, .rd (.bin .lss) [.tmp 43, .tmp 42]⟩] L29)
 (.seq (.cond (.tmp 44)
 (.skip)
 (.exit 3))
 (.seq (.block 4
 (.seq (.region false [⟨some 45, none, .rd (.idxAddr none) [.tmp 41, .tmp 43]⟩,
 oL 46 45,
 oM 9 46] L29)
 (.seq (.seq (.region false [oM 47 9,
 ⟨some 48, none, .rd (.bin .lss) [.tmp 47, .pv (.int .i64 0)]⟩,
 oM 49 48,
 qM 49 false 50 9,
 qM 49 false 51 4,
 ⟨some 52, some (49, false), .rd (.bin .geq) [.tmp 50, .tmp 51]⟩,
 ⟨some 53, none, .rd .pick [.tmp 49, .pv (.bool true), .tmp 52]⟩,
 oM 54 53,
 qM 54 false 55 3,
 qM 54 false 56 9,
 ⟨some 57, some (54, false), .rd (.idxAddr none) [.tmp 55, .tmp 56]⟩,
 qL 54 false 58 57,
 ⟨some 59, none, .rd .pick [.tmp 54, .pv (.bool true), .tmp 58]⟩] L29)
 (.cond (.tmp 59)
 (.seq (.region false [⟨some 2, none, .rd .mov [.pv (.int .i64 8)]⟩] L29)
 (.ret))
 (.skip)))
 (.region false [oM 60 3,
 oM 61 9,
 ⟨some 62, none, .rd (.idxAddr none) [.tmp 60, .tmp 61]⟩,
 ⟨none, none, .eff (.store none) [.tmp 62, .pv (.bool true)]⟩] L29))))
 (.region false [⟨some 63, none, .rd (.bin .add) [.tmp 43, .pv (.int .i64 1)]⟩,
 oM 43 63] L29)))))))
 (.seq (.region false [oM 64 7,
 ⟨some 65, none, .rd (.bin .neq) [.tmp 64, .pv (.int .i64 0)]⟩] L29)
 (.cond (.tmp 65)
 (.seq (.region false [oM 66 7,
 oM 2 66] L29)
 (.ret))
 (.skip))))))))
 (.region false [⟨some 67, none, .rd (.bin .add) [.tmp 27, .pv (.int .i64 1)]⟩,
 oM 27 67] L29)))))))
 (.seq (.seq (.region false [oM 68 3,
 oM 69 3,
 ⟨some 70, none, .rd .lenL [.tmp 69]⟩,
 ⟨some 71, none, .rd (.bin .sub) [.tmp 70, .pv (.int .i64 1)]⟩,
 ⟨some 72, none, .rd (.slc none false true false) [.tmp 68, .tmp 71]⟩,
 ⟨some 73, none, .call (.pv (.fn 61 [] [])) [.tmp 72, .pv (.bool false)]⟩] L29)
 (.cond (.tmp 73)
 (.seq (.region false [⟨some 2, none, .rd .mov [.pv (.int .i64 3)]⟩] L29)
 (.ret))
 (.skip)))
 (.seq (.seq (.region false [⟨some 74, none, .rd (.load (some 1)) [.tmp 1]⟩,
 ⟨some 75, none, .call (.pv (.fn 42 [] [])) [.tmp 74]⟩,
 ⟨some 76, none, .rd (.bin .gtr) [.tmp 75, .pv (.int .i64 16)]⟩] L29)
 (.cond (.tmp 76)
 (.seq (.region false [⟨some 2, none, .rd .mov [.pv (.int .i64 14)]⟩] L29)
 (.ret))
 (.skip)))
 (.seq (.region false [⟨some 2, none, .rd .mov [.pv (.int .i64 0)]⟩] L29)
 (.ret))))))),
 [.tmp 2]⟩
theorem k19 : compileF Tryd.prog [] L19 Tryd.f19 = some c19 := by kernel_rfl
theorem k20 : compileF Tryd.prog [] L20 Tryd.f20 = some c20 := by kernel_rfl
theorem k43 : compileF Tryd.prog [] L43 Tryd.f43 = some c43 := by kernel_rfl
theorem k44 : compileF Tryd.prog [] L44 Tryd.f44 = some c44 := by kernel_rfl
theorem k45 : compileF Tryd.prog [] L45 Tryd.f45 = some c45 := by kernel_rfl
theorem k46 : compileF Tryd.prog [] L46 Tryd.f46 = some c46 := by kernel_rfl
theorem k47 : compileF Tryd.prog [] L47 Tryd.f47 = some c47 := by kernel_rfl
theorem k49 : compileF Tryd.prog [] L49 Tryd.f49 = some c49 := by kernel_rfl
theorem k74 : compileF Tryd.prog [] L74 Tryd.f74 = some c74 := by kernel_rfl
theorem k75 : compileF Tryd.prog [] L75 Tryd.f75 = some c75 := by kernel_rfl
theorem k76 : compileF Tryd.prog [] L76 Tryd.f76 = some c76 := by kernel_rfl
theorem k80 : compileF Tryd.prog [] L80 Tryd.f80 = some c80 := by kernel_rfl
theorem k84 : compileF Tryd.prog [] L84 Tryd.f84 = some c84 := by kernel_rfl
theorem k102 : compileF Tryd.prog [] L102 Tryd.f102 = some c102 := by kernel_rfl
theorem k103 : compileF Tryd.prog [] L103 Tryd.f103 = some c103 := by kernel_rfl
theorem k53 : compileF Tryd.prog [] L53 Tryd.f53 = some c53 := by kernel_rfl
theorem k60 : compileF Tryd.prog [] L60 Tryd.f60 = some c60 := by kernel_rfl
theorem k61 : compileF Tryd.prog [] L61 Tryd.f61 = some c61 := by kernel_rfl
theorem k89 : compileF Tryd.prog [] L89 Tryd.f89 = some c89 := by kernel_rfl
theorem k42 : compileF Tryd.prog [] L42 Tryd.f42 = some c42 := by kernel_rfl
theorem k29 : compileF Tryd.prog [] L29 Tryd.f29 = some c29 := by kernel_rfl
end Go.Proofs.YthekpjhffciakaaDoor

namespace Go.Proofs.YthekpjhffciakaaDoor
open Go PG Go.Proofs
set_option linter.unusedSimpArgs false
set_option linter.unusedVariables false
set_option maxHeartbeats 1000000
set_option maxRecDepth 100000
theorem mix : Tryd.prog.follows .mixedOrders = true := by kernel_rfl
variable {G : Globs}
def digitB (b : UInt8) : Bool := decide (48 ≤ (b.toNat : Int)) && decide ((b.toNat : Int) ≤ 57)
def letterB (b : UInt8) : Bool := decide (97 ≤ (b.toNat : Int)) && decide ((b.toNat : Int) ≤ 122)
def innerB (b : UInt8) : Bool := letterB b || digitB b || decide ((b.toNat : Int) = 46) || decide ((b.toNat : Int) = 95) || decide ((b.toNat : Int) = 58)
theorem e44 : Ent Tryd.prog 44 := ⟨Tryd.f44, Tryd.func44, by kernel_rfl, by kernel_rfl⟩
theorem e74 : Ent Tryd.prog 74 := ⟨Tryd.f74, Tryd.func74, by kernel_rfl, by kernel_rfl⟩
theorem e84 : Ent Tryd.prog 84 := ⟨Tryd.f84, Tryd.func84, by kernel_rfl, by kernel_rfl⟩
theorem e46 : Ent Tryd.prog 46 := ⟨Tryd.f46, Tryd.func46, by kernel_rfl, by kernel_rfl⟩
theorem e53 : Ent Tryd.prog 53 := ⟨Tryd.f53, Tryd.func53, by kernel_rfl, by kernel_rfl⟩
theorem v44 (b : UInt8) : VCalls Tryd.prog G 44 [.int .u8 b.toNat] (.bool (digitB b)) := by
  refine VCalls.of_PW Tryd.func44 k44 mix (by simp [c44]) ?_
  simp only [c44, L44, CC, argE]
  repeat' (first | refine PW.seq ?_ | refine PW.block ?_ | refine PW.regionA ?_ | exact schedW_stop_i | ((first | refine PW.region ?_ | refine PW.regionQ ?_ | refine PW.exit ?_ | refine PW.ret ?_ | refine PW.skip ?_ | refine schedW_alt_i ?_ ?_ | refine schedW_done_i ?_); focus (simp only [SA, Nat.reduceAdd, reduceIte, Nat.reduceEqDiff, Nat.reduceBEq, reduceCtorEq]; (try go_unwrap; try simp only [RR, reduceCtorEq]))) | (refine PW.cond rfl ?_ ?_ <;> intro hcond <;> (try contradiction) <;> try simp only [DD] at hcond) | refine And.intro ?_ ?_ | exact Or.inr ⟨rfl, Nat.le_refl _⟩ | exact (fun h => Bool.noConfusion h) | omega | (simp only [DD, LL] <;> omega) | (go_unwrap; omega))
  simp [digitB]
theorem v74 (b : UInt8) : VCalls Tryd.prog G 74 [.int .u8 b.toNat] (.bool (letterB b)) := by
  refine VCalls.of_PW Tryd.func74 k74 mix (by simp [c74]) ?_
  simp only [c74, L74, CC, argE]
  repeat' (first | refine PW.seq ?_ | refine PW.block ?_ | refine PW.regionA ?_ | exact schedW_stop_i | ((first | refine PW.region ?_ | refine PW.regionQ ?_ | refine PW.exit ?_ | refine PW.ret ?_ | refine PW.skip ?_ | refine schedW_alt_i ?_ ?_ | refine schedW_done_i ?_); focus (simp only [SA, Nat.reduceAdd, reduceIte, Nat.reduceEqDiff, Nat.reduceBEq, reduceCtorEq]; (try go_unwrap; try simp only [RR, reduceCtorEq]))) | (refine PW.cond rfl ?_ ?_ <;> intro hcond <;> (try contradiction) <;> try simp only [DD] at hcond) | refine And.intro ?_ ?_ | exact Or.inr ⟨rfl, Nat.le_refl _⟩ | exact (fun h => Bool.noConfusion h) | omega | (simp only [DD, LL] <;> omega) | (go_unwrap; omega))
  simp [letterB]
theorem v84 (b : UInt8) : VCalls Tryd.prog G 84 [.int .u8 b.toNat] (.bool (innerB b)) := by
  refine VCalls.of_PW Tryd.func84 k84 mix (by simp [c84]) ?_
  simp only [c84, L84, CC, argE]
  repeat' (first | refine PW.seq ?_ | refine PW.block ?_ | refine PW.regionA ?_ | exact schedW_stop_i | ((first | refine PW.region ?_ | refine PW.regionQ ?_ | refine PW.exit ?_ | refine PW.ret ?_ | refine PW.skip ?_ | refine schedW_alt_i ?_ ?_ | refine schedW_done_i ?_); focus (simp only [SA, Nat.reduceAdd, reduceIte, Nat.reduceEqDiff, Nat.reduceBEq, reduceCtorEq]; (try go_unwrap; try simp only [RR, reduceCtorEq]))) | (refine PW.cond rfl ?_ ?_ <;> intro hcond <;> (try contradiction) <;> try simp only [DD] at hcond) | (apply goCallG_V e44; (case hV => (intro hg; simp only [hg, SA, Nat.reduceAdd, reduceIte, Nat.reduceEqDiff, Nat.reduceBEq, reduceCtorEq]; (try go_unwrap; try simp only [RR, reduceCtorEq]); exact v44 _)); (case hok => (intro hg; first | (simp only [hg, SA, Nat.reduceAdd, reduceIte, Nat.reduceEqDiff, Nat.reduceBEq, reduceCtorEq]; done) | (simp_all [okAll, PV.okUnder]; done))); (case hs => (intro hg; simp only [hg, SA, Nat.reduceAdd, reduceIte, Nat.reduceEqDiff, Nat.reduceBEq, reduceCtorEq])); (case hf => first | rfl | simp only [SA, Nat.reduceAdd, reduceIte, Nat.reduceEqDiff, Nat.reduceBEq, reduceCtorEq]); (simp only [SA, Nat.reduceAdd, reduceIte, Nat.reduceEqDiff, Nat.reduceBEq, reduceCtorEq]; (try go_unwrap; try simp only [RR, reduceCtorEq]))) | (apply goCall_V e74; (case hV => (simp only [SA, Nat.reduceAdd, reduceIte, Nat.reduceEqDiff, Nat.reduceBEq, reduceCtorEq]; (try go_unwrap; try simp only [RR, reduceCtorEq]); exact v74 _)); (try (case hs => rfl)); (try (case hf => first | exact Or.inl rfl | exact Or.inr ⟨rfl, rfl⟩ | (refine Or.inl ?_; simp only [SA, Nat.reduceAdd, reduceIte, Nat.reduceEqDiff, Nat.reduceBEq, reduceCtorEq]; done) | (refine Or.inr ⟨rfl, ?_⟩; simp only [SA, Nat.reduceAdd, reduceIte, Nat.reduceEqDiff, Nat.reduceBEq, reduceCtorEq]; done))); all_goals (simp only [SA, Nat.reduceAdd, reduceIte, Nat.reduceEqDiff, Nat.reduceBEq, reduceCtorEq]; (try go_unwrap; try simp only [RR, reduceCtorEq]))) | refine And.intro ?_ ?_ | exact Or.inr ⟨rfl, Nat.le_refl _⟩ | exact (fun h => Bool.noConfusion h) | omega | (simp only [DD, LL] <;> omega) | (go_unwrap; omega))
  simp [innerB]
/-- how many bytes from the front satisfy p -/
def runL (p : UInt8 → Bool) : List UInt8 → Nat
  | [] => 0
  | b :: l => if p b then runL p l + 1 else 0
theorem runL_le (p : UInt8 → Bool) (l : List UInt8) : runL p l ≤ l.length := by
  induction l with
  | nil => simp [runL]
  | cons b l ih => simp only [runL, List.length_cons]; split <;> omega
theorem runL_step {p : UInt8 → Bool} {s : List UInt8} {i : Nat} (h : i < s.length) (hp : p (s.getD i 0) = true) : runL p (s.drop i) = runL p (s.drop (i + 1)) + 1 := by
  rw [List.drop_eq_getElem_cons h]
  have e : s.getD i 0 = s[i] := by simp [List.getD, h]
  rw [e] at hp
  simp [runL, hp]
theorem runL_stop {p : UInt8 → Bool} {s : List UInt8} {i : Nat} (h : i < s.length → p (s.getD i 0) = false) : runL p (s.drop i) = 0 := by
  rcases Nat.lt_or_ge i s.length with hi | hi
  · have hp := h hi
    rw [List.drop_eq_getElem_cons hi]
    have e : s.getD i 0 = s[i] := by simp [List.getD, hi]
    rw [e] at hp
    simp [runL, hp]
  · rw [List.drop_eq_nil_of_le hi]; rfl
theorem v46 (s : List UInt8) (at_ k : Nat) (p : UInt8 → Bool) (hs : s.length ≤ 9223372036854775806) (hat : at_ ≤ s.length) (hE : Ent Tryd.prog k)
    (hp : ∀ b : UInt8, VCalls Tryd.prog G k [.int .u8 b.toNat] (.bool (p b))) : VCalls Tryd.prog G 46 [.str s, .int .i64 at_, .fn k [] []] (.int .i64 (runL p (s.drop at_))) := by
  refine VCalls.of_PW Tryd.func46 k46 mix (by simp [c46]) ?_
  simp only [c46, L46, CC, argE]
  repeat' (first | refine PW.seq ?_ | refine PW.block ?_ | refine PW.regionA ?_ | exact schedW_stop_i | ((first | refine PW.region ?_ | refine PW.regionQ ?_ | refine PW.exit ?_ | refine PW.ret ?_ | refine PW.skip ?_ | refine schedW_alt_i ?_ ?_ | refine schedW_done_i ?_); focus (simp only [SA, Nat.reduceAdd, reduceIte, Nat.reduceEqDiff, Nat.reduceBEq, reduceCtorEq]; (try go_unwrap; try simp only [RR, reduceCtorEq]))) | (refine PW.cond rfl ?_ ?_ <;> intro hcond <;> (try contradiction) <;> try simp only [DD] at hcond) | refine And.intro ?_ ?_ | exact Or.inr ⟨rfl, Nat.le_refl _⟩ | exact (fun h => Bool.noConfusion h) | omega | (simp only [DD, LL] <;> omega) | (go_unwrap; omega))
  refine PW.loop (σ := Nat) [0, 1, 2, 7] (fun j => [.str s, .int .i64 at_, .fn k [] [], .int .i64 j]) (fun _ => []) (fun j => at_ + j ≤ s.length ∧ runL p (s.drop at_) = j + runL p (s.drop (at_ + j))) (fun j => s.length - j) 0 ?_ rfl ⟨by omega, by simp⟩ ?_
  · simp only [SA, Nat.reduceAdd, reduceIte, Nat.reduceEqDiff, Nat.reduceBEq, reduceCtorEq]; rfl
  rintro j ⟨hj, hr⟩
  simp only [List.zip_cons_cons, List.zip_nil_left]
  repeat' (first | refine PW.seq ?_ | refine PW.block ?_ | refine PW.regionA ?_ | exact schedW_stop_i | ((first | refine PW.region ?_ | refine PW.regionQ ?_ | refine PW.exit ?_ | refine PW.ret ?_ | refine PW.skip ?_ | refine schedW_alt_i ?_ ?_ | refine schedW_done_i ?_); focus (simp only [SA, Nat.reduceAdd, reduceIte, Nat.reduceEqDiff, Nat.reduceBEq, reduceCtorEq]; (try go_unwrap; try simp only [RR, reduceCtorEq]))) | (refine PW.cond rfl ?_ ?_ <;> intro hcond <;> (try contradiction) <;> try simp only [DD] at hcond) | (apply goCallG_Vc hE (fun h => h); (case hV => (intro hg; simp only [hg, SA, Nat.reduceAdd, reduceIte, Nat.reduceEqDiff, Nat.reduceBEq, reduceCtorEq]; (try go_unwrap; try simp only [RR, reduceCtorEq]); exact hp _)); (case hok => (intro hg; first | (simp only [hg, SA, Nat.reduceAdd, reduceIte, Nat.reduceEqDiff, Nat.reduceBEq, reduceCtorEq]; done) | (simp_all [okAll, PV.okUnder]; done))); (case hs => (intro hg; simp only [hg, SA, Nat.reduceAdd, reduceIte, Nat.reduceEqDiff, Nat.reduceBEq, reduceCtorEq])); (case hf => first | rfl | simp only [SA, Nat.reduceAdd, reduceIte, Nat.reduceEqDiff, Nat.reduceBEq, reduceCtorEq]); (simp only [SA, Nat.reduceAdd, reduceIte, Nat.reduceEqDiff, Nat.reduceBEq, reduceCtorEq]; (try go_unwrap; try simp only [RR, reduceCtorEq]))) | refine And.intro ?_ ?_ | exact Or.inr ⟨rfl, Nat.le_refl _⟩ | exact (fun h => Bool.noConfusion h) | omega | (simp only [DD, LL] <;> omega) | (go_unwrap; omega))
  · rcases Nat.lt_or_ge (at_ + j) s.length with h | h
    · have hd : decide ((at_ : Int) + j < s.length) = true := by simp only [decide_eq_true_eq]; omega
      rw [hd] at hcond
      have hs1 := runL_step (p := p) h hcond
      refine ⟨j + 1, ?_, ⟨by omega, by rw [hr, hs1, Nat.add_assoc]; omega⟩, by omega⟩
      rfl
    · have hd : decide ((at_ : Int) + j < s.length) = false := by simp only [decide_eq_false_iff_not]; omega
      rw [hd] at hcond; cases hcond
  · rw [hr, runL_stop, Nat.add_zero]
    intro h
    have hd : decide ((at_ : Int) + j < s.length) = true := by simp only [decide_eq_true_eq]; omega
    rw [hd] at hcond; exact hcond
def isName (s : List UInt8) : Bool := decide (s ≠ []) && decide (s.length ≤ 32) && letterB (s.getD 0 0) && decide (runL innerB s = s.length)
theorem v53 (s : List UInt8) (hs0 : s.length ≤ 9223372036854775807) : VCalls Tryd.prog G 53 [.str s] (.bool (isName s)) := by
  refine VCalls.of_PW Tryd.func53 k53 mix (by simp [c53]) ?_
  have h21 : s.length ≤ 32 → VCalls Tryd.prog G 46 [.str s, .int .i64 0, .fn 84 [] []] (.int .i64 (runL innerB s)) := fun hs => by
    have h21 := v46 (G := G) s 0 84 innerB (by omega) (by omega) e84 v84
    simp only [List.drop_zero] at h21
    exact h21
  have zt : (0 : Int).toNat = 0 := rfl
  have hl : s ≠ [] → 0 < s.length := fun h => List.length_pos_iff.2 h
  simp only [c53, L53, CC, argE]
  repeat' (first | refine PW.seq ?_ | refine PW.block ?_ | refine PW.regionA ?_ | exact schedW_stop_i | ((first | refine PW.region ?_ | refine PW.regionQ ?_ | refine PW.exit ?_ | refine PW.ret ?_ | refine PW.skip ?_ | refine schedW_alt_i ?_ ?_ | refine schedW_done_i ?_); focus (simp only [zt, SA, Nat.reduceAdd, reduceIte, Nat.reduceEqDiff, Nat.reduceBEq, reduceCtorEq]; (try go_unwrap; try simp only [zt, RR, reduceCtorEq]))) | (refine PW.cond rfl ?_ ?_ <;> intro hcond <;> (try contradiction) <;> try simp only [DD] at hcond) | (apply goCallG_V e74; (case hV => (intro hg; simp only [hg, zt, SA, Nat.reduceAdd, reduceIte, Nat.reduceEqDiff, Nat.reduceBEq, reduceCtorEq]; (try go_unwrap; try simp only [zt, RR, reduceCtorEq]); exact v74 _)); (case hok => (intro hg; first | (simp only [hg, zt, SA, Nat.reduceAdd, reduceIte, Nat.reduceEqDiff, Nat.reduceBEq, reduceCtorEq]; done) | (simp_all [okAll, PV.okUnder]; done))); (case hs => (intro hg; simp only [hg, zt, SA, Nat.reduceAdd, reduceIte, Nat.reduceEqDiff, Nat.reduceBEq, reduceCtorEq])); (case hf => first | rfl | simp only [zt, SA, Nat.reduceAdd, reduceIte, Nat.reduceEqDiff, Nat.reduceBEq, reduceCtorEq]); (simp only [zt, SA, Nat.reduceAdd, reduceIte, Nat.reduceEqDiff, Nat.reduceBEq, reduceCtorEq]; (try go_unwrap; try simp only [zt, RR, reduceCtorEq]))) | (apply goCallG_V e46; (case hV => (intro hg; simp only [hg, zt, SA, Nat.reduceAdd, reduceIte, Nat.reduceEqDiff, Nat.reduceBEq, reduceCtorEq]; (try go_unwrap; try simp only [zt, RR, reduceCtorEq]); exact h21 (by simp only [Bool.and_eq_true, decide_eq_true_eq] at hg; omega))); (case hok => (intro hg; first | (simp only [hg, zt, SA, Nat.reduceAdd, reduceIte, Nat.reduceEqDiff, Nat.reduceBEq, reduceCtorEq]; done) | (simp_all [okAll, PV.okUnder]; done))); (case hs => (intro hg; simp only [hg, zt, SA, Nat.reduceAdd, reduceIte, Nat.reduceEqDiff, Nat.reduceBEq, reduceCtorEq])); (case hf => first | rfl | simp only [zt, SA, Nat.reduceAdd, reduceIte, Nat.reduceEqDiff, Nat.reduceBEq, reduceCtorEq]); (simp only [zt, SA, Nat.reduceAdd, reduceIte, Nat.reduceEqDiff, Nat.reduceBEq, reduceCtorEq]; (try go_unwrap; try simp only [zt, RR, reduceCtorEq]))) | refine And.intro ?_ ?_ | exact Or.inr ⟨rfl, Nat.le_refl _⟩ | exact (fun h => Bool.noConfusion h) | omega | (simp only [DD, LL] <;> omega) | (go_unwrap; omega))
  · intro h
    simp only [Bool.and_eq_true, Bool.not_eq_true', decide_eq_false_iff_not] at h
    have := hl h.1
    exact ⟨by simp only [Bool.and_eq_true, Bool.not_eq_true', decide_eq_false_iff_not]; exact h, by omega, by omega⟩
  · have z2 : decide (((runL innerB s : Nat) : Int) = s.length) = decide (runL innerB s = s.length) := by
      rw [Bool.eq_iff_iff, decide_eq_true_eq, decide_eq_true_eq]; omega
    have z3 : decide ((s.length : Int) ≤ 32) = decide (s.length ≤ 32) := by
      rw [Bool.eq_iff_iff, decide_eq_true_eq, decide_eq_true_eq]; omega
    have z4 : decide (s ≠ []) = !decide (s = []) := by simp
    rw [isName, z2, z3, z4]
end Go.Proofs.YthekpjhffciakaaDoor

