import Derived.Test.YtdemgegpnlngeaaDoorProg
import Derived.KernelRfl
import Derived.Test.YtdemgegpnlngeaaDoorP3
namespace Go.Proofs.YtdemgegpnlngeaaDoor
open PG Go.Proofs
-- wagebook/wagebooklaw36.posted
def L22 : List Nat := [0, 1, 2, 3, 4, 5, 6, 7]
def c22 : CF := ⟨54,
  .seq (.region false [⟨some 0, none, .rd .mov [.pv (.bool false)]⟩] L22)
  (.seq (.region false [⟨some 9, none, .rd (.build [.nilSl, .nilMap] []) []⟩,
     ⟨some 10, none, .rd (.build [(.str []), (.str []), (.int .i64 0), (.str [])] [(0, 1), (1, 1), (2, 1)]) [.pv (.str [110, 101, 116]), .pv (.str [111, 119, 101, 100, 47, 116, 97, 120, 47, 119, 97, 103, 101]), .pv (.int .i64 300)]⟩,
     ⟨some 11, none, .rd (.build [(.str []), (.str []), (.int .i64 0), (.str [])] [(0, 1), (1, 1), (2, 1)]) [.pv (.str [110, 101, 116]), .pv (.str [111, 119, 101, 100, 47, 115, 111, 99, 105, 97, 108, 47, 111, 108, 100]), .pv (.int .i64 200)]⟩,
     ⟨some 12, none, .eff (.lit (some 4) false) [.tmp 10, .tmp 11]⟩,
     ⟨some 13, none, .call (.pv (.fn 14 [] [])) [.tmp 9, .tmp 12]⟩,
     ⟨some 8, none, .rd .mov [.tmp 13]⟩,
     ⟨some 14, none, .rd (.ext 0) [.tmp 8]⟩,
     ⟨some 15, none, .rd (.ext 1) [.tmp 8]⟩,
     ⟨some 1, none, .eff (.alloc (some 2) (.agg [.nilSl, .nilMap])) []⟩,
     ⟨none, none, .eff (.store (some 2)) [.tmp 1, .tmp 14]⟩,
     ⟨some 2, none, .rd .mov [.tmp 15]⟩] L22)
  (.seq (.region false [⟨some 16, none, .eff (.lit none false) [.pv (.str [111, 119, 101, 100, 47, 116, 97, 120, 47, 119, 97, 103, 101]), .pv (.str [111, 119, 101, 100, 47, 115, 111, 99, 105, 97, 108, 47, 111, 108, 100])]⟩,
     ⟨some 17, none, .rd (.build [(.str []), .nilSl] [(0, 1), (1, 1)]) [.pv (.str [98, 111, 116, 104]), .tmp 16]⟩,
     ⟨some 3, none, .eff (.alloc (some 2) (.agg [(.str []), .nilSl])) []⟩,
     ⟨none, none, .eff (.store (some 2)) [.tmp 3, .tmp 17]⟩] L22)
  (.seq (.region false [⟨some 19, none, .rd (.load (some 2)) [.tmp 1]⟩,
     ⟨some 20, none, .rd (.load (some 2)) [.tmp 3]⟩,
     ⟨some 21, none, .call (.pv (.fn 24 [] [])) [.tmp 19, .tmp 20, .pv (.int .i64 400)]⟩,
     ⟨some 18, none, .rd .mov [.tmp 21]⟩,
     ⟨some 22, none, .rd (.ext 0) [.tmp 18]⟩,
     ⟨some 23, none, .rd (.ext 1) [.tmp 18]⟩,
     ⟨some 4, none, .eff (.alloc (some 2) (.agg [.nilSl, .nilMap])) []⟩,
     ⟨none, none, .eff (.store (some 2)) [.tmp 4, .tmp 22]⟩,
     ⟨some 5, none, .rd .mov [.tmp 23]⟩] L22)
  (.seq (.region false [⟨some 25, none, .rd (.load (some 2)) [.tmp 4]⟩,
     ⟨some 26, none, .rd (.load (some 2)) [.tmp 3]⟩,
     ⟨some 27, none, .call (.pv (.fn 23 [] [])) [.tmp 25, .tmp 26]⟩,
     ⟨some 24, none, .rd .mov [.tmp 27]⟩,
     ⟨some 28, none, .rd (.ext 0) [.tmp 24]⟩,
     ⟨some 29, none, .rd (.ext 1) [.tmp 24]⟩,
     ⟨some 6, none, .rd .mov [.tmp 28]⟩,
     ⟨some 7, none, .rd .mov [.tmp 29]⟩] L22)
  (.seq (.region false [⟨some 30, none, .rd .mov [.tmp 2]⟩,
     ⟨some 31, none, .rd (.bin .eql) [.tmp 30, .pv (.int .i64 0)]⟩,
     ⟨some 32, none, .rd .mov [.tmp 31]⟩,
     ⟨some 33, some (32, true), .rd .mov [.tmp 5]⟩,
     ⟨some 34, some (32, true), .rd (.bin .eql) [.tmp 33, .pv (.int .i64 0)]⟩,
     ⟨some 35, none, .rd .pick [.tmp 32, .tmp 34, .pv (.bool false)]⟩,
     ⟨some 36, none, .rd .mov [.tmp 35]⟩,
     ⟨some 37, some (36, true), .rd .mov [.tmp 7]⟩,
     ⟨some 38, some (36, true), .rd (.bin .eql) [.tmp 37, .pv (.int .i64 0)]⟩,
     ⟨some 39, none, .rd .pick [.tmp 36, .tmp 38, .pv (.bool false)]⟩,
     ⟨some 40, none, .rd .mov [.tmp 39]⟩,
     ⟨some 41, some (40, true), .rd .mov [.tmp 6]⟩,
     ⟨some 42, some (40, true), .rd (.bin .eql) [.tmp 41, .pv (.int .i64 100)]⟩,
     ⟨some 43, none, .rd .pick [.tmp 40, .tmp 42, .pv (.bool false)]⟩,
     ⟨some 44, none, .rd .mov [.tmp 43]⟩,
     ⟨some 45, some (44, true), .rd (.load (some 2)) [.tmp 4]⟩,
     ⟨some 46, some (44, true), .call (.pv (.fn 19 [] [])) [.tmp 45, .pv (.str [111, 119, 101, 100, 47, 115, 111, 99, 105, 97, 108, 47, 111, 108, 100])]⟩,
     ⟨some 47, some (44, true), .rd (.bin .eql) [.tmp 46, .pv (.int .i64 (-100))]⟩,
     ⟨some 48, none, .rd .pick [.tmp 44, .tmp 47, .pv (.bool false)]⟩,
     ⟨some 49, none, .rd .mov [.tmp 48]⟩,
     ⟨some 50, some (49, true), .rd (.load (some 2)) [.tmp 4]⟩,
     ⟨some 51, some (49, true), .call (.pv (.fn 19 [] [])) [.tmp 50, .pv (.str [98, 97, 110, 107])]⟩,
     ⟨some 52, some (49, true), .rd (.bin .eql) [.tmp 51, .pv (.int .i64 (-400))]⟩,
     ⟨some 53, none, .rd .pick [.tmp 49, .tmp 52, .pv (.bool false)]⟩,
     ⟨some 0, none, .rd .mov [.tmp 53]⟩] L22)
  (.ret)))))),
  [.tmp 0]⟩

-- wagebook/remit.Owed
def L23 : List Nat := [0, 1, 2, 3, 4, 5, 6, 7, 9, 13, 16, 17, 18, 19, 33]
def c23 : CF := ⟨35,
  .seq (.region false [⟨some 2, none, .eff (.box (some 2)) [.tmp 0]⟩,
     ⟨some 3, none, .eff (.box (some 2)) [.tmp 1]⟩,
     ⟨some 4, none, .rd .mov [.pv (.int .i64 0)]⟩,
     ⟨some 5, none, .rd .mov [.pv (.int .i64 0)]⟩] L23)
  (.seq (.seq (.region false [⟨some 10, none, .rd (.load (some 2)) [.tmp 3]⟩,
      ⟨some 11, none, .call (.pv (.fn 44 [] [])) [.tmp 10]⟩,
      ⟨some 6, none, .rd .mov [.tmp 11]⟩] L23)
   (.seq (.region false [⟨some 12, none, .rd .mov [.tmp 6]⟩,
      ⟨some 13, none, .rd (.bin .neq) [.tmp 12, .pv (.int .i64 0)]⟩] L23)
   (.cond (.tmp 13)
    (.seq (.region false [⟨some 14, none, .rd .mov [.tmp 6]⟩,
        ⟨some 4, none, .rd .mov [.pv (.int .i64 0)]⟩,
        ⟨some 5, none, .rd .mov [.tmp 14]⟩] L23)
     (.ret))
    (.skip))))
  (.seq (.region false [⟨some 7, none, .rd .mov [.pv (.int .i64 0)]⟩] L23)
  (.seq (.seq (.region false [⟨some 15, none, .rd (.fldAddr 1) [.tmp 3]⟩,
      ⟨some 16, none, .rd (.load none) [.tmp 15]⟩,
      ⟨some 17, none, .rd .lenL [.tmp 16]⟩,
      ⟨some 18, none, .rd .mov [.pv (.int .i64 0)]⟩] L23)
   (.block 0
    (.loop
      (.seq (.region false [⟨some 19, none, .rd (.bin .lss) [.tmp 18, .tmp 17]⟩] L23)
       (.seq (.cond (.tmp 19)
         (.skip)
         (.exit 0))
       (.seq (.block 1
         (.seq (.region false [⟨some 20, none, .rd (.idxAddr none) [.tmp 16, .tmp 18]⟩,
             ⟨some 21, none, .rd (.load none) [.tmp 20]⟩,
             ⟨some 9, none, .rd .mov [.tmp 21]⟩] L23)
          (.region false [⟨some 22, none, .rd .mov [.tmp 7]⟩,
            ⟨some 23, none, .rd (.load (some 2)) [.tmp 2]⟩,
            ⟨some 24, none, .rd .mov [.tmp 9]⟩,
            ⟨some 25, none, .call (.pv (.fn 19 [] [])) [.tmp 23, .tmp 24]⟩,
            ⟨some 26, none, .rd (.bin .sub) [.tmp 22, .tmp 25]⟩,
            ⟨some 7, none, .rd .mov [.tmp 26]⟩] L23)))
       (.region false [⟨some 27, none, .rd (.bin .add) [.tmp 18, .pv (.int .i64 1)]⟩,
         ⟨some 18, none, .rd .mov [.tmp 27]⟩] L23)))))))
  (.seq (.seq (.region false [⟨some 28, none, .rd .mov [.tmp 7]⟩,
      ⟨some 29, none, .rd (.bin .gtr) [.tmp 28, .pv (.int .i64 1125899906842624)]⟩,
      ⟨some 30, none, .rd .mov [.tmp 29]⟩,
      ⟨some 31, some (30, false), .rd .mov [.tmp 7]⟩,
      ⟨some 32, some (30, false), .rd (.bin .lss) [.tmp 31, .pv (.int .i64 (-1125899906842624))]⟩,
      ⟨some 33, none, .rd .pick [.tmp 30, .pv (.bool true), .tmp 32]⟩] L23)
   (.cond (.tmp 33)
    (.seq (.region false [⟨some 4, none, .rd .mov [.pv (.int .i64 0)]⟩,
        ⟨some 5, none, .rd .mov [.pv (.int .i64 9)]⟩] L23)
     (.ret))
    (.skip)))
  (.seq (.region false [⟨some 34, none, .rd .mov [.tmp 7]⟩,
     ⟨some 4, none, .rd .mov [.tmp 34]⟩,
     ⟨some 5, none, .rd .mov [.pv (.int .i64 0)]⟩] L23)
  (.ret)))))),
  [.tmp 4, .tmp 5]⟩

-- wagebook/remit.Pay
def L24 : List Nat := [0, 1, 2, 3, 4, 6, 7, 8, 9, 10, 12, 13, 20, 25, 29, 42, 43, 44, 45, 53, 63]
def c24 : CF := ⟨80,
  .seq (.region false [⟨some 3, none, .eff (.box (some 2)) [.tmp 0]⟩,
     ⟨some 4, none, .eff (.box (some 2)) [.tmp 1]⟩,
     ⟨some 6, none, .eff (.alloc (some 2) (.agg [.nilSl, .nilMap])) []⟩,
     ⟨some 7, none, .rd .mov [.pv (.int .i64 0)]⟩] L24)
  (.seq (.region false [⟨some 15, none, .rd (.load (some 2)) [.tmp 3]⟩,
     ⟨some 16, none, .rd (.load (some 2)) [.tmp 4]⟩,
     ⟨some 17, none, .call (.pv (.fn 23 [] [])) [.tmp 15, .tmp 16]⟩,
     ⟨some 14, none, .rd .mov [.tmp 17]⟩,
     ⟨some 18, none, .rd (.ext 0) [.tmp 14]⟩,
     ⟨some 19, none, .rd (.ext 1) [.tmp 14]⟩,
     ⟨some 8, none, .rd .mov [.tmp 18]⟩,
     ⟨some 9, none, .rd .mov [.tmp 19]⟩] L24)
  (.seq (.block 0
    (.seq (.region false [⟨some 21, none, .rd .mov [.tmp 9]⟩,
        ⟨some 22, none, .rd (.bin .neq) [.tmp 21, .pv (.int .i64 0)]⟩,
        ⟨some 20, none, .rd .mov [.tmp 22]⟩] L24)
     (.cond (.tmp 20)
      (.seq (.region false [⟨some 23, none, .rd (.load (some 2)) [.tmp 3]⟩,
          ⟨some 24, none, .rd .mov [.tmp 9]⟩,
          ⟨none, none, .eff (.store (some 2)) [.tmp 6, .tmp 23]⟩,
          ⟨some 7, none, .rd .mov [.tmp 24]⟩] L24)
       (.ret))
      (.seq (.region false [⟨some 26, none, .rd .mov [.tmp 2]⟩,
          ⟨some 27, none, .rd (.bin .eql) [.tmp 26, .pv (.int .i64 0)]⟩,
          ⟨some 25, none, .rd .mov [.tmp 27]⟩] L24)
       (.cond (.tmp 25)
        (.seq (.region false [⟨some 28, none, .rd (.load (some 2)) [.tmp 3]⟩,
            ⟨none, none, .eff (.store (some 2)) [.tmp 6, .tmp 28]⟩,
            ⟨some 7, none, .rd .mov [.pv (.int .i64 22)]⟩] L24)
         (.ret))
        (.seq (.region false [⟨some 30, none, .rd .mov [.tmp 2]⟩,
            ⟨some 31, none, .rd .mov [.tmp 8]⟩,
            ⟨some 32, none, .rd .min [.pv (.int .i64 0), .tmp 31]⟩,
            ⟨some 33, none, .rd (.bin .lss) [.tmp 30, .tmp 32]⟩,
            ⟨some 34, none, .rd .mov [.tmp 33]⟩,
            ⟨some 35, some (34, false), .rd .mov [.tmp 2]⟩,
            ⟨some 36, some (34, false), .rd .mov [.tmp 8]⟩,
            ⟨some 37, some (34, false), .rd .max [.pv (.int .i64 0), .tmp 36]⟩,
            ⟨some 38, some (34, false), .rd (.bin .gtr) [.tmp 35, .tmp 37]⟩,
            ⟨some 39, none, .rd .pick [.tmp 34, .pv (.bool true), .tmp 38]⟩,
            ⟨some 29, none, .rd .mov [.tmp 39]⟩] L24)
         (.cond (.tmp 29)
          (.seq (.region false [⟨some 40, none, .rd (.load (some 2)) [.tmp 3]⟩,
              ⟨none, none, .eff (.store (some 2)) [.tmp 6, .tmp 40]⟩,
              ⟨some 7, none, .rd .mov [.pv (.int .i64 2)]⟩] L24)
           (.ret))
          (.skip))))))))
  (.seq (.region false [⟨some 10, none, .rd .mov [.pv .nilSl]⟩] L24)
  (.seq (.seq (.region false [⟨some 41, none, .rd (.fldAddr 1) [.tmp 4]⟩,
      ⟨some 42, none, .rd (.load none) [.tmp 41]⟩,
      ⟨some 43, none, .rd .lenL [.tmp 42]⟩,
      ⟨some 44, none, .rd .mov [.pv (.int .i64 0)]⟩] L24)
   (.block 1
    (.loop
      (.seq (.region false [⟨some 45, none, .rd (.bin .lss) [.tmp 44, .tmp 43]⟩] L24)
       (.seq (.cond (.tmp 45)
         (.skip)
         (.exit 1))
       (.seq (.block 2
         (.seq (.region false [⟨some 46, none, .rd (.idxAddr none) [.tmp 42, .tmp 44]⟩,
             ⟨some 47, none, .rd (.load none) [.tmp 46]⟩,
             ⟨some 12, none, .rd .mov [.tmp 47]⟩] L24)
          (.seq (.region false [⟨some 48, none, .rd (.load (some 2)) [.tmp 3]⟩,
             ⟨some 49, none, .rd .mov [.tmp 12]⟩,
             ⟨some 50, none, .call (.pv (.fn 19 [] [])) [.tmp 48, .tmp 49]⟩,
             ⟨some 51, none, .rd (.un .neg) [.tmp 50]⟩,
             ⟨some 13, none, .rd .mov [.tmp 51]⟩] L24)
          (.seq (.seq (.region false [⟨some 52, none, .rd .mov [.tmp 2]⟩,
              ⟨some 53, none, .rd (.bin .gtr) [.tmp 52, .pv (.int .i64 0)]⟩] L24)
           (.cond (.tmp 53)
            (.region false [⟨some 54, none, .rd .mov [.tmp 2]⟩,
               ⟨some 55, none, .rd .mov [.tmp 13]⟩,
               ⟨some 56, none, .rd .max [.pv (.int .i64 0), .tmp 55]⟩,
               ⟨some 57, none, .rd .min [.tmp 54, .tmp 56]⟩,
               ⟨some 13, none, .rd .mov [.tmp 57]⟩] L24)
            (.region false [⟨some 58, none, .rd .mov [.tmp 2]⟩,
               ⟨some 59, none, .rd .mov [.tmp 13]⟩,
               ⟨some 60, none, .rd .min [.pv (.int .i64 0), .tmp 59]⟩,
               ⟨some 61, none, .rd .max [.tmp 58, .tmp 60]⟩,
               ⟨some 13, none, .rd .mov [.tmp 61]⟩] L24)))
          (.seq (.region false [⟨some 62, none, .rd .mov [.tmp 13]⟩,
             ⟨some 63, none, .rd (.bin .neq) [.tmp 62, .pv (.int .i64 0)]⟩] L24)
          (.cond (.tmp 63)
           (.seq (.region false [⟨some 64, none, .rd .mov [.tmp 10]⟩,
               ⟨some 65, none, .rd (.load (some 2)) [.tmp 4]⟩,
               ⟨some 66, none, .rd .mov [.tmp 12]⟩,
               ⟨some 67, none, .rd .mov [.tmp 13]⟩,
               ⟨some 68, none, .call (.pv (.fn 45 [] [])) [.tmp 65, .tmp 66, .tmp 67]⟩,
               ⟨some 69, none, .eff (.lit (some 4) false) [.tmp 68]⟩,
               ⟨some 70, none, .eff (.append (some 4) 56) [.tmp 64, .tmp 69]⟩,
               ⟨some 10, none, .rd .mov [.tmp 70]⟩] L24)
            (.region false [⟨some 71, none, .rd .mov [.tmp 2]⟩,
              ⟨some 72, none, .rd .mov [.tmp 13]⟩,
              ⟨some 73, none, .rd (.bin .sub) [.tmp 71, .tmp 72]⟩,
              ⟨some 2, none, .rd .mov [.tmp 73]⟩] L24))
           (.skip)))))))
       (.region false [⟨some 74, none, .rd (.bin .add) [.tmp 44, .pv (.int .i64 1)]⟩,
         ⟨some 44, none, .rd .mov [.tmp 74]⟩] L24)))))))
  (.seq (.region false [⟨some 75, none, .rd (.load (some 2)) [.tmp 3]⟩,
     ⟨some 76, none, .rd .mov [.tmp 10]⟩,
     ⟨some 77, none, .call (.pv (.fn 14 [] [])) [.tmp 75, .tmp 76]⟩,
     ⟨some 78, none, .rd (.ext 0) [.tmp 77]⟩,
     ⟨some 79, none, .rd (.ext 1) [.tmp 77]⟩,
     ⟨none, none, .eff (.store (some 2)) [.tmp 6, .tmp 78]⟩,
     ⟨some 7, none, .rd .mov [.tmp 79]⟩] L24)
  (.ret)))))),
  [.cell 6 (some 2), .tmp 7]⟩

-- wagebook/wagebookref36.Pay
def L34 : List Nat := [0, 1, 4, 5, 6, 7, 8, 9, 11, 12, 16, 21, 36, 49, 50, 51, 52, 70]
def c34 : CF := ⟨74,
  .seq (.region false [⟨some 4, none, .rd .mov [.pv .nilSl]⟩,
     ⟨some 5, none, .rd .mov [.pv (.int .i64 0)]⟩] L34)
  (.seq (.seq (.region false [⟨some 13, none, .rd .mov [.tmp 1]⟩,
      ⟨some 14, none, .call (.pv (.fn 15 [] [])) [.tmp 13]⟩,
      ⟨some 6, none, .rd .mov [.tmp 14]⟩] L34)
   (.seq (.region false [⟨some 15, none, .rd .mov [.tmp 6]⟩,
      ⟨some 16, none, .rd (.bin .neq) [.tmp 15, .pv (.int .i64 0)]⟩] L34)
   (.cond (.tmp 16)
    (.seq (.region false [⟨some 17, none, .rd .mov [.tmp 0]⟩,
        ⟨some 18, none, .rd .mov [.tmp 6]⟩,
        ⟨some 4, none, .rd .mov [.tmp 17]⟩,
        ⟨some 5, none, .rd .mov [.tmp 18]⟩] L34)
     (.ret))
    (.skip))))
  (.seq (.seq (.region false [⟨some 19, none, .rd .mov [.tmp 0]⟩,
      ⟨some 20, none, .rd .lenL [.tmp 19]⟩,
      ⟨some 21, none, .rd (.bin .geq) [.tmp 20, .pv (.int .i64 4096)]⟩] L34)
   (.cond (.tmp 21)
    (.seq (.region false [⟨some 22, none, .rd .mov [.tmp 0]⟩,
        ⟨some 4, none, .rd .mov [.tmp 22]⟩,
        ⟨some 5, none, .rd .mov [.pv (.int .i64 5)]⟩] L34)
     (.ret))
    (.skip)))
  (.seq (.region false [⟨some 23, none, .eff (.lit none true) []⟩,
     ⟨some 24, none, .rd .mov [.tmp 0]⟩,
     ⟨some 25, none, .eff (.append none 24) [.tmp 23, .tmp 24]⟩,
     ⟨some 26, none, .eff (.lit (some 4) true) []⟩,
     ⟨some 27, none, .rd .mov [.tmp 1]⟩,
     ⟨some 28, none, .eff (.append (some 4) 56) [.tmp 26, .tmp 27]⟩,
     ⟨some 29, none, .eff (.lit none false) [.tmp 28]⟩,
     ⟨some 30, none, .eff (.append none 24) [.tmp 25, .tmp 29]⟩,
     ⟨some 7, none, .rd .mov [.tmp 30]⟩] L34)
  (.seq (.region false [⟨some 31, none, .rd .mov [.tmp 0]⟩,
     ⟨some 32, none, .call (.pv (.fn 39 [] [])) [.tmp 31]⟩,
     ⟨some 8, none, .rd .mov [.tmp 32]⟩] L34)
  (.seq (.seq (.region false [⟨some 9, none, .rd .mov [.pv (.int .i64 0)]⟩] L34)
   (.block 0
    (.loop
      (.seq (.seq (.region false [⟨some 33, none, .rd .mov [.tmp 9]⟩,
           ⟨some 34, none, .rd .mov [.tmp 1]⟩,
           ⟨some 35, none, .rd .lenL [.tmp 34]⟩,
           ⟨some 36, none, .rd (.bin .lss) [.tmp 33, .tmp 35]⟩] L34)
        (.cond (.tmp 36)
         (.skip)
         (.exit 0)))
       (.seq (.block 1
         (.seq (.regionA (.alt [⟨some 39, none, .rd .mov [.tmp 1]⟩,
              ⟨some 40, none, .rd .mov [.tmp 9]⟩,
              ⟨some 41, none, .rd (.idxAddr (some 4)) [.tmp 39, .tmp 40]⟩,
              ⟨some 42, none, .rd (.fldAddr 0) [.tmp 41]⟩,
              ⟨some 44, none, .rd .mov [.tmp 1]⟩,
              ⟨some 45, none, .rd .mov [.tmp 9]⟩,
              ⟨some 46, none, .rd (.idxAddr (some 4)) [.tmp 44, .tmp 45]⟩,
              ⟨some 47, none, .rd (.fldAddr 1) [.tmp 46]⟩,
              ⟨some 51, none, .rd .mov [.pv (.int .i64 0)]⟩]
             (.alt [⟨some 43, none, .rd (.load none) [.tmp 42]⟩,
               ⟨some 48, none, .rd (.load none) [.tmp 47]⟩,
               ⟨some 49, none, .eff (.lit none false) [.tmp 43, .tmp 48]⟩,
               ⟨some 50, none, .rd .lenL [.tmp 49]⟩]
              .done
              (.alt [⟨some 48, none, .rd (.load none) [.tmp 47]⟩,
                ⟨some 43, none, .rd (.load none) [.tmp 42]⟩,
                ⟨some 49, none, .eff (.lit none false) [.tmp 43, .tmp 48]⟩,
                ⟨some 50, none, .rd .lenL [.tmp 49]⟩]
               .done
               .stop))
             .stop) L34)
          (.block 2
           (.loop
             (.seq (.region false [⟨some 52, none, .rd (.bin .lss) [.tmp 51, .tmp 50]⟩] L34)
              (.seq (.cond (.tmp 52)
                (.skip)
                (.exit 2))
              (.seq (.block 3
                (.seq (.region false [⟨some 53, none, .rd (.idxAddr none) [.tmp 49, .tmp 51]⟩,
                    ⟨some 54, none, .rd (.load none) [.tmp 53]⟩,
                    ⟨some 11, none, .rd .mov [.tmp 54]⟩] L34)
                 (.seq (.region true [⟨some 55, none, .rd .mov [.tmp 8]⟩,
                    ⟨some 56, none, .rd .mov [.tmp 11]⟩,
                    ⟨some 57, none, .call (.pv (.fn 38 [] [])) [.tmp 55, .tmp 56]⟩,
                    ⟨some 58, none, .rd .mov [.tmp 1]⟩,
                    ⟨some 59, none, .rd .mov [.tmp 9]⟩,
                    ⟨some 60, none, .rd (.bin .add) [.tmp 59, .pv (.int .i64 1)]⟩,
                    ⟨some 61, none, .rd (.slc (some 4) false true false) [.tmp 58, .tmp 60]⟩,
                    ⟨some 62, none, .rd .mov [.tmp 11]⟩,
                    ⟨some 63, none, .call (.pv (.fn 38 [] [])) [.tmp 61, .tmp 62]⟩,
                    ⟨some 64, none, .rd (.bin .add) [.tmp 57, .tmp 63]⟩,
                    ⟨some 12, none, .rd .mov [.tmp 64]⟩] L34)
                 (.seq (.region false [⟨some 65, none, .rd .mov [.tmp 12]⟩,
                    ⟨some 66, none, .rd (.bin .gtr) [.tmp 65, .pv (.int .i64 1125899906842624)]⟩,
                    ⟨some 67, none, .rd .mov [.tmp 66]⟩,
                    ⟨some 68, some (67, false), .rd .mov [.tmp 12]⟩,
                    ⟨some 69, some (67, false), .rd (.bin .lss) [.tmp 68, .pv (.int .i64 (-1125899906842624))]⟩,
                    ⟨some 70, none, .rd .pick [.tmp 67, .pv (.bool true), .tmp 69]⟩] L34)
                 (.cond (.tmp 70)
                  (.seq (.region false [⟨some 71, none, .rd .mov [.tmp 0]⟩,
                      ⟨some 4, none, .rd .mov [.tmp 71]⟩,
                      ⟨some 5, none, .rd .mov [.pv (.int .i64 9)]⟩] L34)
                   (.ret))
                  (.skip))))))
              (.region false [⟨some 72, none, .rd (.bin .add) [.tmp 51, .pv (.int .i64 1)]⟩,
                ⟨some 51, none, .rd .mov [.tmp 72]⟩] L34))))))))
       (.region false [⟨some 37, none, .rd .mov [.tmp 9]⟩,
         ⟨some 38, none, .rd (.bin .add) [.tmp 37, .pv (.int .i64 1)]⟩,
         ⟨some 9, none, .rd .mov [.tmp 38]⟩] L34))))))
  (.seq (.region false [⟨some 73, none, .rd .mov [.tmp 7]⟩,
     ⟨some 4, none, .rd .mov [.tmp 73]⟩,
     ⟨some 5, none, .rd .mov [.pv (.int .i64 0)]⟩] L34)
  (.ret))))))),
  [.tmp 4, .tmp 5]⟩

-- wagebook/wagebookref33.Balance
def L38 : List Nat := [0, 1, 4, 5, 6, 10, 19, 33]
def c38 : CF := ⟨42,
  .seq (.region false [⟨some 4, none, .rd .mov [.pv (.int .i64 0)]⟩] L38)
  (.seq (.region false [⟨some 5, none, .rd .mov [.pv (.int .i64 0)]⟩] L38)
  (.seq (.seq (.region false [⟨some 6, none, .rd .mov [.pv (.int .i64 0)]⟩] L38)
   (.block 0
    (.loop
      (.seq (.seq (.region false [⟨some 7, none, .rd .mov [.tmp 6]⟩,
           ⟨some 8, none, .rd .mov [.tmp 0]⟩,
           ⟨some 9, none, .rd .lenL [.tmp 8]⟩,
           ⟨some 10, none, .rd (.bin .lss) [.tmp 7, .tmp 9]⟩] L38)
        (.cond (.tmp 10)
         (.skip)
         (.exit 0)))
       (.seq (.block 1
         (.seq (.seq (.region false [⟨some 13, none, .rd .mov [.tmp 0]⟩,
              ⟨some 14, none, .rd .mov [.tmp 6]⟩,
              ⟨some 15, none, .rd (.idxAddr (some 4)) [.tmp 13, .tmp 14]⟩,
              ⟨some 16, none, .rd (.fldAddr 0) [.tmp 15]⟩,
              ⟨some 17, none, .rd (.load none) [.tmp 16]⟩,
              ⟨some 18, none, .rd .mov [.tmp 1]⟩,
              ⟨some 19, none, .rd (.bin .eql) [.tmp 17, .tmp 18]⟩] L38)
           (.cond (.tmp 19)
            (.region false [⟨some 20, none, .rd .mov [.tmp 5]⟩,
               ⟨some 21, none, .rd .mov [.tmp 0]⟩,
               ⟨some 22, none, .rd .mov [.tmp 6]⟩,
               ⟨some 23, none, .rd (.idxAddr (some 4)) [.tmp 21, .tmp 22]⟩,
               ⟨some 24, none, .rd (.fldAddr 2) [.tmp 23]⟩,
               ⟨some 25, none, .rd (.load none) [.tmp 24]⟩,
               ⟨some 26, none, .rd (.bin .add) [.tmp 20, .tmp 25]⟩,
               ⟨some 5, none, .rd .mov [.tmp 26]⟩] L38)
            (.skip)))
          (.seq (.region false [⟨some 27, none, .rd .mov [.tmp 0]⟩,
             ⟨some 28, none, .rd .mov [.tmp 6]⟩,
             ⟨some 29, none, .rd (.idxAddr (some 4)) [.tmp 27, .tmp 28]⟩,
             ⟨some 30, none, .rd (.fldAddr 1) [.tmp 29]⟩,
             ⟨some 31, none, .rd (.load none) [.tmp 30]⟩,
             ⟨some 32, none, .rd .mov [.tmp 1]⟩,
             ⟨some 33, none, .rd (.bin .eql) [.tmp 31, .tmp 32]⟩] L38)
          (.cond (.tmp 33)
           (.region false [⟨some 34, none, .rd .mov [.tmp 5]⟩,
              ⟨some 35, none, .rd .mov [.tmp 0]⟩,
              ⟨some 36, none, .rd .mov [.tmp 6]⟩,
              ⟨some 37, none, .rd (.idxAddr (some 4)) [.tmp 35, .tmp 36]⟩,
              ⟨some 38, none, .rd (.fldAddr 2) [.tmp 37]⟩,
              ⟨some 39, none, .rd (.load none) [.tmp 38]⟩,
              ⟨some 40, none, .rd (.bin .sub) [.tmp 34, .tmp 39]⟩,
              ⟨some 5, none, .rd .mov [.tmp 40]⟩] L38)
           (.skip)))))
       (.region false [⟨some 11, none, .rd .mov [.tmp 6]⟩,
         ⟨some 12, none, .rd (.bin .add) [.tmp 11, .pv (.int .i64 1)]⟩,
         ⟨some 6, none, .rd .mov [.tmp 12]⟩] L38))))))
  (.seq (.region false [⟨some 41, none, .rd .mov [.tmp 5]⟩,
     ⟨some 4, none, .rd .mov [.tmp 41]⟩] L38)
  (.ret)))),
  [.tmp 4]⟩

-- wagebook/wagebookref33.All
def L39 : List Nat := [0, 2, 3, 4, 8]
def c39 : CF := ⟨18,
  .seq (.region false [⟨some 2, none, .rd .mov [.pv .nilSl]⟩] L39)
  (.seq (.region false [⟨some 3, none, .rd .mov [.pv .nilSl]⟩] L39)
  (.seq (.seq (.region false [⟨some 4, none, .rd .mov [.pv (.int .i64 0)]⟩] L39)
   (.block 0
    (.loop
      (.seq (.seq (.region false [⟨some 5, none, .rd .mov [.tmp 4]⟩,
           ⟨some 6, none, .rd .mov [.tmp 0]⟩,
           ⟨some 7, none, .rd .lenL [.tmp 6]⟩,
           ⟨some 8, none, .rd (.bin .lss) [.tmp 5, .tmp 7]⟩] L39)
        (.cond (.tmp 8)
         (.skip)
         (.exit 0)))
       (.seq (.block 1
         (.region false [⟨some 11, none, .rd .mov [.tmp 3]⟩,
            ⟨some 12, none, .rd .mov [.tmp 0]⟩,
            ⟨some 13, none, .rd .mov [.tmp 4]⟩,
            ⟨some 14, none, .rd (.idxAddr none) [.tmp 12, .tmp 13]⟩,
            ⟨some 15, none, .rd (.load none) [.tmp 14]⟩,
            ⟨some 16, none, .eff (.append (some 4) 56) [.tmp 11, .tmp 15]⟩,
            ⟨some 3, none, .rd .mov [.tmp 16]⟩] L39))
       (.region false [⟨some 9, none, .rd .mov [.tmp 4]⟩,
         ⟨some 10, none, .rd (.bin .add) [.tmp 9, .pv (.int .i64 1)]⟩,
         ⟨some 4, none, .rd .mov [.tmp 10]⟩] L39))))))
  (.seq (.region false [⟨some 17, none, .rd .mov [.tmp 3]⟩,
     ⟨some 2, none, .rd .mov [.tmp 17]⟩] L39)
  (.ret)))),
  [.tmp 2]⟩

-- (wagebook/remit.Office).check
def L44 : List Nat := [0, 1, 2, 3, 5, 6, 16, 21, 29, 30, 31, 32, 35, 39]
def c44 : CF := ⟨49,
  .seq (.region false [⟨some 1, none, .eff (.box (some 2)) [.tmp 0]⟩,
     ⟨some 2, none, .rd .mov [.pv (.int .i64 0)]⟩] L44)
  (.seq (.block 0
    (.seq (.region false [⟨some 7, none, .rd (.fldAddr 0) [.tmp 1]⟩,
        ⟨some 8, none, .rd (.load none) [.tmp 7]⟩,
        ⟨some 9, none, .call (.pv (.fn 56 [] [])) [.tmp 8]⟩,
        ⟨some 10, none, .rd (.un .not) [.tmp 9]⟩,
        ⟨some 11, none, .rd .mov [.tmp 10]⟩,
        ⟨some 12, some (11, false), .rd (.fldAddr 0) [.tmp 1]⟩,
        ⟨some 13, some (11, false), .rd (.load none) [.tmp 12]⟩,
        ⟨some 14, some (11, false), .rd (.bin .eql) [.tmp 13, .pv (.str [45])]⟩,
        ⟨some 15, none, .rd .pick [.tmp 11, .pv (.bool true), .tmp 14]⟩,
        ⟨some 6, none, .rd .mov [.tmp 15]⟩] L44)
     (.cond (.tmp 6)
      (.seq (.region false [⟨some 2, none, .rd .mov [.pv (.int .i64 12)]⟩] L44)
       (.ret))
      (.seq (.region false [⟨some 17, none, .rd (.fldAddr 1) [.tmp 1]⟩,
          ⟨some 18, none, .rd (.load none) [.tmp 17]⟩,
          ⟨some 19, none, .rd .lenL [.tmp 18]⟩,
          ⟨some 20, none, .rd (.bin .eql) [.tmp 19, .pv (.int .i64 0)]⟩,
          ⟨some 16, none, .rd .mov [.tmp 20]⟩] L44)
       (.cond (.tmp 16)
        (.seq (.region false [⟨some 2, none, .rd .mov [.pv (.int .i64 10)]⟩] L44)
         (.ret))
        (.seq (.region false [⟨some 22, none, .rd (.fldAddr 1) [.tmp 1]⟩,
            ⟨some 23, none, .rd (.load none) [.tmp 22]⟩,
            ⟨some 24, none, .rd .lenL [.tmp 23]⟩,
            ⟨some 25, none, .rd (.bin .gtr) [.tmp 24, .pv (.int .i64 64)]⟩,
            ⟨some 21, none, .rd .mov [.tmp 25]⟩] L44)
         (.cond (.tmp 21)
          (.seq (.region false [⟨some 2, none, .rd .mov [.pv (.int .i64 5)]⟩] L44)
           (.ret))
          (.skip))))))))
  (.seq (.region false [⟨some 26, none, .eff (.mmk .str) []⟩,
     ⟨none, none, .eff (.mupd .str) [.tmp 26, .pv (.str [98, 97, 110, 107]), .pv (.int .i64 1)]⟩,
     ⟨some 27, none, .rd .mov [.tmp 26]⟩,
     ⟨some 3, none, .rd .mov [.tmp 27]⟩] L44)
  (.seq (.seq (.region false [⟨some 28, none, .rd (.fldAddr 1) [.tmp 1]⟩,
      ⟨some 29, none, .rd (.load none) [.tmp 28]⟩,
      ⟨some 30, none, .rd .lenL [.tmp 29]⟩,
      ⟨some 31, none, .rd .mov [.pv (.int .i64 0)]⟩] L44)
   (.block 1
    (.loop
      (.seq (.region false [⟨some 32, none, .rd (.bin .lss) [.tmp 31, .tmp 30]⟩] L44)
       (.seq (.cond (.tmp 32)
         (.skip)
         (.exit 1))
       (.seq (.block 2
         (.seq (.region false [⟨some 33, none, .rd (.idxAddr none) [.tmp 29, .tmp 31]⟩,
             ⟨some 34, none, .rd (.load none) [.tmp 33]⟩,
             ⟨some 5, none, .rd .mov [.tmp 34]⟩] L44)
          (.seq (.block 3
            (.seq (.region false [⟨some 36, none, .rd .mov [.tmp 5]⟩,
                ⟨some 37, none, .call (.pv (.fn 57 [] [])) [.tmp 36]⟩,
                ⟨some 38, none, .rd (.un .not) [.tmp 37]⟩,
                ⟨some 35, none, .rd .mov [.tmp 38]⟩] L44)
             (.cond (.tmp 35)
              (.seq (.region false [⟨some 2, none, .rd .mov [.pv (.int .i64 12)]⟩] L44)
               (.ret))
              (.seq (.region false [⟨some 40, none, .rd .mov [.tmp 3]⟩,
                  ⟨some 41, none, .rd .mov [.tmp 5]⟩,
                  ⟨some 42, none, .rd (.look .str false (.int .i64 0)) [.tmp 40, .tmp 41]⟩,
                  ⟨some 43, none, .rd (.bin .gtr) [.tmp 42, .pv (.int .i64 0)]⟩,
                  ⟨some 39, none, .rd .mov [.tmp 43]⟩] L44)
               (.cond (.tmp 39)
                (.seq (.region false [⟨some 2, none, .rd .mov [.pv (.int .i64 7)]⟩] L44)
                 (.ret))
                (.skip))))))
          (.region false [⟨some 44, none, .rd .mov [.tmp 3]⟩,
            ⟨some 45, none, .rd .mov [.tmp 5]⟩,
            ⟨some 46, none, .rd (.look .str false (.int .i64 0)) [.tmp 44, .tmp 45]⟩,
            ⟨some 47, none, .rd (.bin .add) [.tmp 46, .pv (.int .i64 1)]⟩,
            ⟨none, none, .eff (.mupd .str) [.tmp 44, .tmp 45, .tmp 47]⟩] L44))))
       (.region false [⟨some 48, none, .rd (.bin .add) [.tmp 31, .pv (.int .i64 1)]⟩,
         ⟨some 31, none, .rd .mov [.tmp 48]⟩] L44)))))))
  (.seq (.region false [⟨some 2, none, .rd .mov [.pv (.int .i64 0)]⟩] L44)
  (.ret))))),
  [.tmp 2]⟩

-- (wagebook/remit.Office).entry
def L46 : List Nat := [0, 1, 2, 3, 6, 8]
def c46 : CF := ⟨22,
  .seq (.region false [⟨some 3, none, .eff (.box (some 2)) [.tmp 0]⟩,
     ⟨some 6, none, .eff (.alloc (some 4) (.agg [(.str []), (.str []), (.int .i64 0), (.str [])])) []⟩] L46)
  (.seq (.seq (.region false [⟨some 7, none, .rd .mov [.tmp 2]⟩,
      ⟨some 8, none, .rd (.bin .gtr) [.tmp 7, .pv (.int .i64 0)]⟩] L46)
   (.cond (.tmp 8)
    (.seq (.region false [⟨some 9, none, .rd .mov [.tmp 1]⟩,
        ⟨some 10, none, .rd .mov [.tmp 2]⟩,
        ⟨some 11, none, .rd (.fldAddr 0) [.tmp 3]⟩,
        ⟨some 12, none, .rd (.load none) [.tmp 11]⟩,
        ⟨some 13, none, .rd (.bin .add) [.pv (.str [114, 101, 109, 105, 116, 32]), .tmp 12]⟩,
        ⟨some 14, none, .rd (.build [(.str []), (.str []), (.int .i64 0), (.str [])] [(0, 1), (1, 1), (2, 1), (3, 1)]) [.tmp 9, .pv (.str [98, 97, 110, 107]), .tmp 10, .tmp 13]⟩,
        ⟨none, none, .eff (.store (some 4)) [.tmp 6, .tmp 14]⟩] L46)
     (.ret))
    (.skip)))
  (.seq (.region false [⟨some 15, none, .rd .mov [.tmp 1]⟩,
     ⟨some 16, none, .rd .mov [.tmp 2]⟩,
     ⟨some 17, none, .rd (.un .neg) [.tmp 16]⟩,
     ⟨some 18, none, .rd (.fldAddr 0) [.tmp 3]⟩,
     ⟨some 19, none, .rd (.load none) [.tmp 18]⟩,
     ⟨some 20, none, .rd (.bin .add) [.pv (.str [114, 101, 109, 105, 116, 32]), .tmp 19]⟩,
     ⟨some 21, none, .rd (.build [(.str []), (.str []), (.int .i64 0), (.str [])] [(0, 1), (1, 1), (2, 1), (3, 1)]) [.pv (.str [98, 97, 110, 107]), .tmp 15, .tmp 17, .tmp 20]⟩,
     ⟨none, none, .eff (.store (some 4)) [.tmp 6, .tmp 21]⟩] L46)
  (.ret))),
  [.cell 6 (some 4)]⟩

-- (wagebook/ledger.Ledger).Batch
def L47 : List Nat := [0, 1, 2, 4, 13]
def c47 : CF := ⟨21,
  .seq (.region false [⟨some 2, none, .eff (.box (some 2)) [.tmp 0]⟩,
     ⟨some 4, none, .rd .mov [.pv .nilSl]⟩] L47)
  (.seq (.seq (.region false [⟨some 5, none, .rd .mov [.tmp 1]⟩,
      ⟨some 6, none, .rd (.bin .lss) [.tmp 5, .pv (.int .i64 1)]⟩,
      ⟨some 7, none, .rd .mov [.tmp 6]⟩,
      ⟨some 8, some (7, false), .rd .mov [.tmp 1]⟩,
      ⟨some 9, some (7, false), .rd (.fldAddr 0) [.tmp 2]⟩,
      ⟨some 10, some (7, false), .rd (.load none) [.tmp 9]⟩,
      ⟨some 11, some (7, false), .rd .lenL [.tmp 10]⟩,
      ⟨some 12, some (7, false), .rd (.bin .gtr) [.tmp 8, .tmp 11]⟩,
      ⟨some 13, none, .rd .pick [.tmp 7, .pv (.bool true), .tmp 12]⟩] L47)
   (.cond (.tmp 13)
    (.seq (.region false [⟨some 4, none, .rd .mov [.pv .nilSl]⟩] L47)
     (.ret))
    (.skip)))
  (.seq (.region false [⟨some 14, none, .rd (.fldAddr 0) [.tmp 2]⟩,
     ⟨some 15, none, .rd (.load none) [.tmp 14]⟩,
     ⟨some 16, none, .rd .mov [.tmp 1]⟩,
     ⟨some 17, none, .rd (.bin .sub) [.tmp 16, .pv (.int .i64 1)]⟩,
     ⟨some 18, none, .rd (.idxAddr none) [.tmp 15, .tmp 17]⟩,
     ⟨some 19, none, .rd (.load none) [.tmp 18]⟩,
     ⟨some 20, none, .call (.pv (.fn 42 [] [])) [.tmp 19]⟩,
     ⟨some 4, none, .rd .mov [.tmp 20]⟩] L47)
  (.ret))),
  [.tmp 4]⟩

-- wagebook/wagebookref36.code
def L56 : List Nat := [0, 2, 4, 11, 13, 14, 15, 16, 19]
def c56 : CF := ⟨39,
  .seq (.region false [⟨some 2, none, .rd .mov [.pv (.bool false)]⟩] L56)
  (.seq (.seq (.region false [⟨some 5, none, .rd .mov [.tmp 0]⟩,
      ⟨some 6, none, .rd (.bin .eql) [.tmp 5, .pv (.str [])]⟩,
      ⟨some 7, none, .rd .mov [.tmp 6]⟩,
      ⟨some 8, some (7, false), .rd .mov [.tmp 0]⟩,
      ⟨some 9, some (7, false), .rd .lenS [.tmp 8]⟩,
      ⟨some 10, some (7, false), .rd (.bin .gtr) [.tmp 9, .pv (.int .i64 32)]⟩,
      ⟨some 11, none, .rd .pick [.tmp 7, .pv (.bool true), .tmp 10]⟩] L56)
   (.cond (.tmp 11)
    (.seq (.region false [⟨some 2, none, .rd .mov [.pv (.bool false)]⟩] L56)
     (.ret))
    (.skip)))
  (.seq (.seq (.region false [⟨some 12, none, .rd .mov [.tmp 0]⟩,
      ⟨some 13, none, .eff .s2b [.tmp 12]⟩,
      ⟨some 14, none, .rd .lenL [.tmp 13]⟩,
      ⟨some 15, none, .rd .mov [.pv (.int .i64 0)]⟩] L56)
   (.block 0
    (.loop
      (.seq (.region false [⟨some 16, none, .rd (.bin .lss) [.tmp 15, .tmp 14]⟩] L56)
       (.seq (.cond (.tmp 16)
         (.skip)
         (.exit 0))
       (.seq (.block 1
         (.seq (.region false [⟨some 17, none, .rd (.idxAddr none) [.tmp 13, .tmp 15]⟩,
             ⟨some 18, none, .rd (.load none) [.tmp 17]⟩,
             ⟨some 4, none, .rd .mov [.tmp 18]⟩] L56)
          (.block 2
           (.seq (.seq (.region false [⟨some 20, none, .rd .mov [.tmp 4]⟩,
                ⟨some 21, none, .rd (.bin .geq) [.tmp 20, .pv (.int .u8 97)]⟩,
                ⟨some 22, none, .rd .mov [.tmp 21]⟩,
                ⟨some 23, some (22, true), .rd .mov [.tmp 4]⟩,
                ⟨some 24, some (22, true), .rd (.bin .leq) [.tmp 23, .pv (.int .u8 122)]⟩,
                ⟨some 25, none, .rd .pick [.tmp 22, .tmp 24, .pv (.bool false)]⟩,
                ⟨some 19, none, .rd .mov [.tmp 25]⟩] L56)
             (.cond (.tmp 19)
              (.skip)
              (.seq (.region false [⟨some 26, none, .rd .mov [.tmp 4]⟩,
                  ⟨some 27, none, .rd (.bin .geq) [.tmp 26, .pv (.int .u8 48)]⟩,
                  ⟨some 28, none, .rd .mov [.tmp 27]⟩,
                  ⟨some 29, some (28, true), .rd .mov [.tmp 4]⟩,
                  ⟨some 30, some (28, true), .rd (.bin .leq) [.tmp 29, .pv (.int .u8 57)]⟩,
                  ⟨some 31, none, .rd .pick [.tmp 28, .tmp 30, .pv (.bool false)]⟩,
                  ⟨some 19, none, .rd .mov [.tmp 31]⟩] L56)
               (.cond (.tmp 19)
                (.skip)
                (.seq (.region false [⟨some 32, none, .rd .mov [.tmp 4]⟩,
                    ⟨some 33, none, .rd (.bin .eql) [.tmp 32, .pv (.int .u8 46)]⟩,
                    ⟨some 19, none, .rd .mov [.tmp 33]⟩] L56)
                 (.cond (.tmp 19)
                  (.skip)
                  (.seq (.region false [⟨some 34, none, .rd .mov [.tmp 4]⟩,
                      ⟨some 35, none, .rd (.bin .eql) [.tmp 34, .pv (.int .u8 95)]⟩,
                      ⟨some 19, none, .rd .mov [.tmp 35]⟩] L56)
                   (.cond (.tmp 19)
                    (.skip)
                    (.region false [⟨some 36, none, .rd .mov [.tmp 4]⟩,
                       ⟨some 37, none, .rd (.bin .eql) [.tmp 36, .pv (.int .u8 45)]⟩,
                       ⟨some 19, none, .rd .mov [.tmp 37]⟩] L56)))))))))
            (.cond (.tmp 19)
             (.skip)
             (.seq (.region false [⟨some 2, none, .rd .mov [.pv (.bool false)]⟩] L56)
              (.ret)))))))
       (.region false [⟨some 38, none, .rd (.bin .add) [.tmp 15, .pv (.int .i64 1)]⟩,
         ⟨some 15, none, .rd .mov [.tmp 38]⟩] L56)))))))
  (.seq (.region false [⟨some 2, none, .rd .mov [.pv (.bool true)]⟩] L56)
  (.ret)))),
  [.tmp 2]⟩

-- wagebook/remit.account
def L57 : List Nat := [0, 2, 3, 5, 8, 9, 10, 11, 16]
def c57 : CF := ⟨21,
  .seq (.region false [⟨some 2, none, .rd .mov [.pv (.bool false)]⟩] L57)
  (.seq (.region false [⟨some 6, none, .rd .mov [.tmp 0]⟩,
     ⟨some 7, none, .call (.pv (.fn 63 [] [])) [.tmp 6, .pv (.str [47])]⟩,
     ⟨some 3, none, .rd .mov [.tmp 7]⟩] L57)
  (.seq (.seq (.region false [⟨some 8, none, .rd .mov [.tmp 3]⟩,
      ⟨some 9, none, .rd .lenL [.tmp 8]⟩,
      ⟨some 10, none, .rd .mov [.pv (.int .i64 0)]⟩] L57)
   (.block 0
    (.loop
      (.seq (.region false [⟨some 11, none, .rd (.bin .lss) [.tmp 10, .tmp 9]⟩] L57)
       (.seq (.cond (.tmp 11)
         (.skip)
         (.exit 0))
       (.seq (.block 1
         (.seq (.region false [⟨some 12, none, .rd (.idxAddr none) [.tmp 8, .tmp 10]⟩,
             ⟨some 13, none, .rd (.load none) [.tmp 12]⟩,
             ⟨some 5, none, .rd .mov [.tmp 13]⟩] L57)
          (.seq (.region false [⟨some 14, none, .rd .mov [.tmp 5]⟩,
             ⟨some 15, none, .call (.pv (.fn 56 [] [])) [.tmp 14]⟩,
             ⟨some 16, none, .rd (.un .not) [.tmp 15]⟩] L57)
          (.cond (.tmp 16)
           (.seq (.region false [⟨some 2, none, .rd .mov [.pv (.bool false)]⟩] L57)
            (.ret))
           (.skip)))))
       (.region false [⟨some 17, none, .rd (.bin .add) [.tmp 10, .pv (.int .i64 1)]⟩,
         ⟨some 10, none, .rd .mov [.tmp 17]⟩] L57)))))))
  (.seq (.region false [⟨some 18, none, .rd .mov [.tmp 3]⟩,
     ⟨some 19, none, .rd .lenL [.tmp 18]⟩,
     ⟨some 20, none, .rd (.bin .leq) [.tmp 19, .pv (.int .i64 3)]⟩,
     ⟨some 2, none, .rd .mov [.tmp 20]⟩] L57)
  (.ret)))),
  [.tmp 2]⟩

-- wagebook/wagebooklaw36.RemitParts
def L9 : List Nat := [0, 1, 2, 6, 7, 9, 11, 12, 13, 14, 15, 16, 17, 18, 19, 20, 21, 22, 23, 24, 26, 39, 41, 42, 43, 44, 71, 80, 109, 119, 137, 138, 139, 140, 141, 166, 168, 169, 170, 171, 177]
def c9 : CF := ⟨202,
  .seq (.region false [⟨some 6, none, .rd .mov [.pv (.bool false)]⟩] L9)
  (.seq (.region false [⟨some 28, none, .rd .mov [.tmp 0]⟩,
     ⟨some 29, none, .call (.pv (.fn 20 [] [])) [.tmp 28]⟩,
     ⟨some 27, none, .rd .mov [.tmp 29]⟩,
     ⟨some 30, none, .rd (.ext 0) [.tmp 27]⟩,
     ⟨some 31, none, .rd (.ext 1) [.tmp 27]⟩,
     ⟨some 32, none, .rd (.ext 2) [.tmp 27]⟩,
     ⟨some 7, none, .eff (.alloc (some 2) (.agg [.nilSl, .nilMap])) []⟩,
     ⟨none, none, .eff (.store (some 2)) [.tmp 7, .tmp 30]⟩,
     ⟨some 8, none, .rd .mov [.tmp 31]⟩,
     ⟨some 9, none, .rd .mov [.tmp 32]⟩] L9)
  (.seq (.seq (.region false [⟨some 33, none, .rd .mov [.tmp 9]⟩,
      ⟨some 34, none, .rd (.un .not) [.tmp 33]⟩,
      ⟨some 35, none, .rd .mov [.tmp 34]⟩,
      ⟨some 36, some (35, false), .rd .mov [.tmp 1]⟩,
      ⟨some 37, some (35, false), .call (.pv (.fn 21 [] [])) [.tmp 36]⟩,
      ⟨some 38, some (35, false), .rd (.un .not) [.tmp 37]⟩,
      ⟨some 39, none, .rd .pick [.tmp 35, .pv (.bool true), .tmp 38]⟩] L9)
   (.cond (.tmp 39)
    (.seq (.region false [⟨some 40, none, .call (.pv (.fn 22 [] [])) []⟩,
        ⟨some 6, none, .rd .mov [.tmp 40]⟩] L9)
     (.ret))
    (.skip)))
  (.seq (.seq (.region false [⟨some 41, none, .rd .mov [.tmp 1]⟩,
      ⟨some 42, none, .rd .lenL [.tmp 41]⟩,
      ⟨some 43, none, .rd .mov [.pv (.int .i64 0)]⟩] L9)
   (.block 0
    (.loop
      (.seq (.region false [⟨some 44, none, .rd (.bin .lss) [.tmp 43, .tmp 42]⟩] L9)
       (.seq (.cond (.tmp 44)
         (.skip)
         (.exit 0))
       (.seq (.block 1
         (.seq (.region false [⟨some 45, none, .rd (.idxAddr (some 2)) [.tmp 41, .tmp 43]⟩,
             ⟨some 46, none, .rd (.load (some 2)) [.tmp 45]⟩,
             ⟨some 11, none, .eff (.alloc (some 2) (.agg [(.str []), .nilSl])) []⟩,
             ⟨none, none, .eff (.store (some 2)) [.tmp 11, .tmp 46]⟩] L9)
          (.seq (.region false [⟨some 48, none, .rd (.load (some 2)) [.tmp 7]⟩,
             ⟨some 49, none, .rd (.load (some 2)) [.tmp 11]⟩,
             ⟨some 50, none, .call (.pv (.fn 23 [] [])) [.tmp 48, .tmp 49]⟩,
             ⟨some 47, none, .rd .mov [.tmp 50]⟩,
             ⟨some 51, none, .rd (.ext 0) [.tmp 47]⟩,
             ⟨some 52, none, .rd (.ext 1) [.tmp 47]⟩,
             ⟨some 12, none, .rd .mov [.tmp 51]⟩,
             ⟨some 13, none, .rd .mov [.tmp 52]⟩] L9)
          (.seq (.region false [⟨some 53, none, .rd .mov [.tmp 12]⟩,
             ⟨some 54, none, .rd .mov [.tmp 2]⟩,
             ⟨some 55, none, .rd (.conv .i64) [.tmp 54]⟩,
             ⟨some 56, none, .rd (.bin .mul) [.tmp 53, .tmp 55]⟩,
             ⟨some 57, none, .rd (.bin .quo) [.tmp 56, .pv (.int .i64 255)]⟩,
             ⟨some 14, none, .rd .mov [.tmp 57]⟩] L9)
          (.seq (.seq (.region false [⟨some 58, none, .rd .mov [.tmp 13]⟩,
              ⟨some 59, none, .rd (.bin .neq) [.tmp 58, .pv (.int .i64 0)]⟩,
              ⟨some 60, none, .rd .mov [.tmp 59]⟩,
              ⟨some 61, some (60, false), .rd .mov [.tmp 14]⟩,
              ⟨some 62, some (60, false), .rd (.bin .eql) [.tmp 61, .pv (.int .i64 0)]⟩,
              ⟨some 63, none, .rd .pick [.tmp 60, .pv (.bool true), .tmp 62]⟩,
              ⟨some 64, none, .rd .mov [.tmp 63]⟩,
              ⟨some 65, some (64, false), .rd .mov [.tmp 12]⟩,
              ⟨some 66, some (64, false), .rd (.bin .gtr) [.tmp 65, .pv (.int .i64 1099511627776)]⟩,
              ⟨some 67, none, .rd .pick [.tmp 64, .pv (.bool true), .tmp 66]⟩,
              ⟨some 68, none, .rd .mov [.tmp 67]⟩,
              ⟨some 69, some (68, false), .rd .mov [.tmp 12]⟩,
              ⟨some 70, some (68, false), .rd (.bin .lss) [.tmp 69, .pv (.int .i64 (-1099511627776))]⟩,
              ⟨some 71, none, .rd .pick [.tmp 68, .pv (.bool true), .tmp 70]⟩] L9)
           (.cond (.tmp 71)
            (.exit 1)
            (.skip)))
          (.seq (.region false [⟨some 73, none, .rd (.load (some 2)) [.tmp 7]⟩,
             ⟨some 74, none, .rd (.load (some 2)) [.tmp 11]⟩,
             ⟨some 75, none, .rd .mov [.tmp 14]⟩,
             ⟨some 76, none, .call (.pv (.fn 24 [] [])) [.tmp 73, .tmp 74, .tmp 75]⟩,
             ⟨some 72, none, .rd .mov [.tmp 76]⟩,
             ⟨some 77, none, .rd (.ext 0) [.tmp 72]⟩,
             ⟨some 78, none, .rd (.ext 1) [.tmp 72]⟩,
             ⟨some 15, none, .eff (.alloc (some 2) (.agg [.nilSl, .nilMap])) []⟩,
             ⟨none, none, .eff (.store (some 2)) [.tmp 15, .tmp 77]⟩,
             ⟨some 13, none, .rd .mov [.tmp 78]⟩] L9)
          (.seq (.seq (.region false [⟨some 79, none, .rd .mov [.tmp 13]⟩,
              ⟨some 80, none, .rd (.bin .neq) [.tmp 79, .pv (.int .i64 0)]⟩] L9)
           (.cond (.tmp 80)
            (.exit 1)
            (.skip)))
          (.seq (.region false [⟨some 82, none, .rd (.load (some 2)) [.tmp 15]⟩,
             ⟨some 83, none, .rd (.load (some 2)) [.tmp 11]⟩,
             ⟨some 84, none, .call (.pv (.fn 23 [] [])) [.tmp 82, .tmp 83]⟩,
             ⟨some 81, none, .rd .mov [.tmp 84]⟩,
             ⟨some 85, none, .rd (.ext 0) [.tmp 81]⟩,
             ⟨some 86, none, .rd (.ext 1) [.tmp 81]⟩,
             ⟨some 16, none, .rd .mov [.tmp 85]⟩,
             ⟨some 13, none, .rd .mov [.tmp 86]⟩] L9)
          (.seq (.region true [⟨some 87, none, .rd .mov [.tmp 13]⟩,
             ⟨some 88, none, .rd (.bin .neq) [.tmp 87, .pv (.int .i64 0)]⟩,
             ⟨some 89, none, .rd .mov [.tmp 88]⟩,
             ⟨some 90, some (89, false), .rd .mov [.tmp 16]⟩,
             ⟨some 91, some (89, false), .rd .mov [.tmp 12]⟩,
             ⟨some 92, some (89, false), .rd .mov [.tmp 14]⟩,
             ⟨some 93, some (89, false), .rd (.bin .sub) [.tmp 91, .tmp 92]⟩,
             ⟨some 94, some (89, false), .rd (.bin .neq) [.tmp 90, .tmp 93]⟩,
             ⟨some 95, none, .rd .pick [.tmp 89, .pv (.bool true), .tmp 94]⟩,
             ⟨some 96, none, .rd .mov [.tmp 95]⟩,
             ⟨some 97, some (96, false), .rd (.load (some 2)) [.tmp 15]⟩,
             ⟨some 98, some (96, false), .call (.pv (.fn 19 [] [])) [.tmp 97, .pv (.str [98, 97, 110, 107])]⟩,
             ⟨some 99, some (96, false), .rd (.load (some 2)) [.tmp 7]⟩,
             ⟨some 100, some (96, false), .call (.pv (.fn 19 [] [])) [.tmp 99, .pv (.str [98, 97, 110, 107])]⟩,
             ⟨some 101, some (96, false), .rd .mov [.tmp 14]⟩,
             ⟨some 102, some (96, false), .rd (.bin .sub) [.tmp 100, .tmp 101]⟩,
             ⟨some 103, some (96, false), .rd (.bin .neq) [.tmp 98, .tmp 102]⟩,
             ⟨some 104, none, .rd .pick [.tmp 96, .pv (.bool true), .tmp 103]⟩,
             ⟨some 105, none, .rd .mov [.tmp 104]⟩,
             ⟨some 106, some (105, false), .rd (.load (some 2)) [.tmp 15]⟩,
             ⟨some 107, some (105, false), .call (.pv (.fn 18 [] [])) [.tmp 106]⟩,
             ⟨some 108, some (105, false), .rd (.bin .neq) [.tmp 107, .pv (.int .i64 0)]⟩,
             ⟨some 109, none, .rd .pick [.tmp 105, .pv (.bool true), .tmp 108]⟩] L9)
          (.cond (.tmp 109)
           (.seq (.region false [⟨some 6, none, .rd .mov [.pv (.bool false)]⟩] L9)
            (.ret))
           (.skip)))))))))))
       (.region false [⟨some 110, none, .rd (.bin .add) [.tmp 43, .pv (.int .i64 1)]⟩,
         ⟨some 43, none, .rd .mov [.tmp 110]⟩] L9)))))))
  (.seq (.region false [⟨some 112, none, .rd (.load (some 2)) [.tmp 7]⟩,
     ⟨some 113, none, .rd .mov [.tmp 1]⟩,
     ⟨some 114, none, .call (.pv (.fn 30 [] [])) [.tmp 112, .tmp 113]⟩,
     ⟨some 111, none, .rd .mov [.tmp 114]⟩,
     ⟨some 115, none, .rd (.ext 0) [.tmp 111]⟩,
     ⟨some 116, none, .rd (.ext 1) [.tmp 111]⟩,
     ⟨some 117, none, .rd (.ext 2) [.tmp 111]⟩,
     ⟨some 17, none, .eff (.alloc (some 2) (.agg [.nilSl, .nilMap])) []⟩,
     ⟨none, none, .eff (.store (some 2)) [.tmp 17, .tmp 115]⟩,
     ⟨some 18, none, .rd .mov [.tmp 116]⟩,
     ⟨some 19, none, .rd .mov [.tmp 117]⟩] L9)
  (.seq (.seq (.region false [⟨some 118, none, .rd .mov [.tmp 19]⟩,
      ⟨some 119, none, .rd (.bin .neq) [.tmp 118, .pv (.int .i64 0)]⟩] L9)
   (.cond (.tmp 119)
    (.seq (.region true [⟨some 120, none, .call (.pv (.fn 22 [] [])) []⟩,
        ⟨some 121, none, .rd .mov [.tmp 120]⟩,
        ⟨some 122, some (121, true), .rd (.load (some 2)) [.tmp 17]⟩,
        ⟨some 123, some (121, true), .call (.pv (.fn 17 [] [])) [.tmp 122]⟩,
        ⟨some 124, some (121, true), .rd (.load (some 2)) [.tmp 7]⟩,
        ⟨some 125, some (121, true), .call (.pv (.fn 17 [] [])) [.tmp 124]⟩,
        ⟨some 126, some (121, true), .rd (.bin .eql) [.tmp 123, .tmp 125]⟩,
        ⟨some 127, none, .rd .pick [.tmp 121, .tmp 126, .pv (.bool false)]⟩,
        ⟨some 128, none, .rd .mov [.tmp 127]⟩,
        ⟨some 129, some (128, true), .rd .mov [.tmp 18]⟩,
        ⟨some 130, some (128, true), .rd .lenL [.tmp 129]⟩,
        ⟨some 131, some (128, true), .rd (.bin .eql) [.tmp 130, .pv (.int .i64 0)]⟩,
        ⟨some 132, none, .rd .pick [.tmp 128, .tmp 131, .pv (.bool false)]⟩,
        ⟨some 6, none, .rd .mov [.tmp 132]⟩] L9)
     (.ret))
    (.skip)))
  (.seq (.seq (.region false [⟨some 133, none, .rd .mov [.tmp 18]⟩,
      ⟨some 134, none, .rd .lenL [.tmp 133]⟩,
      ⟨some 135, none, .rd .mov [.tmp 1]⟩,
      ⟨some 136, none, .rd .lenL [.tmp 135]⟩,
      ⟨some 137, none, .rd (.bin .neq) [.tmp 134, .tmp 136]⟩] L9)
   (.cond (.tmp 137)
    (.seq (.region false [⟨some 6, none, .rd .mov [.pv (.bool false)]⟩] L9)
     (.ret))
    (.skip)))
  (.seq (.region false [⟨some 20, none, .rd .mov [.pv (.int .i64 0)]⟩] L9)
  (.seq (.seq (.region false [⟨some 138, none, .rd .mov [.tmp 1]⟩,
      ⟨some 139, none, .rd .lenL [.tmp 138]⟩,
      ⟨some 140, none, .rd .mov [.pv (.int .i64 0)]⟩] L9)
   (.block 2
    (.loop
      (.seq (.region false [⟨some 141, none, .rd (.bin .lss) [.tmp 140, .tmp 139]⟩] L9)
       (.seq (.cond (.tmp 141)
         (.skip)
         (.exit 2))
       (.seq (.block 3
         (.seq (.region false [⟨some 142, none, .rd .mov [.tmp 140]⟩,
             ⟨some 143, none, .rd (.idxAddr (some 2)) [.tmp 138, .tmp 140]⟩,
             ⟨some 144, none, .rd (.load (some 2)) [.tmp 143]⟩,
             ⟨some 22, none, .eff (.alloc (some 2) (.agg [(.str []), .nilSl])) []⟩,
             ⟨some 21, none, .rd .mov [.tmp 142]⟩,
             ⟨none, none, .eff (.store (some 2)) [.tmp 22, .tmp 144]⟩] L9)
          (.seq (.region false [⟨some 146, none, .rd (.load (some 2)) [.tmp 17]⟩,
             ⟨some 147, none, .rd (.load (some 2)) [.tmp 22]⟩,
             ⟨some 148, none, .call (.pv (.fn 23 [] [])) [.tmp 146, .tmp 147]⟩,
             ⟨some 145, none, .rd .mov [.tmp 148]⟩,
             ⟨some 149, none, .rd (.ext 0) [.tmp 145]⟩,
             ⟨some 150, none, .rd (.ext 1) [.tmp 145]⟩,
             ⟨some 23, none, .rd .mov [.tmp 149]⟩,
             ⟨some 24, none, .rd .mov [.tmp 150]⟩] L9)
          (.seq (.seq (.region true [⟨some 151, none, .rd .mov [.tmp 24]⟩,
              ⟨some 152, none, .rd (.bin .neq) [.tmp 151, .pv (.int .i64 0)]⟩,
              ⟨some 153, none, .rd .mov [.tmp 152]⟩,
              ⟨some 154, some (153, false), .rd .mov [.tmp 23]⟩,
              ⟨some 155, some (153, false), .rd (.bin .neq) [.tmp 154, .pv (.int .i64 0)]⟩,
              ⟨some 156, none, .rd .pick [.tmp 153, .pv (.bool true), .tmp 155]⟩,
              ⟨some 157, none, .rd .mov [.tmp 156]⟩,
              ⟨some 158, some (157, false), .rd .mov [.tmp 18]⟩,
              ⟨some 159, some (157, false), .rd .mov [.tmp 21]⟩,
              ⟨some 160, some (157, false), .rd (.idxAddr (some 2)) [.tmp 158, .tmp 159]⟩,
              ⟨some 161, some (157, false), .rd (.fldAddr 0) [.tmp 160]⟩,
              ⟨some 162, some (157, false), .rd (.load none) [.tmp 161]⟩,
              ⟨some 163, some (157, false), .rd (.fldAddr 0) [.tmp 22]⟩,
              ⟨some 164, some (157, false), .rd (.load none) [.tmp 163]⟩,
              ⟨some 165, some (157, false), .rd (.bin .neq) [.tmp 162, .tmp 164]⟩,
              ⟨some 166, none, .rd .pick [.tmp 157, .pv (.bool true), .tmp 165]⟩] L9)
           (.cond (.tmp 166)
            (.seq (.region false [⟨some 6, none, .rd .mov [.pv (.bool false)]⟩] L9)
             (.ret))
            (.skip)))
          (.seq (.seq (.region false [⟨some 167, none, .rd (.fldAddr 1) [.tmp 22]⟩,
              ⟨some 168, none, .rd (.load none) [.tmp 167]⟩,
              ⟨some 169, none, .rd .lenL [.tmp 168]⟩,
              ⟨some 170, none, .rd .mov [.pv (.int .i64 0)]⟩] L9)
           (.block 4
            (.loop
              (.seq (.region false [⟨some 171, none, .rd (.bin .lss) [.tmp 170, .tmp 169]⟩] L9)
               (.seq (.cond (.tmp 171)
                 (.skip)
                 (.exit 4))
               (.seq (.block 5
                 (.seq (.region false [⟨some 172, none, .rd (.idxAddr none) [.tmp 168, .tmp 170]⟩,
                     ⟨some 173, none, .rd (.load none) [.tmp 172]⟩,
                     ⟨some 26, none, .rd .mov [.tmp 173]⟩] L9)
                  (.seq (.region false [⟨some 174, none, .rd (.load (some 2)) [.tmp 17]⟩,
                     ⟨some 175, none, .rd .mov [.tmp 26]⟩,
                     ⟨some 176, none, .call (.pv (.fn 19 [] [])) [.tmp 174, .tmp 175]⟩,
                     ⟨some 177, none, .rd (.bin .neq) [.tmp 176, .pv (.int .i64 0)]⟩] L9)
                  (.cond (.tmp 177)
                   (.seq (.region false [⟨some 6, none, .rd .mov [.pv (.bool false)]⟩] L9)
                    (.ret))
                   (.skip)))))
               (.region false [⟨some 178, none, .rd (.bin .add) [.tmp 170, .pv (.int .i64 1)]⟩,
                 ⟨some 170, none, .rd .mov [.tmp 178]⟩] L9)))))))
          (.region false [⟨some 179, none, .rd .mov [.tmp 20]⟩,
            ⟨some 180, none, .rd .mov [.tmp 18]⟩,
            ⟨some 181, none, .rd .mov [.tmp 21]⟩,
            ⟨some 182, none, .rd (.idxAddr (some 2)) [.tmp 180, .tmp 181]⟩,
            ⟨some 183, none, .rd (.fldAddr 1) [.tmp 182]⟩,
            ⟨some 184, none, .rd (.load none) [.tmp 183]⟩,
            ⟨some 185, none, .rd (.bin .add) [.tmp 179, .tmp 184]⟩,
            ⟨some 20, none, .rd .mov [.tmp 185]⟩] L9))))))
       (.region false [⟨some 186, none, .rd (.bin .add) [.tmp 140, .pv (.int .i64 1)]⟩,
         ⟨some 140, none, .rd .mov [.tmp 186]⟩] L9)))))))
  (.seq (.region true [⟨some 187, none, .call (.pv (.fn 22 [] [])) []⟩,
     ⟨some 188, none, .rd .mov [.tmp 187]⟩,
     ⟨some 189, some (188, true), .rd (.load (some 2)) [.tmp 17]⟩,
     ⟨some 190, some (188, true), .call (.pv (.fn 18 [] [])) [.tmp 189]⟩,
     ⟨some 191, some (188, true), .rd (.bin .eql) [.tmp 190, .pv (.int .i64 0)]⟩,
     ⟨some 192, none, .rd .pick [.tmp 188, .tmp 191, .pv (.bool false)]⟩,
     ⟨some 193, none, .rd .mov [.tmp 192]⟩,
     ⟨some 194, some (193, true), .rd (.load (some 2)) [.tmp 17]⟩,
     ⟨some 195, some (193, true), .call (.pv (.fn 19 [] [])) [.tmp 194, .pv (.str [98, 97, 110, 107])]⟩,
     ⟨some 196, some (193, true), .rd (.load (some 2)) [.tmp 7]⟩,
     ⟨some 197, some (193, true), .call (.pv (.fn 19 [] [])) [.tmp 196, .pv (.str [98, 97, 110, 107])]⟩,
     ⟨some 198, some (193, true), .rd .mov [.tmp 20]⟩,
     ⟨some 199, some (193, true), .rd (.bin .sub) [.tmp 197, .tmp 198]⟩,
     ⟨some 200, some (193, true), .rd (.bin .eql) [.tmp 195, .tmp 199]⟩,
     ⟨some 201, none, .rd .pick [.tmp 193, .tmp 200, .pv (.bool false)]⟩,
     ⟨some 6, none, .rd .mov [.tmp 201]⟩] L9)
  (.ret)))))))))),
  [.tmp 6]⟩
theorem k23 : compileF Tryd.prog [] L23 Tryd.f23 = some c23 := by kernel_rfl
theorem k34 : compileF Tryd.prog [] L34 Tryd.f34 = some c34 := by kernel_rfl
theorem k38 : compileF Tryd.prog [] L38 Tryd.f38 = some c38 := by kernel_rfl
theorem k39 : compileF Tryd.prog [] L39 Tryd.f39 = some c39 := by kernel_rfl
theorem k44 : compileF Tryd.prog [] L44 Tryd.f44 = some c44 := by kernel_rfl
theorem k46 : compileF Tryd.prog [] L46 Tryd.f46 = some c46 := by kernel_rfl
theorem k47 : compileF Tryd.prog [] L47 Tryd.f47 = some c47 := by kernel_rfl
theorem k56 : compileF Tryd.prog [] L56 Tryd.f56 = some c56 := by kernel_rfl
theorem k57 : compileF Tryd.prog [] L57 Tryd.f57 = some c57 := by kernel_rfl
end Go.Proofs.YtdemgegpnlngeaaDoor

