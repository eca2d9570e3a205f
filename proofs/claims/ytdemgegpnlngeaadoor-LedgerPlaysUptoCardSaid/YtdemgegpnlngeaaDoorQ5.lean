import Derived.Test.YtdemgegpnlngeaaDoorProg
import Derived.KernelRfl
import Derived.Test.YtdemgegpnlngeaaDoorP4
namespace Go.Proofs.YtdemgegpnlngeaaDoor
open PG Go.Proofs
-- wagebook/wagebooklaw33.LedgerWrong
def L3 : List Nat := [0, 2, 3, 5, 6, 7, 8, 9, 10, 11, 12, 29, 34, 46]
def c3 : CF := ⟨72,
  .seq (.region false [⟨some 2, none, .rd .mov [.pv (.bool false)]⟩] L3)
  (.seq (.region false [⟨some 3, none, .rd .mov [.pv (.int .i64 0)]⟩] L3)
  (.seq (.seq (.region false [⟨some 9, none, .rd .mov [.tmp 0]⟩,
      ⟨some 10, none, .rd .lenL [.tmp 9]⟩,
      ⟨some 11, none, .rd .mov [.pv (.int .i64 0)]⟩] L3)
   (.block 0
    (.loop
      (.seq (.region false [⟨some 12, none, .rd (.bin .lss) [.tmp 11, .tmp 10]⟩] L3)
       (.seq (.cond (.tmp 12)
         (.skip)
         (.exit 0))
       (.seq (.block 1
         (.seq (.region false [⟨some 13, none, .rd (.idxAddr (some 4)) [.tmp 9, .tmp 11]⟩,
             ⟨some 14, none, .rd (.load (some 4)) [.tmp 13]⟩,
             ⟨some 5, none, .eff (.alloc (some 4) (.agg [(.str []), (.str []), (.int .i64 0), (.str [])])) []⟩,
             ⟨none, none, .eff (.store (some 4)) [.tmp 5, .tmp 14]⟩] L3)
          (.seq (.region false [⟨some 15, none, .rd .mov [.tmp 3]⟩,
             ⟨some 16, none, .rd (.fldAddr 0) [.tmp 5]⟩,
             ⟨some 17, none, .rd (.load none) [.tmp 16]⟩,
             ⟨some 18, none, .rd .lenS [.tmp 17]⟩,
             ⟨some 19, none, .rd (.fldAddr 1) [.tmp 5]⟩,
             ⟨some 20, none, .rd (.load none) [.tmp 19]⟩,
             ⟨some 21, none, .rd .lenS [.tmp 20]⟩,
             ⟨some 22, none, .rd (.bin .add) [.tmp 18, .tmp 21]⟩,
             ⟨some 23, none, .rd (.fldAddr 3) [.tmp 5]⟩,
             ⟨some 24, none, .rd (.load none) [.tmp 23]⟩,
             ⟨some 25, none, .rd .lenS [.tmp 24]⟩,
             ⟨some 26, none, .rd (.bin .add) [.tmp 22, .tmp 25]⟩,
             ⟨some 27, none, .rd (.bin .add) [.tmp 15, .tmp 26]⟩,
             ⟨some 3, none, .rd .mov [.tmp 27]⟩] L3)
          (.seq (.region false [⟨some 28, none, .rd .mov [.tmp 3]⟩,
             ⟨some 29, none, .rd (.bin .gtr) [.tmp 28, .pv (.int .i64 100000)]⟩] L3)
          (.cond (.tmp 29)
           (.seq (.region false [⟨some 30, none, .call (.pv (.fn 13 [] [])) []⟩,
               ⟨some 2, none, .rd .mov [.tmp 30]⟩] L3)
            (.ret))
           (.skip))))))
       (.region false [⟨some 31, none, .rd (.bin .add) [.tmp 11, .pv (.int .i64 1)]⟩,
         ⟨some 11, none, .rd .mov [.tmp 31]⟩] L3)))))))
  (.seq (.seq (.region false [⟨some 32, none, .rd .mov [.tmp 0]⟩,
      ⟨some 33, none, .rd .lenL [.tmp 32]⟩,
      ⟨some 34, none, .rd (.bin .gtr) [.tmp 33, .pv (.int .i64 1100)]⟩] L3)
   (.cond (.tmp 34)
    (.seq (.region false [⟨some 35, none, .call (.pv (.fn 13 [] [])) []⟩,
        ⟨some 2, none, .rd .mov [.tmp 35]⟩] L3)
     (.ret))
    (.skip)))
  (.seq (.region false [⟨some 37, none, .rd (.build [.nilSl, .nilMap] []) []⟩,
     ⟨some 38, none, .rd .mov [.tmp 0]⟩,
     ⟨some 39, none, .call (.pv (.fn 14 [] [])) [.tmp 37, .tmp 38]⟩,
     ⟨some 36, none, .rd .mov [.tmp 39]⟩,
     ⟨some 40, none, .rd (.ext 0) [.tmp 36]⟩,
     ⟨some 41, none, .rd (.ext 1) [.tmp 36]⟩,
     ⟨some 6, none, .eff (.alloc (some 2) (.agg [.nilSl, .nilMap])) []⟩,
     ⟨none, none, .eff (.store (some 2)) [.tmp 6, .tmp 40]⟩,
     ⟨some 7, none, .rd .mov [.tmp 41]⟩] L3)
  (.seq (.region false [⟨some 42, none, .rd .mov [.tmp 0]⟩,
     ⟨some 43, none, .call (.pv (.fn 16 [] [])) [.tmp 42]⟩,
     ⟨some 44, none, .call (.pv (.fn 15 [] [])) [.tmp 43]⟩,
     ⟨some 8, none, .rd .mov [.tmp 44]⟩] L3)
  (.seq (.seq (.region false [⟨some 45, none, .rd .mov [.tmp 8]⟩,
      ⟨some 46, none, .rd (.bin .neq) [.tmp 45, .pv (.int .i64 0)]⟩] L3)
   (.cond (.tmp 46)
    (.seq (.region false [⟨some 47, none, .call (.pv (.fn 13 [] [])) []⟩,
        ⟨some 48, none, .rd .mov [.tmp 47]⟩,
        ⟨some 49, some (48, true), .rd .mov [.tmp 7]⟩,
        ⟨some 50, some (48, true), .rd .mov [.tmp 8]⟩,
        ⟨some 51, some (48, true), .rd (.bin .eql) [.tmp 49, .tmp 50]⟩,
        ⟨some 52, none, .rd .pick [.tmp 48, .tmp 51, .pv (.bool false)]⟩,
        ⟨some 53, none, .rd .mov [.tmp 52]⟩,
        ⟨some 54, some (53, true), .rd (.load (some 2)) [.tmp 6]⟩,
        ⟨some 55, some (53, true), .call (.pv (.fn 17 [] [])) [.tmp 54]⟩,
        ⟨some 56, some (53, true), .rd (.bin .eql) [.tmp 55, .pv (.int .i64 0)]⟩,
        ⟨some 57, none, .rd .pick [.tmp 53, .tmp 56, .pv (.bool false)]⟩,
        ⟨some 2, none, .rd .mov [.tmp 57]⟩] L3)
     (.ret))
    (.skip)))
  (.seq (.region false [⟨some 58, none, .call (.pv (.fn 13 [] [])) []⟩,
     ⟨some 59, none, .rd .mov [.tmp 58]⟩,
     ⟨some 60, some (59, true), .rd .mov [.tmp 7]⟩,
     ⟨some 61, some (59, true), .rd (.bin .eql) [.tmp 60, .pv (.int .i64 0)]⟩,
     ⟨some 62, some (59, true), .rd .mov [.tmp 61]⟩,
     ⟨some 63, some (62, false), .rd .mov [.tmp 7]⟩,
     ⟨some 64, some (62, false), .rd (.bin .eql) [.tmp 63, .pv (.int .i64 9)]⟩,
     ⟨some 65, some (59, true), .rd .pick [.tmp 62, .pv (.bool true), .tmp 64]⟩,
     ⟨some 66, none, .rd .pick [.tmp 59, .tmp 65, .pv (.bool false)]⟩,
     ⟨some 67, none, .rd .mov [.tmp 66]⟩,
     ⟨some 68, some (67, true), .rd (.load (some 2)) [.tmp 6]⟩,
     ⟨some 69, some (67, true), .call (.pv (.fn 18 [] [])) [.tmp 68]⟩,
     ⟨some 70, some (67, true), .rd (.bin .eql) [.tmp 69, .pv (.int .i64 0)]⟩,
     ⟨some 71, none, .rd .pick [.tmp 67, .tmp 70, .pv (.bool false)]⟩,
     ⟨some 2, none, .rd .mov [.tmp 71]⟩] L3)
  (.ret)))))))),
  [.tmp 2]⟩

-- wagebook/wagebooklaw33.LedgerMany
def L4 : List Nat := [0, 1, 4, 5, 6, 7, 8, 9, 10, 16, 21, 22, 23, 36, 49]
def c4 : CF := ⟨85,
  .seq (.region false [⟨some 4, none, .rd .mov [.pv (.bool false)]⟩] L4)
  (.seq (.region false [⟨some 11, none, .rd .mov [.tmp 0]⟩,
     ⟨some 12, none, .rd (.bin .rem) [.tmp 11, .pv (.int .u8 5)]⟩,
     ⟨some 13, none, .rd (.conv .i64) [.tmp 12]⟩,
     ⟨some 14, none, .rd (.bin .add) [.pv (.int .i64 65534), .tmp 13]⟩,
     ⟨some 5, none, .rd .mov [.tmp 14]⟩] L4)
  (.seq (.region false [⟨some 15, none, .rd (.build [(.str []), (.str []), (.int .i64 0), (.str [])] [(0, 1), (1, 1), (2, 1)]) [.pv (.str [119, 97, 103, 101, 115, 47, 97]), .pv (.str [110, 101, 116]), .pv (.int .i64 3)]⟩,
     ⟨some 6, none, .eff (.alloc (some 4) (.agg [(.str []), (.str []), (.int .i64 0), (.str [])])) []⟩,
     ⟨none, none, .eff (.store (some 4)) [.tmp 6, .tmp 15]⟩] L4)
  (.seq (.seq (.region false [⟨some 16, none, .rd .mov [.tmp 1]⟩] L4)
   (.cond (.tmp 16)
    (.region false [⟨some 17, none, .rd (.fldAddr 2) [.tmp 6]⟩,
       ⟨none, none, .eff (.store none) [.tmp 17, .pv (.int .i64 1125899906842624)]⟩] L4)
    (.skip)))
  (.seq (.region false [⟨some 18, none, .rd .mov [.tmp 5]⟩,
     ⟨some 19, none, .eff (.make (some 4) (.agg [(.str []), (.str []), (.int .i64 0), (.str [])]) 56) [.tmp 18, .tmp 18]⟩,
     ⟨some 7, none, .rd .mov [.tmp 19]⟩] L4)
  (.seq (.seq (.region false [⟨some 20, none, .rd .mov [.tmp 7]⟩,
      ⟨some 21, none, .rd .lenL [.tmp 20]⟩,
      ⟨some 22, none, .rd .mov [.pv (.int .i64 0)]⟩] L4)
   (.block 0
    (.loop
      (.seq (.region false [⟨some 23, none, .rd (.bin .lss) [.tmp 22, .tmp 21]⟩] L4)
       (.seq (.cond (.tmp 23)
         (.skip)
         (.exit 0))
       (.seq (.block 1
         (.seq (.region false [⟨some 24, none, .rd .mov [.tmp 22]⟩,
             ⟨some 8, none, .rd .mov [.tmp 24]⟩] L4)
          (.region false [⟨some 25, none, .rd .mov [.tmp 7]⟩,
            ⟨some 26, none, .rd .mov [.tmp 8]⟩,
            ⟨some 27, none, .rd (.load (some 4)) [.tmp 6]⟩,
            ⟨some 28, none, .rd (.idxAddr (some 4)) [.tmp 25, .tmp 26]⟩,
            ⟨none, none, .eff (.store (some 4)) [.tmp 28, .tmp 27]⟩] L4)))
       (.region false [⟨some 29, none, .rd (.bin .add) [.tmp 22, .pv (.int .i64 1)]⟩,
         ⟨some 22, none, .rd .mov [.tmp 29]⟩] L4)))))))
  (.seq (.region false [⟨some 31, none, .rd (.build [.nilSl, .nilMap] []) []⟩,
     ⟨some 32, none, .rd .mov [.tmp 7]⟩,
     ⟨some 33, none, .call (.pv (.fn 14 [] [])) [.tmp 31, .tmp 32]⟩,
     ⟨some 30, none, .rd .mov [.tmp 33]⟩,
     ⟨some 34, none, .rd (.ext 0) [.tmp 30]⟩,
     ⟨some 35, none, .rd (.ext 1) [.tmp 30]⟩,
     ⟨some 9, none, .eff (.alloc (some 2) (.agg [.nilSl, .nilMap])) []⟩,
     ⟨none, none, .eff (.store (some 2)) [.tmp 9, .tmp 34]⟩,
     ⟨some 10, none, .rd .mov [.tmp 35]⟩] L4)
  (.seq (.block 2
    (.seq (.region false [⟨some 37, none, .rd .mov [.tmp 5]⟩,
        ⟨some 38, none, .rd (.bin .gtr) [.tmp 37, .pv (.int .i64 65536)]⟩,
        ⟨some 36, none, .rd .mov [.tmp 38]⟩] L4)
     (.cond (.tmp 36)
      (.seq (.region false [⟨some 39, none, .call (.pv (.fn 13 [] [])) []⟩,
          ⟨some 40, none, .rd .mov [.tmp 39]⟩,
          ⟨some 41, some (40, true), .rd .mov [.tmp 10]⟩,
          ⟨some 42, some (40, true), .rd (.bin .eql) [.tmp 41, .pv (.int .i64 5)]⟩,
          ⟨some 43, none, .rd .pick [.tmp 40, .tmp 42, .pv (.bool false)]⟩,
          ⟨some 44, none, .rd .mov [.tmp 43]⟩,
          ⟨some 45, some (44, true), .rd (.load (some 2)) [.tmp 9]⟩,
          ⟨some 46, some (44, true), .call (.pv (.fn 17 [] [])) [.tmp 45]⟩,
          ⟨some 47, some (44, true), .rd (.bin .eql) [.tmp 46, .pv (.int .i64 0)]⟩,
          ⟨some 48, none, .rd .pick [.tmp 44, .tmp 47, .pv (.bool false)]⟩,
          ⟨some 4, none, .rd .mov [.tmp 48]⟩] L4)
       (.ret))
      (.seq (.region false [⟨some 50, none, .rd .mov [.tmp 1]⟩,
          ⟨some 49, none, .rd .mov [.tmp 50]⟩] L4)
       (.cond (.tmp 49)
        (.seq (.region false [⟨some 51, none, .call (.pv (.fn 13 [] [])) []⟩,
            ⟨some 52, none, .rd .mov [.tmp 51]⟩,
            ⟨some 53, some (52, true), .rd .mov [.tmp 10]⟩,
            ⟨some 54, some (52, true), .rd (.bin .eql) [.tmp 53, .pv (.int .i64 9)]⟩,
            ⟨some 55, none, .rd .pick [.tmp 52, .tmp 54, .pv (.bool false)]⟩,
            ⟨some 56, none, .rd .mov [.tmp 55]⟩,
            ⟨some 57, some (56, true), .rd (.load (some 2)) [.tmp 9]⟩,
            ⟨some 58, some (56, true), .call (.pv (.fn 17 [] [])) [.tmp 57]⟩,
            ⟨some 59, some (56, true), .rd (.bin .eql) [.tmp 58, .pv (.int .i64 0)]⟩,
            ⟨some 60, none, .rd .pick [.tmp 56, .tmp 59, .pv (.bool false)]⟩,
            ⟨some 4, none, .rd .mov [.tmp 60]⟩] L4)
         (.ret))
        (.skip))))))
  (.seq (.region false [⟨some 61, none, .call (.pv (.fn 13 [] [])) []⟩,
     ⟨some 62, none, .rd .mov [.tmp 61]⟩,
     ⟨some 63, some (62, true), .rd .mov [.tmp 10]⟩,
     ⟨some 64, some (62, true), .rd (.bin .eql) [.tmp 63, .pv (.int .i64 0)]⟩,
     ⟨some 65, none, .rd .pick [.tmp 62, .tmp 64, .pv (.bool false)]⟩,
     ⟨some 66, none, .rd .mov [.tmp 65]⟩,
     ⟨some 67, some (66, true), .rd (.load (some 2)) [.tmp 9]⟩,
     ⟨some 68, some (66, true), .call (.pv (.fn 19 [] [])) [.tmp 67, .pv (.str [119, 97, 103, 101, 115, 47, 97])]⟩,
     ⟨some 69, some (66, true), .rd .mov [.tmp 5]⟩,
     ⟨some 70, some (66, true), .rd (.bin .mul) [.pv (.int .i64 3), .tmp 69]⟩,
     ⟨some 71, some (66, true), .rd (.bin .eql) [.tmp 68, .tmp 70]⟩,
     ⟨some 72, none, .rd .pick [.tmp 66, .tmp 71, .pv (.bool false)]⟩,
     ⟨some 73, none, .rd .mov [.tmp 72]⟩,
     ⟨some 74, some (73, true), .rd (.load (some 2)) [.tmp 9]⟩,
     ⟨some 75, some (73, true), .call (.pv (.fn 19 [] [])) [.tmp 74, .pv (.str [110, 101, 116])]⟩,
     ⟨some 76, some (73, true), .rd .mov [.tmp 5]⟩,
     ⟨some 77, some (73, true), .rd (.bin .mul) [.pv (.int .i64 (-3)), .tmp 76]⟩,
     ⟨some 78, some (73, true), .rd (.bin .eql) [.tmp 75, .tmp 77]⟩,
     ⟨some 79, none, .rd .pick [.tmp 73, .tmp 78, .pv (.bool false)]⟩,
     ⟨some 80, none, .rd .mov [.tmp 79]⟩,
     ⟨some 81, some (80, true), .rd (.load (some 2)) [.tmp 9]⟩,
     ⟨some 82, some (80, true), .call (.pv (.fn 18 [] [])) [.tmp 81]⟩,
     ⟨some 83, some (80, true), .rd (.bin .eql) [.tmp 82, .pv (.int .i64 0)]⟩,
     ⟨some 84, none, .rd .pick [.tmp 80, .tmp 83, .pv (.bool false)]⟩,
     ⟨some 4, none, .rd .mov [.tmp 84]⟩] L4)
  (.ret))))))))),
  [.tmp 4]⟩

-- wagebook/wagebooklaw33.awake
def L13 : List Nat := [0, 1, 2]
def c13 : CF := ⟨33,
  .seq (.region false [⟨some 0, none, .rd .mov [.pv (.bool false)]⟩] L13)
  (.seq (.region false [⟨some 4, none, .rd (.build [.nilSl, .nilMap] []) []⟩,
     ⟨some 5, none, .rd (.build [(.str []), (.str []), (.int .i64 0), (.str [])] [(0, 1), (1, 1), (2, 1)]) [.pv (.str [119, 97, 103, 101, 115, 47, 97]), .pv (.str [110, 101, 116]), .pv (.int .i64 100)]⟩,
     ⟨some 6, none, .rd (.build [(.str []), (.str []), (.int .i64 0), (.str [])] [(0, 1), (1, 1), (2, 1)]) [.pv (.str [110, 101, 116]), .pv (.str [98, 97, 110, 107]), .pv (.int .i64 60)]⟩,
     ⟨some 7, none, .eff (.lit (some 4) false) [.tmp 5, .tmp 6]⟩,
     ⟨some 8, none, .call (.pv (.fn 14 [] [])) [.tmp 4, .tmp 7]⟩,
     ⟨some 3, none, .rd .mov [.tmp 8]⟩,
     ⟨some 9, none, .rd (.ext 0) [.tmp 3]⟩,
     ⟨some 10, none, .rd (.ext 1) [.tmp 3]⟩,
     ⟨some 1, none, .eff (.alloc (some 2) (.agg [.nilSl, .nilMap])) []⟩,
     ⟨none, none, .eff (.store (some 2)) [.tmp 1, .tmp 9]⟩,
     ⟨some 2, none, .rd .mov [.tmp 10]⟩] L13)
  (.seq (.region false [⟨some 11, none, .rd .mov [.tmp 2]⟩,
     ⟨some 12, none, .rd (.bin .eql) [.tmp 11, .pv (.int .i64 0)]⟩,
     ⟨some 13, none, .rd .mov [.tmp 12]⟩,
     ⟨some 14, some (13, true), .rd (.load (some 2)) [.tmp 1]⟩,
     ⟨some 15, some (13, true), .call (.pv (.fn 17 [] [])) [.tmp 14]⟩,
     ⟨some 16, some (13, true), .rd (.bin .eql) [.tmp 15, .pv (.int .i64 1)]⟩,
     ⟨some 17, none, .rd .pick [.tmp 13, .tmp 16, .pv (.bool false)]⟩,
     ⟨some 18, none, .rd .mov [.tmp 17]⟩,
     ⟨some 19, some (18, true), .rd (.load (some 2)) [.tmp 1]⟩,
     ⟨some 20, some (18, true), .call (.pv (.fn 19 [] [])) [.tmp 19, .pv (.str [119, 97, 103, 101, 115, 47, 97])]⟩,
     ⟨some 21, some (18, true), .rd (.bin .eql) [.tmp 20, .pv (.int .i64 100)]⟩,
     ⟨some 22, none, .rd .pick [.tmp 18, .tmp 21, .pv (.bool false)]⟩,
     ⟨some 23, none, .rd .mov [.tmp 22]⟩,
     ⟨some 24, some (23, true), .rd (.load (some 2)) [.tmp 1]⟩,
     ⟨some 25, some (23, true), .call (.pv (.fn 19 [] [])) [.tmp 24, .pv (.str [110, 101, 116])]⟩,
     ⟨some 26, some (23, true), .rd (.bin .eql) [.tmp 25, .pv (.int .i64 (-40))]⟩,
     ⟨some 27, none, .rd .pick [.tmp 23, .tmp 26, .pv (.bool false)]⟩,
     ⟨some 28, none, .rd .mov [.tmp 27]⟩,
     ⟨some 29, some (28, true), .rd (.load (some 2)) [.tmp 1]⟩,
     ⟨some 30, some (28, true), .call (.pv (.fn 19 [] [])) [.tmp 29, .pv (.str [98, 97, 110, 107])]⟩,
     ⟨some 31, some (28, true), .rd (.bin .eql) [.tmp 30, .pv (.int .i64 (-60))]⟩,
     ⟨some 32, none, .rd .pick [.tmp 28, .tmp 31, .pv (.bool false)]⟩,
     ⟨some 0, none, .rd .mov [.tmp 32]⟩] L13)
  (.ret))),
  [.tmp 0]⟩

-- (wagebook/ledger.Ledger).Post
def L14 : List Nat := [0, 1, 2, 4, 5, 6, 7, 9, 10, 14, 20, 26, 28, 29, 30, 31, 59]
def c14 : CF := ⟨76,
  .seq (.region false [⟨some 2, none, .eff (.box (some 2)) [.tmp 0]⟩,
     ⟨some 4, none, .eff (.alloc (some 2) (.agg [.nilSl, .nilMap])) []⟩,
     ⟨some 5, none, .rd .mov [.pv (.int .i64 0)]⟩] L14)
  (.seq (.seq (.region false [⟨some 11, none, .rd .mov [.tmp 1]⟩,
      ⟨some 12, none, .call (.pv (.fn 40 [] [])) [.tmp 11]⟩,
      ⟨some 6, none, .rd .mov [.tmp 12]⟩] L14)
   (.seq (.region false [⟨some 13, none, .rd .mov [.tmp 6]⟩,
      ⟨some 14, none, .rd (.bin .neq) [.tmp 13, .pv (.int .i64 0)]⟩] L14)
   (.cond (.tmp 14)
    (.seq (.region false [⟨some 15, none, .rd (.load (some 2)) [.tmp 2]⟩,
        ⟨some 16, none, .rd .mov [.tmp 6]⟩,
        ⟨none, none, .eff (.store (some 2)) [.tmp 4, .tmp 15]⟩,
        ⟨some 5, none, .rd .mov [.tmp 16]⟩] L14)
     (.ret))
    (.skip))))
  (.seq (.seq (.region false [⟨some 17, none, .rd (.fldAddr 0) [.tmp 2]⟩,
      ⟨some 18, none, .rd (.load none) [.tmp 17]⟩,
      ⟨some 19, none, .rd .lenL [.tmp 18]⟩,
      ⟨some 20, none, .rd (.bin .eql) [.tmp 19, .pv (.int .i64 4096)]⟩] L14)
   (.cond (.tmp 20)
    (.seq (.region false [⟨some 21, none, .rd (.load (some 2)) [.tmp 2]⟩,
        ⟨none, none, .eff (.store (some 2)) [.tmp 4, .tmp 21]⟩,
        ⟨some 5, none, .rd .mov [.pv (.int .i64 5)]⟩] L14)
     (.ret))
    (.skip)))
  (.seq (.region false [⟨some 22, none, .rd (.fldAddr 1) [.tmp 2]⟩,
     ⟨some 23, none, .rd (.load none) [.tmp 22]⟩,
     ⟨some 24, none, .call (.pv (.fn 41 [] [])) [.tmp 23]⟩,
     ⟨some 7, none, .rd .mov [.tmp 24]⟩] L14)
  (.seq (.seq (.region false [⟨some 25, none, .rd .mov [.tmp 7]⟩,
      ⟨some 26, none, .rd (.nilEq false 1) [.tmp 25, .pv .nilMap]⟩] L14)
   (.cond (.tmp 26)
    (.region false [⟨some 27, none, .eff (.mmk .str) []⟩,
       ⟨some 7, none, .rd .mov [.tmp 27]⟩] L14)
    (.skip)))
  (.seq (.seq (.region false [⟨some 28, none, .rd .mov [.tmp 1]⟩,
      ⟨some 29, none, .rd .lenL [.tmp 28]⟩,
      ⟨some 30, none, .rd .mov [.pv (.int .i64 0)]⟩] L14)
   (.block 0
    (.loop
      (.seq (.region false [⟨some 31, none, .rd (.bin .lss) [.tmp 30, .tmp 29]⟩] L14)
       (.seq (.cond (.tmp 31)
         (.skip)
         (.exit 0))
       (.seq (.block 1
         (.seq (.region false [⟨some 32, none, .rd (.idxAddr (some 4)) [.tmp 28, .tmp 30]⟩,
             ⟨some 33, none, .rd (.load (some 4)) [.tmp 32]⟩,
             ⟨some 9, none, .eff (.alloc (some 4) (.agg [(.str []), (.str []), (.int .i64 0), (.str [])])) []⟩,
             ⟨none, none, .eff (.store (some 4)) [.tmp 9, .tmp 33]⟩] L14)
          (.seq (.region false [⟨some 34, none, .rd .mov [.tmp 7]⟩,
             ⟨some 35, none, .rd (.fldAddr 0) [.tmp 9]⟩,
             ⟨some 36, none, .rd (.load none) [.tmp 35]⟩,
             ⟨some 37, none, .rd (.look .str false (.int .i64 0)) [.tmp 34, .tmp 36]⟩,
             ⟨some 38, none, .rd (.fldAddr 2) [.tmp 9]⟩,
             ⟨some 39, none, .rd (.load none) [.tmp 38]⟩,
             ⟨some 40, none, .rd (.bin .add) [.tmp 37, .tmp 39]⟩,
             ⟨none, none, .eff (.mupd .str) [.tmp 34, .tmp 36, .tmp 40]⟩] L14)
          (.seq (.region false [⟨some 41, none, .rd .mov [.tmp 7]⟩,
             ⟨some 42, none, .rd (.fldAddr 1) [.tmp 9]⟩,
             ⟨some 43, none, .rd (.load none) [.tmp 42]⟩,
             ⟨some 44, none, .rd (.look .str false (.int .i64 0)) [.tmp 41, .tmp 43]⟩,
             ⟨some 45, none, .rd (.fldAddr 2) [.tmp 9]⟩,
             ⟨some 46, none, .rd (.load none) [.tmp 45]⟩,
             ⟨some 47, none, .rd (.bin .sub) [.tmp 44, .tmp 46]⟩,
             ⟨none, none, .eff (.mupd .str) [.tmp 41, .tmp 43, .tmp 47]⟩] L14)
          (.seq (.region false [⟨some 48, none, .rd .mov [.tmp 7]⟩,
             ⟨some 49, none, .rd (.fldAddr 0) [.tmp 9]⟩,
             ⟨some 50, none, .rd (.load none) [.tmp 49]⟩,
             ⟨some 51, none, .rd (.look .str false (.int .i64 0)) [.tmp 48, .tmp 50]⟩,
             ⟨some 52, none, .rd (.bin .gtr) [.tmp 51, .pv (.int .i64 1125899906842624)]⟩,
             ⟨some 53, none, .rd .mov [.tmp 52]⟩,
             ⟨some 54, some (53, false), .rd .mov [.tmp 7]⟩,
             ⟨some 55, some (53, false), .rd (.fldAddr 1) [.tmp 9]⟩,
             ⟨some 56, some (53, false), .rd (.load none) [.tmp 55]⟩,
             ⟨some 57, some (53, false), .rd (.look .str false (.int .i64 0)) [.tmp 54, .tmp 56]⟩,
             ⟨some 58, some (53, false), .rd (.bin .lss) [.tmp 57, .pv (.int .i64 (-1125899906842624))]⟩,
             ⟨some 59, none, .rd .pick [.tmp 53, .pv (.bool true), .tmp 58]⟩] L14)
          (.cond (.tmp 59)
           (.seq (.region false [⟨some 60, none, .rd (.load (some 2)) [.tmp 2]⟩,
               ⟨none, none, .eff (.store (some 2)) [.tmp 4, .tmp 60]⟩,
               ⟨some 5, none, .rd .mov [.pv (.int .i64 9)]⟩] L14)
            (.ret))
           (.skip)))))))
       (.region false [⟨some 61, none, .rd (.bin .add) [.tmp 30, .pv (.int .i64 1)]⟩,
         ⟨some 30, none, .rd .mov [.tmp 61]⟩] L14)))))))
  (.seq (.region false [⟨some 62, none, .rd (.fldAddr 0) [.tmp 2]⟩,
     ⟨some 63, none, .rd (.load none) [.tmp 62]⟩,
     ⟨some 64, none, .rd .lenL [.tmp 63]⟩,
     ⟨some 10, none, .rd .mov [.tmp 64]⟩] L14)
  (.seq (.regionA (.alt [⟨some 65, none, .rd (.fldAddr 0) [.tmp 2]⟩,
      ⟨some 67, none, .rd .mov [.tmp 10]⟩,
      ⟨some 68, none, .rd .mov [.tmp 10]⟩,
      ⟨some 70, none, .rd .mov [.tmp 1]⟩,
      ⟨some 74, none, .rd .mov [.tmp 7]⟩]
     (.alt [⟨some 66, none, .rd (.load none) [.tmp 65]⟩,
       ⟨some 69, none, .rd (.slc none false true true) [.tmp 66, .tmp 67, .tmp 68]⟩,
       ⟨some 71, none, .call (.pv (.fn 42 [] [])) [.tmp 70]⟩,
       ⟨some 72, none, .eff (.lit none false) [.tmp 71]⟩,
       ⟨some 73, none, .eff (.append none 24) [.tmp 69, .tmp 72]⟩,
       ⟨some 75, none, .rd (.build [.nilSl, .nilMap] [(0, 1), (1, 1)]) [.tmp 73, .tmp 74]⟩,
       ⟨none, none, .eff (.store (some 2)) [.tmp 4, .tmp 75]⟩,
       ⟨some 5, none, .rd .mov [.pv (.int .i64 0)]⟩]
      .done
      (.alt [⟨some 71, none, .call (.pv (.fn 42 [] [])) [.tmp 70]⟩]
       (.alt [⟨some 66, none, .rd (.load none) [.tmp 65]⟩,
         ⟨some 69, none, .rd (.slc none false true true) [.tmp 66, .tmp 67, .tmp 68]⟩,
         ⟨some 72, none, .eff (.lit none false) [.tmp 71]⟩,
         ⟨some 73, none, .eff (.append none 24) [.tmp 69, .tmp 72]⟩,
         ⟨some 75, none, .rd (.build [.nilSl, .nilMap] [(0, 1), (1, 1)]) [.tmp 73, .tmp 74]⟩,
         ⟨none, none, .eff (.store (some 2)) [.tmp 4, .tmp 75]⟩,
         ⟨some 5, none, .rd .mov [.pv (.int .i64 0)]⟩]
        .done
        (.alt [⟨some 72, none, .eff (.lit none false) [.tmp 71]⟩,
          ⟨some 66, none, .rd (.load none) [.tmp 65]⟩,
          ⟨some 69, none, .rd (.slc none false true true) [.tmp 66, .tmp 67, .tmp 68]⟩,
          ⟨some 73, none, .eff (.append none 24) [.tmp 69, .tmp 72]⟩,
          ⟨some 75, none, .rd (.build [.nilSl, .nilMap] [(0, 1), (1, 1)]) [.tmp 73, .tmp 74]⟩,
          ⟨none, none, .eff (.store (some 2)) [.tmp 4, .tmp 75]⟩,
          ⟨some 5, none, .rd .mov [.pv (.int .i64 0)]⟩]
         .done
         .stop))
       .stop))
     .stop) L14)
  (.ret)))))))),
  [.cell 4 (some 2), .tmp 5]⟩

-- wagebook/wagebookref33.Wrong
def L15 : List Nat := [0, 2, 3, 4, 5, 8, 11, 15, 31, 36, 44, 48, 53, 67]
def c15 : CF := ⟨68,
  .seq (.region false [⟨some 2, none, .rd .mov [.pv (.int .i64 0)]⟩] L15)
  (.seq (.seq (.region false [⟨some 6, none, .rd .mov [.tmp 0]⟩,
      ⟨some 7, none, .rd .lenL [.tmp 6]⟩,
      ⟨some 8, none, .rd (.bin .eql) [.tmp 7, .pv (.int .i64 0)]⟩] L15)
   (.cond (.tmp 8)
    (.seq (.region false [⟨some 2, none, .rd .mov [.pv (.int .i64 10)]⟩] L15)
     (.ret))
    (.skip)))
  (.seq (.seq (.region false [⟨some 9, none, .rd .mov [.tmp 0]⟩,
      ⟨some 10, none, .rd .lenL [.tmp 9]⟩,
      ⟨some 11, none, .rd (.bin .gtr) [.tmp 10, .pv (.int .i64 65536)]⟩] L15)
   (.cond (.tmp 11)
    (.seq (.region false [⟨some 2, none, .rd .mov [.pv (.int .i64 5)]⟩] L15)
     (.ret))
    (.skip)))
  (.seq (.seq (.region false [⟨some 3, none, .rd .mov [.pv (.int .i64 0)]⟩] L15)
   (.block 0
    (.loop
      (.seq (.seq (.region false [⟨some 12, none, .rd .mov [.tmp 3]⟩,
           ⟨some 13, none, .rd .mov [.tmp 0]⟩,
           ⟨some 14, none, .rd .lenL [.tmp 13]⟩,
           ⟨some 15, none, .rd (.bin .lss) [.tmp 12, .tmp 14]⟩] L15)
        (.cond (.tmp 15)
         (.skip)
         (.exit 0)))
       (.seq (.block 1
         (.seq (.region false [⟨some 18, none, .rd .mov [.tmp 0]⟩,
             ⟨some 19, none, .rd .mov [.tmp 3]⟩,
             ⟨some 20, none, .rd (.idxAddr (some 4)) [.tmp 18, .tmp 19]⟩,
             ⟨some 21, none, .rd (.load (some 4)) [.tmp 20]⟩,
             ⟨some 4, none, .eff (.alloc (some 4) (.agg [(.str []), (.str []), (.int .i64 0), (.str [])])) []⟩,
             ⟨none, none, .eff (.store (some 4)) [.tmp 4, .tmp 21]⟩] L15)
          (.seq (.seq (.region false [⟨some 22, none, .rd (.fldAddr 0) [.tmp 4]⟩,
              ⟨some 23, none, .rd (.load none) [.tmp 22]⟩,
              ⟨some 24, none, .call (.pv (.fn 43 [] [])) [.tmp 23]⟩,
              ⟨some 25, none, .rd (.un .not) [.tmp 24]⟩,
              ⟨some 26, none, .rd .mov [.tmp 25]⟩,
              ⟨some 27, some (26, false), .rd (.fldAddr 1) [.tmp 4]⟩,
              ⟨some 28, some (26, false), .rd (.load none) [.tmp 27]⟩,
              ⟨some 29, some (26, false), .call (.pv (.fn 43 [] [])) [.tmp 28]⟩,
              ⟨some 30, some (26, false), .rd (.un .not) [.tmp 29]⟩,
              ⟨some 31, none, .rd .pick [.tmp 26, .pv (.bool true), .tmp 30]⟩] L15)
           (.cond (.tmp 31)
            (.seq (.region false [⟨some 2, none, .rd .mov [.pv (.int .i64 12)]⟩] L15)
             (.ret))
            (.skip)))
          (.seq (.seq (.region false [⟨some 32, none, .rd (.fldAddr 0) [.tmp 4]⟩,
              ⟨some 33, none, .rd (.load none) [.tmp 32]⟩,
              ⟨some 34, none, .rd (.fldAddr 1) [.tmp 4]⟩,
              ⟨some 35, none, .rd (.load none) [.tmp 34]⟩,
              ⟨some 36, none, .rd (.bin .eql) [.tmp 33, .tmp 35]⟩] L15)
           (.cond (.tmp 36)
            (.seq (.region false [⟨some 2, none, .rd .mov [.pv (.int .i64 7)]⟩] L15)
             (.ret))
            (.skip)))
          (.seq (.seq (.region false [⟨some 37, none, .rd (.fldAddr 2) [.tmp 4]⟩,
              ⟨some 38, none, .rd (.load none) [.tmp 37]⟩,
              ⟨some 39, none, .rd (.bin .lss) [.tmp 38, .pv (.int .i64 1)]⟩,
              ⟨some 40, none, .rd .mov [.tmp 39]⟩,
              ⟨some 41, some (40, false), .rd (.fldAddr 2) [.tmp 4]⟩,
              ⟨some 42, some (40, false), .rd (.load none) [.tmp 41]⟩,
              ⟨some 43, some (40, false), .rd (.bin .gtr) [.tmp 42, .pv (.int .i64 1125899906842624)]⟩,
              ⟨some 44, none, .rd .pick [.tmp 40, .pv (.bool true), .tmp 43]⟩] L15)
           (.cond (.tmp 44)
            (.seq (.region false [⟨some 2, none, .rd .mov [.pv (.int .i64 2)]⟩] L15)
             (.ret))
            (.skip)))
          (.seq (.seq (.region false [⟨some 45, none, .rd (.fldAddr 3) [.tmp 4]⟩,
              ⟨some 46, none, .rd (.load none) [.tmp 45]⟩,
              ⟨some 47, none, .rd .lenS [.tmp 46]⟩,
              ⟨some 48, none, .rd (.bin .gtr) [.tmp 47, .pv (.int .i64 64)]⟩] L15)
           (.cond (.tmp 48)
            (.seq (.region false [⟨some 2, none, .rd .mov [.pv (.int .i64 3)]⟩] L15)
             (.ret))
            (.skip)))
          (.seq (.region false [⟨some 5, none, .rd .mov [.pv (.int .i64 0)]⟩] L15)
          (.block 2
           (.loop
             (.seq (.seq (.region false [⟨some 49, none, .rd .mov [.tmp 5]⟩,
                  ⟨some 50, none, .rd (.fldAddr 3) [.tmp 4]⟩,
                  ⟨some 51, none, .rd (.load none) [.tmp 50]⟩,
                  ⟨some 52, none, .rd .lenS [.tmp 51]⟩,
                  ⟨some 53, none, .rd (.bin .lss) [.tmp 49, .tmp 52]⟩] L15)
               (.cond (.tmp 53)
                (.skip)
                (.exit 2)))
              (.seq (.block 3
                (.seq (.region false [⟨some 56, none, .rd (.fldAddr 3) [.tmp 4]⟩,
                    ⟨some 57, none, .rd (.load none) [.tmp 56]⟩,
                    ⟨some 58, none, .rd .mov [.tmp 5]⟩,
                    ⟨some 59, none, .rd .idxS [.tmp 57, .tmp 58]⟩,
                    ⟨some 60, none, .rd (.bin .lss) [.tmp 59, .pv (.int .u8 32)]⟩,
                    ⟨some 61, none, .rd .mov [.tmp 60]⟩,
                    ⟨some 62, some (61, false), .rd (.fldAddr 3) [.tmp 4]⟩,
                    ⟨some 63, some (61, false), .rd (.load none) [.tmp 62]⟩,
                    ⟨some 64, some (61, false), .rd .mov [.tmp 5]⟩,
                    ⟨some 65, some (61, false), .rd .idxS [.tmp 63, .tmp 64]⟩,
                    ⟨some 66, some (61, false), .rd (.bin .gtr) [.tmp 65, .pv (.int .u8 126)]⟩,
                    ⟨some 67, none, .rd .pick [.tmp 61, .pv (.bool true), .tmp 66]⟩] L15)
                 (.cond (.tmp 67)
                  (.seq (.region false [⟨some 2, none, .rd .mov [.pv (.int .i64 3)]⟩] L15)
                   (.ret))
                  (.skip))))
              (.region false [⟨some 54, none, .rd .mov [.tmp 5]⟩,
                ⟨some 55, none, .rd (.bin .add) [.tmp 54, .pv (.int .i64 1)]⟩,
                ⟨some 5, none, .rd .mov [.tmp 55]⟩] L15))))))))))))
       (.region false [⟨some 16, none, .rd .mov [.tmp 3]⟩,
         ⟨some 17, none, .rd (.bin .add) [.tmp 16, .pv (.int .i64 1)]⟩,
         ⟨some 3, none, .rd .mov [.tmp 17]⟩] L15))))))
  (.seq (.region false [⟨some 2, none, .rd .mov [.pv (.int .i64 0)]⟩] L15)
  (.ret))))),
  [.tmp 2]⟩

-- wagebook/wagebooklaw33.Of
def L16 : List Nat := [0, 2, 3, 5, 6, 7, 8, 9]
def c16 : CF := ⟨26,
  .seq (.region false [⟨some 2, none, .rd .mov [.pv .nilSl]⟩] L16)
  (.seq (.region false [⟨some 3, none, .rd .mov [.pv .nilSl]⟩] L16)
  (.seq (.seq (.region false [⟨some 6, none, .rd .mov [.tmp 0]⟩,
      ⟨some 7, none, .rd .lenL [.tmp 6]⟩,
      ⟨some 8, none, .rd .mov [.pv (.int .i64 0)]⟩] L16)
   (.block 0
    (.loop
      (.seq (.region false [⟨some 9, none, .rd (.bin .lss) [.tmp 8, .tmp 7]⟩] L16)
       (.seq (.cond (.tmp 9)
         (.skip)
         (.exit 0))
       (.seq (.block 1
         (.seq (.region false [⟨some 10, none, .rd (.idxAddr (some 4)) [.tmp 6, .tmp 8]⟩,
             ⟨some 11, none, .rd (.load (some 4)) [.tmp 10]⟩,
             ⟨some 5, none, .eff (.alloc (some 4) (.agg [(.str []), (.str []), (.int .i64 0), (.str [])])) []⟩,
             ⟨none, none, .eff (.store (some 4)) [.tmp 5, .tmp 11]⟩] L16)
          (.region false [⟨some 12, none, .rd .mov [.tmp 3]⟩,
            ⟨some 13, none, .rd (.fldAddr 0) [.tmp 5]⟩,
            ⟨some 14, none, .rd (.load none) [.tmp 13]⟩,
            ⟨some 15, none, .rd (.fldAddr 1) [.tmp 5]⟩,
            ⟨some 16, none, .rd (.load none) [.tmp 15]⟩,
            ⟨some 17, none, .rd (.fldAddr 2) [.tmp 5]⟩,
            ⟨some 18, none, .rd (.load none) [.tmp 17]⟩,
            ⟨some 19, none, .rd (.fldAddr 3) [.tmp 5]⟩,
            ⟨some 20, none, .rd (.load none) [.tmp 19]⟩,
            ⟨some 21, none, .rd (.build [(.str []), (.str []), (.int .i64 0), (.str [])] [(0, 1), (1, 1), (2, 1), (3, 1)]) [.tmp 14, .tmp 16, .tmp 18, .tmp 20]⟩,
            ⟨some 22, none, .eff (.lit (some 4) false) [.tmp 21]⟩,
            ⟨some 23, none, .eff (.append (some 4) 56) [.tmp 12, .tmp 22]⟩,
            ⟨some 3, none, .rd .mov [.tmp 23]⟩] L16)))
       (.region false [⟨some 24, none, .rd (.bin .add) [.tmp 8, .pv (.int .i64 1)]⟩,
         ⟨some 8, none, .rd .mov [.tmp 24]⟩] L16)))))))
  (.seq (.region false [⟨some 25, none, .rd .mov [.tmp 3]⟩,
     ⟨some 2, none, .rd .mov [.tmp 25]⟩] L16)
  (.ret)))),
  [.tmp 2]⟩

-- (wagebook/ledger.Ledger).Len
def L17 : List Nat := [0, 1, 2]
def c17 : CF := ⟨6,
  .seq (.region false [⟨some 1, none, .eff (.box (some 2)) [.tmp 0]⟩,
     ⟨some 2, none, .rd .mov [.pv (.int .i64 0)]⟩] L17)
  (.seq (.region false [⟨some 3, none, .rd (.fldAddr 0) [.tmp 1]⟩,
     ⟨some 4, none, .rd (.load none) [.tmp 3]⟩,
     ⟨some 5, none, .rd .lenL [.tmp 4]⟩,
     ⟨some 2, none, .rd .mov [.tmp 5]⟩] L17)
  (.ret)),
  [.tmp 2]⟩

-- (wagebook/ledger.Ledger).Trial
def L18 : List Nat := [0, 1, 2, 3, 5, 8, 10]
def c18 : CF := ⟨17,
  .seq (.region false [⟨some 1, none, .eff (.box (some 2)) [.tmp 0]⟩,
     ⟨some 2, none, .rd .mov [.pv (.int .i64 0)]⟩] L18)
  (.seq (.region false [⟨some 3, none, .rd .mov [.pv (.int .i64 0)]⟩] L18)
  (.seq (.seq (.region false [⟨some 6, none, .rd (.fldAddr 1) [.tmp 1]⟩,
      ⟨some 7, none, .rd (.load none) [.tmp 6]⟩,
      ⟨some 8, none, .eff (.rng .str) [.tmp 7]⟩] L18)
   (.block 0
    (.loop
      (.seq (.region false [⟨some 9, none, .eff .nxt [.tmp 8]⟩,
          ⟨some 10, none, .rd (.ext 0) [.tmp 9]⟩] L18)
       (.seq (.cond (.tmp 10)
         (.skip)
         (.exit 0))
       (.block 1
        (.seq (.region false [⟨some 11, none, .eff .ent [.tmp 8]⟩,
            ⟨some 12, none, .rd (.ext 1) [.tmp 11]⟩,
            ⟨some 5, none, .rd .mov [.tmp 12]⟩] L18)
         (.region false [⟨some 13, none, .rd .mov [.tmp 3]⟩,
           ⟨some 14, none, .rd .mov [.tmp 5]⟩,
           ⟨some 15, none, .rd (.bin .add) [.tmp 13, .tmp 14]⟩,
           ⟨some 3, none, .rd .mov [.tmp 15]⟩] L18))))))))
  (.seq (.region false [⟨some 16, none, .rd .mov [.tmp 3]⟩,
     ⟨some 2, none, .rd .mov [.tmp 16]⟩] L18)
  (.ret)))),
  [.tmp 2]⟩

-- (wagebook/ledger.Ledger).Balance
def L19 : List Nat := [0, 1, 2, 4]
def c19 : CF := ⟨9,
  .seq (.region false [⟨some 2, none, .eff (.box (some 2)) [.tmp 0]⟩,
     ⟨some 4, none, .rd .mov [.pv (.int .i64 0)]⟩] L19)
  (.seq (.region false [⟨some 5, none, .rd (.fldAddr 1) [.tmp 2]⟩,
     ⟨some 6, none, .rd (.load none) [.tmp 5]⟩,
     ⟨some 7, none, .rd .mov [.tmp 1]⟩,
     ⟨some 8, none, .rd (.look .str false (.int .i64 0)) [.tmp 6, .tmp 7]⟩,
     ⟨some 4, none, .rd .mov [.tmp 8]⟩] L19)
  (.ret)),
  [.tmp 4]⟩

-- wagebook/ledger.batch
def L40 : List Nat := [0, 2, 4, 5, 6, 10, 14, 15, 16, 17, 23]
def c40 : CF := ⟨26,
  .seq (.region false [⟨some 2, none, .rd .mov [.pv (.int .i64 0)]⟩] L40)
  (.seq (.block 0
    (.seq (.region false [⟨some 7, none, .rd .mov [.tmp 0]⟩,
        ⟨some 8, none, .rd .lenL [.tmp 7]⟩,
        ⟨some 9, none, .rd (.bin .eql) [.tmp 8, .pv (.int .i64 0)]⟩,
        ⟨some 6, none, .rd .mov [.tmp 9]⟩] L40)
     (.cond (.tmp 6)
      (.seq (.region false [⟨some 2, none, .rd .mov [.pv (.int .i64 10)]⟩] L40)
       (.ret))
      (.seq (.region false [⟨some 11, none, .rd .mov [.tmp 0]⟩,
          ⟨some 12, none, .rd .lenL [.tmp 11]⟩,
          ⟨some 13, none, .rd (.bin .gtr) [.tmp 12, .pv (.int .i64 65536)]⟩,
          ⟨some 10, none, .rd .mov [.tmp 13]⟩] L40)
       (.cond (.tmp 10)
        (.seq (.region false [⟨some 2, none, .rd .mov [.pv (.int .i64 5)]⟩] L40)
         (.ret))
        (.skip))))))
  (.seq (.seq (.region false [⟨some 14, none, .rd .mov [.tmp 0]⟩,
      ⟨some 15, none, .rd .lenL [.tmp 14]⟩,
      ⟨some 16, none, .rd .mov [.pv (.int .i64 0)]⟩] L40)
   (.block 1
    (.loop
      (.seq (.region false [⟨some 17, none, .rd (.bin .lss) [.tmp 16, .tmp 15]⟩] L40)
       (.seq (.cond (.tmp 17)
         (.skip)
         (.exit 1))
       (.seq (.block 2
         (.seq (.region false [⟨some 18, none, .rd (.idxAddr (some 4)) [.tmp 14, .tmp 16]⟩,
             ⟨some 19, none, .rd (.load (some 4)) [.tmp 18]⟩,
             ⟨some 4, none, .eff (.alloc (some 4) (.agg [(.str []), (.str []), (.int .i64 0), (.str [])])) []⟩,
             ⟨none, none, .eff (.store (some 4)) [.tmp 4, .tmp 19]⟩] L40)
          (.seq (.region false [⟨some 20, none, .rd (.load (some 4)) [.tmp 4]⟩,
             ⟨some 21, none, .call (.pv (.fn 54 [] [])) [.tmp 20]⟩,
             ⟨some 5, none, .rd .mov [.tmp 21]⟩] L40)
          (.seq (.region false [⟨some 22, none, .rd .mov [.tmp 5]⟩,
             ⟨some 23, none, .rd (.bin .neq) [.tmp 22, .pv (.int .i64 0)]⟩] L40)
          (.cond (.tmp 23)
           (.seq (.region false [⟨some 24, none, .rd .mov [.tmp 5]⟩,
               ⟨some 2, none, .rd .mov [.tmp 24]⟩] L40)
            (.ret))
           (.skip))))))
       (.region false [⟨some 25, none, .rd (.bin .add) [.tmp 16, .pv (.int .i64 1)]⟩,
         ⟨some 16, none, .rd .mov [.tmp 25]⟩] L40)))))))
  (.seq (.region false [⟨some 2, none, .rd .mov [.pv (.int .i64 0)]⟩] L40)
  (.ret)))),
  [.tmp 2]⟩

-- slices.Clone[[]wagebook/ledger.Entry,wagebook/ledger.Entry]
def L42 : List Nat := [0, 2, 4]
def c42 : CF := ⟨8,
  .seq (.region false [⟨some 2, none, .rd .mov [.pv .nilSl]⟩] L42)
  (.seq (.seq (.region false [⟨some 3, none, .rd .mov [.tmp 0]⟩,
      ⟨some 4, none, .rd (.nilEq false 0) [.tmp 3, .pv .nilSl]⟩] L42)
   (.cond (.tmp 4)
    (.seq (.region false [⟨some 2, none, .rd .mov [.pv .nilSl]⟩] L42)
     (.ret))
    (.skip)))
  (.seq (.region false [⟨some 5, none, .eff (.lit (some 4) true) []⟩,
     ⟨some 6, none, .rd .mov [.tmp 0]⟩,
     ⟨some 7, none, .eff (.append (some 4) 56) [.tmp 5, .tmp 6]⟩,
     ⟨some 2, none, .rd .mov [.tmp 7]⟩] L42)
  (.ret))),
  [.tmp 2]⟩

-- wagebook/wagebookref33.Account
def L43 : List Nat := [0, 2, 3, 4, 5, 6, 10, 17, 19, 47, 51]
def c43 : CF := ⟨58,
  .seq (.region false [⟨some 2, none, .rd .mov [.pv (.bool false)]⟩] L43)
  (.seq (.region false [⟨some 3, none, .rd .mov [.pv (.int .i64 1)]⟩,
     ⟨some 4, none, .rd .mov [.pv (.int .i64 0)]⟩] L43)
  (.seq (.seq (.region false [⟨some 5, none, .rd .mov [.pv (.int .i64 0)]⟩] L43)
   (.block 0
    (.loop
      (.seq (.seq (.region false [⟨some 7, none, .rd .mov [.tmp 5]⟩,
           ⟨some 8, none, .rd .mov [.tmp 0]⟩,
           ⟨some 9, none, .rd .lenS [.tmp 8]⟩,
           ⟨some 10, none, .rd (.bin .lss) [.tmp 7, .tmp 9]⟩] L43)
        (.cond (.tmp 10)
         (.skip)
         (.exit 0)))
       (.seq (.block 1
         (.seq (.region false [⟨some 13, none, .rd .mov [.tmp 0]⟩,
             ⟨some 14, none, .rd .mov [.tmp 5]⟩,
             ⟨some 15, none, .rd .idxS [.tmp 13, .tmp 14]⟩,
             ⟨some 6, none, .rd .mov [.tmp 15]⟩] L43)
          (.seq (.seq (.region false [⟨some 16, none, .rd .mov [.tmp 6]⟩,
              ⟨some 17, none, .rd (.bin .eql) [.tmp 16, .pv (.int .u8 47)]⟩] L43)
           (.cond (.tmp 17)
            (.seq (.seq (.region false [⟨some 18, none, .rd .mov [.tmp 4]⟩,
                 ⟨some 19, none, .rd (.bin .eql) [.tmp 18, .pv (.int .i64 0)]⟩] L43)
              (.cond (.tmp 19)
               (.seq (.region false [⟨some 2, none, .rd .mov [.pv (.bool false)]⟩] L43)
                (.ret))
               (.skip)))
             (.seq (.region false [⟨some 20, none, .rd .mov [.tmp 3]⟩,
                ⟨some 21, none, .rd (.bin .add) [.tmp 20, .pv (.int .i64 1)]⟩,
                ⟨some 3, none, .rd .mov [.tmp 21]⟩,
                ⟨some 4, none, .rd .mov [.pv (.int .i64 0)]⟩] L43)
             (.exit 1)))
            (.skip)))
          (.seq (.seq (.region false [⟨some 22, none, .rd .mov [.tmp 6]⟩,
              ⟨some 23, none, .rd (.bin .lss) [.tmp 22, .pv (.int .u8 97)]⟩,
              ⟨some 24, none, .rd .mov [.tmp 23]⟩,
              ⟨some 25, some (24, false), .rd .mov [.tmp 6]⟩,
              ⟨some 26, some (24, false), .rd (.bin .gtr) [.tmp 25, .pv (.int .u8 122)]⟩,
              ⟨some 27, none, .rd .pick [.tmp 24, .pv (.bool true), .tmp 26]⟩,
              ⟨some 28, none, .rd .mov [.tmp 27]⟩,
              ⟨some 29, some (28, true), .rd .mov [.tmp 6]⟩,
              ⟨some 30, some (28, true), .rd (.bin .lss) [.tmp 29, .pv (.int .u8 48)]⟩,
              ⟨some 31, some (28, true), .rd .mov [.tmp 30]⟩,
              ⟨some 32, some (31, false), .rd .mov [.tmp 6]⟩,
              ⟨some 33, some (31, false), .rd (.bin .gtr) [.tmp 32, .pv (.int .u8 57)]⟩,
              ⟨some 34, some (28, true), .rd .pick [.tmp 31, .pv (.bool true), .tmp 33]⟩,
              ⟨some 35, none, .rd .pick [.tmp 28, .tmp 34, .pv (.bool false)]⟩,
              ⟨some 36, none, .rd .mov [.tmp 35]⟩,
              ⟨some 37, some (36, true), .rd .mov [.tmp 6]⟩,
              ⟨some 38, some (36, true), .rd (.bin .neq) [.tmp 37, .pv (.int .u8 46)]⟩,
              ⟨some 39, none, .rd .pick [.tmp 36, .tmp 38, .pv (.bool false)]⟩,
              ⟨some 40, none, .rd .mov [.tmp 39]⟩,
              ⟨some 41, some (40, true), .rd .mov [.tmp 6]⟩,
              ⟨some 42, some (40, true), .rd (.bin .neq) [.tmp 41, .pv (.int .u8 95)]⟩,
              ⟨some 43, none, .rd .pick [.tmp 40, .tmp 42, .pv (.bool false)]⟩,
              ⟨some 44, none, .rd .mov [.tmp 43]⟩,
              ⟨some 45, some (44, true), .rd .mov [.tmp 6]⟩,
              ⟨some 46, some (44, true), .rd (.bin .neq) [.tmp 45, .pv (.int .u8 45)]⟩,
              ⟨some 47, none, .rd .pick [.tmp 44, .tmp 46, .pv (.bool false)]⟩] L43)
           (.cond (.tmp 47)
            (.seq (.region false [⟨some 2, none, .rd .mov [.pv (.bool false)]⟩] L43)
             (.ret))
            (.skip)))
          (.seq (.region false [⟨some 48, none, .rd .mov [.tmp 4]⟩,
             ⟨some 49, none, .rd (.bin .add) [.tmp 48, .pv (.int .i64 1)]⟩,
             ⟨some 4, none, .rd .mov [.tmp 49]⟩] L43)
          (.seq (.region false [⟨some 50, none, .rd .mov [.tmp 4]⟩,
             ⟨some 51, none, .rd (.bin .gtr) [.tmp 50, .pv (.int .i64 32)]⟩] L43)
          (.cond (.tmp 51)
           (.seq (.region false [⟨some 2, none, .rd .mov [.pv (.bool false)]⟩] L43)
            (.ret))
           (.skip))))))))
       (.region false [⟨some 11, none, .rd .mov [.tmp 5]⟩,
         ⟨some 12, none, .rd (.bin .add) [.tmp 11, .pv (.int .i64 1)]⟩,
         ⟨some 5, none, .rd .mov [.tmp 12]⟩] L43))))))
  (.seq (.region false [⟨some 52, none, .rd .mov [.tmp 4]⟩,
     ⟨some 53, none, .rd (.bin .gtr) [.tmp 52, .pv (.int .i64 0)]⟩,
     ⟨some 54, none, .rd .mov [.tmp 53]⟩,
     ⟨some 55, some (54, true), .rd .mov [.tmp 3]⟩,
     ⟨some 56, some (54, true), .rd (.bin .leq) [.tmp 55, .pv (.int .i64 3)]⟩,
     ⟨some 57, none, .rd .pick [.tmp 54, .tmp 56, .pv (.bool false)]⟩,
     ⟨some 2, none, .rd .mov [.tmp 57]⟩] L43)
  (.ret)))),
  [.tmp 2]⟩

-- (wagebook/ledger.Entry).check
def L54 : List Nat := [0, 1, 2, 3, 12, 18, 27]
def c54 : CF := ⟨32,
  .seq (.region false [⟨some 1, none, .eff (.box (some 4)) [.tmp 0]⟩,
     ⟨some 2, none, .rd .mov [.pv (.int .i64 0)]⟩] L54)
  (.seq (.block 0
    (.seq (.seq (.region false [⟨some 4, none, .rd (.fldAddr 0) [.tmp 1]⟩,
         ⟨some 5, none, .rd (.load none) [.tmp 4]⟩,
         ⟨some 6, none, .call (.pv (.fn 61 [] [])) [.tmp 5]⟩,
         ⟨some 7, none, .rd (.un .not) [.tmp 6]⟩,
         ⟨some 3, none, .rd .mov [.tmp 7]⟩] L54)
      (.cond (.tmp 3)
       (.skip)
       (.region false [⟨some 8, none, .rd (.fldAddr 1) [.tmp 1]⟩,
          ⟨some 9, none, .rd (.load none) [.tmp 8]⟩,
          ⟨some 10, none, .call (.pv (.fn 61 [] [])) [.tmp 9]⟩,
          ⟨some 11, none, .rd (.un .not) [.tmp 10]⟩,
          ⟨some 3, none, .rd .mov [.tmp 11]⟩] L54)))
     (.cond (.tmp 3)
      (.seq (.region false [⟨some 2, none, .rd .mov [.pv (.int .i64 12)]⟩] L54)
       (.ret))
      (.seq (.region false [⟨some 13, none, .rd (.fldAddr 0) [.tmp 1]⟩,
          ⟨some 14, none, .rd (.load none) [.tmp 13]⟩,
          ⟨some 15, none, .rd (.fldAddr 1) [.tmp 1]⟩,
          ⟨some 16, none, .rd (.load none) [.tmp 15]⟩,
          ⟨some 17, none, .rd (.bin .eql) [.tmp 14, .tmp 16]⟩,
          ⟨some 12, none, .rd .mov [.tmp 17]⟩] L54)
       (.cond (.tmp 12)
        (.seq (.region false [⟨some 2, none, .rd .mov [.pv (.int .i64 7)]⟩] L54)
         (.ret))
        (.seq (.region false [⟨some 19, none, .rd (.fldAddr 2) [.tmp 1]⟩,
            ⟨some 20, none, .rd (.load none) [.tmp 19]⟩,
            ⟨some 21, none, .rd (.bin .lss) [.tmp 20, .pv (.int .i64 1)]⟩,
            ⟨some 22, none, .rd .mov [.tmp 21]⟩,
            ⟨some 23, some (22, false), .rd (.fldAddr 2) [.tmp 1]⟩,
            ⟨some 24, some (22, false), .rd (.load none) [.tmp 23]⟩,
            ⟨some 25, some (22, false), .rd (.bin .gtr) [.tmp 24, .pv (.int .i64 1125899906842624)]⟩,
            ⟨some 26, none, .rd .pick [.tmp 22, .pv (.bool true), .tmp 25]⟩,
            ⟨some 18, none, .rd .mov [.tmp 26]⟩] L54)
         (.cond (.tmp 18)
          (.seq (.region false [⟨some 2, none, .rd .mov [.pv (.int .i64 2)]⟩] L54)
           (.ret))
          (.seq (.region false [⟨some 28, none, .rd (.fldAddr 3) [.tmp 1]⟩,
              ⟨some 29, none, .rd (.load none) [.tmp 28]⟩,
              ⟨some 30, none, .call (.pv (.fn 62 [] [])) [.tmp 29]⟩,
              ⟨some 31, none, .rd (.un .not) [.tmp 30]⟩,
              ⟨some 27, none, .rd .mov [.tmp 31]⟩] L54)
           (.cond (.tmp 27)
            (.seq (.region false [⟨some 2, none, .rd .mov [.pv (.int .i64 3)]⟩] L54)
             (.ret))
            (.skip))))))))))
  (.seq (.region false [⟨some 2, none, .rd .mov [.pv (.int .i64 0)]⟩] L54)
  (.ret))),
  [.tmp 2]⟩

-- (wagebook/ledger.Account).right
def L61 : List Nat := [0, 2, 3, 5, 10, 11, 12, 13, 14, 19]
def c61 : CF := ⟨21,
  .seq (.region false [⟨some 2, none, .rd .mov [.pv (.bool false)]⟩] L61)
  (.seq (.region false [⟨some 6, none, .rd .mov [.tmp 0]⟩,
     ⟨some 7, none, .call (.pv (.fn 63 [] [])) [.tmp 6, .pv (.str [47])]⟩,
     ⟨some 3, none, .rd .mov [.tmp 7]⟩] L61)
  (.seq (.seq (.region false [⟨some 8, none, .rd .mov [.tmp 3]⟩,
      ⟨some 9, none, .rd .lenL [.tmp 8]⟩,
      ⟨some 10, none, .rd (.bin .gtr) [.tmp 9, .pv (.int .i64 3)]⟩] L61)
   (.cond (.tmp 10)
    (.seq (.region false [⟨some 2, none, .rd .mov [.pv (.bool false)]⟩] L61)
     (.ret))
    (.skip)))
  (.seq (.seq (.region false [⟨some 11, none, .rd .mov [.tmp 3]⟩,
      ⟨some 12, none, .rd .lenL [.tmp 11]⟩,
      ⟨some 13, none, .rd .mov [.pv (.int .i64 0)]⟩] L61)
   (.block 0
    (.loop
      (.seq (.region false [⟨some 14, none, .rd (.bin .lss) [.tmp 13, .tmp 12]⟩] L61)
       (.seq (.cond (.tmp 14)
         (.skip)
         (.exit 0))
       (.seq (.block 1
         (.seq (.region false [⟨some 15, none, .rd (.idxAddr none) [.tmp 11, .tmp 13]⟩,
             ⟨some 16, none, .rd (.load none) [.tmp 15]⟩,
             ⟨some 5, none, .rd .mov [.tmp 16]⟩] L61)
          (.seq (.region false [⟨some 17, none, .rd .mov [.tmp 5]⟩,
             ⟨some 18, none, .call (.pv (.fn 67 [] [])) [.tmp 17]⟩,
             ⟨some 19, none, .rd (.un .not) [.tmp 18]⟩] L61)
          (.cond (.tmp 19)
           (.seq (.region false [⟨some 2, none, .rd .mov [.pv (.bool false)]⟩] L61)
            (.ret))
           (.skip)))))
       (.region false [⟨some 20, none, .rd (.bin .add) [.tmp 13, .pv (.int .i64 1)]⟩,
         ⟨some 13, none, .rd .mov [.tmp 20]⟩] L61)))))))
  (.seq (.region false [⟨some 2, none, .rd .mov [.pv (.bool true)]⟩] L61)
  (.ret))))),
  [.tmp 2]⟩

-- wagebook/ledger.note
def L62 : List Nat := [0, 2, 4, 7, 9, 10, 11, 12, 20]
def c62 : CF := ⟨22,
  .seq (.region false [⟨some 2, none, .rd .mov [.pv (.bool false)]⟩] L62)
  (.seq (.seq (.region false [⟨some 5, none, .rd .mov [.tmp 0]⟩,
      ⟨some 6, none, .rd .lenS [.tmp 5]⟩,
      ⟨some 7, none, .rd (.bin .gtr) [.tmp 6, .pv (.int .i64 64)]⟩] L62)
   (.cond (.tmp 7)
    (.seq (.region false [⟨some 2, none, .rd .mov [.pv (.bool false)]⟩] L62)
     (.ret))
    (.skip)))
  (.seq (.seq (.region false [⟨some 8, none, .rd .mov [.tmp 0]⟩,
      ⟨some 9, none, .eff .s2b [.tmp 8]⟩,
      ⟨some 10, none, .rd .lenL [.tmp 9]⟩,
      ⟨some 11, none, .rd .mov [.pv (.int .i64 0)]⟩] L62)
   (.block 0
    (.loop
      (.seq (.region false [⟨some 12, none, .rd (.bin .lss) [.tmp 11, .tmp 10]⟩] L62)
       (.seq (.cond (.tmp 12)
         (.skip)
         (.exit 0))
       (.seq (.block 1
         (.seq (.region false [⟨some 13, none, .rd (.idxAddr none) [.tmp 9, .tmp 11]⟩,
             ⟨some 14, none, .rd (.load none) [.tmp 13]⟩,
             ⟨some 4, none, .rd .mov [.tmp 14]⟩] L62)
          (.seq (.region false [⟨some 15, none, .rd .mov [.tmp 4]⟩,
             ⟨some 16, none, .rd (.bin .lss) [.tmp 15, .pv (.int .u8 32)]⟩,
             ⟨some 17, none, .rd .mov [.tmp 16]⟩,
             ⟨some 18, some (17, false), .rd .mov [.tmp 4]⟩,
             ⟨some 19, some (17, false), .rd (.bin .gtr) [.tmp 18, .pv (.int .u8 126)]⟩,
             ⟨some 20, none, .rd .pick [.tmp 17, .pv (.bool true), .tmp 19]⟩] L62)
          (.cond (.tmp 20)
           (.seq (.region false [⟨some 2, none, .rd .mov [.pv (.bool false)]⟩] L62)
            (.ret))
           (.skip)))))
       (.region false [⟨some 21, none, .rd (.bin .add) [.tmp 11, .pv (.int .i64 1)]⟩,
         ⟨some 11, none, .rd .mov [.tmp 21]⟩] L62)))))))
  (.seq (.region false [⟨some 2, none, .rd .mov [.pv (.bool true)]⟩] L62)
  (.ret)))),
  [.tmp 2]⟩

-- strings.Split
def L63 : List Nat := [0, 1, 4]
def c63 : CF := ⟨8,
  .seq (.region false [⟨some 4, none, .rd .mov [.pv .nilSl]⟩] L63)
  (.seq (.region false [⟨some 5, none, .rd .mov [.tmp 0]⟩,
     ⟨some 6, none, .rd .mov [.tmp 1]⟩,
     ⟨some 7, none, .call (.pv (.fn 68 [] [])) [.tmp 5, .tmp 6, .pv (.int .i64 0), .pv (.int .i64 (-1))]⟩,
     ⟨some 4, none, .rd .mov [.tmp 7]⟩] L63)
  (.ret)),
  [.tmp 4]⟩

-- wagebook/ledger.part
def L67 : List Nat := [0, 2, 4, 11, 13, 14, 15, 16, 19]
def c67 : CF := ⟨39,
  .seq (.region false [⟨some 2, none, .rd .mov [.pv (.bool false)]⟩] L67)
  (.seq (.seq (.region false [⟨some 5, none, .rd .mov [.tmp 0]⟩,
      ⟨some 6, none, .rd (.bin .eql) [.tmp 5, .pv (.str [])]⟩,
      ⟨some 7, none, .rd .mov [.tmp 6]⟩,
      ⟨some 8, some (7, false), .rd .mov [.tmp 0]⟩,
      ⟨some 9, some (7, false), .rd .lenS [.tmp 8]⟩,
      ⟨some 10, some (7, false), .rd (.bin .gtr) [.tmp 9, .pv (.int .i64 32)]⟩,
      ⟨some 11, none, .rd .pick [.tmp 7, .pv (.bool true), .tmp 10]⟩] L67)
   (.cond (.tmp 11)
    (.seq (.region false [⟨some 2, none, .rd .mov [.pv (.bool false)]⟩] L67)
     (.ret))
    (.skip)))
  (.seq (.seq (.region false [⟨some 12, none, .rd .mov [.tmp 0]⟩,
      ⟨some 13, none, .eff .s2b [.tmp 12]⟩,
      ⟨some 14, none, .rd .lenL [.tmp 13]⟩,
      ⟨some 15, none, .rd .mov [.pv (.int .i64 0)]⟩] L67)
   (.block 0
    (.loop
      (.seq (.region false [⟨some 16, none, .rd (.bin .lss) [.tmp 15, .tmp 14]⟩] L67)
       (.seq (.cond (.tmp 16)
         (.skip)
         (.exit 0))
       (.seq (.block 1
         (.seq (.region false [⟨some 17, none, .rd (.idxAddr none) [.tmp 13, .tmp 15]⟩,
             ⟨some 18, none, .rd (.load none) [.tmp 17]⟩,
             ⟨some 4, none, .rd .mov [.tmp 18]⟩] L67)
          (.block 2
           (.seq (.seq (.region false [⟨some 20, none, .rd .mov [.tmp 4]⟩,
                ⟨some 21, none, .rd (.bin .geq) [.tmp 20, .pv (.int .u8 97)]⟩,
                ⟨some 22, none, .rd .mov [.tmp 21]⟩,
                ⟨some 23, some (22, true), .rd .mov [.tmp 4]⟩,
                ⟨some 24, some (22, true), .rd (.bin .leq) [.tmp 23, .pv (.int .u8 122)]⟩,
                ⟨some 25, none, .rd .pick [.tmp 22, .tmp 24, .pv (.bool false)]⟩,
                ⟨some 19, none, .rd .mov [.tmp 25]⟩] L67)
             (.cond (.tmp 19)
              (.skip)
              (.seq (.region false [⟨some 26, none, .rd .mov [.tmp 4]⟩,
                  ⟨some 27, none, .rd (.bin .geq) [.tmp 26, .pv (.int .u8 48)]⟩,
                  ⟨some 28, none, .rd .mov [.tmp 27]⟩,
                  ⟨some 29, some (28, true), .rd .mov [.tmp 4]⟩,
                  ⟨some 30, some (28, true), .rd (.bin .leq) [.tmp 29, .pv (.int .u8 57)]⟩,
                  ⟨some 31, none, .rd .pick [.tmp 28, .tmp 30, .pv (.bool false)]⟩,
                  ⟨some 19, none, .rd .mov [.tmp 31]⟩] L67)
               (.cond (.tmp 19)
                (.skip)
                (.seq (.region false [⟨some 32, none, .rd .mov [.tmp 4]⟩,
                    ⟨some 33, none, .rd (.bin .eql) [.tmp 32, .pv (.int .u8 46)]⟩,
                    ⟨some 19, none, .rd .mov [.tmp 33]⟩] L67)
                 (.cond (.tmp 19)
                  (.skip)
                  (.seq (.region false [⟨some 34, none, .rd .mov [.tmp 4]⟩,
                      ⟨some 35, none, .rd (.bin .eql) [.tmp 34, .pv (.int .u8 95)]⟩,
                      ⟨some 19, none, .rd .mov [.tmp 35]⟩] L67)
                   (.cond (.tmp 19)
                    (.skip)
                    (.region false [⟨some 36, none, .rd .mov [.tmp 4]⟩,
                       ⟨some 37, none, .rd (.bin .eql) [.tmp 36, .pv (.int .u8 45)]⟩,
                       ⟨some 19, none, .rd .mov [.tmp 37]⟩] L67)))))))))
            (.cond (.tmp 19)
             (.skip)
             (.seq (.region false [⟨some 2, none, .rd .mov [.pv (.bool false)]⟩] L67)
              (.ret)))))))
       (.region false [⟨some 38, none, .rd (.bin .add) [.tmp 15, .pv (.int .i64 1)]⟩,
         ⟨some 15, none, .rd .mov [.tmp 38]⟩] L67)))))))
  (.seq (.region false [⟨some 2, none, .rd .mov [.pv (.bool true)]⟩] L67)
  (.ret)))),
  [.tmp 2]⟩

-- strings.genSplit
def L68 : List Nat := [0, 1, 2, 3, 8, 9, 10, 11, 13, 15, 20, 36, 41]
def c68 : CF := ⟨66,
  .seq (.region false [⟨some 8, none, .rd .mov [.pv .nilSl]⟩] L68)
  (.seq (.seq (.region false [⟨some 12, none, .rd .mov [.tmp 3]⟩,
      ⟨some 13, none, .rd (.bin .eql) [.tmp 12, .pv (.int .i64 0)]⟩] L68)
   (.cond (.tmp 13)
    (.seq (.region false [⟨some 8, none, .rd .mov [.pv .nilSl]⟩] L68)
     (.ret))
    (.skip)))
  (.seq (.seq (.region false [⟨some 14, none, .rd .mov [.tmp 1]⟩,
      ⟨some 15, none, .rd (.bin .eql) [.tmp 14, .pv (.str [])]⟩] L68)
   (.cond (.tmp 15)
    (.seq (.region false [⟨some 16, none, .rd .mov [.tmp 0]⟩,
        ⟨some 17, none, .rd .mov [.tmp 3]⟩,
        ⟨some 18, none, .call (.pv (.fn 80 [] [])) [.tmp 16, .tmp 17]⟩,
        ⟨some 8, none, .rd .mov [.tmp 18]⟩] L68)
     (.ret))
    (.skip)))
  (.seq (.seq (.region false [⟨some 19, none, .rd .mov [.tmp 3]⟩,
      ⟨some 20, none, .rd (.bin .lss) [.tmp 19, .pv (.int .i64 0)]⟩] L68)
   (.cond (.tmp 20)
    (.region false [⟨some 21, none, .rd .mov [.tmp 0]⟩,
       ⟨some 22, none, .rd .mov [.tmp 1]⟩,
       ⟨some 23, none, .call (.pv (.fn 81 [] [])) [.tmp 21, .tmp 22]⟩,
       ⟨some 24, none, .rd (.bin .add) [.tmp 23, .pv (.int .i64 1)]⟩,
       ⟨some 3, none, .rd .mov [.tmp 24]⟩] L68)
    (.skip)))
  (.seq (.region false [⟨some 25, none, .rd .mov [.tmp 3]⟩,
     ⟨some 26, none, .rd .mov [.tmp 0]⟩,
     ⟨some 27, none, .rd .lenS [.tmp 26]⟩,
     ⟨some 28, none, .rd (.bin .add) [.tmp 27, .pv (.int .i64 1)]⟩,
     ⟨some 29, none, .rd .min [.tmp 25, .tmp 28]⟩,
     ⟨some 3, none, .rd .mov [.tmp 29]⟩] L68)
  (.seq (.region false [⟨some 30, none, .rd .mov [.tmp 3]⟩,
     ⟨some 31, none, .eff (.make none (.str []) 16) [.tmp 30, .tmp 30]⟩,
     ⟨some 9, none, .rd .mov [.tmp 31]⟩] L68)
  (.seq (.region false [⟨some 32, none, .rd .mov [.tmp 3]⟩,
     ⟨some 33, none, .rd (.bin .sub) [.tmp 32, .pv (.int .i64 1)]⟩,
     ⟨some 3, none, .rd .mov [.tmp 33]⟩] L68)
  (.seq (.region false [⟨some 10, none, .rd .mov [.pv (.int .i64 0)]⟩] L68)
  (.seq (.block 0
    (.loop
      (.seq (.seq (.region false [⟨some 34, none, .rd .mov [.tmp 10]⟩,
           ⟨some 35, none, .rd .mov [.tmp 3]⟩,
           ⟨some 36, none, .rd (.bin .lss) [.tmp 34, .tmp 35]⟩] L68)
        (.cond (.tmp 36)
         (.skip)
         (.exit 0)))
       (.block 1
        (.seq (.region false [⟨some 37, none, .rd .mov [.tmp 0]⟩,
            ⟨some 38, none, .rd .mov [.tmp 1]⟩,
            ⟨some 39, none, .call (.pv (.fn 82 [] [])) [.tmp 37, .tmp 38]⟩,
            ⟨some 11, none, .rd .mov [.tmp 39]⟩] L68)
         (.seq (.seq (.region false [⟨some 40, none, .rd .mov [.tmp 11]⟩,
             ⟨some 41, none, .rd (.bin .lss) [.tmp 40, .pv (.int .i64 0)]⟩] L68)
          (.cond (.tmp 41)
           (.exit 0)
           (.skip)))
         (.seq (.region false [⟨some 42, none, .rd .mov [.tmp 9]⟩,
            ⟨some 43, none, .rd .mov [.tmp 10]⟩,
            ⟨some 44, none, .rd .mov [.tmp 0]⟩,
            ⟨some 45, none, .rd .mov [.tmp 11]⟩,
            ⟨some 46, none, .rd .mov [.tmp 2]⟩,
            ⟨some 47, none, .rd (.bin .add) [.tmp 45, .tmp 46]⟩,
            ⟨some 48, none, .rd (.slcS false true) [.tmp 44, .tmp 47]⟩,
            ⟨some 49, none, .rd (.idxAddr none) [.tmp 42, .tmp 43]⟩,
            ⟨none, none, .eff (.store none) [.tmp 49, .tmp 48]⟩] L68)
         (.seq (.region false [⟨some 50, none, .rd .mov [.tmp 0]⟩,
            ⟨some 51, none, .rd .mov [.tmp 11]⟩,
            ⟨some 52, none, .rd .mov [.tmp 1]⟩,
            ⟨some 53, none, .rd .lenS [.tmp 52]⟩,
            ⟨some 54, none, .rd (.bin .add) [.tmp 51, .tmp 53]⟩,
            ⟨some 55, none, .rd (.slcS true false) [.tmp 50, .tmp 54]⟩,
            ⟨some 0, none, .rd .mov [.tmp 55]⟩] L68)
         (.region false [⟨some 56, none, .rd .mov [.tmp 10]⟩,
           ⟨some 57, none, .rd (.bin .add) [.tmp 56, .pv (.int .i64 1)]⟩,
           ⟨some 10, none, .rd .mov [.tmp 57]⟩] L68)))))))))
  (.seq (.region false [⟨some 58, none, .rd .mov [.tmp 9]⟩,
     ⟨some 59, none, .rd .mov [.tmp 10]⟩,
     ⟨some 60, none, .rd .mov [.tmp 0]⟩,
     ⟨some 61, none, .rd (.idxAddr none) [.tmp 58, .tmp 59]⟩,
     ⟨none, none, .eff (.store none) [.tmp 61, .tmp 60]⟩] L68)
  (.seq (.region false [⟨some 62, none, .rd .mov [.tmp 9]⟩,
     ⟨some 63, none, .rd .mov [.tmp 10]⟩,
     ⟨some 64, none, .rd (.bin .add) [.tmp 63, .pv (.int .i64 1)]⟩,
     ⟨some 65, none, .rd (.slc none false true false) [.tmp 62, .tmp 64]⟩,
     ⟨some 8, none, .rd .mov [.tmp 65]⟩] L68)
  (.ret))))))))))),
  [.tmp 8]⟩

-- strings.Count
def L82 : List Nat := [0, 1, 4]
def c82 : CF := ⟨8,
  .seq (.region false [⟨some 4, none, .rd .mov [.pv (.int .i64 0)]⟩] L82)
  (.seq (.region false [⟨some 5, none, .rd .mov [.tmp 0]⟩,
     ⟨some 6, none, .rd .mov [.tmp 1]⟩,
     ⟨some 7, none, .call (.pv (.fn 92 [] [])) [.tmp 5, .tmp 6]⟩,
     ⟨some 4, none, .rd .mov [.tmp 7]⟩] L82)
  (.ret)),
  [.tmp 4]⟩

-- internal/stringslite.Index
def L92 : List Nat := [0, 1, 4, 5, 6, 7, 8, 9, 10, 11, 12, 13, 16, 24, 31, 36, 59, 64, 73, 93, 107, 114, 132, 139]
def c92 : CF := ⟨143,
  .seq (.region false [⟨some 4, none, .rd .mov [.pv (.int .i64 0)]⟩] L92)
  (.seq (.region false [⟨some 14, none, .rd .mov [.tmp 1]⟩,
     ⟨some 15, none, .rd .lenS [.tmp 14]⟩,
     ⟨some 5, none, .rd .mov [.tmp 15]⟩] L92)
  (.seq (.block 0
    (.seq (.region false [⟨some 17, none, .rd .mov [.tmp 5]⟩,
        ⟨some 18, none, .rd (.bin .eql) [.tmp 17, .pv (.int .i64 0)]⟩,
        ⟨some 19, none, .rd .mov [.tmp 18]⟩,
        ⟨some 20, some (19, false), .rd .mov [.tmp 1]⟩,
        ⟨some 21, some (19, false), .rd .mov [.tmp 0]⟩,
        ⟨some 22, some (19, false), .rd (.bin .eql) [.tmp 20, .tmp 21]⟩,
        ⟨some 23, none, .rd .pick [.tmp 19, .pv (.bool true), .tmp 22]⟩,
        ⟨some 16, none, .rd .mov [.tmp 23]⟩] L92)
     (.cond (.tmp 16)
      (.seq (.region false [⟨some 4, none, .rd .mov [.pv (.int .i64 0)]⟩] L92)
       (.ret))
      (.seq (.region false [⟨some 25, none, .rd .mov [.tmp 5]⟩,
          ⟨some 26, none, .rd (.bin .eql) [.tmp 25, .pv (.int .i64 1)]⟩,
          ⟨some 24, none, .rd .mov [.tmp 26]⟩] L92)
       (.cond (.tmp 24)
        (.seq (.region false [⟨some 27, none, .rd .mov [.tmp 0]⟩,
            ⟨some 28, none, .rd .mov [.tmp 1]⟩,
            ⟨some 29, none, .rd .idxS [.tmp 28, .pv (.int .i64 0)]⟩,
            ⟨some 30, none, .call (.pv (.fn 95 [] [])) [.tmp 27, .tmp 29]⟩,
            ⟨some 4, none, .rd .mov [.tmp 30]⟩] L92)
         (.ret))
        (.seq (.region false [⟨some 32, none, .rd .mov [.tmp 5]⟩,
            ⟨some 33, none, .rd .mov [.tmp 0]⟩,
            ⟨some 34, none, .rd .lenS [.tmp 33]⟩,
            ⟨some 35, none, .rd (.bin .geq) [.tmp 32, .tmp 34]⟩,
            ⟨some 31, none, .rd .mov [.tmp 35]⟩] L92)
         (.cond (.tmp 31)
          (.seq (.region false [⟨some 4, none, .rd .mov [.pv (.int .i64 (-1))]⟩] L92)
           (.ret))
          (.seq (.region false [⟨some 37, none, .rd .mov [.tmp 5]⟩,
              ⟨some 38, none, .rd (.load none) [.glob 0]⟩,
              ⟨some 39, none, .rd (.bin .leq) [.tmp 37, .tmp 38]⟩,
              ⟨some 40, none, .rd .mov [.tmp 39]⟩,
              ⟨some 41, some (40, true), .rd .mov [.tmp 0]⟩,
              ⟨some 42, some (40, true), .rd .lenS [.tmp 41]⟩,
              ⟨some 43, some (40, true), .rd (.bin .leq) [.tmp 42, .pv (.int .i64 64)]⟩,
              ⟨some 44, none, .rd .pick [.tmp 40, .tmp 43, .pv (.bool false)]⟩,
              ⟨some 36, none, .rd .mov [.tmp 44]⟩] L92)
           (.cond (.tmp 36)
            (.seq (.region false [⟨some 45, none, .rd .mov [.tmp 0]⟩,
                ⟨some 46, none, .rd .mov [.tmp 1]⟩,
                ⟨some 47, none, .call (.pv (.fn 96 [] [])) [.tmp 45, .tmp 46]⟩,
                ⟨some 4, none, .rd .mov [.tmp 47]⟩] L92)
             (.ret))
            (.skip))))))))))
  (.seq (.region false [⟨some 48, none, .rd .mov [.tmp 1]⟩,
     ⟨some 49, none, .rd .idxS [.tmp 48, .pv (.int .i64 0)]⟩,
     ⟨some 6, none, .rd .mov [.tmp 49]⟩] L92)
  (.seq (.region false [⟨some 50, none, .rd .mov [.tmp 1]⟩,
     ⟨some 51, none, .rd .idxS [.tmp 50, .pv (.int .i64 1)]⟩,
     ⟨some 7, none, .rd .mov [.tmp 51]⟩] L92)
  (.seq (.region false [⟨some 8, none, .rd .mov [.pv (.int .i64 0)]⟩] L92)
  (.seq (.region false [⟨some 52, none, .rd .mov [.tmp 0]⟩,
     ⟨some 53, none, .rd .lenS [.tmp 52]⟩,
     ⟨some 54, none, .rd .mov [.tmp 5]⟩,
     ⟨some 55, none, .rd (.bin .sub) [.tmp 53, .tmp 54]⟩,
     ⟨some 56, none, .rd (.bin .add) [.tmp 55, .pv (.int .i64 1)]⟩,
     ⟨some 9, none, .rd .mov [.tmp 56]⟩] L92)
  (.seq (.region false [⟨some 10, none, .rd .mov [.pv (.int .i64 0)]⟩] L92)
  (.seq (.block 1
    (.loop
      (.seq (.seq (.region false [⟨some 57, none, .rd .mov [.tmp 8]⟩,
           ⟨some 58, none, .rd .mov [.tmp 9]⟩,
           ⟨some 59, none, .rd (.bin .lss) [.tmp 57, .tmp 58]⟩] L92)
        (.cond (.tmp 59)
         (.skip)
         (.exit 1)))
       (.block 2
        (.seq (.seq (.region false [⟨some 60, none, .rd .mov [.tmp 0]⟩,
             ⟨some 61, none, .rd .mov [.tmp 8]⟩,
             ⟨some 62, none, .rd .idxS [.tmp 60, .tmp 61]⟩,
             ⟨some 63, none, .rd .mov [.tmp 6]⟩,
             ⟨some 64, none, .rd (.bin .neq) [.tmp 62, .tmp 63]⟩] L92)
          (.cond (.tmp 64)
           (.seq (.region false [⟨some 65, none, .rd .mov [.tmp 0]⟩,
               ⟨some 66, none, .rd .mov [.tmp 8]⟩,
               ⟨some 67, none, .rd (.bin .add) [.tmp 66, .pv (.int .i64 1)]⟩,
               ⟨some 68, none, .rd .mov [.tmp 9]⟩,
               ⟨some 69, none, .rd (.slcS true true) [.tmp 65, .tmp 67, .tmp 68]⟩,
               ⟨some 70, none, .rd .mov [.tmp 6]⟩,
               ⟨some 71, none, .call (.pv (.fn 95 [] [])) [.tmp 69, .tmp 70]⟩,
               ⟨some 11, none, .rd .mov [.tmp 71]⟩] L92)
            (.seq (.seq (.region false [⟨some 72, none, .rd .mov [.tmp 11]⟩,
                ⟨some 73, none, .rd (.bin .lss) [.tmp 72, .pv (.int .i64 0)]⟩] L92)
             (.cond (.tmp 73)
              (.seq (.region false [⟨some 4, none, .rd .mov [.pv (.int .i64 (-1))]⟩] L92)
               (.ret))
              (.skip)))
            (.region false [⟨some 74, none, .rd .mov [.tmp 8]⟩,
              ⟨some 75, none, .rd .mov [.tmp 11]⟩,
              ⟨some 76, none, .rd (.bin .add) [.tmp 75, .pv (.int .i64 1)]⟩,
              ⟨some 77, none, .rd (.bin .add) [.tmp 74, .tmp 76]⟩,
              ⟨some 8, none, .rd .mov [.tmp 77]⟩] L92)))
           (.skip)))
         (.seq (.seq (.region false [⟨some 78, none, .rd .mov [.tmp 0]⟩,
             ⟨some 79, none, .rd .mov [.tmp 8]⟩,
             ⟨some 80, none, .rd (.bin .add) [.tmp 79, .pv (.int .i64 1)]⟩,
             ⟨some 81, none, .rd .idxS [.tmp 78, .tmp 80]⟩,
             ⟨some 82, none, .rd .mov [.tmp 7]⟩,
             ⟨some 83, none, .rd (.bin .eql) [.tmp 81, .tmp 82]⟩,
             ⟨some 84, none, .rd .mov [.tmp 83]⟩,
             ⟨some 85, some (84, true), .rd .mov [.tmp 0]⟩,
             ⟨some 86, some (84, true), .rd .mov [.tmp 8]⟩,
             ⟨some 87, some (84, true), .rd .mov [.tmp 8]⟩,
             ⟨some 88, some (84, true), .rd .mov [.tmp 5]⟩,
             ⟨some 89, some (84, true), .rd (.bin .add) [.tmp 87, .tmp 88]⟩,
             ⟨some 90, some (84, true), .rd (.slcS true true) [.tmp 85, .tmp 86, .tmp 89]⟩,
             ⟨some 91, some (84, true), .rd .mov [.tmp 1]⟩,
             ⟨some 92, some (84, true), .rd (.bin .eql) [.tmp 90, .tmp 91]⟩,
             ⟨some 93, none, .rd .pick [.tmp 84, .tmp 92, .pv (.bool false)]⟩] L92)
          (.cond (.tmp 93)
           (.seq (.region false [⟨some 94, none, .rd .mov [.tmp 8]⟩,
               ⟨some 4, none, .rd .mov [.tmp 94]⟩] L92)
            (.ret))
           (.skip)))
         (.seq (.region false [⟨some 95, none, .rd .mov [.tmp 8]⟩,
            ⟨some 96, none, .rd (.bin .add) [.tmp 95, .pv (.int .i64 1)]⟩,
            ⟨some 8, none, .rd .mov [.tmp 96]⟩] L92)
         (.seq (.region false [⟨some 97, none, .rd .mov [.tmp 10]⟩,
            ⟨some 98, none, .rd (.bin .add) [.tmp 97, .pv (.int .i64 1)]⟩,
            ⟨some 10, none, .rd .mov [.tmp 98]⟩] L92)
         (.seq (.region false [⟨some 99, none, .rd .mov [.tmp 5]⟩,
            ⟨some 100, none, .rd (.load none) [.glob 0]⟩,
            ⟨some 101, none, .rd (.bin .leq) [.tmp 99, .tmp 100]⟩,
            ⟨some 102, none, .rd .mov [.tmp 101]⟩,
            ⟨some 103, some (102, true), .rd .mov [.tmp 10]⟩,
            ⟨some 104, some (102, true), .rd .mov [.tmp 8]⟩,
            ⟨some 105, some (102, true), .call (.pv (.fn 97 [] [])) [.tmp 104]⟩,
            ⟨some 106, some (102, true), .rd (.bin .gtr) [.tmp 103, .tmp 105]⟩,
            ⟨some 107, none, .rd .pick [.tmp 102, .tmp 106, .pv (.bool false)]⟩] L92)
         (.cond (.tmp 107)
          (.seq (.region false [⟨some 108, none, .rd .mov [.tmp 0]⟩,
              ⟨some 109, none, .rd .mov [.tmp 8]⟩,
              ⟨some 110, none, .rd (.slcS true false) [.tmp 108, .tmp 109]⟩,
              ⟨some 111, none, .rd .mov [.tmp 1]⟩,
              ⟨some 112, none, .call (.pv (.fn 96 [] [])) [.tmp 110, .tmp 111]⟩,
              ⟨some 12, none, .rd .mov [.tmp 112]⟩] L92)
           (.seq (.seq (.region false [⟨some 113, none, .rd .mov [.tmp 12]⟩,
               ⟨some 114, none, .rd (.bin .geq) [.tmp 113, .pv (.int .i64 0)]⟩] L92)
            (.cond (.tmp 114)
             (.seq (.region false [⟨some 115, none, .rd .mov [.tmp 12]⟩,
                 ⟨some 116, none, .rd .mov [.tmp 8]⟩,
                 ⟨some 117, none, .rd (.bin .add) [.tmp 115, .tmp 116]⟩,
                 ⟨some 4, none, .rd .mov [.tmp 117]⟩] L92)
              (.ret))
             (.skip)))
           (.seq (.region false [⟨some 4, none, .rd .mov [.pv (.int .i64 (-1))]⟩] L92)
           (.ret))))
          (.seq (.region false [⟨some 118, none, .rd .mov [.tmp 5]⟩,
              ⟨some 119, none, .rd (.load none) [.glob 0]⟩,
              ⟨some 120, none, .rd (.bin .gtr) [.tmp 118, .tmp 119]⟩,
              ⟨some 121, none, .rd .mov [.tmp 120]⟩,
              ⟨some 122, some (121, true), .rd .mov [.tmp 10]⟩,
              ⟨some 123, some (121, true), .rd .mov [.tmp 8]⟩,
              ⟨some 124, some (121, true), .rd (.bin .shr) [.tmp 123, .pv (.int .u64 4)]⟩,
              ⟨some 125, some (121, true), .rd (.bin .add) [.pv (.int .i64 4), .tmp 124]⟩,
              ⟨some 126, some (121, true), .rd (.bin .geq) [.tmp 122, .tmp 125]⟩,
              ⟨some 127, none, .rd .pick [.tmp 121, .tmp 126, .pv (.bool false)]⟩,
              ⟨some 128, none, .rd .mov [.tmp 127]⟩,
              ⟨some 129, some (128, true), .rd .mov [.tmp 8]⟩,
              ⟨some 130, some (128, true), .rd .mov [.tmp 9]⟩,
              ⟨some 131, some (128, true), .rd (.bin .lss) [.tmp 129, .tmp 130]⟩,
              ⟨some 132, none, .rd .pick [.tmp 128, .tmp 131, .pv (.bool false)]⟩] L92)
           (.cond (.tmp 132)
            (.seq (.region false [⟨some 133, none, .rd .mov [.tmp 0]⟩,
                ⟨some 134, none, .rd .mov [.tmp 8]⟩,
                ⟨some 135, none, .rd (.slcS true false) [.tmp 133, .tmp 134]⟩,
                ⟨some 136, none, .rd .mov [.tmp 1]⟩,
                ⟨some 137, none, .call (.pv (.fn 98 [] [])) [.tmp 135, .tmp 136]⟩,
                ⟨some 13, none, .rd .mov [.tmp 137]⟩] L92)
             (.seq (.seq (.region false [⟨some 138, none, .rd .mov [.tmp 13]⟩,
                 ⟨some 139, none, .rd (.bin .lss) [.tmp 138, .pv (.int .i64 0)]⟩] L92)
              (.cond (.tmp 139)
               (.seq (.region false [⟨some 4, none, .rd .mov [.pv (.int .i64 (-1))]⟩] L92)
                (.ret))
               (.skip)))
             (.seq (.region false [⟨some 140, none, .rd .mov [.tmp 8]⟩,
                ⟨some 141, none, .rd .mov [.tmp 13]⟩,
                ⟨some 142, none, .rd (.bin .add) [.tmp 140, .tmp 141]⟩,
                ⟨some 4, none, .rd .mov [.tmp 142]⟩] L92)
             (.ret))))
            (.skip)))))))))))))
  (.seq (.region false [⟨some 4, none, .rd .mov [.pv (.int .i64 (-1))]⟩] L92)
  (.ret)))))))))),
  [.tmp 4]⟩

-- internal/stringslite.IndexByte
theorem k3 : compileF Tryd.prog [] L3 Tryd.f3 = some c3 := by kernel_rfl
theorem k4 : compileF Tryd.prog [] L4 Tryd.f4 = some c4 := by kernel_rfl
theorem k13 : compileF Tryd.prog [] L13 Tryd.f13 = some c13 := by kernel_rfl
theorem k14 : compileF Tryd.prog [] L14 Tryd.f14 = some c14 := by kernel_rfl
theorem k15 : compileF Tryd.prog [] L15 Tryd.f15 = some c15 := by kernel_rfl
theorem k16 : compileF Tryd.prog [] L16 Tryd.f16 = some c16 := by kernel_rfl
theorem k17 : compileF Tryd.prog [] L17 Tryd.f17 = some c17 := by kernel_rfl
theorem k18 : compileF Tryd.prog [] L18 Tryd.f18 = some c18 := by kernel_rfl
theorem k19 : compileF Tryd.prog [] L19 Tryd.f19 = some c19 := by kernel_rfl
theorem k40 : compileF Tryd.prog [] L40 Tryd.f40 = some c40 := by kernel_rfl
theorem k42 : compileF Tryd.prog [] L42 Tryd.f42 = some c42 := by kernel_rfl
theorem k43 : compileF Tryd.prog [] L43 Tryd.f43 = some c43 := by kernel_rfl
theorem k54 : compileF Tryd.prog [] L54 Tryd.f54 = some c54 := by kernel_rfl
theorem k61 : compileF Tryd.prog [] L61 Tryd.f61 = some c61 := by kernel_rfl
theorem k62 : compileF Tryd.prog [] L62 Tryd.f62 = some c62 := by kernel_rfl
theorem k63 : compileF Tryd.prog [] L63 Tryd.f63 = some c63 := by kernel_rfl
theorem k67 : compileF Tryd.prog [] L67 Tryd.f67 = some c67 := by kernel_rfl
theorem k68 : compileF Tryd.prog [] L68 Tryd.f68 = some c68 := by kernel_rfl
theorem k82 : compileF Tryd.prog [] L82 Tryd.f82 = some c82 := by kernel_rfl
theorem k92 : compileF Tryd.prog [] L92 Tryd.f92 = some c92 := by kernel_rfl
end Go.Proofs.YtdemgegpnlngeaaDoor

