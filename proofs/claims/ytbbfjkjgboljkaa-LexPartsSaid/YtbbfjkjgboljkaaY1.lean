import Derived.Test.YtbbfjkjgboljkaaProg
import Derived.Test.YtbbfjkjgboljkaaPure17
import Derived.KernelRfl
namespace Go.Proofs.Ytbbfjkjgboljkaa
open PG Go.Proofs
-- wagebook/wagebooklaw12.LexJoins
def L3 : List Nat := [0, 1, 4, 5, 7, 8, 9, 10, 11, 12, 13, 14, 15, 16, 24, 48, 56, 84, 85, 86, 87, 88, 112, 113, 114, 124]
def c3 : CF := ⟨127,
  .seq (.region false [⟨some 4, none, .rd .mov [.pv (.bool false)]⟩] L3)
  (.seq (.seq (.region false [⟨some 17, none, .rd .mov [.tmp 0]⟩,
      ⟨some 18, none, .rd .lenS [.tmp 17]⟩,
      ⟨some 19, none, .rd (.bin .gtr) [.tmp 18, .pv (.int .i64 1500)]⟩,
      ⟨some 20, none, .rd .mov [.tmp 19]⟩,
      ⟨some 21, some (20, false), .rd .mov [.tmp 1]⟩,
      ⟨some 22, some (20, false), .rd .lenS [.tmp 21]⟩,
      ⟨some 23, some (20, false), .rd (.bin .gtr) [.tmp 22, .pv (.int .i64 1500)]⟩,
      ⟨some 24, none, .rd .pick [.tmp 20, .pv (.bool true), .tmp 23]⟩] L3)
   (.cond (.tmp 24)
    (.seq (.region false [⟨some 25, none, .call (.pv (.fn 8 [] [])) []⟩,
        ⟨some 4, none, .rd .mov [.tmp 25]⟩] L3)
     (.ret))
    (.skip)))
  (.seq (.region false [⟨some 27, none, .rd .mov [.tmp 0]⟩,
     ⟨some 28, none, .call (.pv (.fn 9 [] [])) [.tmp 27]⟩,
     ⟨some 26, none, .rd .mov [.tmp 28]⟩,
     ⟨some 29, none, .rd (.ext 0) [.tmp 26]⟩,
     ⟨some 30, none, .rd (.ext 1) [.tmp 26]⟩,
     ⟨some 31, none, .rd (.ext 2) [.tmp 26]⟩,
     ⟨some 5, none, .rd .mov [.tmp 29]⟩,
     ⟨some 6, none, .rd .mov [.tmp 30]⟩,
     ⟨some 7, none, .rd .mov [.tmp 31]⟩] L3)
  (.seq (.region false [⟨some 33, none, .rd .mov [.tmp 1]⟩,
     ⟨some 34, none, .call (.pv (.fn 9 [] [])) [.tmp 33]⟩,
     ⟨some 32, none, .rd .mov [.tmp 34]⟩,
     ⟨some 35, none, .rd (.ext 0) [.tmp 32]⟩,
     ⟨some 36, none, .rd (.ext 1) [.tmp 32]⟩,
     ⟨some 37, none, .rd (.ext 2) [.tmp 32]⟩,
     ⟨some 8, none, .rd .mov [.tmp 35]⟩,
     ⟨some 9, none, .rd .mov [.tmp 36]⟩,
     ⟨some 10, none, .rd .mov [.tmp 37]⟩] L3)
  (.seq (.region false [⟨some 39, none, .rd .mov [.tmp 0]⟩,
     ⟨some 40, none, .rd (.bin .add) [.tmp 39, .pv (.str [32])]⟩,
     ⟨some 41, none, .rd .mov [.tmp 1]⟩,
     ⟨some 42, none, .rd (.bin .add) [.tmp 40, .tmp 41]⟩,
     ⟨some 43, none, .call (.pv (.fn 9 [] [])) [.tmp 42]⟩,
     ⟨some 38, none, .rd .mov [.tmp 43]⟩,
     ⟨some 44, none, .rd (.ext 0) [.tmp 38]⟩,
     ⟨some 45, none, .rd (.ext 1) [.tmp 38]⟩,
     ⟨some 46, none, .rd (.ext 2) [.tmp 38]⟩,
     ⟨some 11, none, .rd .mov [.tmp 44]⟩,
     ⟨some 12, none, .rd .mov [.tmp 45]⟩,
     ⟨some 13, none, .rd .mov [.tmp 46]⟩] L3)
  (.seq (.seq (.region false [⟨some 47, none, .rd .mov [.tmp 7]⟩,
      ⟨some 48, none, .rd (.bin .neq) [.tmp 47, .pv (.int .i64 0)]⟩] L3)
   (.cond (.tmp 48)
    (.seq (.region false [⟨some 49, none, .call (.pv (.fn 8 [] [])) []⟩,
        ⟨some 50, none, .rd .mov [.tmp 49]⟩,
        ⟨some 51, some (50, true), .rd .mov [.tmp 13]⟩,
        ⟨some 52, some (50, true), .rd .mov [.tmp 7]⟩,
        ⟨some 53, some (50, true), .rd (.bin .eql) [.tmp 51, .tmp 52]⟩,
        ⟨some 54, none, .rd .pick [.tmp 50, .tmp 53, .pv (.bool false)]⟩,
        ⟨some 4, none, .rd .mov [.tmp 54]⟩] L3)
     (.ret))
    (.skip)))
  (.seq (.seq (.region false [⟨some 55, none, .rd .mov [.tmp 10]⟩,
      ⟨some 56, none, .rd (.bin .neq) [.tmp 55, .pv (.int .i64 0)]⟩] L3)
   (.cond (.tmp 56)
    (.seq (.region false [⟨some 57, none, .call (.pv (.fn 8 [] [])) []⟩,
        ⟨some 58, none, .rd .mov [.tmp 57]⟩,
        ⟨some 59, some (58, true), .rd .mov [.tmp 13]⟩,
        ⟨some 60, some (58, true), .rd .mov [.tmp 10]⟩,
        ⟨some 61, some (58, true), .rd (.bin .eql) [.tmp 59, .tmp 60]⟩,
        ⟨some 62, none, .rd .pick [.tmp 58, .tmp 61, .pv (.bool false)]⟩,
        ⟨some 63, none, .rd .mov [.tmp 62]⟩,
        ⟨some 64, some (63, true), .rd .mov [.tmp 12]⟩,
        ⟨some 65, some (63, true), .rd .mov [.tmp 0]⟩,
        ⟨some 66, some (63, true), .rd .lenS [.tmp 65]⟩,
        ⟨some 67, some (63, true), .rd (.bin .add) [.tmp 66, .pv (.int .i64 1)]⟩,
        ⟨some 68, some (63, true), .rd .mov [.tmp 9]⟩,
        ⟨some 69, some (63, true), .rd (.bin .add) [.tmp 67, .tmp 68]⟩,
        ⟨some 70, some (63, true), .rd (.bin .eql) [.tmp 64, .tmp 69]⟩,
        ⟨some 71, none, .rd .pick [.tmp 63, .tmp 70, .pv (.bool false)]⟩,
        ⟨some 4, none, .rd .mov [.tmp 71]⟩] L3)
     (.ret))
    (.skip)))
  (.seq (.seq (.region false [⟨some 72, none, .rd .mov [.tmp 13]⟩,
      ⟨some 73, none, .rd (.bin .neq) [.tmp 72, .pv (.int .i64 0)]⟩,
      ⟨some 74, none, .rd .mov [.tmp 73]⟩,
      ⟨some 75, some (74, false), .rd .mov [.tmp 11]⟩,
      ⟨some 76, some (74, false), .rd .lenL [.tmp 75]⟩,
      ⟨some 77, some (74, false), .rd .mov [.tmp 5]⟩,
      ⟨some 78, some (74, false), .rd .lenL [.tmp 77]⟩,
      ⟨some 79, some (74, false), .rd .mov [.tmp 8]⟩,
      ⟨some 80, some (74, false), .rd .lenL [.tmp 79]⟩,
      ⟨some 81, some (74, false), .rd (.bin .add) [.tmp 78, .tmp 80]⟩,
      ⟨some 82, some (74, false), .rd (.bin .sub) [.tmp 81, .pv (.int .i64 1)]⟩,
      ⟨some 83, some (74, false), .rd (.bin .neq) [.tmp 76, .tmp 82]⟩,
      ⟨some 84, none, .rd .pick [.tmp 74, .pv (.bool true), .tmp 83]⟩] L3)
   (.cond (.tmp 84)
    (.seq (.region false [⟨some 4, none, .rd .mov [.pv (.bool false)]⟩] L3)
     (.ret))
    (.skip)))
  (.seq (.seq (.region false [⟨some 85, none, .rd .mov [.tmp 8]⟩,
      ⟨some 86, none, .rd .lenL [.tmp 85]⟩,
      ⟨some 87, none, .rd .mov [.pv (.int .i64 0)]⟩] L3)
   (.block 0
    (.loop
      (.seq (.region false [⟨some 88, none, .rd (.bin .lss) [.tmp 87, .tmp 86]⟩] L3)
       (.seq (.cond (.tmp 88)
         (.skip)
         (.exit 0))
       (.seq (.block 1
         (.seq (.region false [⟨some 89, none, .rd .mov [.tmp 87]⟩,
             ⟨some 90, none, .rd (.idxAddr (some 3)) [.tmp 85, .tmp 87]⟩,
             ⟨some 91, none, .rd (.load (some 3)) [.tmp 90]⟩,
             ⟨some 15, none, .eff (.alloc (some 3) (.agg [(.int .i64 0), (.str []), (.int .i64 0)])) []⟩,
             ⟨some 14, none, .rd .mov [.tmp 89]⟩,
             ⟨none, none, .eff (.store (some 3)) [.tmp 15, .tmp 91]⟩] L3)
          (.seq (.region false [⟨some 92, none, .rd (.fldAddr 2) [.tmp 15]⟩,
             ⟨some 93, none, .rd (.load none) [.tmp 92]⟩,
             ⟨some 94, none, .rd .mov [.tmp 0]⟩,
             ⟨some 95, none, .rd .lenS [.tmp 94]⟩,
             ⟨some 96, none, .rd (.bin .add) [.tmp 95, .pv (.int .i64 1)]⟩,
             ⟨some 97, none, .rd (.bin .add) [.tmp 93, .tmp 96]⟩,
             ⟨some 98, none, .rd (.fldAddr 2) [.tmp 15]⟩,
             ⟨none, none, .eff (.store none) [.tmp 98, .tmp 97]⟩] L3)
          (.regionA (.alt [⟨some 99, none, .rd .mov [.tmp 5]⟩,
             ⟨some 100, none, .rd .mov [.tmp 5]⟩,
             ⟨some 101, none, .rd .lenL [.tmp 100]⟩,
             ⟨some 102, none, .rd (.bin .sub) [.tmp 101, .pv (.int .i64 1)]⟩,
             ⟨some 103, none, .rd .mov [.tmp 14]⟩,
             ⟨some 104, none, .rd .min [.tmp 103, .pv (.int .i64 1)]⟩,
             ⟨some 105, none, .rd (.bin .add) [.tmp 102, .tmp 104]⟩,
             ⟨some 106, none, .rd (.slc (some 3) false true false) [.tmp 99, .tmp 105]⟩,
             ⟨some 107, none, .rd (.load (some 3)) [.tmp 15]⟩,
             ⟨some 108, none, .eff (.lit (some 3) false) [.tmp 107]⟩,
             ⟨some 109, none, .eff (.append (some 3) 32) [.tmp 106, .tmp 108]⟩,
             ⟨some 5, none, .rd .mov [.tmp 109]⟩]
            .done
            .stop) L3))))
       (.region false [⟨some 110, none, .rd (.bin .add) [.tmp 87, .pv (.int .i64 1)]⟩,
         ⟨some 87, none, .rd .mov [.tmp 110]⟩] L3)))))))
  (.seq (.seq (.region false [⟨some 111, none, .rd .mov [.tmp 11]⟩,
      ⟨some 112, none, .rd .lenL [.tmp 111]⟩,
      ⟨some 113, none, .rd .mov [.pv (.int .i64 0)]⟩] L3)
   (.block 2
    (.loop
      (.seq (.region false [⟨some 114, none, .rd (.bin .lss) [.tmp 113, .tmp 112]⟩] L3)
       (.seq (.cond (.tmp 114)
         (.skip)
         (.exit 2))
       (.seq (.block 3
         (.seq (.region false [⟨some 115, none, .rd .mov [.tmp 113]⟩,
             ⟨some 16, none, .rd .mov [.tmp 115]⟩] L3)
          (.seq (.region true [⟨some 116, none, .rd .mov [.tmp 11]⟩,
             ⟨some 117, none, .rd .mov [.tmp 16]⟩,
             ⟨some 118, none, .rd (.idxAddr (some 3)) [.tmp 116, .tmp 117]⟩,
             ⟨some 119, none, .rd (.load (some 3)) [.tmp 118]⟩,
             ⟨some 120, none, .rd .mov [.tmp 5]⟩,
             ⟨some 121, none, .rd .mov [.tmp 16]⟩,
             ⟨some 122, none, .rd (.idxAddr (some 3)) [.tmp 120, .tmp 121]⟩,
             ⟨some 123, none, .rd (.load (some 3)) [.tmp 122]⟩,
             ⟨some 124, none, .rd (.eqA true [0, 2, 0]) [.tmp 119, .tmp 123]⟩] L3)
          (.cond (.tmp 124)
           (.seq (.region false [⟨some 4, none, .rd .mov [.pv (.bool false)]⟩] L3)
            (.ret))
           (.skip)))))
       (.region false [⟨some 125, none, .rd (.bin .add) [.tmp 113, .pv (.int .i64 1)]⟩,
         ⟨some 113, none, .rd .mov [.tmp 125]⟩] L3)))))))
  (.seq (.region false [⟨some 126, none, .call (.pv (.fn 8 [] [])) []⟩,
     ⟨some 4, none, .rd .mov [.tmp 126]⟩] L3)
  (.ret))))))))))),
  [.tmp 4]⟩

-- wagebook/wagebooklaw12.LexTells
def L4 : List Nat := [0, 2, 3, 4, 5, 6, 7, 8, 9, 12, 40, 42, 43, 44, 54]
def c4 : CF := ⟨57,
  .seq (.region false [⟨some 2, none, .rd .mov [.pv (.bool false)]⟩] L4)
  (.seq (.seq (.region false [⟨some 10, none, .rd .mov [.tmp 0]⟩,
      ⟨some 11, none, .rd .lenS [.tmp 10]⟩,
      ⟨some 12, none, .rd (.bin .gtr) [.tmp 11, .pv (.int .i64 5000)]⟩] L4)
   (.cond (.tmp 12)
    (.seq (.region false [⟨some 13, none, .call (.pv (.fn 8 [] [])) []⟩,
        ⟨some 2, none, .rd .mov [.tmp 13]⟩] L4)
     (.ret))
    (.skip)))
  (.seq (.region false [⟨some 15, none, .rd .mov [.tmp 0]⟩,
     ⟨some 16, none, .call (.pv (.fn 9 [] [])) [.tmp 15]⟩,
     ⟨some 14, none, .rd .mov [.tmp 16]⟩,
     ⟨some 17, none, .rd (.ext 0) [.tmp 14]⟩,
     ⟨some 18, none, .rd (.ext 1) [.tmp 14]⟩,
     ⟨some 19, none, .rd (.ext 2) [.tmp 14]⟩,
     ⟨some 3, none, .rd .mov [.tmp 17]⟩,
     ⟨some 4, none, .rd .mov [.tmp 18]⟩,
     ⟨some 5, none, .rd .mov [.tmp 19]⟩] L4)
  (.seq (.region false [⟨some 21, none, .rd .mov [.tmp 0]⟩,
     ⟨some 22, none, .call (.pv (.fn 10 [] [])) [.tmp 21]⟩,
     ⟨some 20, none, .rd .mov [.tmp 22]⟩,
     ⟨some 23, none, .rd (.ext 0) [.tmp 20]⟩,
     ⟨some 24, none, .rd (.ext 1) [.tmp 20]⟩,
     ⟨some 25, none, .rd (.ext 2) [.tmp 20]⟩,
     ⟨some 6, none, .rd .mov [.tmp 23]⟩,
     ⟨some 7, none, .rd .mov [.tmp 24]⟩,
     ⟨some 8, none, .rd .mov [.tmp 25]⟩] L4)
  (.seq (.seq (.region false [⟨some 26, none, .rd .mov [.tmp 5]⟩,
      ⟨some 27, none, .rd .mov [.tmp 8]⟩,
      ⟨some 28, none, .rd (.bin .neq) [.tmp 26, .tmp 27]⟩,
      ⟨some 29, none, .rd .mov [.tmp 28]⟩,
      ⟨some 30, some (29, false), .rd .mov [.tmp 4]⟩,
      ⟨some 31, some (29, false), .rd .mov [.tmp 7]⟩,
      ⟨some 32, some (29, false), .rd (.bin .neq) [.tmp 30, .tmp 31]⟩,
      ⟨some 33, none, .rd .pick [.tmp 29, .pv (.bool true), .tmp 32]⟩,
      ⟨some 34, none, .rd .mov [.tmp 33]⟩,
      ⟨some 35, some (34, false), .rd .mov [.tmp 3]⟩,
      ⟨some 36, some (34, false), .rd .lenL [.tmp 35]⟩,
      ⟨some 37, some (34, false), .rd .mov [.tmp 6]⟩,
      ⟨some 38, some (34, false), .rd .lenL [.tmp 37]⟩,
      ⟨some 39, some (34, false), .rd (.bin .neq) [.tmp 36, .tmp 38]⟩,
      ⟨some 40, none, .rd .pick [.tmp 34, .pv (.bool true), .tmp 39]⟩] L4)
   (.cond (.tmp 40)
    (.seq (.region false [⟨some 2, none, .rd .mov [.pv (.bool false)]⟩] L4)
     (.ret))
    (.skip)))
  (.seq (.seq (.region false [⟨some 41, none, .rd .mov [.tmp 3]⟩,
      ⟨some 42, none, .rd .lenL [.tmp 41]⟩,
      ⟨some 43, none, .rd .mov [.pv (.int .i64 0)]⟩] L4)
   (.block 0
    (.loop
      (.seq (.region false [⟨some 44, none, .rd (.bin .lss) [.tmp 43, .tmp 42]⟩] L4)
       (.seq (.cond (.tmp 44)
         (.skip)
         (.exit 0))
       (.seq (.block 1
         (.seq (.region false [⟨some 45, none, .rd .mov [.tmp 43]⟩,
             ⟨some 9, none, .rd .mov [.tmp 45]⟩] L4)
          (.seq (.region true [⟨some 46, none, .rd .mov [.tmp 3]⟩,
             ⟨some 47, none, .rd .mov [.tmp 9]⟩,
             ⟨some 48, none, .rd (.idxAddr (some 3)) [.tmp 46, .tmp 47]⟩,
             ⟨some 49, none, .rd (.load (some 3)) [.tmp 48]⟩,
             ⟨some 50, none, .rd .mov [.tmp 6]⟩,
             ⟨some 51, none, .rd .mov [.tmp 9]⟩,
             ⟨some 52, none, .rd (.idxAddr (some 3)) [.tmp 50, .tmp 51]⟩,
             ⟨some 53, none, .rd (.load (some 3)) [.tmp 52]⟩,
             ⟨some 54, none, .rd (.eqA true [0, 2, 0]) [.tmp 49, .tmp 53]⟩] L4)
          (.cond (.tmp 54)
           (.seq (.region false [⟨some 2, none, .rd .mov [.pv (.bool false)]⟩] L4)
            (.ret))
           (.skip)))))
       (.region false [⟨some 55, none, .rd (.bin .add) [.tmp 43, .pv (.int .i64 1)]⟩,
         ⟨some 43, none, .rd .mov [.tmp 55]⟩] L4)))))))
  (.seq (.region false [⟨some 56, none, .call (.pv (.fn 8 [] [])) []⟩,
     ⟨some 2, none, .rd .mov [.tmp 56]⟩] L4)
  (.ret))))))),
  [.tmp 2]⟩

-- wagebook/wagebooklaw12.LexParts
def L5 : List Nat := [0, 2, 3, 5, 6, 7, 8, 9, 11, 14, 23, 25, 26, 27, 28, 33, 55, 64, 65, 66, 91]
def c5 : CF := ⟨94,
  .seq (.region false [⟨some 2, none, .rd .mov [.pv (.bool false)]⟩] L5)
  (.seq (.seq (.region false [⟨some 12, none, .rd .mov [.tmp 0]⟩,
      ⟨some 13, none, .rd .lenS [.tmp 12]⟩,
      ⟨some 14, none, .rd (.bin .gtr) [.tmp 13, .pv (.int .i64 2000)]⟩] L5)
   (.cond (.tmp 14)
    (.seq (.region false [⟨some 15, none, .call (.pv (.fn 8 [] [])) []⟩,
        ⟨some 2, none, .rd .mov [.tmp 15]⟩] L5)
     (.ret))
    (.skip)))
  (.seq (.region false [⟨some 17, none, .rd .mov [.tmp 0]⟩,
     ⟨some 18, none, .call (.pv (.fn 9 [] [])) [.tmp 17]⟩,
     ⟨some 16, none, .rd .mov [.tmp 18]⟩,
     ⟨some 19, none, .rd (.ext 0) [.tmp 16]⟩,
     ⟨some 20, none, .rd (.ext 1) [.tmp 16]⟩,
     ⟨some 21, none, .rd (.ext 2) [.tmp 16]⟩,
     ⟨some 3, none, .rd .mov [.tmp 19]⟩,
     ⟨some 4, none, .rd .mov [.tmp 20]⟩,
     ⟨some 5, none, .rd .mov [.tmp 21]⟩] L5)
  (.seq (.seq (.region false [⟨some 22, none, .rd .mov [.tmp 5]⟩,
      ⟨some 23, none, .rd (.bin .neq) [.tmp 22, .pv (.int .i64 0)]⟩] L5)
   (.cond (.tmp 23)
    (.seq (.region false [⟨some 24, none, .call (.pv (.fn 8 [] [])) []⟩,
        ⟨some 2, none, .rd .mov [.tmp 24]⟩] L5)
     (.ret))
    (.skip)))
  (.seq (.region false [⟨some 6, none, .rd .mov [.pv (.str [])]⟩] L5)
  (.seq (.seq (.region false [⟨some 25, none, .rd .mov [.tmp 3]⟩,
      ⟨some 26, none, .rd .lenL [.tmp 25]⟩,
      ⟨some 27, none, .rd .mov [.pv (.int .i64 0)]⟩] L5)
   (.block 0
    (.loop
      (.seq (.region false [⟨some 28, none, .rd (.bin .lss) [.tmp 27, .tmp 26]⟩] L5)
       (.seq (.cond (.tmp 28)
         (.skip)
         (.exit 0))
       (.seq (.block 1
         (.seq (.region false [⟨some 29, none, .rd .mov [.tmp 27]⟩,
             ⟨some 30, none, .rd (.idxAddr (some 3)) [.tmp 25, .tmp 27]⟩,
             ⟨some 31, none, .rd (.load (some 3)) [.tmp 30]⟩,
             ⟨some 8, none, .eff (.alloc (some 3) (.agg [(.int .i64 0), (.str []), (.int .i64 0)])) []⟩,
             ⟨some 7, none, .rd .mov [.tmp 29]⟩,
             ⟨none, none, .eff (.store (some 3)) [.tmp 8, .tmp 31]⟩] L5)
          (.seq (.seq (.region false [⟨some 32, none, .rd .mov [.tmp 7]⟩,
              ⟨some 33, none, .rd (.bin .gtr) [.tmp 32, .pv (.int .i64 0)]⟩] L5)
           (.cond (.tmp 33)
            (.region false [⟨some 34, none, .rd .mov [.tmp 6]⟩,
               ⟨some 35, none, .rd (.bin .add) [.tmp 34, .pv (.str [32])]⟩,
               ⟨some 6, none, .rd .mov [.tmp 35]⟩] L5)
            (.skip)))
          (.region false [⟨some 36, none, .rd .mov [.tmp 6]⟩,
            ⟨some 37, none, .rd (.fldAddr 1) [.tmp 8]⟩,
            ⟨some 38, none, .rd (.load none) [.tmp 37]⟩,
            ⟨some 39, none, .rd (.bin .add) [.tmp 36, .tmp 38]⟩,
            ⟨some 6, none, .rd .mov [.tmp 39]⟩] L5))))
       (.region false [⟨some 40, none, .rd (.bin .add) [.tmp 27, .pv (.int .i64 1)]⟩,
         ⟨some 27, none, .rd .mov [.tmp 40]⟩] L5)))))))
  (.seq (.region false [⟨some 42, none, .rd .mov [.tmp 6]⟩,
     ⟨some 43, none, .call (.pv (.fn 9 [] [])) [.tmp 42]⟩,
     ⟨some 41, none, .rd .mov [.tmp 43]⟩,
     ⟨some 44, none, .rd (.ext 0) [.tmp 41]⟩,
     ⟨some 45, none, .rd (.ext 1) [.tmp 41]⟩,
     ⟨some 46, none, .rd (.ext 2) [.tmp 41]⟩,
     ⟨some 9, none, .rd .mov [.tmp 44]⟩,
     ⟨some 10, none, .rd .mov [.tmp 45]⟩,
     ⟨some 5, none, .rd .mov [.tmp 46]⟩] L5)
  (.seq (.seq (.region false [⟨some 47, none, .rd .mov [.tmp 5]⟩,
      ⟨some 48, none, .rd (.bin .neq) [.tmp 47, .pv (.int .i64 0)]⟩,
      ⟨some 49, none, .rd .mov [.tmp 48]⟩,
      ⟨some 50, some (49, false), .rd .mov [.tmp 9]⟩,
      ⟨some 51, some (49, false), .rd .lenL [.tmp 50]⟩,
      ⟨some 52, some (49, false), .rd .mov [.tmp 3]⟩,
      ⟨some 53, some (49, false), .rd .lenL [.tmp 52]⟩,
      ⟨some 54, some (49, false), .rd (.bin .neq) [.tmp 51, .tmp 53]⟩,
      ⟨some 55, none, .rd .pick [.tmp 49, .pv (.bool true), .tmp 54]⟩] L5)
   (.cond (.tmp 55)
    (.seq (.region false [⟨some 56, none, .rd .mov [.tmp 6]⟩,
        ⟨some 57, none, .rd .lenS [.tmp 56]⟩,
        ⟨some 58, none, .rd (.bin .gtr) [.tmp 57, .pv (.int .i64 4096)]⟩,
        ⟨some 59, none, .rd .mov [.tmp 58]⟩,
        ⟨some 60, some (59, true), .rd .mov [.tmp 5]⟩,
        ⟨some 61, some (59, true), .rd (.bin .eql) [.tmp 60, .pv (.int .i64 4)]⟩,
        ⟨some 62, none, .rd .pick [.tmp 59, .tmp 61, .pv (.bool false)]⟩,
        ⟨some 2, none, .rd .mov [.tmp 62]⟩] L5)
     (.ret))
    (.skip)))
  (.seq (.seq (.region false [⟨some 63, none, .rd .mov [.tmp 3]⟩,
      ⟨some 64, none, .rd .lenL [.tmp 63]⟩,
      ⟨some 65, none, .rd .mov [.pv (.int .i64 0)]⟩] L5)
   (.block 2
    (.loop
      (.seq (.region false [⟨some 66, none, .rd (.bin .lss) [.tmp 65, .tmp 64]⟩] L5)
       (.seq (.cond (.tmp 66)
         (.skip)
         (.exit 2))
       (.seq (.block 3
         (.seq (.region false [⟨some 67, none, .rd .mov [.tmp 65]⟩,
             ⟨some 11, none, .rd .mov [.tmp 67]⟩] L5)
          (.seq (.region true [⟨some 68, none, .rd .mov [.tmp 3]⟩,
             ⟨some 69, none, .rd .mov [.tmp 11]⟩,
             ⟨some 70, none, .rd (.idxAddr (some 3)) [.tmp 68, .tmp 69]⟩,
             ⟨some 71, none, .rd (.fldAddr 0) [.tmp 70]⟩,
             ⟨some 72, none, .rd (.load none) [.tmp 71]⟩,
             ⟨some 73, none, .rd .mov [.tmp 9]⟩,
             ⟨some 74, none, .rd .mov [.tmp 11]⟩,
             ⟨some 75, none, .rd (.idxAddr (some 3)) [.tmp 73, .tmp 74]⟩,
             ⟨some 76, none, .rd (.fldAddr 0) [.tmp 75]⟩,
             ⟨some 77, none, .rd (.load none) [.tmp 76]⟩,
             ⟨some 78, none, .rd (.bin .neq) [.tmp 72, .tmp 77]⟩,
             ⟨some 79, none, .rd .mov [.tmp 78]⟩,
             ⟨some 80, some (79, false), .rd .mov [.tmp 3]⟩,
             ⟨some 81, some (79, false), .rd .mov [.tmp 11]⟩,
             ⟨some 82, some (79, false), .rd (.idxAddr (some 3)) [.tmp 80, .tmp 81]⟩,
             ⟨some 83, some (79, false), .rd (.fldAddr 1) [.tmp 82]⟩,
             ⟨some 84, some (79, false), .rd (.load none) [.tmp 83]⟩,
             ⟨some 85, some (79, false), .rd .mov [.tmp 9]⟩,
             ⟨some 86, some (79, false), .rd .mov [.tmp 11]⟩,
             ⟨some 87, some (79, false), .rd (.idxAddr (some 3)) [.tmp 85, .tmp 86]⟩,
             ⟨some 88, some (79, false), .rd (.fldAddr 1) [.tmp 87]⟩,
             ⟨some 89, some (79, false), .rd (.load none) [.tmp 88]⟩,
             ⟨some 90, some (79, false), .rd (.bin .neq) [.tmp 84, .tmp 89]⟩,
             ⟨some 91, none, .rd .pick [.tmp 79, .pv (.bool true), .tmp 90]⟩] L5)
          (.cond (.tmp 91)
           (.seq (.region false [⟨some 2, none, .rd .mov [.pv (.bool false)]⟩] L5)
            (.ret))
           (.skip)))))
       (.region false [⟨some 92, none, .rd (.bin .add) [.tmp 65, .pv (.int .i64 1)]⟩,
         ⟨some 65, none, .rd .mov [.tmp 92]⟩] L5)))))))
  (.seq (.region false [⟨some 93, none, .call (.pv (.fn 8 [] [])) []⟩,
     ⟨some 2, none, .rd .mov [.tmp 93]⟩] L5)
  (.ret)))))))))),
  [.tmp 2]⟩

-- wagebook/wagebooklaw12.LexLong
def L6 : List Nat := [0, 1, 4, 5, 6, 7, 9, 10, 12, 13, 21, 22, 23]
def c6 : CF := ⟨67,
  .seq (.region false [⟨some 4, none, .rd .mov [.pv (.bool false)]⟩] L6)
  (.seq (.region false [⟨some 14, none, .rd .mov [.tmp 0]⟩,
     ⟨some 15, none, .rd (.bin .rem) [.tmp 14, .pv (.int .u8 9)]⟩,
     ⟨some 16, none, .rd (.conv .i64) [.tmp 15]⟩,
     ⟨some 17, none, .rd (.bin .add) [.pv (.int .i64 4092), .tmp 16]⟩,
     ⟨some 5, none, .rd .mov [.tmp 17]⟩] L6)
  (.seq (.region false [⟨some 18, none, .rd .mov [.tmp 5]⟩,
     ⟨some 19, none, .eff (.make none (.int .u8 0) 1) [.tmp 18, .tmp 18]⟩,
     ⟨some 6, none, .rd .mov [.tmp 19]⟩] L6)
  (.seq (.seq (.region false [⟨some 20, none, .rd .mov [.tmp 6]⟩,
      ⟨some 21, none, .rd .lenL [.tmp 20]⟩,
      ⟨some 22, none, .rd .mov [.pv (.int .i64 0)]⟩] L6)
   (.block 0
    (.loop
      (.seq (.region false [⟨some 23, none, .rd (.bin .lss) [.tmp 22, .tmp 21]⟩] L6)
       (.seq (.cond (.tmp 23)
         (.skip)
         (.exit 0))
       (.seq (.block 1
         (.seq (.region false [⟨some 24, none, .rd .mov [.tmp 22]⟩,
             ⟨some 7, none, .rd .mov [.tmp 24]⟩] L6)
          (.region false [⟨some 25, none, .rd .mov [.tmp 6]⟩,
            ⟨some 26, none, .rd .mov [.tmp 7]⟩,
            ⟨some 27, none, .rd (.idxAddr none) [.tmp 25, .tmp 26]⟩,
            ⟨none, none, .eff (.store none) [.tmp 27, .pv (.int .u8 32)]⟩] L6)))
       (.region false [⟨some 28, none, .rd (.bin .add) [.tmp 22, .pv (.int .i64 1)]⟩,
         ⟨some 22, none, .rd .mov [.tmp 28]⟩] L6)))))))
  (.seq (.region false [⟨some 29, none, .rd .mov [.tmp 6]⟩,
     ⟨some 30, none, .rd .mov [.tmp 5]⟩,
     ⟨some 31, none, .rd (.bin .sub) [.tmp 30, .pv (.int .i64 1)]⟩,
     ⟨some 32, none, .rd .mov [.tmp 1]⟩,
     ⟨some 33, none, .rd (.idxAddr none) [.tmp 29, .tmp 31]⟩,
     ⟨none, none, .eff (.store none) [.tmp 33, .tmp 32]⟩] L6)
  (.seq (.region false [⟨some 35, none, .rd .mov [.tmp 6]⟩,
     ⟨some 36, none, .eff .b2s [.tmp 35]⟩,
     ⟨some 37, none, .call (.pv (.fn 9 [] [])) [.tmp 36]⟩,
     ⟨some 34, none, .rd .mov [.tmp 37]⟩,
     ⟨some 38, none, .rd (.ext 0) [.tmp 34]⟩,
     ⟨some 39, none, .rd (.ext 1) [.tmp 34]⟩,
     ⟨some 40, none, .rd (.ext 2) [.tmp 34]⟩,
     ⟨some 8, none, .rd .mov [.tmp 38]⟩,
     ⟨some 9, none, .rd .mov [.tmp 39]⟩,
     ⟨some 10, none, .rd .mov [.tmp 40]⟩] L6)
  (.seq (.region false [⟨some 42, none, .rd .mov [.tmp 6]⟩,
     ⟨some 43, none, .eff .b2s [.tmp 42]⟩,
     ⟨some 44, none, .call (.pv (.fn 10 [] [])) [.tmp 43]⟩,
     ⟨some 41, none, .rd .mov [.tmp 44]⟩,
     ⟨some 45, none, .rd (.ext 0) [.tmp 41]⟩,
     ⟨some 46, none, .rd (.ext 1) [.tmp 41]⟩,
     ⟨some 47, none, .rd (.ext 2) [.tmp 41]⟩,
     ⟨some 11, none, .rd .mov [.tmp 45]⟩,
     ⟨some 12, none, .rd .mov [.tmp 46]⟩,
     ⟨some 13, none, .rd .mov [.tmp 47]⟩] L6)
  (.seq (.region false [⟨some 48, none, .call (.pv (.fn 8 [] [])) []⟩,
     ⟨some 49, none, .rd .mov [.tmp 48]⟩,
     ⟨some 50, some (49, true), .rd .mov [.tmp 9]⟩,
     ⟨some 51, some (49, true), .rd .mov [.tmp 12]⟩,
     ⟨some 52, some (49, true), .rd (.bin .eql) [.tmp 50, .tmp 51]⟩,
     ⟨some 53, none, .rd .pick [.tmp 49, .tmp 52, .pv (.bool false)]⟩,
     ⟨some 54, none, .rd .mov [.tmp 53]⟩,
     ⟨some 55, some (54, true), .rd .mov [.tmp 10]⟩,
     ⟨some 56, some (54, true), .rd .mov [.tmp 13]⟩,
     ⟨some 57, some (54, true), .rd (.bin .eql) [.tmp 55, .tmp 56]⟩,
     ⟨some 58, none, .rd .pick [.tmp 54, .tmp 57, .pv (.bool false)]⟩,
     ⟨some 59, none, .rd .mov [.tmp 58]⟩,
     ⟨some 60, some (59, true), .rd .mov [.tmp 5]⟩,
     ⟨some 61, some (59, true), .rd (.bin .leq) [.tmp 60, .pv (.int .i64 4096)]⟩,
     ⟨some 62, some (59, true), .rd .mov [.tmp 61]⟩,
     ⟨some 63, some (62, false), .rd .mov [.tmp 10]⟩,
     ⟨some 64, some (62, false), .rd (.bin .eql) [.tmp 63, .pv (.int .i64 4)]⟩,
     ⟨some 65, some (59, true), .rd .pick [.tmp 62, .pv (.bool true), .tmp 64]⟩,
     ⟨some 66, none, .rd .pick [.tmp 59, .tmp 65, .pv (.bool false)]⟩,
     ⟨some 4, none, .rd .mov [.tmp 66]⟩] L6)
  (.ret)))))))),
  [.tmp 4]⟩

-- wagebook/wagebooklaw12.LexPlaces
def L7 : List Nat := [0, 2, 3, 4, 5, 6, 7, 8, 10, 11, 13, 16, 25, 42, 43, 44, 45, 85, 91, 92, 93, 94, 98, 147]
def c7 : CF := ⟨161,
  .seq (.region false [⟨some 2, none, .rd .mov [.pv (.bool false)]⟩] L7)
  (.seq (.seq (.region false [⟨some 14, none, .rd .mov [.tmp 0]⟩,
      ⟨some 15, none, .rd .lenS [.tmp 14]⟩,
      ⟨some 16, none, .rd (.bin .gtr) [.tmp 15, .pv (.int .i64 5000)]⟩] L7)
   (.cond (.tmp 16)
    (.seq (.region false [⟨some 17, none, .call (.pv (.fn 8 [] [])) []⟩,
        ⟨some 2, none, .rd .mov [.tmp 17]⟩] L7)
     (.ret))
    (.skip)))
  (.seq (.region false [⟨some 19, none, .rd .mov [.tmp 0]⟩,
     ⟨some 20, none, .call (.pv (.fn 9 [] [])) [.tmp 19]⟩,
     ⟨some 18, none, .rd .mov [.tmp 20]⟩,
     ⟨some 21, none, .rd (.ext 0) [.tmp 18]⟩,
     ⟨some 22, none, .rd (.ext 1) [.tmp 18]⟩,
     ⟨some 23, none, .rd (.ext 2) [.tmp 18]⟩,
     ⟨some 3, none, .rd .mov [.tmp 21]⟩,
     ⟨some 4, none, .rd .mov [.tmp 22]⟩,
     ⟨some 5, none, .rd .mov [.tmp 23]⟩] L7)
  (.seq (.seq (.region false [⟨some 24, none, .rd .mov [.tmp 5]⟩,
      ⟨some 25, none, .rd (.bin .neq) [.tmp 24, .pv (.int .i64 0)]⟩] L7)
   (.cond (.tmp 25)
    (.seq (.region false [⟨some 26, none, .call (.pv (.fn 8 [] [])) []⟩,
        ⟨some 27, none, .rd .mov [.tmp 26]⟩,
        ⟨some 28, some (27, true), .rd .mov [.tmp 3]⟩,
        ⟨some 29, some (27, true), .rd .lenL [.tmp 28]⟩,
        ⟨some 30, some (27, true), .rd (.bin .eql) [.tmp 29, .pv (.int .i64 0)]⟩,
        ⟨some 31, none, .rd .pick [.tmp 27, .tmp 30, .pv (.bool false)]⟩,
        ⟨some 32, none, .rd .mov [.tmp 31]⟩,
        ⟨some 33, some (32, true), .rd .mov [.tmp 4]⟩,
        ⟨some 34, some (32, true), .rd (.bin .geq) [.tmp 33, .pv (.int .i64 0)]⟩,
        ⟨some 35, none, .rd .pick [.tmp 32, .tmp 34, .pv (.bool false)]⟩,
        ⟨some 36, none, .rd .mov [.tmp 35]⟩,
        ⟨some 37, some (36, true), .rd .mov [.tmp 4]⟩,
        ⟨some 38, some (36, true), .rd .mov [.tmp 0]⟩,
        ⟨some 39, some (36, true), .rd .lenS [.tmp 38]⟩,
        ⟨some 40, some (36, true), .rd (.bin .leq) [.tmp 37, .tmp 39]⟩,
        ⟨some 41, none, .rd .pick [.tmp 36, .tmp 40, .pv (.bool false)]⟩,
        ⟨some 2, none, .rd .mov [.tmp 41]⟩] L7)
     (.ret))
    (.skip)))
  (.seq (.region false [⟨some 6, none, .rd .mov [.pv (.int .i64 0)]⟩] L7)
  (.seq (.seq (.region false [⟨some 42, none, .rd .mov [.tmp 3]⟩,
      ⟨some 43, none, .rd .lenL [.tmp 42]⟩,
      ⟨some 44, none, .rd .mov [.pv (.int .i64 0)]⟩] L7)
   (.block 0
    (.loop
      (.seq (.region false [⟨some 45, none, .rd (.bin .lss) [.tmp 44, .tmp 43]⟩] L7)
       (.seq (.cond (.tmp 45)
         (.skip)
         (.exit 0))
       (.seq (.block 1
         (.seq (.region false [⟨some 46, none, .rd .mov [.tmp 44]⟩,
             ⟨some 47, none, .rd (.idxAddr (some 3)) [.tmp 42, .tmp 44]⟩,
             ⟨some 48, none, .rd (.load (some 3)) [.tmp 47]⟩,
             ⟨some 8, none, .eff (.alloc (some 3) (.agg [(.int .i64 0), (.str []), (.int .i64 0)])) []⟩,
             ⟨some 7, none, .rd .mov [.tmp 46]⟩,
             ⟨none, none, .eff (.store (some 3)) [.tmp 8, .tmp 48]⟩] L7)
          (.seq (.seq (.region true [⟨some 49, none, .rd (.fldAddr 2) [.tmp 8]⟩,
              ⟨some 50, none, .rd (.load none) [.tmp 49]⟩,
              ⟨some 51, none, .rd .mov [.tmp 6]⟩,
              ⟨some 52, none, .rd (.bin .lss) [.tmp 50, .tmp 51]⟩,
              ⟨some 53, none, .rd .mov [.tmp 52]⟩,
              ⟨some 54, some (53, false), .rd (.fldAddr 2) [.tmp 8]⟩,
              ⟨some 55, some (53, false), .rd (.load none) [.tmp 54]⟩,
              ⟨some 56, some (53, false), .rd .mov [.tmp 0]⟩,
              ⟨some 57, some (53, false), .rd .lenS [.tmp 56]⟩,
              ⟨some 58, some (53, false), .rd (.bin .gtr) [.tmp 55, .tmp 57]⟩,
              ⟨some 59, none, .rd .pick [.tmp 53, .pv (.bool true), .tmp 58]⟩,
              ⟨some 60, none, .rd .mov [.tmp 59]⟩,
              ⟨some 61, some (60, false), .rd (.fldAddr 2) [.tmp 8]⟩,
              ⟨some 62, some (60, false), .rd (.load none) [.tmp 61]⟩,
              ⟨some 63, some (60, false), .rd (.fldAddr 1) [.tmp 8]⟩,
              ⟨some 64, some (60, false), .rd (.load none) [.tmp 63]⟩,
              ⟨some 65, some (60, false), .rd .lenS [.tmp 64]⟩,
              ⟨some 66, some (60, false), .rd (.bin .add) [.tmp 62, .tmp 65]⟩,
              ⟨some 67, some (60, false), .rd .mov [.tmp 0]⟩,
              ⟨some 68, some (60, false), .rd .lenS [.tmp 67]⟩,
              ⟨some 69, some (60, false), .rd (.bin .gtr) [.tmp 66, .tmp 68]⟩,
              ⟨some 70, none, .rd .pick [.tmp 60, .pv (.bool true), .tmp 69]⟩,
              ⟨some 71, none, .rd .mov [.tmp 70]⟩,
              ⟨some 72, some (71, false), .rd .mov [.tmp 0]⟩,
              ⟨some 73, some (71, false), .rd (.fldAddr 2) [.tmp 8]⟩,
              ⟨some 74, some (71, false), .rd (.load none) [.tmp 73]⟩,
              ⟨some 75, some (71, false), .rd (.fldAddr 2) [.tmp 8]⟩,
              ⟨some 76, some (71, false), .rd (.load none) [.tmp 75]⟩,
              ⟨some 77, some (71, false), .rd (.fldAddr 1) [.tmp 8]⟩,
              ⟨some 78, some (71, false), .rd (.load none) [.tmp 77]⟩,
              ⟨some 79, some (71, false), .rd .lenS [.tmp 78]⟩,
              ⟨some 80, some (71, false), .rd (.bin .add) [.tmp 76, .tmp 79]⟩,
              ⟨some 81, some (71, false), .rd (.slcS true true) [.tmp 72, .tmp 74, .tmp 80]⟩,
              ⟨some 82, some (71, false), .rd (.fldAddr 1) [.tmp 8]⟩,
              ⟨some 83, some (71, false), .rd (.load none) [.tmp 82]⟩,
              ⟨some 84, some (71, false), .rd (.bin .neq) [.tmp 81, .tmp 83]⟩,
              ⟨some 85, none, .rd .pick [.tmp 71, .pv (.bool true), .tmp 84]⟩] L7)
           (.cond (.tmp 85)
            (.seq (.region false [⟨some 2, none, .rd .mov [.pv (.bool false)]⟩] L7)
             (.ret))
            (.skip)))
          (.seq (.seq (.region false [⟨some 86, none, .rd .mov [.tmp 0]⟩,
              ⟨some 87, none, .rd .mov [.tmp 6]⟩,
              ⟨some 88, none, .rd (.fldAddr 2) [.tmp 8]⟩,
              ⟨some 89, none, .rd (.load none) [.tmp 88]⟩,
              ⟨some 90, none, .rd (.slcS true true) [.tmp 86, .tmp 87, .tmp 89]⟩,
              ⟨some 91, none, .eff .s2b [.tmp 90]⟩,
              ⟨some 92, none, .rd .lenL [.tmp 91]⟩,
              ⟨some 93, none, .rd .mov [.pv (.int .i64 0)]⟩] L7)
           (.block 2
            (.loop
              (.seq (.region false [⟨some 94, none, .rd (.bin .lss) [.tmp 93, .tmp 92]⟩] L7)
               (.seq (.cond (.tmp 94)
                 (.skip)
                 (.exit 2))
               (.seq (.block 3
                 (.seq (.region false [⟨some 95, none, .rd (.idxAddr none) [.tmp 91, .tmp 93]⟩,
                     ⟨some 96, none, .rd (.load none) [.tmp 95]⟩,
                     ⟨some 10, none, .rd .mov [.tmp 96]⟩] L7)
                  (.seq (.region false [⟨some 97, none, .rd .mov [.tmp 10]⟩,
                     ⟨some 98, none, .rd (.bin .neq) [.tmp 97, .pv (.int .u8 32)]⟩] L7)
                  (.cond (.tmp 98)
                   (.seq (.region false [⟨some 2, none, .rd .mov [.pv (.bool false)]⟩] L7)
                    (.ret))
                   (.skip)))))
               (.region false [⟨some 99, none, .rd (.bin .add) [.tmp 93, .pv (.int .i64 1)]⟩,
                 ⟨some 93, none, .rd .mov [.tmp 99]⟩] L7)))))))
          (.seq (.region false [⟨some 100, none, .rd (.fldAddr 2) [.tmp 8]⟩,
             ⟨some 101, none, .rd (.load none) [.tmp 100]⟩,
             ⟨some 102, none, .rd (.fldAddr 1) [.tmp 8]⟩,
             ⟨some 103, none, .rd (.load none) [.tmp 102]⟩,
             ⟨some 104, none, .rd .lenS [.tmp 103]⟩,
             ⟨some 105, none, .rd (.bin .add) [.tmp 101, .tmp 104]⟩,
             ⟨some 6, none, .rd .mov [.tmp 105]⟩] L7)
          (.seq (.region false [⟨some 106, none, .rd .mov [.tmp 7]⟩,
             ⟨some 107, none, .rd .mov [.tmp 3]⟩,
             ⟨some 108, none, .rd .lenL [.tmp 107]⟩,
             ⟨some 109, none, .rd (.bin .sub) [.tmp 108, .pv (.int .i64 1)]⟩,
             ⟨some 110, none, .rd (.bin .eql) [.tmp 106, .tmp 109]⟩,
             ⟨some 11, none, .rd .mov [.tmp 110]⟩] L7)
          (.seq (.region false [⟨some 112, none, .rd (.fldAddr 1) [.tmp 8]⟩,
             ⟨some 113, none, .rd (.load none) [.tmp 112]⟩,
             ⟨some 114, none, .call (.pv (.fn 11 [] [])) [.tmp 113]⟩,
             ⟨some 111, none, .rd .mov [.tmp 114]⟩,
             ⟨some 115, none, .rd (.ext 0) [.tmp 111]⟩,
             ⟨some 116, none, .rd (.ext 1) [.tmp 111]⟩,
             ⟨some 12, none, .rd .mov [.tmp 115]⟩,
             ⟨some 13, none, .rd .mov [.tmp 116]⟩] L7)
          (.seq (.region true [⟨some 117, none, .rd .mov [.tmp 11]⟩,
             ⟨some 118, none, .rd (.fldAddr 0) [.tmp 8]⟩,
             ⟨some 119, none, .rd (.load none) [.tmp 118]⟩,
             ⟨some 120, none, .rd (.bin .eql) [.tmp 119, .pv (.int .i64 0)]⟩,
             ⟨some 121, none, .rd (.eqB true) [.tmp 117, .tmp 120]⟩,
             ⟨some 122, none, .rd .mov [.tmp 121]⟩,
             ⟨some 123, some (122, false), .rd (.fldAddr 0) [.tmp 8]⟩,
             ⟨some 124, some (122, false), .rd (.load none) [.tmp 123]⟩,
             ⟨some 125, some (122, false), .rd (.bin .eql) [.tmp 124, .pv (.int .i64 1)]⟩,
             ⟨some 126, some (122, false), .rd (.fldAddr 1) [.tmp 8]⟩,
             ⟨some 127, some (122, false), .rd (.load none) [.tmp 126]⟩,
             ⟨some 128, some (122, false), .call (.pv (.fn 12 [] [])) [.tmp 127]⟩,
             ⟨some 129, some (122, false), .rd (.eqB true) [.tmp 125, .tmp 128]⟩,
             ⟨some 130, none, .rd .pick [.tmp 122, .pv (.bool true), .tmp 129]⟩,
             ⟨some 131, none, .rd .mov [.tmp 130]⟩,
             ⟨some 132, some (131, false), .rd (.fldAddr 0) [.tmp 8]⟩,
             ⟨some 133, some (131, false), .rd (.load none) [.tmp 132]⟩,
             ⟨some 134, some (131, false), .rd (.bin .eql) [.tmp 133, .pv (.int .i64 2)]⟩,
             ⟨some 135, some (131, false), .rd .mov [.tmp 13]⟩,
             ⟨some 136, some (131, false), .rd (.bin .eql) [.tmp 135, .pv (.int .i64 0)]⟩,
             ⟨some 137, some (131, false), .rd (.eqB true) [.tmp 134, .tmp 136]⟩,
             ⟨some 138, none, .rd .pick [.tmp 131, .pv (.bool true), .tmp 137]⟩,
             ⟨some 139, none, .rd .mov [.tmp 138]⟩,
             ⟨some 140, some (139, false), .rd .mov [.tmp 11]⟩,
             ⟨some 141, some (139, false), .rd (.un .not) [.tmp 140]⟩,
             ⟨some 142, some (139, false), .rd .mov [.tmp 141]⟩,
             ⟨some 143, some (142, true), .rd (.fldAddr 1) [.tmp 8]⟩,
             ⟨some 144, some (142, true), .rd (.load none) [.tmp 143]⟩,
             ⟨some 145, some (142, true), .rd (.bin .eql) [.tmp 144, .pv (.str [])]⟩,
             ⟨some 146, some (139, false), .rd .pick [.tmp 142, .tmp 145, .pv (.bool false)]⟩,
             ⟨some 147, none, .rd .pick [.tmp 139, .pv (.bool true), .tmp 146]⟩] L7)
          (.cond (.tmp 147)
           (.seq (.region false [⟨some 2, none, .rd .mov [.pv (.bool false)]⟩] L7)
            (.ret))
           (.skip))))))))))
       (.region false [⟨some 148, none, .rd (.bin .add) [.tmp 44, .pv (.int .i64 1)]⟩,
         ⟨some 44, none, .rd .mov [.tmp 148]⟩] L7)))))))
  (.seq (.region false [⟨some 149, none, .call (.pv (.fn 8 [] [])) []⟩,
     ⟨some 150, none, .rd .mov [.tmp 149]⟩,
     ⟨some 151, some (150, true), .rd .mov [.tmp 3]⟩,
     ⟨some 152, some (150, true), .rd .lenL [.tmp 151]⟩,
     ⟨some 153, some (150, true), .rd (.bin .gtr) [.tmp 152, .pv (.int .i64 0)]⟩,
     ⟨some 154, none, .rd .pick [.tmp 150, .tmp 153, .pv (.bool false)]⟩,
     ⟨some 155, none, .rd .mov [.tmp 154]⟩,
     ⟨some 156, some (155, true), .rd .mov [.tmp 6]⟩,
     ⟨some 157, some (155, true), .rd .mov [.tmp 0]⟩,
     ⟨some 158, some (155, true), .rd .lenS [.tmp 157]⟩,
     ⟨some 159, some (155, true), .rd (.bin .eql) [.tmp 156, .tmp 158]⟩,
     ⟨some 160, none, .rd .pick [.tmp 155, .tmp 159, .pv (.bool false)]⟩,
     ⟨some 2, none, .rd .mov [.tmp 160]⟩] L7)
  (.ret))))))),
  [.tmp 2]⟩

-- wagebook/wagebooklaw12.awake
def L8 : List Nat := [0, 1, 2, 3, 4, 5]
def c8 : CF := ⟨48,
  .seq (.region false [⟨some 0, none, .rd .mov [.pv (.bool false)]⟩] L8)
  (.seq (.region false [⟨some 7, none, .call (.pv (.fn 9 [] [])) [.pv (.str [114, 97, 116, 101, 42, 48, 46, 53])]⟩,
     ⟨some 6, none, .rd .mov [.tmp 7]⟩,
     ⟨some 8, none, .rd (.ext 0) [.tmp 6]⟩,
     ⟨some 9, none, .rd (.ext 1) [.tmp 6]⟩,
     ⟨some 10, none, .rd (.ext 2) [.tmp 6]⟩,
     ⟨some 1, none, .rd .mov [.tmp 8]⟩,
     ⟨some 2, none, .rd .mov [.tmp 9]⟩,
     ⟨some 3, none, .rd .mov [.tmp 10]⟩] L8)
  (.seq (.region false [⟨some 12, none, .call (.pv (.fn 11 [] [])) [.pv (.str [49, 50, 46, 53, 48])]⟩,
     ⟨some 11, none, .rd .mov [.tmp 12]⟩,
     ⟨some 13, none, .rd (.ext 0) [.tmp 11]⟩,
     ⟨some 14, none, .rd (.ext 1) [.tmp 11]⟩,
     ⟨some 4, none, .rd .mov [.tmp 13]⟩,
     ⟨some 5, none, .rd .mov [.tmp 14]⟩] L8)
  (.seq (.region false [⟨some 15, none, .rd .mov [.tmp 3]⟩,
     ⟨some 16, none, .rd (.bin .eql) [.tmp 15, .pv (.int .i64 0)]⟩,
     ⟨some 17, none, .rd .mov [.tmp 16]⟩,
     ⟨some 18, some (17, true), .rd .mov [.tmp 2]⟩,
     ⟨some 19, some (17, true), .rd (.bin .eql) [.tmp 18, .pv (.int .i64 0)]⟩,
     ⟨some 20, none, .rd .pick [.tmp 17, .tmp 19, .pv (.bool false)]⟩,
     ⟨some 21, none, .rd .mov [.tmp 20]⟩,
     ⟨some 22, some (21, true), .rd .mov [.tmp 1]⟩,
     ⟨some 23, some (21, true), .rd .lenL [.tmp 22]⟩,
     ⟨some 24, some (21, true), .rd (.bin .eql) [.tmp 23, .pv (.int .i64 4)]⟩,
     ⟨some 25, none, .rd .pick [.tmp 21, .tmp 24, .pv (.bool false)]⟩,
     ⟨some 26, none, .rd .mov [.tmp 25]⟩,
     ⟨some 27, some (26, true), .rd .mov [.tmp 1]⟩,
     ⟨some 28, some (26, true), .rd (.idxAddr (some 3)) [.tmp 27, .pv (.int .i64 2)]⟩,
     ⟨some 29, some (26, true), .rd (.load (some 3)) [.tmp 28]⟩,
     ⟨some 30, some (26, true), .rd (.build [(.int .i64 0), (.str []), (.int .i64 0)] [(0, 1), (1, 1), (2, 1)]) [.pv (.int .i64 2), .pv (.str [48, 46, 53]), .pv (.int .i64 5)]⟩,
     ⟨some 31, some (26, true), .rd (.eqA false [0, 2, 0]) [.tmp 29, .tmp 30]⟩,
     ⟨some 32, none, .rd .pick [.tmp 26, .tmp 31, .pv (.bool false)]⟩,
     ⟨some 33, none, .rd .mov [.tmp 32]⟩,
     ⟨some 34, some (33, true), .rd .mov [.tmp 1]⟩,
     ⟨some 35, some (33, true), .rd (.idxAddr (some 3)) [.tmp 34, .pv (.int .i64 3)]⟩,
     ⟨some 36, some (33, true), .rd (.load (some 3)) [.tmp 35]⟩,
     ⟨some 37, some (33, true), .rd (.build [(.int .i64 0), (.str []), (.int .i64 0)] [(0, 1), (2, 1)]) [.pv (.int .i64 0), .pv (.int .i64 8)]⟩,
     ⟨some 38, some (33, true), .rd (.eqA false [0, 2, 0]) [.tmp 36, .tmp 37]⟩,
     ⟨some 39, none, .rd .pick [.tmp 33, .tmp 38, .pv (.bool false)]⟩,
     ⟨some 40, none, .rd .mov [.tmp 39]⟩,
     ⟨some 41, some (40, true), .rd .mov [.tmp 4]⟩,
     ⟨some 42, some (40, true), .rd (.bin .eql) [.tmp 41, .pv (.int .i64 12500000)]⟩,
     ⟨some 43, none, .rd .pick [.tmp 40, .tmp 42, .pv (.bool false)]⟩,
     ⟨some 44, none, .rd .mov [.tmp 43]⟩,
     ⟨some 45, some (44, true), .rd .mov [.tmp 5]⟩,
     ⟨some 46, some (44, true), .rd (.bin .eql) [.tmp 45, .pv (.int .i64 0)]⟩,
     ⟨some 47, none, .rd .pick [.tmp 44, .tmp 46, .pv (.bool false)]⟩,
     ⟨some 0, none, .rd .mov [.tmp 47]⟩] L8)
  (.ret)))),
  [.tmp 0]⟩

-- wagebook/lex.All
def L9 : List Nat := [0, 2, 3, 4, 5, 6, 7, 8, 9, 10, 13, 17, 21, 33]
def c9 : CF := ⟨57,
  .seq (.region false [⟨some 2, none, .rd .mov [.pv .nilSl]⟩,
     ⟨some 3, none, .rd .mov [.pv (.int .i64 0)]⟩,
     ⟨some 4, none, .rd .mov [.pv (.int .i64 0)]⟩] L9)
  (.seq (.seq (.region false [⟨some 11, none, .rd .mov [.tmp 0]⟩,
      ⟨some 12, none, .rd .lenS [.tmp 11]⟩,
      ⟨some 13, none, .rd (.bin .gtr) [.tmp 12, .pv (.int .i64 4096)]⟩] L9)
   (.cond (.tmp 13)
    (.seq (.region false [⟨some 2, none, .rd .mov [.pv .nilSl]⟩,
        ⟨some 3, none, .rd .mov [.pv (.int .i64 0)]⟩,
        ⟨some 4, none, .rd .mov [.pv (.int .i64 4)]⟩] L9)
     (.ret))
    (.skip)))
  (.seq (.region false [⟨some 5, none, .rd .mov [.pv .nilSl]⟩] L9)
  (.seq (.seq (.region false [⟨some 6, none, .rd .mov [.pv (.int .i64 0)]⟩] L9)
   (.block 0
    (.loop
      (.seq (.seq (.region false [⟨some 14, none, .rd .mov [.tmp 6]⟩,
           ⟨some 15, none, .rd .mov [.tmp 0]⟩,
           ⟨some 16, none, .rd .lenS [.tmp 15]⟩,
           ⟨some 17, none, .rd (.bin .lss) [.tmp 14, .tmp 16]⟩] L9)
        (.cond (.tmp 17)
         (.skip)
         (.exit 0)))
       (.block 1
        (.seq (.seq (.region false [⟨some 18, none, .rd .mov [.tmp 0]⟩,
             ⟨some 19, none, .rd .mov [.tmp 6]⟩,
             ⟨some 20, none, .rd .idxS [.tmp 18, .tmp 19]⟩,
             ⟨some 21, none, .rd (.bin .eql) [.tmp 20, .pv (.int .u8 32)]⟩] L9)
          (.cond (.tmp 21)
           (.seq (.region false [⟨some 22, none, .rd .mov [.tmp 6]⟩,
               ⟨some 23, none, .rd (.bin .add) [.tmp 22, .pv (.int .i64 1)]⟩,
               ⟨some 6, none, .rd .mov [.tmp 23]⟩] L9)
            (.exit 1))
           (.skip)))
         (.seq (.region false [⟨some 25, none, .rd .mov [.tmp 0]⟩,
            ⟨some 26, none, .rd .mov [.tmp 6]⟩,
            ⟨some 27, none, .call (.pv (.fn 13 [] [])) [.tmp 25, .tmp 26]⟩,
            ⟨some 24, none, .rd .mov [.tmp 27]⟩,
            ⟨some 28, none, .rd (.ext 0) [.tmp 24]⟩,
            ⟨some 29, none, .rd (.ext 1) [.tmp 24]⟩,
            ⟨some 30, none, .rd (.ext 2) [.tmp 24]⟩,
            ⟨some 31, none, .rd (.ext 3) [.tmp 24]⟩,
            ⟨some 7, none, .rd .mov [.tmp 28]⟩,
            ⟨some 8, none, .rd .mov [.tmp 29]⟩,
            ⟨some 9, none, .rd .mov [.tmp 30]⟩,
            ⟨some 10, none, .rd .mov [.tmp 31]⟩] L9)
         (.seq (.seq (.region false [⟨some 32, none, .rd .mov [.tmp 10]⟩,
             ⟨some 33, none, .rd (.bin .neq) [.tmp 32, .pv (.int .i64 0)]⟩] L9)
          (.cond (.tmp 33)
           (.seq (.region false [⟨some 34, none, .rd .mov [.tmp 9]⟩,
               ⟨some 35, none, .rd .mov [.tmp 10]⟩,
               ⟨some 2, none, .rd .mov [.pv .nilSl]⟩,
               ⟨some 3, none, .rd .mov [.tmp 34]⟩,
               ⟨some 4, none, .rd .mov [.tmp 35]⟩] L9)
            (.ret))
           (.skip)))
         (.seq (.region false [⟨some 36, none, .rd .mov [.tmp 5]⟩,
            ⟨some 37, none, .rd .mov [.tmp 7]⟩,
            ⟨some 38, none, .rd .mov [.tmp 0]⟩,
            ⟨some 39, none, .rd .mov [.tmp 6]⟩,
            ⟨some 40, none, .rd .mov [.tmp 6]⟩,
            ⟨some 41, none, .rd .mov [.tmp 8]⟩,
            ⟨some 42, none, .rd (.bin .add) [.tmp 40, .tmp 41]⟩,
            ⟨some 43, none, .rd (.slcS true true) [.tmp 38, .tmp 39, .tmp 42]⟩,
            ⟨some 44, none, .rd .mov [.tmp 6]⟩,
            ⟨some 45, none, .rd (.build [(.int .i64 0), (.str []), (.int .i64 0)] [(0, 1), (1, 1), (2, 1)]) [.tmp 37, .tmp 43, .tmp 44]⟩,
            ⟨some 46, none, .eff (.lit (some 3) false) [.tmp 45]⟩,
            ⟨some 47, none, .eff (.append (some 3) 32) [.tmp 36, .tmp 46]⟩,
            ⟨some 5, none, .rd .mov [.tmp 47]⟩] L9)
         (.region false [⟨some 48, none, .rd .mov [.tmp 6]⟩,
           ⟨some 49, none, .rd .mov [.tmp 8]⟩,
           ⟨some 50, none, .rd (.bin .add) [.tmp 48, .tmp 49]⟩,
           ⟨some 6, none, .rd .mov [.tmp 50]⟩] L9))))))))))
  (.seq (.region false [⟨some 51, none, .rd .mov [.tmp 5]⟩,
     ⟨some 52, none, .rd .mov [.tmp 0]⟩,
     ⟨some 53, none, .rd .lenS [.tmp 52]⟩,
     ⟨some 54, none, .rd (.build [(.int .i64 0), (.str []), (.int .i64 0)] [(0, 1), (1, 1), (2, 1)]) [.pv (.int .i64 0), .pv (.str []), .tmp 53]⟩,
     ⟨some 55, none, .eff (.lit (some 3) false) [.tmp 54]⟩,
     ⟨some 56, none, .eff (.append (some 3) 32) [.tmp 51, .tmp 55]⟩,
     ⟨some 2, none, .rd .mov [.tmp 56]⟩,
     ⟨some 3, none, .rd .mov [.pv (.int .i64 0)]⟩,
     ⟨some 4, none, .rd .mov [.pv (.int .i64 0)]⟩] L9)
  (.ret))))),
  [.tmp 2, .tmp 3, .tmp 4]⟩

-- wagebook/wagebookref12.All
def L10 : List Nat := [0, 2, 3, 4, 5, 6, 7, 8, 9, 11, 12, 15, 19, 23, 29, 43, 47, 52, 62, 70]
def c10 : CF := ⟨93,
  .seq (.region false [⟨some 2, none, .rd .mov [.pv .nilSl]⟩,
     ⟨some 3, none, .rd .mov [.pv (.int .i64 0)]⟩,
     ⟨some 4, none, .rd .mov [.pv (.int .i64 0)]⟩] L10)
  (.seq (.seq (.region false [⟨some 13, none, .rd .mov [.tmp 0]⟩,
      ⟨some 14, none, .rd .lenS [.tmp 13]⟩,
      ⟨some 15, none, .rd (.bin .gtr) [.tmp 14, .pv (.int .i64 4096)]⟩] L10)
   (.cond (.tmp 15)
    (.seq (.region false [⟨some 2, none, .rd .mov [.pv .nilSl]⟩,
        ⟨some 3, none, .rd .mov [.pv (.int .i64 0)]⟩,
        ⟨some 4, none, .rd .mov [.pv (.int .i64 4)]⟩] L10)
     (.ret))
    (.skip)))
  (.seq (.region false [⟨some 5, none, .rd .mov [.pv .nilSl]⟩] L10)
  (.seq (.seq (.region false [⟨some 6, none, .rd .mov [.pv (.int .i64 0)]⟩] L10)
   (.block 0
    (.loop
      (.seq (.seq (.region false [⟨some 16, none, .rd .mov [.tmp 6]⟩,
           ⟨some 17, none, .rd .mov [.tmp 0]⟩,
           ⟨some 18, none, .rd .lenS [.tmp 17]⟩,
           ⟨some 19, none, .rd (.bin .lss) [.tmp 16, .tmp 18]⟩] L10)
        (.cond (.tmp 19)
         (.skip)
         (.exit 0)))
       (.block 1
        (.seq (.seq (.region false [⟨some 20, none, .rd .mov [.tmp 0]⟩,
             ⟨some 21, none, .rd .mov [.tmp 6]⟩,
             ⟨some 22, none, .rd .idxS [.tmp 20, .tmp 21]⟩,
             ⟨some 23, none, .rd (.bin .eql) [.tmp 22, .pv (.int .u8 32)]⟩] L10)
          (.cond (.tmp 23)
           (.seq (.region false [⟨some 24, none, .rd .mov [.tmp 6]⟩,
               ⟨some 25, none, .rd (.bin .add) [.tmp 24, .pv (.int .i64 1)]⟩,
               ⟨some 6, none, .rd .mov [.tmp 25]⟩] L10)
            (.exit 1))
           (.skip)))
         (.seq (.region false [⟨some 7, none, .rd .mov [.pv (.int .i64 3)]⟩,
            ⟨some 8, none, .rd .mov [.pv (.int .i64 1)]⟩] L10)
         (.seq (.seq (.region false [⟨some 26, none, .rd .mov [.tmp 0]⟩,
             ⟨some 27, none, .rd .mov [.tmp 6]⟩,
             ⟨some 28, none, .rd .idxS [.tmp 26, .tmp 27]⟩,
             ⟨some 29, none, .call (.pv (.fn 14 [] [])) [.tmp 28]⟩] L10)
          (.cond (.tmp 29)
           (.seq (.region false [⟨some 7, none, .rd .mov [.pv (.int .i64 1)]⟩] L10)
            (.seq (.block 2
              (.loop
                (.seq (.seq (.region false [⟨some 30, none, .rd .mov [.tmp 6]⟩,
                     ⟨some 31, none, .rd .mov [.tmp 8]⟩,
                     ⟨some 32, none, .rd (.bin .add) [.tmp 30, .tmp 31]⟩,
                     ⟨some 33, none, .rd .mov [.tmp 0]⟩,
                     ⟨some 34, none, .rd .lenS [.tmp 33]⟩,
                     ⟨some 35, none, .rd (.bin .lss) [.tmp 32, .tmp 34]⟩,
                     ⟨some 36, none, .rd .mov [.tmp 35]⟩,
                     ⟨some 37, some (36, true), .rd .mov [.tmp 0]⟩,
                     ⟨some 38, some (36, true), .rd .mov [.tmp 6]⟩,
                     ⟨some 39, some (36, true), .rd .mov [.tmp 8]⟩,
                     ⟨some 40, some (36, true), .rd (.bin .add) [.tmp 38, .tmp 39]⟩,
                     ⟨some 41, some (36, true), .rd .idxS [.tmp 37, .tmp 40]⟩,
                     ⟨some 42, some (36, true), .call (.pv (.fn 15 [] [])) [.tmp 41]⟩,
                     ⟨some 43, none, .rd .pick [.tmp 36, .tmp 42, .pv (.bool false)]⟩] L10)
                  (.cond (.tmp 43)
                   (.skip)
                   (.exit 2)))
                 (.block 3
                  (.region false [⟨some 44, none, .rd .mov [.tmp 8]⟩,
                     ⟨some 45, none, .rd (.bin .add) [.tmp 44, .pv (.int .i64 1)]⟩,
                     ⟨some 8, none, .rd .mov [.tmp 45]⟩] L10)))))
            (.seq (.region false [⟨some 46, none, .rd .mov [.tmp 8]⟩,
               ⟨some 47, none, .rd (.bin .gtr) [.tmp 46, .pv (.int .i64 32)]⟩] L10)
            (.cond (.tmp 47)
             (.seq (.region false [⟨some 48, none, .rd .mov [.tmp 6]⟩,
                 ⟨some 2, none, .rd .mov [.pv .nilSl]⟩,
                 ⟨some 3, none, .rd .mov [.tmp 48]⟩,
                 ⟨some 4, none, .rd .mov [.pv (.int .i64 4)]⟩] L10)
              (.ret))
             (.skip)))))
           (.seq (.region false [⟨some 49, none, .rd .mov [.tmp 0]⟩,
               ⟨some 50, none, .rd .mov [.tmp 6]⟩,
               ⟨some 51, none, .rd .idxS [.tmp 49, .tmp 50]⟩,
               ⟨some 52, none, .call (.pv (.fn 16 [] [])) [.tmp 51]⟩] L10)
            (.cond (.tmp 52)
             (.seq (.region false [⟨some 54, none, .rd .mov [.tmp 0]⟩,
                 ⟨some 55, none, .rd .mov [.tmp 6]⟩,
                 ⟨some 56, none, .call (.pv (.fn 17 [] [])) [.tmp 54, .tmp 55]⟩,
                 ⟨some 53, none, .rd .mov [.tmp 56]⟩,
                 ⟨some 57, none, .rd (.ext 0) [.tmp 53]⟩,
                 ⟨some 58, none, .rd (.ext 1) [.tmp 53]⟩,
                 ⟨some 59, none, .rd (.ext 2) [.tmp 53]⟩,
                 ⟨some 60, none, .rd (.ext 3) [.tmp 53]⟩,
                 ⟨some 9, none, .rd .mov [.tmp 57]⟩,
                 ⟨some 10, none, .rd .mov [.tmp 58]⟩,
                 ⟨some 11, none, .rd .mov [.tmp 59]⟩,
                 ⟨some 12, none, .rd .mov [.tmp 60]⟩] L10)
              (.seq (.seq (.region false [⟨some 61, none, .rd .mov [.tmp 12]⟩,
                  ⟨some 62, none, .rd (.bin .neq) [.tmp 61, .pv (.int .i64 0)]⟩] L10)
               (.cond (.tmp 62)
                (.seq (.region false [⟨some 63, none, .rd .mov [.tmp 11]⟩,
                    ⟨some 64, none, .rd .mov [.tmp 12]⟩,
                    ⟨some 2, none, .rd .mov [.pv .nilSl]⟩,
                    ⟨some 3, none, .rd .mov [.tmp 63]⟩,
                    ⟨some 4, none, .rd .mov [.tmp 64]⟩] L10)
                 (.ret))
                (.skip)))
              (.region false [⟨some 65, none, .rd .mov [.tmp 9]⟩,
                ⟨some 7, none, .rd .mov [.pv (.int .i64 2)]⟩,
                ⟨some 8, none, .rd .mov [.tmp 65]⟩] L10)))
             (.seq (.region false [⟨some 66, none, .rd .mov [.tmp 0]⟩,
                 ⟨some 67, none, .rd .mov [.tmp 6]⟩,
                 ⟨some 68, none, .rd .idxS [.tmp 66, .tmp 67]⟩,
                 ⟨some 69, none, .call (.pv (.fn 18 [] [])) [.tmp 68]⟩,
                 ⟨some 70, none, .rd (.un .not) [.tmp 69]⟩] L10)
              (.cond (.tmp 70)
               (.seq (.region false [⟨some 71, none, .rd .mov [.tmp 6]⟩,
                   ⟨some 2, none, .rd .mov [.pv .nilSl]⟩,
                   ⟨some 3, none, .rd .mov [.tmp 71]⟩,
                   ⟨some 4, none, .rd .mov [.pv (.int .i64 3)]⟩] L10)
                (.ret))
               (.skip)))))))
         (.seq (.region false [⟨some 72, none, .rd .mov [.tmp 5]⟩,
            ⟨some 73, none, .rd .mov [.tmp 7]⟩,
            ⟨some 74, none, .rd .mov [.tmp 0]⟩,
            ⟨some 75, none, .rd .mov [.tmp 6]⟩,
            ⟨some 76, none, .rd .mov [.tmp 6]⟩,
            ⟨some 77, none, .rd .mov [.tmp 8]⟩,
            ⟨some 78, none, .rd (.bin .add) [.tmp 76, .tmp 77]⟩,
            ⟨some 79, none, .rd (.slcS true true) [.tmp 74, .tmp 75, .tmp 78]⟩,
            ⟨some 80, none, .rd .mov [.tmp 6]⟩,
            ⟨some 81, none, .rd (.build [(.int .i64 0), (.str []), (.int .i64 0)] [(0, 1), (1, 1), (2, 1)]) [.tmp 73, .tmp 79, .tmp 80]⟩,
            ⟨some 82, none, .eff (.lit (some 3) false) [.tmp 81]⟩,
            ⟨some 83, none, .eff (.append (some 3) 32) [.tmp 72, .tmp 82]⟩,
            ⟨some 5, none, .rd .mov [.tmp 83]⟩] L10)
         (.region false [⟨some 84, none, .rd .mov [.tmp 6]⟩,
           ⟨some 85, none, .rd .mov [.tmp 8]⟩,
           ⟨some 86, none, .rd (.bin .add) [.tmp 84, .tmp 85]⟩,
           ⟨some 6, none, .rd .mov [.tmp 86]⟩] L10))))))))))
  (.seq (.region false [⟨some 87, none, .rd .mov [.tmp 5]⟩,
     ⟨some 88, none, .rd .mov [.tmp 0]⟩,
     ⟨some 89, none, .rd .lenS [.tmp 88]⟩,
     ⟨some 90, none, .rd (.build [(.int .i64 0), (.str []), (.int .i64 0)] [(0, 1), (1, 1), (2, 1)]) [.pv (.int .i64 0), .pv (.str []), .tmp 89]⟩,
     ⟨some 91, none, .eff (.lit (some 3) false) [.tmp 90]⟩,
     ⟨some 92, none, .eff (.append (some 3) 32) [.tmp 87, .tmp 91]⟩,
     ⟨some 2, none, .rd .mov [.tmp 92]⟩,
     ⟨some 3, none, .rd .mov [.pv (.int .i64 0)]⟩,
     ⟨some 4, none, .rd .mov [.pv (.int .i64 0)]⟩] L10)
  (.ret))))),
  [.tmp 2, .tmp 3, .tmp 4]⟩

-- wagebook/lex.NumberOf
def L11 : List Nat := [0, 2, 3, 4, 6, 7, 16, 23, 38]
def c11 : CF := ⟨53,
  .seq (.region false [⟨some 2, none, .rd .mov [.pv (.int .i64 0)]⟩,
     ⟨some 3, none, .rd .mov [.pv (.int .i64 0)]⟩] L11)
  (.seq (.seq (.region false [⟨some 9, none, .rd .mov [.tmp 0]⟩,
      ⟨some 10, none, .rd (.bin .eql) [.tmp 9, .pv (.str [])]⟩,
      ⟨some 11, none, .rd .mov [.tmp 10]⟩,
      ⟨some 12, some (11, false), .rd .mov [.tmp 0]⟩,
      ⟨some 13, some (11, false), .rd .idxS [.tmp 12, .pv (.int .i64 0)]⟩,
      ⟨some 14, some (11, false), .call (.pv (.fn 19 [] [])) [.tmp 13]⟩,
      ⟨some 15, some (11, false), .rd (.un .not) [.tmp 14]⟩,
      ⟨some 16, none, .rd .pick [.tmp 11, .pv (.bool true), .tmp 15]⟩] L11)
   (.cond (.tmp 16)
    (.seq (.region false [⟨some 2, none, .rd .mov [.pv (.int .i64 0)]⟩,
        ⟨some 3, none, .rd .mov [.pv (.int .i64 3)]⟩] L11)
     (.ret))
    (.skip)))
  (.seq (.region false [⟨some 18, none, .rd .mov [.tmp 0]⟩,
     ⟨some 19, none, .call (.pv (.fn 20 [] [])) [.tmp 18, .pv (.int .i64 0)]⟩,
     ⟨some 17, none, .rd .mov [.tmp 19]⟩,
     ⟨some 20, none, .rd (.ext 0) [.tmp 17]⟩,
     ⟨some 21, none, .rd (.ext 1) [.tmp 17]⟩,
     ⟨some 22, none, .rd (.ext 2) [.tmp 17]⟩,
     ⟨some 4, none, .rd .mov [.tmp 20]⟩,
     ⟨some 5, none, .rd .mov [.tmp 21]⟩,
     ⟨some 6, none, .rd .mov [.tmp 22]⟩] L11)
  (.seq (.block 0
    (.seq (.region false [⟨some 24, none, .rd .mov [.tmp 6]⟩,
        ⟨some 25, none, .rd (.bin .eql) [.tmp 24, .pv (.int .i64 2)]⟩,
        ⟨some 26, none, .rd .mov [.tmp 25]⟩,
        ⟨some 27, some (26, true), .rd .mov [.tmp 0]⟩,
        ⟨some 28, some (26, true), .call (.pv (.fn 21 [] [])) [.tmp 27, .pv (.int .i64 0), .pv (.fn 22 [] [])]⟩,
        ⟨some 29, some (26, true), .rd .mov [.tmp 0]⟩,
        ⟨some 30, some (26, true), .rd .lenS [.tmp 29]⟩,
        ⟨some 31, some (26, true), .rd (.bin .eql) [.tmp 28, .tmp 30]⟩,
        ⟨some 32, none, .rd .pick [.tmp 26, .tmp 31, .pv (.bool false)]⟩,
        ⟨some 33, none, .rd .mov [.tmp 32]⟩,
        ⟨some 34, some (33, true), .rd .mov [.tmp 0]⟩,
        ⟨some 35, some (33, true), .call (.pv (.fn 23 [] [])) [.tmp 34, .pv (.str [46])]⟩,
        ⟨some 36, some (33, true), .rd (.bin .lss) [.tmp 35, .pv (.int .i64 2)]⟩,
        ⟨some 37, none, .rd .pick [.tmp 33, .tmp 36, .pv (.bool false)]⟩,
        ⟨some 23, none, .rd .mov [.tmp 37]⟩] L11)
     (.cond (.tmp 23)
      (.seq (.region false [⟨some 2, none, .rd .mov [.pv (.int .i64 0)]⟩,
          ⟨some 3, none, .rd .mov [.pv (.int .i64 2)]⟩] L11)
       (.ret))
      (.seq (.region false [⟨some 39, none, .rd .mov [.tmp 6]⟩,
          ⟨some 40, none, .rd (.bin .neq) [.tmp 39, .pv (.int .i64 0)]⟩,
          ⟨some 41, none, .rd .mov [.tmp 40]⟩,
          ⟨some 42, some (41, false), .rd .mov [.tmp 4]⟩,
          ⟨some 43, some (41, false), .rd .mov [.tmp 0]⟩,
          ⟨some 44, some (41, false), .rd .lenS [.tmp 43]⟩,
          ⟨some 45, some (41, false), .rd (.bin .neq) [.tmp 42, .tmp 44]⟩,
          ⟨some 46, none, .rd .pick [.tmp 41, .pv (.bool true), .tmp 45]⟩,
          ⟨some 38, none, .rd .mov [.tmp 46]⟩] L11)
       (.cond (.tmp 38)
        (.seq (.region false [⟨some 2, none, .rd .mov [.pv (.int .i64 0)]⟩,
            ⟨some 3, none, .rd .mov [.pv (.int .i64 3)]⟩] L11)
         (.ret))
        (.skip))))))
  (.seq (.region false [⟨some 48, none, .rd .mov [.tmp 0]⟩,
     ⟨some 49, none, .call (.pv (.fn 24 [] [])) [.tmp 48]⟩,
     ⟨some 47, none, .rd .mov [.tmp 49]⟩,
     ⟨some 50, none, .rd (.ext 0) [.tmp 47]⟩,
     ⟨some 51, none, .rd (.ext 1) [.tmp 47]⟩,
     ⟨some 7, none, .rd .mov [.tmp 50]⟩,
     ⟨some 8, none, .rd .mov [.tmp 51]⟩] L11)
  (.seq (.region false [⟨some 52, none, .rd .mov [.tmp 7]⟩,
     ⟨some 2, none, .rd .mov [.tmp 52]⟩,
     ⟨some 3, none, .rd .mov [.pv (.int .i64 0)]⟩] L11)
  (.ret)))))),
  [.tmp 2, .tmp 3]⟩

-- wagebook/lex.IsName
def L12 : List Nat := [0, 2]
def c12 : CF := ⟨22,
  .seq (.region false [⟨some 2, none, .rd .mov [.pv (.bool false)]⟩] L12)
  (.seq (.region false [⟨some 3, none, .rd .mov [.tmp 0]⟩,
     ⟨some 4, none, .rd (.bin .neq) [.tmp 3, .pv (.str [])]⟩,
     ⟨some 5, none, .rd .mov [.tmp 4]⟩,
     ⟨some 6, some (5, true), .rd .mov [.tmp 0]⟩,
     ⟨some 7, some (5, true), .rd .lenS [.tmp 6]⟩,
     ⟨some 8, some (5, true), .rd (.bin .leq) [.tmp 7, .pv (.int .i64 32)]⟩,
     ⟨some 9, none, .rd .pick [.tmp 5, .tmp 8, .pv (.bool false)]⟩,
     ⟨some 10, none, .rd .mov [.tmp 9]⟩,
     ⟨some 11, some (10, true), .rd .mov [.tmp 0]⟩,
     ⟨some 12, some (10, true), .rd .idxS [.tmp 11, .pv (.int .i64 0)]⟩,
     ⟨some 13, some (10, true), .call (.pv (.fn 25 [] [])) [.tmp 12]⟩,
     ⟨some 14, none, .rd .pick [.tmp 10, .tmp 13, .pv (.bool false)]⟩,
     ⟨some 15, none, .rd .mov [.tmp 14]⟩,
     ⟨some 16, some (15, true), .rd .mov [.tmp 0]⟩,
     ⟨some 17, some (15, true), .call (.pv (.fn 21 [] [])) [.tmp 16, .pv (.int .i64 0), .pv (.fn 26 [] [])]⟩,
     ⟨some 18, some (15, true), .rd .mov [.tmp 0]⟩,
     ⟨some 19, some (15, true), .rd .lenS [.tmp 18]⟩,
     ⟨some 20, some (15, true), .rd (.bin .eql) [.tmp 17, .tmp 19]⟩,
     ⟨some 21, none, .rd .pick [.tmp 15, .tmp 20, .pv (.bool false)]⟩,
     ⟨some 2, none, .rd .mov [.tmp 21]⟩] L12)
  (.ret)),
  [.tmp 2]⟩

-- wagebook/lex.token
def L13 : List Nat := [0, 1, 4, 5, 6, 7, 8, 12, 25, 38]
def c13 : CF := ⟨43,
  .seq (.region false [⟨some 4, none, .rd .mov [.pv (.int .i64 0)]⟩,
     ⟨some 5, none, .rd .mov [.pv (.int .i64 0)]⟩,
     ⟨some 6, none, .rd .mov [.pv (.int .i64 0)]⟩,
     ⟨some 7, none, .rd .mov [.pv (.int .i64 0)]⟩] L13)
  (.seq (.seq (.region false [⟨some 9, none, .rd .mov [.tmp 0]⟩,
      ⟨some 10, none, .rd .mov [.tmp 1]⟩,
      ⟨some 11, none, .rd .idxS [.tmp 9, .tmp 10]⟩,
      ⟨some 8, none, .rd .mov [.tmp 11]⟩] L13)
   (.block 0
    (.seq (.region false [⟨some 13, none, .rd .mov [.tmp 8]⟩,
        ⟨some 14, none, .call (.pv (.fn 25 [] [])) [.tmp 13]⟩,
        ⟨some 12, none, .rd .mov [.tmp 14]⟩] L13)
     (.cond (.tmp 12)
      (.seq (.region false [⟨some 16, none, .rd .mov [.tmp 0]⟩,
          ⟨some 17, none, .rd .mov [.tmp 1]⟩,
          ⟨some 18, none, .call (.pv (.fn 27 [] [])) [.tmp 16, .tmp 17]⟩,
          ⟨some 15, none, .rd .mov [.tmp 18]⟩,
          ⟨some 19, none, .rd (.ext 0) [.tmp 15]⟩,
          ⟨some 20, none, .rd (.ext 1) [.tmp 15]⟩,
          ⟨some 21, none, .rd (.ext 2) [.tmp 15]⟩,
          ⟨some 5, none, .rd .mov [.tmp 19]⟩,
          ⟨some 6, none, .rd .mov [.tmp 20]⟩,
          ⟨some 7, none, .rd .mov [.tmp 21]⟩] L13)
       (.seq (.region false [⟨some 22, none, .rd .mov [.tmp 5]⟩,
          ⟨some 23, none, .rd .mov [.tmp 6]⟩,
          ⟨some 24, none, .rd .mov [.tmp 7]⟩,
          ⟨some 4, none, .rd .mov [.pv (.int .i64 1)]⟩,
          ⟨some 5, none, .rd .mov [.tmp 22]⟩,
          ⟨some 6, none, .rd .mov [.tmp 23]⟩,
          ⟨some 7, none, .rd .mov [.tmp 24]⟩] L13)
       (.ret)))
      (.seq (.region false [⟨some 26, none, .rd .mov [.tmp 8]⟩,
          ⟨some 27, none, .call (.pv (.fn 19 [] [])) [.tmp 26]⟩,
          ⟨some 25, none, .rd .mov [.tmp 27]⟩] L13)
       (.cond (.tmp 25)
        (.seq (.region false [⟨some 29, none, .rd .mov [.tmp 0]⟩,
            ⟨some 30, none, .rd .mov [.tmp 1]⟩,
            ⟨some 31, none, .call (.pv (.fn 20 [] [])) [.tmp 29, .tmp 30]⟩,
            ⟨some 28, none, .rd .mov [.tmp 31]⟩,
            ⟨some 32, none, .rd (.ext 0) [.tmp 28]⟩,
            ⟨some 33, none, .rd (.ext 1) [.tmp 28]⟩,
            ⟨some 34, none, .rd (.ext 2) [.tmp 28]⟩,
            ⟨some 5, none, .rd .mov [.tmp 32]⟩,
            ⟨some 6, none, .rd .mov [.tmp 33]⟩,
            ⟨some 7, none, .rd .mov [.tmp 34]⟩] L13)
         (.seq (.region false [⟨some 35, none, .rd .mov [.tmp 5]⟩,
            ⟨some 36, none, .rd .mov [.tmp 6]⟩,
            ⟨some 37, none, .rd .mov [.tmp 7]⟩,
            ⟨some 4, none, .rd .mov [.pv (.int .i64 2)]⟩,
            ⟨some 5, none, .rd .mov [.tmp 35]⟩,
            ⟨some 6, none, .rd .mov [.tmp 36]⟩,
            ⟨some 7, none, .rd .mov [.tmp 37]⟩] L13)
         (.ret)))
        (.seq (.region false [⟨some 39, none, .rd .mov [.tmp 8]⟩,
            ⟨some 40, none, .call (.pv (.fn 28 [] [])) [.pv (.str [43, 45, 42, 40, 41, 44, 60, 61]), .tmp 39]⟩,
            ⟨some 41, none, .rd (.bin .geq) [.tmp 40, .pv (.int .i64 0)]⟩,
            ⟨some 38, none, .rd .mov [.tmp 41]⟩] L13)
         (.cond (.tmp 38)
          (.seq (.region false [⟨some 4, none, .rd .mov [.pv (.int .i64 3)]⟩,
              ⟨some 5, none, .rd .mov [.pv (.int .i64 1)]⟩,
              ⟨some 6, none, .rd .mov [.pv (.int .i64 0)]⟩,
              ⟨some 7, none, .rd .mov [.pv (.int .i64 0)]⟩] L13)
           (.ret))
          (.skip)))))))))
  (.seq (.region false [⟨some 42, none, .rd .mov [.tmp 1]⟩,
     ⟨some 4, none, .rd .mov [.pv (.int .i64 0)]⟩,
     ⟨some 5, none, .rd .mov [.pv (.int .i64 0)]⟩,
     ⟨some 6, none, .rd .mov [.tmp 42]⟩,
     ⟨some 7, none, .rd .mov [.pv (.int .i64 3)]⟩] L13)
  (.ret))),
  [.tmp 4, .tmp 5, .tmp 6, .tmp 7]⟩

-- wagebook/wagebookref12.letter
def L14 : List Nat := [0, 2]
def c14 : CF := ⟨9,
  .seq (.region false [⟨some 2, none, .rd .mov [.pv (.bool false)]⟩] L14)
  (.seq (.region false [⟨some 3, none, .rd .mov [.tmp 0]⟩,
     ⟨some 4, none, .rd (.bin .geq) [.tmp 3, .pv (.int .u8 97)]⟩,
     ⟨some 5, none, .rd .mov [.tmp 4]⟩,
     ⟨some 6, some (5, true), .rd .mov [.tmp 0]⟩,
     ⟨some 7, some (5, true), .rd (.bin .leq) [.tmp 6, .pv (.int .u8 122)]⟩,
     ⟨some 8, none, .rd .pick [.tmp 5, .tmp 7, .pv (.bool false)]⟩,
     ⟨some 2, none, .rd .mov [.tmp 8]⟩] L14)
  (.ret)),
  [.tmp 2]⟩

-- wagebook/wagebookref12.inner
def L15 : List Nat := [0, 2]
def c15 : CF := ⟨21,
  .seq (.region false [⟨some 2, none, .rd .mov [.pv (.bool false)]⟩] L15)
  (.seq (.region false [⟨some 3, none, .rd .mov [.tmp 0]⟩,
     ⟨some 4, none, .call (.pv (.fn 14 [] [])) [.tmp 3]⟩,
     ⟨some 5, none, .rd .mov [.tmp 4]⟩,
     ⟨some 6, some (5, false), .rd .mov [.tmp 0]⟩,
     ⟨some 7, some (5, false), .call (.pv (.fn 16 [] [])) [.tmp 6]⟩,
     ⟨some 8, none, .rd .pick [.tmp 5, .pv (.bool true), .tmp 7]⟩,
     ⟨some 9, none, .rd .mov [.tmp 8]⟩,
     ⟨some 10, some (9, false), .rd .mov [.tmp 0]⟩,
     ⟨some 11, some (9, false), .rd (.bin .eql) [.tmp 10, .pv (.int .u8 46)]⟩,
     ⟨some 12, none, .rd .pick [.tmp 9, .pv (.bool true), .tmp 11]⟩,
     ⟨some 13, none, .rd .mov [.tmp 12]⟩,
     ⟨some 14, some (13, false), .rd .mov [.tmp 0]⟩,
     ⟨some 15, some (13, false), .rd (.bin .eql) [.tmp 14, .pv (.int .u8 95)]⟩,
     ⟨some 16, none, .rd .pick [.tmp 13, .pv (.bool true), .tmp 15]⟩,
     ⟨some 17, none, .rd .mov [.tmp 16]⟩,
     ⟨some 18, some (17, false), .rd .mov [.tmp 0]⟩,
     ⟨some 19, some (17, false), .rd (.bin .eql) [.tmp 18, .pv (.int .u8 58)]⟩,
     ⟨some 20, none, .rd .pick [.tmp 17, .pv (.bool true), .tmp 19]⟩,
     ⟨some 2, none, .rd .mov [.tmp 20]⟩] L15)
  (.ret)),
  [.tmp 2]⟩

-- wagebook/wagebookref12.digit
def L16 : List Nat := [0, 2]
def c16 : CF := ⟨9,
  .seq (.region false [⟨some 2, none, .rd .mov [.pv (.bool false)]⟩] L16)
  (.seq (.region false [⟨some 3, none, .rd .mov [.tmp 0]⟩,
     ⟨some 4, none, .rd (.bin .geq) [.tmp 3, .pv (.int .u8 48)]⟩,
     ⟨some 5, none, .rd .mov [.tmp 4]⟩,
     ⟨some 6, some (5, true), .rd .mov [.tmp 0]⟩,
     ⟨some 7, some (5, true), .rd (.bin .leq) [.tmp 6, .pv (.int .u8 57)]⟩,
     ⟨some 8, none, .rd .pick [.tmp 5, .tmp 7, .pv (.bool false)]⟩,
     ⟨some 2, none, .rd .mov [.tmp 8]⟩] L16)
  (.ret)),
  [.tmp 2]⟩

-- wagebook/wagebookref12.number
def L17 : List Nat := [0, 1, 4, 5, 6, 7, 8, 9, 10, 11, 12, 35, 43, 48, 73]
def c17 : CF := ⟨77,
  .seq (.region false [⟨some 4, none, .rd .mov [.pv (.int .i64 0)]⟩,
     ⟨some 5, none, .rd .mov [.pv (.int .i64 0)]⟩,
     ⟨some 6, none, .rd .mov [.pv (.int .i64 0)]⟩,
     ⟨some 7, none, .rd .mov [.pv (.int .i64 0)]⟩] L17)
  (.seq (.region false [⟨some 13, none, .rd .mov [.tmp 0]⟩,
     ⟨some 14, none, .rd .mov [.tmp 1]⟩,
     ⟨some 15, none, .call (.pv (.fn 29 [] [])) [.tmp 13, .tmp 14]⟩,
     ⟨some 8, none, .rd .mov [.tmp 15]⟩] L17)
  (.seq (.region false [⟨some 16, none, .rd .mov [.tmp 0]⟩,
     ⟨some 17, none, .rd .mov [.tmp 1]⟩,
     ⟨some 18, none, .rd .mov [.tmp 1]⟩,
     ⟨some 19, none, .rd .mov [.tmp 8]⟩,
     ⟨some 20, none, .rd (.bin .add) [.tmp 18, .tmp 19]⟩,
     ⟨some 21, none, .rd (.slcS true true) [.tmp 16, .tmp 17, .tmp 20]⟩,
     ⟨some 9, none, .rd .mov [.tmp 21]⟩,
     ⟨some 10, none, .rd .mov [.pv (.str [])]⟩] L17)
  (.seq (.seq (.region false [⟨some 22, none, .rd .mov [.tmp 1]⟩,
      ⟨some 23, none, .rd .mov [.tmp 8]⟩,
      ⟨some 24, none, .rd (.bin .add) [.tmp 22, .tmp 23]⟩,
      ⟨some 25, none, .rd .mov [.tmp 0]⟩,
      ⟨some 26, none, .rd .lenS [.tmp 25]⟩,
      ⟨some 27, none, .rd (.bin .lss) [.tmp 24, .tmp 26]⟩,
      ⟨some 28, none, .rd .mov [.tmp 27]⟩,
      ⟨some 29, some (28, true), .rd .mov [.tmp 0]⟩,
      ⟨some 30, some (28, true), .rd .mov [.tmp 1]⟩,
      ⟨some 31, some (28, true), .rd .mov [.tmp 8]⟩,
      ⟨some 32, some (28, true), .rd (.bin .add) [.tmp 30, .tmp 31]⟩,
      ⟨some 33, some (28, true), .rd .idxS [.tmp 29, .tmp 32]⟩,
      ⟨some 34, some (28, true), .rd (.bin .eql) [.tmp 33, .pv (.int .u8 46)]⟩,
      ⟨some 35, none, .rd .pick [.tmp 28, .tmp 34, .pv (.bool false)]⟩] L17)
   (.cond (.tmp 35)
    (.seq (.region false [⟨some 36, none, .rd .mov [.tmp 0]⟩,
        ⟨some 37, none, .rd .mov [.tmp 1]⟩,
        ⟨some 38, none, .rd .mov [.tmp 8]⟩,
        ⟨some 39, none, .rd (.bin .add) [.tmp 37, .tmp 38]⟩,
        ⟨some 40, none, .rd (.bin .add) [.tmp 39, .pv (.int .i64 1)]⟩,
        ⟨some 41, none, .call (.pv (.fn 29 [] [])) [.tmp 36, .tmp 40]⟩,
        ⟨some 11, none, .rd .mov [.tmp 41]⟩] L17)
     (.seq (.seq (.region false [⟨some 42, none, .rd .mov [.tmp 11]⟩,
         ⟨some 43, none, .rd (.bin .eql) [.tmp 42, .pv (.int .i64 0)]⟩] L17)
      (.cond (.tmp 43)
       (.seq (.region false [⟨some 44, none, .rd .mov [.tmp 1]⟩,
           ⟨some 45, none, .rd .mov [.tmp 8]⟩,
           ⟨some 46, none, .rd (.bin .add) [.tmp 44, .tmp 45]⟩,
           ⟨some 4, none, .rd .mov [.pv (.int .i64 0)]⟩,
           ⟨some 5, none, .rd .mov [.pv (.int .i64 0)]⟩,
           ⟨some 6, none, .rd .mov [.tmp 46]⟩,
           ⟨some 7, none, .rd .mov [.pv (.int .i64 3)]⟩] L17)
        (.ret))
       (.skip)))
     (.seq (.seq (.region false [⟨some 47, none, .rd .mov [.tmp 11]⟩,
         ⟨some 48, none, .rd (.bin .gtr) [.tmp 47, .pv (.int .i64 4)]⟩] L17)
      (.cond (.tmp 48)
       (.seq (.region false [⟨some 49, none, .rd .mov [.tmp 1]⟩,
           ⟨some 50, none, .rd .mov [.tmp 8]⟩,
           ⟨some 51, none, .rd (.bin .add) [.tmp 49, .tmp 50]⟩,
           ⟨some 52, none, .rd (.bin .add) [.tmp 51, .pv (.int .i64 5)]⟩,
           ⟨some 4, none, .rd .mov [.pv (.int .i64 0)]⟩,
           ⟨some 5, none, .rd .mov [.pv (.int .i64 0)]⟩,
           ⟨some 6, none, .rd .mov [.tmp 52]⟩,
           ⟨some 7, none, .rd .mov [.pv (.int .i64 3)]⟩] L17)
        (.ret))
       (.skip)))
     (.seq (.region false [⟨some 53, none, .rd .mov [.tmp 0]⟩,
        ⟨some 54, none, .rd .mov [.tmp 1]⟩,
        ⟨some 55, none, .rd .mov [.tmp 8]⟩,
        ⟨some 56, none, .rd (.bin .add) [.tmp 54, .tmp 55]⟩,
        ⟨some 57, none, .rd (.bin .add) [.tmp 56, .pv (.int .i64 1)]⟩,
        ⟨some 58, none, .rd .mov [.tmp 1]⟩,
        ⟨some 59, none, .rd .mov [.tmp 8]⟩,
        ⟨some 60, none, .rd (.bin .add) [.tmp 58, .tmp 59]⟩,
        ⟨some 61, none, .rd (.bin .add) [.tmp 60, .pv (.int .i64 1)]⟩,
        ⟨some 62, none, .rd .mov [.tmp 11]⟩,
        ⟨some 63, none, .rd (.bin .add) [.tmp 61, .tmp 62]⟩,
        ⟨some 64, none, .rd (.slcS true true) [.tmp 53, .tmp 57, .tmp 63]⟩,
        ⟨some 10, none, .rd .mov [.tmp 64]⟩] L17)
     (.region false [⟨some 65, none, .rd .mov [.tmp 8]⟩,
       ⟨some 66, none, .rd (.bin .add) [.tmp 65, .pv (.int .i64 1)]⟩,
       ⟨some 67, none, .rd .mov [.tmp 11]⟩,
       ⟨some 68, none, .rd (.bin .add) [.tmp 66, .tmp 67]⟩,
       ⟨some 8, none, .rd .mov [.tmp 68]⟩] L17)))))
    (.skip)))
  (.seq (.region false [⟨some 69, none, .rd .mov [.tmp 9]⟩,
     ⟨some 70, none, .rd .mov [.tmp 10]⟩,
     ⟨some 71, none, .call (.pv (.fn 30 [] [])) [.tmp 69, .tmp 70]⟩,
     ⟨some 12, none, .rd .mov [.tmp 71]⟩] L17)
  (.seq (.seq (.region false [⟨some 72, none, .rd .mov [.tmp 12]⟩,
      ⟨some 73, none, .rd (.bin .gtr) [.tmp 72, .pv (.int .i64 1000000000000000000)]⟩] L17)
   (.cond (.tmp 73)
    (.seq (.region false [⟨some 74, none, .rd .mov [.tmp 1]⟩,
        ⟨some 4, none, .rd .mov [.pv (.int .i64 0)]⟩,
        ⟨some 5, none, .rd .mov [.pv (.int .i64 0)]⟩,
        ⟨some 6, none, .rd .mov [.tmp 74]⟩,
        ⟨some 7, none, .rd .mov [.pv (.int .i64 2)]⟩] L17)
     (.ret))
    (.skip)))
  (.seq (.region false [⟨some 75, none, .rd .mov [.tmp 8]⟩,
     ⟨some 76, none, .rd .mov [.tmp 12]⟩,
     ⟨some 4, none, .rd .mov [.tmp 75]⟩,
     ⟨some 5, none, .rd .mov [.tmp 76]⟩,
     ⟨some 6, none, .rd .mov [.pv (.int .i64 0)]⟩,
     ⟨some 7, none, .rd .mov [.pv (.int .i64 0)]⟩] L17)
  (.ret))))))),
  [.tmp 4, .tmp 5, .tmp 6, .tmp 7]⟩

-- wagebook/wagebookref12.sign
def L18 : List Nat := [0, 2, 3, 4, 8, 15]
def c18 : CF := ⟨16,
  .seq (.region false [⟨some 2, none, .rd .mov [.pv (.bool false)]⟩] L18)
  (.seq (.region false [⟨some 3, none, .rd .mov [.pv (.str [43, 45, 42, 40, 41, 44, 60, 61])]⟩] L18)
  (.seq (.seq (.region false [⟨some 4, none, .rd .mov [.pv (.int .i64 0)]⟩] L18)
   (.block 0
    (.loop
      (.seq (.seq (.region false [⟨some 5, none, .rd .mov [.tmp 4]⟩,
           ⟨some 6, none, .rd .mov [.tmp 3]⟩,
           ⟨some 7, none, .rd .lenS [.tmp 6]⟩,
           ⟨some 8, none, .rd (.bin .lss) [.tmp 5, .tmp 7]⟩] L18)
        (.cond (.tmp 8)
         (.skip)
         (.exit 0)))
       (.seq (.block 1
         (.seq (.region false [⟨some 11, none, .rd .mov [.tmp 3]⟩,
             ⟨some 12, none, .rd .mov [.tmp 4]⟩,
             ⟨some 13, none, .rd .idxS [.tmp 11, .tmp 12]⟩,
             ⟨some 14, none, .rd .mov [.tmp 0]⟩,
             ⟨some 15, none, .rd (.bin .eql) [.tmp 13, .tmp 14]⟩] L18)
          (.cond (.tmp 15)
           (.seq (.region false [⟨some 2, none, .rd .mov [.pv (.bool true)]⟩] L18)
            (.ret))
           (.skip))))
       (.region false [⟨some 9, none, .rd .mov [.tmp 4]⟩,
         ⟨some 10, none, .rd (.bin .add) [.tmp 9, .pv (.int .i64 1)]⟩,
         ⟨some 4, none, .rd .mov [.tmp 10]⟩] L18))))))
  (.seq (.region false [⟨some 2, none, .rd .mov [.pv (.bool false)]⟩] L18)
  (.ret)))),
  [.tmp 2]⟩

-- wagebook/lex.digit
def L19 : List Nat := [0, 2]
def c19 : CF := ⟨9,
  .seq (.region false [⟨some 2, none, .rd .mov [.pv (.bool false)]⟩] L19)
  (.seq (.region false [⟨some 3, none, .rd .mov [.tmp 0]⟩,
     ⟨some 4, none, .rd (.bin .geq) [.tmp 3, .pv (.int .u8 48)]⟩,
     ⟨some 5, none, .rd .mov [.tmp 4]⟩,
     ⟨some 6, some (5, true), .rd .mov [.tmp 0]⟩,
     ⟨some 7, some (5, true), .rd (.bin .leq) [.tmp 6, .pv (.int .u8 57)]⟩,
     ⟨some 8, none, .rd .pick [.tmp 5, .tmp 7, .pv (.bool false)]⟩,
     ⟨some 2, none, .rd .mov [.tmp 8]⟩] L19)
  (.ret)),
  [.tmp 2]⟩

-- wagebook/lex.number
def L20 : List Nat := [0, 1, 4, 5, 6, 7, 8, 9, 11, 27, 32, 36, 57]
def c20 : CF := ⟨60,
  .seq (.region false [⟨some 4, none, .rd .mov [.pv (.int .i64 0)]⟩,
     ⟨some 5, none, .rd .mov [.pv (.int .i64 0)]⟩,
     ⟨some 6, none, .rd .mov [.pv (.int .i64 0)]⟩] L20)
  (.seq (.region false [⟨some 12, none, .rd .mov [.tmp 0]⟩,
     ⟨some 13, none, .rd .mov [.tmp 1]⟩,
     ⟨some 14, none, .call (.pv (.fn 21 [] [])) [.tmp 12, .tmp 13, .pv (.fn 19 [] [])]⟩,
     ⟨some 7, none, .rd .mov [.tmp 14]⟩] L20)
  (.seq (.seq (.region false [⟨some 15, none, .rd .mov [.tmp 1]⟩,
      ⟨some 16, none, .rd .mov [.tmp 7]⟩,
      ⟨some 17, none, .rd (.bin .add) [.tmp 15, .tmp 16]⟩,
      ⟨some 8, none, .rd .mov [.tmp 17]⟩] L20)
   (.seq (.region false [⟨some 18, none, .rd .mov [.tmp 8]⟩,
      ⟨some 19, none, .rd .mov [.tmp 0]⟩,
      ⟨some 20, none, .rd .lenS [.tmp 19]⟩,
      ⟨some 21, none, .rd (.bin .lss) [.tmp 18, .tmp 20]⟩,
      ⟨some 22, none, .rd .mov [.tmp 21]⟩,
      ⟨some 23, some (22, true), .rd .mov [.tmp 0]⟩,
      ⟨some 24, some (22, true), .rd .mov [.tmp 8]⟩,
      ⟨some 25, some (22, true), .rd .idxS [.tmp 23, .tmp 24]⟩,
      ⟨some 26, some (22, true), .rd (.bin .eql) [.tmp 25, .pv (.int .u8 46)]⟩,
      ⟨some 27, none, .rd .pick [.tmp 22, .tmp 26, .pv (.bool false)]⟩] L20)
   (.cond (.tmp 27)
    (.seq (.region false [⟨some 28, none, .rd .mov [.tmp 0]⟩,
        ⟨some 29, none, .rd .mov [.tmp 8]⟩,
        ⟨some 30, none, .rd (.bin .add) [.tmp 29, .pv (.int .i64 1)]⟩,
        ⟨some 31, none, .call (.pv (.fn 21 [] [])) [.tmp 28, .tmp 30, .pv (.fn 19 [] [])]⟩,
        ⟨some 9, none, .rd .mov [.tmp 31]⟩] L20)
     (.seq (.block 0
       (.seq (.region false [⟨some 33, none, .rd .mov [.tmp 9]⟩,
           ⟨some 34, none, .rd (.bin .eql) [.tmp 33, .pv (.int .i64 0)]⟩,
           ⟨some 32, none, .rd .mov [.tmp 34]⟩] L20)
        (.cond (.tmp 32)
         (.seq (.region false [⟨some 35, none, .rd .mov [.tmp 8]⟩,
             ⟨some 4, none, .rd .mov [.pv (.int .i64 0)]⟩,
             ⟨some 5, none, .rd .mov [.tmp 35]⟩,
             ⟨some 6, none, .rd .mov [.pv (.int .i64 3)]⟩] L20)
          (.ret))
         (.seq (.region false [⟨some 37, none, .rd .mov [.tmp 9]⟩,
             ⟨some 38, none, .rd (.bin .gtr) [.tmp 37, .pv (.int .i64 4)]⟩,
             ⟨some 36, none, .rd .mov [.tmp 38]⟩] L20)
          (.cond (.tmp 36)
           (.seq (.region false [⟨some 39, none, .rd .mov [.tmp 8]⟩,
               ⟨some 40, none, .rd (.bin .add) [.tmp 39, .pv (.int .i64 1)]⟩,
               ⟨some 41, none, .rd (.bin .add) [.tmp 40, .pv (.int .i64 4)]⟩,
               ⟨some 4, none, .rd .mov [.pv (.int .i64 0)]⟩,
               ⟨some 5, none, .rd .mov [.tmp 41]⟩,
               ⟨some 6, none, .rd .mov [.pv (.int .i64 3)]⟩] L20)
            (.ret))
           (.skip))))))
     (.region false [⟨some 42, none, .rd .mov [.tmp 7]⟩,
       ⟨some 43, none, .rd .mov [.tmp 9]⟩,
       ⟨some 44, none, .rd (.bin .add) [.pv (.int .i64 1), .tmp 43]⟩,
       ⟨some 45, none, .rd (.bin .add) [.tmp 42, .tmp 44]⟩,
       ⟨some 7, none, .rd .mov [.tmp 45]⟩] L20)))
    (.skip))))
  (.seq (.seq (.region false [⟨some 47, none, .rd .mov [.tmp 0]⟩,
      ⟨some 48, none, .rd .mov [.tmp 1]⟩,
      ⟨some 49, none, .rd .mov [.tmp 1]⟩,
      ⟨some 50, none, .rd .mov [.tmp 7]⟩,
      ⟨some 51, none, .rd (.bin .add) [.tmp 49, .tmp 50]⟩,
      ⟨some 52, none, .rd (.slcS true true) [.tmp 47, .tmp 48, .tmp 51]⟩,
      ⟨some 53, none, .call (.pv (.fn 24 [] [])) [.tmp 52]⟩,
      ⟨some 46, none, .rd .mov [.tmp 53]⟩,
      ⟨some 54, none, .rd (.ext 0) [.tmp 46]⟩,
      ⟨some 55, none, .rd (.ext 1) [.tmp 46]⟩,
      ⟨some 10, none, .rd .mov [.tmp 54]⟩,
      ⟨some 11, none, .rd .mov [.tmp 55]⟩] L20)
   (.seq (.region false [⟨some 56, none, .rd .mov [.tmp 11]⟩,
      ⟨some 57, none, .rd (.un .not) [.tmp 56]⟩] L20)
   (.cond (.tmp 57)
    (.seq (.region false [⟨some 58, none, .rd .mov [.tmp 1]⟩,
        ⟨some 4, none, .rd .mov [.pv (.int .i64 0)]⟩,
        ⟨some 5, none, .rd .mov [.tmp 58]⟩,
        ⟨some 6, none, .rd .mov [.pv (.int .i64 2)]⟩] L20)
     (.ret))
    (.skip))))
  (.seq (.region false [⟨some 59, none, .rd .mov [.tmp 7]⟩,
     ⟨some 4, none, .rd .mov [.tmp 59]⟩,
     ⟨some 5, none, .rd .mov [.pv (.int .i64 0)]⟩,
     ⟨some 6, none, .rd .mov [.pv (.int .i64 0)]⟩] L20)
  (.ret))))),
  [.tmp 4, .tmp 5, .tmp 6]⟩

-- wagebook/lex.run
def L21 : List Nat := [0, 1, 2, 6, 7, 22]
def c21 : CF := ⟨26,
  .seq (.region false [⟨some 6, none, .rd .mov [.pv (.int .i64 0)]⟩] L21)
  (.seq (.region false [⟨some 7, none, .rd .mov [.pv (.int .i64 0)]⟩] L21)
  (.seq (.block 0
    (.loop
      (.seq (.seq (.region false [⟨some 8, none, .rd .mov [.tmp 1]⟩,
           ⟨some 9, none, .rd .mov [.tmp 7]⟩,
           ⟨some 10, none, .rd (.bin .add) [.tmp 8, .tmp 9]⟩,
           ⟨some 11, none, .rd .mov [.tmp 0]⟩,
           ⟨some 12, none, .rd .lenS [.tmp 11]⟩,
           ⟨some 13, none, .rd (.bin .lss) [.tmp 10, .tmp 12]⟩,
           ⟨some 14, none, .rd .mov [.tmp 13]⟩,
           ⟨some 15, some (14, true), .rd .mov [.tmp 2]⟩,
           ⟨some 16, some (14, true), .rd .mov [.tmp 0]⟩,
           ⟨some 17, some (14, true), .rd .mov [.tmp 1]⟩,
           ⟨some 18, some (14, true), .rd .mov [.tmp 7]⟩,
           ⟨some 19, some (14, true), .rd (.bin .add) [.tmp 17, .tmp 18]⟩,
           ⟨some 20, some (14, true), .rd .idxS [.tmp 16, .tmp 19]⟩,
           ⟨some 21, some (14, true), .call (.tmp 15) [.tmp 20]⟩,
           ⟨some 22, none, .rd .pick [.tmp 14, .tmp 21, .pv (.bool false)]⟩] L21)
        (.cond (.tmp 22)
         (.skip)
         (.exit 0)))
       (.block 1
        (.region false [⟨some 23, none, .rd .mov [.tmp 7]⟩,
           ⟨some 24, none, .rd (.bin .add) [.tmp 23, .pv (.int .i64 1)]⟩,
           ⟨some 7, none, .rd .mov [.tmp 24]⟩] L21)))))
  (.seq (.region false [⟨some 25, none, .rd .mov [.tmp 7]⟩,
     ⟨some 6, none, .rd .mov [.tmp 25]⟩] L21)
  (.ret)))),
  [.tmp 6]⟩

-- wagebook/lex.NumberOf$1
def L22 : List Nat := [0, 2]
def c22 : CF := ⟨9,
  .seq (.region false [⟨some 2, none, .rd .mov [.pv (.bool false)]⟩] L22)
  (.seq (.region false [⟨some 3, none, .rd .mov [.tmp 0]⟩,
     ⟨some 4, none, .call (.pv (.fn 19 [] [])) [.tmp 3]⟩,
     ⟨some 5, none, .rd .mov [.tmp 4]⟩,
     ⟨some 6, some (5, false), .rd .mov [.tmp 0]⟩,
     ⟨some 7, some (5, false), .rd (.bin .eql) [.tmp 6, .pv (.int .u8 46)]⟩,
     ⟨some 8, none, .rd .pick [.tmp 5, .pv (.bool true), .tmp 7]⟩,
     ⟨some 2, none, .rd .mov [.tmp 8]⟩] L22)
  (.ret)),
  [.tmp 2]⟩

-- strings.Count
def L23 : List Nat := [0, 1, 4, 5, 6, 9, 15, 24]
def c23 : CF := ⟨34,
  .seq (.region false [⟨some 4, none, .rd .mov [.pv (.int .i64 0)]⟩] L23)
  (.seq (.seq (.region false [⟨some 7, none, .rd .mov [.tmp 1]⟩,
      ⟨some 8, none, .rd .lenS [.tmp 7]⟩,
      ⟨some 9, none, .rd (.bin .eql) [.tmp 8, .pv (.int .i64 0)]⟩] L23)
   (.cond (.tmp 9)
    (.seq (.region false [⟨some 10, none, .rd .mov [.tmp 0]⟩,
        ⟨some 11, none, .call (.pv (.fn 31 [] [])) [.tmp 10]⟩,
        ⟨some 12, none, .rd (.bin .add) [.tmp 11, .pv (.int .i64 1)]⟩,
        ⟨some 4, none, .rd .mov [.tmp 12]⟩] L23)
     (.ret))
    (.skip)))
  (.seq (.seq (.region false [⟨some 13, none, .rd .mov [.tmp 1]⟩,
      ⟨some 14, none, .rd .lenS [.tmp 13]⟩,
      ⟨some 15, none, .rd (.bin .eql) [.tmp 14, .pv (.int .i64 1)]⟩] L23)
   (.cond (.tmp 15)
    (.seq (.region false [⟨some 16, none, .rd .mov [.tmp 0]⟩,
        ⟨some 17, none, .rd .mov [.tmp 1]⟩,
        ⟨some 18, none, .rd .idxS [.tmp 17, .pv (.int .i64 0)]⟩,
        ⟨some 19, none, .call (.pv (.fn 32 [] [])) [.tmp 16, .tmp 18]⟩,
        ⟨some 4, none, .rd .mov [.tmp 19]⟩] L23)
     (.ret))
    (.skip)))
  (.seq (.region false [⟨some 5, none, .rd .mov [.pv (.int .i64 0)]⟩] L23)
  (.block 0
   (.loop
     (.block 1
       (.seq (.region false [⟨some 20, none, .rd .mov [.tmp 0]⟩,
           ⟨some 21, none, .rd .mov [.tmp 1]⟩,
           ⟨some 22, none, .call (.pv (.fn 33 [] [])) [.tmp 20, .tmp 21]⟩,
           ⟨some 6, none, .rd .mov [.tmp 22]⟩] L23)
        (.seq (.seq (.region false [⟨some 23, none, .rd .mov [.tmp 6]⟩,
            ⟨some 24, none, .rd (.bin .eql) [.tmp 23, .pv (.int .i64 (-1))]⟩] L23)
         (.cond (.tmp 24)
          (.seq (.region false [⟨some 25, none, .rd .mov [.tmp 5]⟩,
              ⟨some 4, none, .rd .mov [.tmp 25]⟩] L23)
           (.ret))
          (.skip)))
        (.seq (.region false [⟨some 26, none, .rd .mov [.tmp 5]⟩,
           ⟨some 27, none, .rd (.bin .add) [.tmp 26, .pv (.int .i64 1)]⟩,
           ⟨some 5, none, .rd .mov [.tmp 27]⟩] L23)
        (.region false [⟨some 28, none, .rd .mov [.tmp 0]⟩,
          ⟨some 29, none, .rd .mov [.tmp 6]⟩,
          ⟨some 30, none, .rd .mov [.tmp 1]⟩,
          ⟨some 31, none, .rd .lenS [.tmp 30]⟩,
          ⟨some 32, none, .rd (.bin .add) [.tmp 29, .tmp 31]⟩,
          ⟨some 33, none, .rd (.slcS true false) [.tmp 28, .tmp 32]⟩,
          ⟨some 0, none, .rd .mov [.tmp 33]⟩] L23)))))))))),
  [.tmp 4]⟩

-- wagebook/lex.value
def L24 : List Nat := [0, 2, 3, 4, 5, 7, 9, 10, 11, 12, 20, 21, 22, 23, 33, 38, 57]
def c24 : CF := ⟨62,
  .seq (.region false [⟨some 2, none, .rd .mov [.pv (.int .i64 0)]⟩,
     ⟨some 3, none, .rd .mov [.pv (.bool false)]⟩] L24)
  (.seq (.region false [⟨some 14, none, .rd .mov [.tmp 0]⟩,
     ⟨some 15, none, .call (.pv (.fn 34 [] [])) [.tmp 14, .pv (.str [46])]⟩,
     ⟨some 13, none, .rd .mov [.tmp 15]⟩,
     ⟨some 16, none, .rd (.ext 0) [.tmp 13]⟩,
     ⟨some 17, none, .rd (.ext 1) [.tmp 13]⟩,
     ⟨some 18, none, .rd (.ext 2) [.tmp 13]⟩,
     ⟨some 4, none, .rd .mov [.tmp 16]⟩,
     ⟨some 5, none, .rd .mov [.tmp 17]⟩,
     ⟨some 6, none, .rd .mov [.tmp 18]⟩] L24)
  (.seq (.region false [⟨some 7, none, .rd .mov [.pv (.int .i64 0)]⟩] L24)
  (.seq (.seq (.region false [⟨some 19, none, .rd .mov [.tmp 4]⟩,
      ⟨some 20, none, .eff .s2b [.tmp 19]⟩,
      ⟨some 21, none, .rd .lenL [.tmp 20]⟩,
      ⟨some 22, none, .rd .mov [.pv (.int .i64 0)]⟩] L24)
   (.block 0
    (.loop
      (.seq (.region false [⟨some 23, none, .rd (.bin .lss) [.tmp 22, .tmp 21]⟩] L24)
       (.seq (.cond (.tmp 23)
         (.skip)
         (.exit 0))
       (.seq (.block 1
         (.seq (.region false [⟨some 24, none, .rd (.idxAddr none) [.tmp 20, .tmp 22]⟩,
             ⟨some 25, none, .rd (.load none) [.tmp 24]⟩,
             ⟨some 9, none, .rd .mov [.tmp 25]⟩] L24)
          (.seq (.region false [⟨some 26, none, .rd .mov [.tmp 7]⟩,
             ⟨some 27, none, .rd (.bin .mul) [.pv (.int .i64 10), .tmp 26]⟩,
             ⟨some 28, none, .rd .mov [.tmp 9]⟩,
             ⟨some 29, none, .rd (.bin .sub) [.tmp 28, .pv (.int .u8 48)]⟩,
             ⟨some 30, none, .rd (.conv .i64) [.tmp 29]⟩,
             ⟨some 31, none, .rd (.bin .add) [.tmp 27, .tmp 30]⟩,
             ⟨some 7, none, .rd .mov [.tmp 31]⟩] L24)
          (.seq (.region false [⟨some 32, none, .rd .mov [.tmp 7]⟩,
             ⟨some 33, none, .rd (.bin .gtr) [.tmp 32, .pv (.int .i64 1000000000000)]⟩] L24)
          (.cond (.tmp 33)
           (.seq (.region false [⟨some 2, none, .rd .mov [.pv (.int .i64 0)]⟩,
               ⟨some 3, none, .rd .mov [.pv (.bool false)]⟩] L24)
            (.ret))
           (.skip))))))
       (.region false [⟨some 34, none, .rd (.bin .add) [.tmp 22, .pv (.int .i64 1)]⟩,
         ⟨some 22, none, .rd .mov [.tmp 34]⟩] L24)))))))
  (.seq (.region false [⟨some 10, none, .rd .mov [.pv (.int .i64 0)]⟩] L24)
  (.seq (.seq (.region false [⟨some 11, none, .rd .mov [.pv (.int .i64 0)]⟩,
      ⟨some 12, none, .rd .mov [.pv (.int .i64 100000)]⟩] L24)
   (.block 2
    (.loop
      (.seq (.seq (.region false [⟨some 35, none, .rd .mov [.tmp 11]⟩,
           ⟨some 36, none, .rd .mov [.tmp 5]⟩,
           ⟨some 37, none, .rd .lenS [.tmp 36]⟩,
           ⟨some 38, none, .rd (.bin .lss) [.tmp 35, .tmp 37]⟩] L24)
        (.cond (.tmp 38)
         (.skip)
         (.exit 2)))
       (.seq (.block 3
         (.region false [⟨some 43, none, .rd .mov [.tmp 10]⟩,
            ⟨some 44, none, .rd .mov [.tmp 12]⟩,
            ⟨some 45, none, .rd .mov [.tmp 5]⟩,
            ⟨some 46, none, .rd .mov [.tmp 11]⟩,
            ⟨some 47, none, .rd .idxS [.tmp 45, .tmp 46]⟩,
            ⟨some 48, none, .rd (.bin .sub) [.tmp 47, .pv (.int .u8 48)]⟩,
            ⟨some 49, none, .rd (.conv .i64) [.tmp 48]⟩,
            ⟨some 50, none, .rd (.bin .mul) [.tmp 44, .tmp 49]⟩,
            ⟨some 51, none, .rd (.bin .add) [.tmp 43, .tmp 50]⟩,
            ⟨some 10, none, .rd .mov [.tmp 51]⟩] L24))
       (.region false [⟨some 39, none, .rd .mov [.tmp 11]⟩,
         ⟨some 40, none, .rd (.bin .add) [.tmp 39, .pv (.int .i64 1)]⟩,
         ⟨some 41, none, .rd .mov [.tmp 12]⟩,
         ⟨some 42, none, .rd (.bin .quo) [.tmp 41, .pv (.int .i64 10)]⟩,
         ⟨some 11, none, .rd .mov [.tmp 40]⟩,
         ⟨some 12, none, .rd .mov [.tmp 42]⟩] L24))))))
  (.seq (.seq (.region false [⟨some 52, none, .rd .mov [.tmp 7]⟩,
      ⟨some 53, none, .rd (.bin .eql) [.tmp 52, .pv (.int .i64 1000000000000)]⟩,
      ⟨some 54, none, .rd .mov [.tmp 53]⟩,
      ⟨some 55, some (54, true), .rd .mov [.tmp 10]⟩,
      ⟨some 56, some (54, true), .rd (.bin .gtr) [.tmp 55, .pv (.int .i64 0)]⟩,
      ⟨some 57, none, .rd .pick [.tmp 54, .tmp 56, .pv (.bool false)]⟩] L24)
   (.cond (.tmp 57)
    (.seq (.region false [⟨some 2, none, .rd .mov [.pv (.int .i64 0)]⟩,
        ⟨some 3, none, .rd .mov [.pv (.bool false)]⟩] L24)
     (.ret))
    (.skip)))
  (.seq (.region false [⟨some 58, none, .rd .mov [.tmp 7]⟩,
     ⟨some 59, none, .rd (.bin .mul) [.tmp 58, .pv (.int .i64 1000000)]⟩,
     ⟨some 60, none, .rd .mov [.tmp 10]⟩,
     ⟨some 61, none, .rd (.bin .add) [.tmp 59, .tmp 60]⟩,
     ⟨some 2, none, .rd .mov [.tmp 61]⟩,
     ⟨some 3, none, .rd .mov [.pv (.bool true)]⟩] L24)
  (.ret)))))))),
  [.tmp 2, .tmp 3]⟩

-- wagebook/lex.letter
def L25 : List Nat := [0, 2]
def c25 : CF := ⟨9,
  .seq (.region false [⟨some 2, none, .rd .mov [.pv (.bool false)]⟩] L25)
  (.seq (.region false [⟨some 3, none, .rd .mov [.tmp 0]⟩,
     ⟨some 4, none, .rd (.bin .geq) [.tmp 3, .pv (.int .u8 97)]⟩,
     ⟨some 5, none, .rd .mov [.tmp 4]⟩,
     ⟨some 6, some (5, true), .rd .mov [.tmp 0]⟩,
     ⟨some 7, some (5, true), .rd (.bin .leq) [.tmp 6, .pv (.int .u8 122)]⟩,
     ⟨some 8, none, .rd .pick [.tmp 5, .tmp 7, .pv (.bool false)]⟩,
     ⟨some 2, none, .rd .mov [.tmp 8]⟩] L25)
  (.ret)),
  [.tmp 2]⟩

-- wagebook/lex.inName
def L26 : List Nat := [0, 2]
def c26 : CF := ⟨21,
  .seq (.region false [⟨some 2, none, .rd .mov [.pv (.bool false)]⟩] L26)
  (.seq (.region false [⟨some 3, none, .rd .mov [.tmp 0]⟩,
     ⟨some 4, none, .call (.pv (.fn 25 [] [])) [.tmp 3]⟩,
     ⟨some 5, none, .rd .mov [.tmp 4]⟩,
     ⟨some 6, some (5, false), .rd .mov [.tmp 0]⟩,
     ⟨some 7, some (5, false), .call (.pv (.fn 19 [] [])) [.tmp 6]⟩,
     ⟨some 8, none, .rd .pick [.tmp 5, .pv (.bool true), .tmp 7]⟩,
     ⟨some 9, none, .rd .mov [.tmp 8]⟩,
     ⟨some 10, some (9, false), .rd .mov [.tmp 0]⟩,
     ⟨some 11, some (9, false), .rd (.bin .eql) [.tmp 10, .pv (.int .u8 46)]⟩,
     ⟨some 12, none, .rd .pick [.tmp 9, .pv (.bool true), .tmp 11]⟩,
     ⟨some 13, none, .rd .mov [.tmp 12]⟩,
     ⟨some 14, some (13, false), .rd .mov [.tmp 0]⟩,
     ⟨some 15, some (13, false), .rd (.bin .eql) [.tmp 14, .pv (.int .u8 95)]⟩,
     ⟨some 16, none, .rd .pick [.tmp 13, .pv (.bool true), .tmp 15]⟩,
     ⟨some 17, none, .rd .mov [.tmp 16]⟩,
     ⟨some 18, some (17, false), .rd .mov [.tmp 0]⟩,
     ⟨some 19, some (17, false), .rd (.bin .eql) [.tmp 18, .pv (.int .u8 58)]⟩,
     ⟨some 20, none, .rd .pick [.tmp 17, .pv (.bool true), .tmp 19]⟩,
     ⟨some 2, none, .rd .mov [.tmp 20]⟩] L26)
  (.ret)),
  [.tmp 2]⟩

-- wagebook/lex.name
def L27 : List Nat := [0, 1, 4, 5, 6, 7, 12]
def c27 : CF := ⟨15,
  .seq (.region false [⟨some 4, none, .rd .mov [.pv (.int .i64 0)]⟩,
     ⟨some 5, none, .rd .mov [.pv (.int .i64 0)]⟩,
     ⟨some 6, none, .rd .mov [.pv (.int .i64 0)]⟩] L27)
  (.seq (.region false [⟨some 8, none, .rd .mov [.tmp 0]⟩,
     ⟨some 9, none, .rd .mov [.tmp 1]⟩,
     ⟨some 10, none, .call (.pv (.fn 21 [] [])) [.tmp 8, .tmp 9, .pv (.fn 26 [] [])]⟩,
     ⟨some 7, none, .rd .mov [.tmp 10]⟩] L27)
  (.seq (.seq (.region false [⟨some 11, none, .rd .mov [.tmp 7]⟩,
      ⟨some 12, none, .rd (.bin .gtr) [.tmp 11, .pv (.int .i64 32)]⟩] L27)
   (.cond (.tmp 12)
    (.seq (.region false [⟨some 13, none, .rd .mov [.tmp 1]⟩,
        ⟨some 4, none, .rd .mov [.pv (.int .i64 0)]⟩,
        ⟨some 5, none, .rd .mov [.tmp 13]⟩,
        ⟨some 6, none, .rd .mov [.pv (.int .i64 4)]⟩] L27)
     (.ret))
    (.skip)))
  (.seq (.region false [⟨some 14, none, .rd .mov [.tmp 7]⟩,
     ⟨some 4, none, .rd .mov [.tmp 14]⟩,
     ⟨some 5, none, .rd .mov [.pv (.int .i64 0)]⟩,
     ⟨some 6, none, .rd .mov [.pv (.int .i64 0)]⟩] L27)
  (.ret)))),
  [.tmp 4, .tmp 5, .tmp 6]⟩

-- strings.IndexByte
def L28 : List Nat := [0, 1, 4]
def c28 : CF := ⟨8,
  .seq (.region false [⟨some 4, none, .rd .mov [.pv (.int .i64 0)]⟩] L28)
  (.seq (.region false [⟨some 5, none, .rd .mov [.tmp 0]⟩,
     ⟨some 6, none, .rd .mov [.tmp 1]⟩,
     ⟨some 7, none, .call (.pv (.fn 35 [] [])) [.tmp 5, .tmp 6]⟩,
     ⟨some 4, none, .rd .mov [.tmp 7]⟩] L28)
  (.ret)),
  [.tmp 4]⟩

-- wagebook/wagebookref12.run
def L29 : List Nat := [0, 1, 4, 5, 19]
def c29 : CF := ⟨23,
  .seq (.region false [⟨some 4, none, .rd .mov [.pv (.int .i64 0)]⟩] L29)
  (.seq (.region false [⟨some 5, none, .rd .mov [.pv (.int .i64 0)]⟩] L29)
  (.seq (.block 0
    (.loop
      (.seq (.seq (.region false [⟨some 6, none, .rd .mov [.tmp 1]⟩,
           ⟨some 7, none, .rd .mov [.tmp 5]⟩,
           ⟨some 8, none, .rd (.bin .add) [.tmp 6, .tmp 7]⟩,
           ⟨some 9, none, .rd .mov [.tmp 0]⟩,
           ⟨some 10, none, .rd .lenS [.tmp 9]⟩,
           ⟨some 11, none, .rd (.bin .lss) [.tmp 8, .tmp 10]⟩,
           ⟨some 12, none, .rd .mov [.tmp 11]⟩,
           ⟨some 13, some (12, true), .rd .mov [.tmp 0]⟩,
           ⟨some 14, some (12, true), .rd .mov [.tmp 1]⟩,
           ⟨some 15, some (12, true), .rd .mov [.tmp 5]⟩,
           ⟨some 16, some (12, true), .rd (.bin .add) [.tmp 14, .tmp 15]⟩,
           ⟨some 17, some (12, true), .rd .idxS [.tmp 13, .tmp 16]⟩,
           ⟨some 18, some (12, true), .call (.pv (.fn 16 [] [])) [.tmp 17]⟩,
           ⟨some 19, none, .rd .pick [.tmp 12, .tmp 18, .pv (.bool false)]⟩] L29)
        (.cond (.tmp 19)
         (.skip)
         (.exit 0)))
       (.block 1
        (.region false [⟨some 20, none, .rd .mov [.tmp 5]⟩,
           ⟨some 21, none, .rd (.bin .add) [.tmp 20, .pv (.int .i64 1)]⟩,
           ⟨some 5, none, .rd .mov [.tmp 21]⟩] L29)))))
  (.seq (.region false [⟨some 22, none, .rd .mov [.tmp 5]⟩,
     ⟨some 4, none, .rd .mov [.tmp 22]⟩] L29)
  (.ret)))),
  [.tmp 4]⟩

-- wagebook/wagebookref12.millionths
def L30 : List Nat := [0, 1, 4, 5, 6, 7, 8, 12, 24, 30]
def c30 : CF := ⟨45,
  .seq (.region false [⟨some 4, none, .rd .mov [.pv (.int .i64 0)]⟩] L30)
  (.seq (.region false [⟨some 5, none, .rd .mov [.pv (.int .i64 0)]⟩] L30)
  (.seq (.seq (.region false [⟨some 6, none, .rd .mov [.pv (.int .i64 0)]⟩] L30)
   (.block 0
    (.loop
      (.seq (.seq (.region false [⟨some 9, none, .rd .mov [.tmp 6]⟩,
           ⟨some 10, none, .rd .mov [.tmp 0]⟩,
           ⟨some 11, none, .rd .lenS [.tmp 10]⟩,
           ⟨some 12, none, .rd (.bin .lss) [.tmp 9, .tmp 11]⟩] L30)
        (.cond (.tmp 12)
         (.skip)
         (.exit 0)))
       (.seq (.block 1
         (.seq (.region false [⟨some 15, none, .rd .mov [.tmp 5]⟩,
             ⟨some 16, none, .rd (.bin .mul) [.pv (.int .i64 10), .tmp 15]⟩,
             ⟨some 17, none, .rd .mov [.tmp 0]⟩,
             ⟨some 18, none, .rd .mov [.tmp 6]⟩,
             ⟨some 19, none, .rd .idxS [.tmp 17, .tmp 18]⟩,
             ⟨some 20, none, .rd (.bin .sub) [.tmp 19, .pv (.int .u8 48)]⟩,
             ⟨some 21, none, .rd (.conv .i64) [.tmp 20]⟩,
             ⟨some 22, none, .rd (.bin .add) [.tmp 16, .tmp 21]⟩,
             ⟨some 5, none, .rd .mov [.tmp 22]⟩] L30)
          (.seq (.region false [⟨some 23, none, .rd .mov [.tmp 5]⟩,
             ⟨some 24, none, .rd (.bin .gtr) [.tmp 23, .pv (.int .i64 1000000000000)]⟩] L30)
          (.cond (.tmp 24)
           (.region false [⟨some 5, none, .rd .mov [.pv (.int .i64 1000000000001)]⟩] L30)
           (.skip)))))
       (.region false [⟨some 13, none, .rd .mov [.tmp 6]⟩,
         ⟨some 14, none, .rd (.bin .add) [.tmp 13, .pv (.int .i64 1)]⟩,
         ⟨some 6, none, .rd .mov [.tmp 14]⟩] L30))))))
  (.seq (.region false [⟨some 25, none, .rd .mov [.tmp 5]⟩,
     ⟨some 26, none, .rd (.bin .mul) [.tmp 25, .pv (.int .i64 1000000)]⟩,
     ⟨some 5, none, .rd .mov [.tmp 26]⟩] L30)
  (.seq (.region false [⟨some 7, none, .rd .mov [.pv (.int .i64 100000)]⟩] L30)
  (.seq (.seq (.region false [⟨some 8, none, .rd .mov [.pv (.int .i64 0)]⟩] L30)
   (.block 2
    (.loop
      (.seq (.seq (.region false [⟨some 27, none, .rd .mov [.tmp 8]⟩,
           ⟨some 28, none, .rd .mov [.tmp 1]⟩,
           ⟨some 29, none, .rd .lenS [.tmp 28]⟩,
           ⟨some 30, none, .rd (.bin .lss) [.tmp 27, .tmp 29]⟩] L30)
        (.cond (.tmp 30)
         (.skip)
         (.exit 2)))
       (.seq (.block 3
         (.seq (.region false [⟨some 33, none, .rd .mov [.tmp 5]⟩,
             ⟨some 34, none, .rd .mov [.tmp 1]⟩,
             ⟨some 35, none, .rd .mov [.tmp 8]⟩,
             ⟨some 36, none, .rd .idxS [.tmp 34, .tmp 35]⟩,
             ⟨some 37, none, .rd (.bin .sub) [.tmp 36, .pv (.int .u8 48)]⟩,
             ⟨some 38, none, .rd (.conv .i64) [.tmp 37]⟩,
             ⟨some 39, none, .rd .mov [.tmp 7]⟩,
             ⟨some 40, none, .rd (.bin .mul) [.tmp 38, .tmp 39]⟩,
             ⟨some 41, none, .rd (.bin .add) [.tmp 33, .tmp 40]⟩,
             ⟨some 5, none, .rd .mov [.tmp 41]⟩] L30)
          (.region false [⟨some 42, none, .rd .mov [.tmp 7]⟩,
            ⟨some 43, none, .rd (.bin .quo) [.tmp 42, .pv (.int .i64 10)]⟩,
            ⟨some 7, none, .rd .mov [.tmp 43]⟩] L30)))
       (.region false [⟨some 31, none, .rd .mov [.tmp 8]⟩,
         ⟨some 32, none, .rd (.bin .add) [.tmp 31, .pv (.int .i64 1)]⟩,
         ⟨some 8, none, .rd .mov [.tmp 32]⟩] L30))))))
  (.seq (.region false [⟨some 44, none, .rd .mov [.tmp 5]⟩,
     ⟨some 4, none, .rd .mov [.tmp 44]⟩] L30)
  (.ret))))))),
  [.tmp 4]⟩

-- strings.Cut
def L34 : List Nat := [0, 1, 4, 5, 6]
def c34 : CF := ⟨13,
  .seq (.region false [⟨some 4, none, .rd .mov [.pv (.str [])]⟩,
     ⟨some 5, none, .rd .mov [.pv (.str [])]⟩,
     ⟨some 6, none, .rd .mov [.pv (.bool false)]⟩] L34)
  (.seq (.region false [⟨some 7, none, .rd .mov [.tmp 0]⟩,
     ⟨some 8, none, .rd .mov [.tmp 1]⟩,
     ⟨some 9, none, .call (.pv (.fn 37 [] [])) [.tmp 7, .tmp 8]⟩,
     ⟨some 10, none, .rd (.ext 0) [.tmp 9]⟩,
     ⟨some 11, none, .rd (.ext 1) [.tmp 9]⟩,
     ⟨some 12, none, .rd (.ext 2) [.tmp 9]⟩,
     ⟨some 4, none, .rd .mov [.tmp 10]⟩,
     ⟨some 5, none, .rd .mov [.tmp 11]⟩,
     ⟨some 6, none, .rd .mov [.tmp 12]⟩] L34)
  (.ret)),
  [.tmp 4, .tmp 5, .tmp 6]⟩

-- internal/stringslite.Index
def L36 : List Nat := [0, 1, 4, 5, 6, 7, 8, 9, 10, 11, 12, 13, 16, 24, 31, 36, 59, 64, 73, 93, 107, 114, 132, 139]
def c36 : CF := ⟨143,
  .seq (.region false [⟨some 4, none, .rd .mov [.pv (.int .i64 0)]⟩] L36)
  (.seq (.region false [⟨some 14, none, .rd .mov [.tmp 1]⟩,
     ⟨some 15, none, .rd .lenS [.tmp 14]⟩,
     ⟨some 5, none, .rd .mov [.tmp 15]⟩] L36)
  (.seq (.block 0
    (.seq (.region false [⟨some 17, none, .rd .mov [.tmp 5]⟩,
        ⟨some 18, none, .rd (.bin .eql) [.tmp 17, .pv (.int .i64 0)]⟩,
        ⟨some 19, none, .rd .mov [.tmp 18]⟩,
        ⟨some 20, some (19, false), .rd .mov [.tmp 1]⟩,
        ⟨some 21, some (19, false), .rd .mov [.tmp 0]⟩,
        ⟨some 22, some (19, false), .rd (.bin .eql) [.tmp 20, .tmp 21]⟩,
        ⟨some 23, none, .rd .pick [.tmp 19, .pv (.bool true), .tmp 22]⟩,
        ⟨some 16, none, .rd .mov [.tmp 23]⟩] L36)
     (.cond (.tmp 16)
      (.seq (.region false [⟨some 4, none, .rd .mov [.pv (.int .i64 0)]⟩] L36)
       (.ret))
      (.seq (.region false [⟨some 25, none, .rd .mov [.tmp 5]⟩,
          ⟨some 26, none, .rd (.bin .eql) [.tmp 25, .pv (.int .i64 1)]⟩,
          ⟨some 24, none, .rd .mov [.tmp 26]⟩] L36)
       (.cond (.tmp 24)
        (.seq (.region false [⟨some 27, none, .rd .mov [.tmp 0]⟩,
            ⟨some 28, none, .rd .mov [.tmp 1]⟩,
            ⟨some 29, none, .rd .idxS [.tmp 28, .pv (.int .i64 0)]⟩,
            ⟨some 30, none, .call (.pv (.fn 35 [] [])) [.tmp 27, .tmp 29]⟩,
            ⟨some 4, none, .rd .mov [.tmp 30]⟩] L36)
         (.ret))
        (.seq (.region false [⟨some 32, none, .rd .mov [.tmp 5]⟩,
            ⟨some 33, none, .rd .mov [.tmp 0]⟩,
            ⟨some 34, none, .rd .lenS [.tmp 33]⟩,
            ⟨some 35, none, .rd (.bin .geq) [.tmp 32, .tmp 34]⟩,
            ⟨some 31, none, .rd .mov [.tmp 35]⟩] L36)
         (.cond (.tmp 31)
          (.seq (.region false [⟨some 4, none, .rd .mov [.pv (.int .i64 (-1))]⟩] L36)
           (.ret))
          (.seq (.region false [⟨some 37, none, .rd .mov [.tmp 5]⟩,
              ⟨some 38, none, .rd (.load none) [.glob 0]⟩,
              ⟨some 39, none, .rd (.bin .leq) [.tmp 37, .tmp 38]⟩,
              ⟨some 40, none, .rd .mov [.tmp 39]⟩,
              ⟨some 41, some (40, true), .rd .mov [.tmp 0]⟩,
              ⟨some 42, some (40, true), .rd .lenS [.tmp 41]⟩,
              ⟨some 43, some (40, true), .rd (.bin .leq) [.tmp 42, .pv (.int .i64 64)]⟩,
              ⟨some 44, none, .rd .pick [.tmp 40, .tmp 43, .pv (.bool false)]⟩,
              ⟨some 36, none, .rd .mov [.tmp 44]⟩] L36)
           (.cond (.tmp 36)
            (.seq (.region false [⟨some 45, none, .rd .mov [.tmp 0]⟩,
                ⟨some 46, none, .rd .mov [.tmp 1]⟩,
                ⟨some 47, none, .call (.pv (.fn 39 [] [])) [.tmp 45, .tmp 46]⟩,
                ⟨some 4, none, .rd .mov [.tmp 47]⟩] L36)
             (.ret))
            (.skip))))))))))
  (.seq (.region false [⟨some 48, none, .rd .mov [.tmp 1]⟩,
     ⟨some 49, none, .rd .idxS [.tmp 48, .pv (.int .i64 0)]⟩,
     ⟨some 6, none, .rd .mov [.tmp 49]⟩] L36)
  (.seq (.region false [⟨some 50, none, .rd .mov [.tmp 1]⟩,
     ⟨some 51, none, .rd .idxS [.tmp 50, .pv (.int .i64 1)]⟩,
     ⟨some 7, none, .rd .mov [.tmp 51]⟩] L36)
  (.seq (.region false [⟨some 8, none, .rd .mov [.pv (.int .i64 0)]⟩] L36)
  (.seq (.region false [⟨some 52, none, .rd .mov [.tmp 0]⟩,
     ⟨some 53, none, .rd .lenS [.tmp 52]⟩,
     ⟨some 54, none, .rd .mov [.tmp 5]⟩,
     ⟨some 55, none, .rd (.bin .sub) [.tmp 53, .tmp 54]⟩,
     ⟨some 56, none, .rd (.bin .add) [.tmp 55, .pv (.int .i64 1)]⟩,
     ⟨some 9, none, .rd .mov [.tmp 56]⟩] L36)
  (.seq (.region false [⟨some 10, none, .rd .mov [.pv (.int .i64 0)]⟩] L36)
  (.seq (.block 1
    (.loop
      (.seq (.seq (.region false [⟨some 57, none, .rd .mov [.tmp 8]⟩,
           ⟨some 58, none, .rd .mov [.tmp 9]⟩,
           ⟨some 59, none, .rd (.bin .lss) [.tmp 57, .tmp 58]⟩] L36)
        (.cond (.tmp 59)
         (.skip)
         (.exit 1)))
       (.block 2
        (.seq (.seq (.region false [⟨some 60, none, .rd .mov [.tmp 0]⟩,
             ⟨some 61, none, .rd .mov [.tmp 8]⟩,
             ⟨some 62, none, .rd .idxS [.tmp 60, .tmp 61]⟩,
             ⟨some 63, none, .rd .mov [.tmp 6]⟩,
             ⟨some 64, none, .rd (.bin .neq) [.tmp 62, .tmp 63]⟩] L36)
          (.cond (.tmp 64)
           (.seq (.region false [⟨some 65, none, .rd .mov [.tmp 0]⟩,
               ⟨some 66, none, .rd .mov [.tmp 8]⟩,
               ⟨some 67, none, .rd (.bin .add) [.tmp 66, .pv (.int .i64 1)]⟩,
               ⟨some 68, none, .rd .mov [.tmp 9]⟩,
               ⟨some 69, none, .rd (.slcS true true) [.tmp 65, .tmp 67, .tmp 68]⟩,
               ⟨some 70, none, .rd .mov [.tmp 6]⟩,
               ⟨some 71, none, .call (.pv (.fn 35 [] [])) [.tmp 69, .tmp 70]⟩,
               ⟨some 11, none, .rd .mov [.tmp 71]⟩] L36)
            (.seq (.seq (.region false [⟨some 72, none, .rd .mov [.tmp 11]⟩,
                ⟨some 73, none, .rd (.bin .lss) [.tmp 72, .pv (.int .i64 0)]⟩] L36)
             (.cond (.tmp 73)
              (.seq (.region false [⟨some 4, none, .rd .mov [.pv (.int .i64 (-1))]⟩] L36)
               (.ret))
              (.skip)))
            (.region false [⟨some 74, none, .rd .mov [.tmp 8]⟩,
              ⟨some 75, none, .rd .mov [.tmp 11]⟩,
              ⟨some 76, none, .rd (.bin .add) [.tmp 75, .pv (.int .i64 1)]⟩,
              ⟨some 77, none, .rd (.bin .add) [.tmp 74, .tmp 76]⟩,
              ⟨some 8, none, .rd .mov [.tmp 77]⟩] L36)))
           (.skip)))
         (.seq (.seq (.region false [⟨some 78, none, .rd .mov [.tmp 0]⟩,
             ⟨some 79, none, .rd .mov [.tmp 8]⟩,
             ⟨some 80, none, .rd (.bin .add) [.tmp 79, .pv (.int .i64 1)]⟩,
             ⟨some 81, none, .rd .idxS [.tmp 78, .tmp 80]⟩,
             ⟨some 82, none, .rd .mov [.tmp 7]⟩,
             ⟨some 83, none, .rd (.bin .eql) [.tmp 81, .tmp 82]⟩,
             ⟨some 84, none, .rd .mov [.tmp 83]⟩,
             ⟨some 85, some (84, true), .rd .mov [.tmp 0]⟩,
             ⟨some 86, some (84, true), .rd .mov [.tmp 8]⟩,
             ⟨some 87, some (84, true), .rd .mov [.tmp 8]⟩,
             ⟨some 88, some (84, true), .rd .mov [.tmp 5]⟩,
             ⟨some 89, some (84, true), .rd (.bin .add) [.tmp 87, .tmp 88]⟩,
             ⟨some 90, some (84, true), .rd (.slcS true true) [.tmp 85, .tmp 86, .tmp 89]⟩,
             ⟨some 91, some (84, true), .rd .mov [.tmp 1]⟩,
             ⟨some 92, some (84, true), .rd (.bin .eql) [.tmp 90, .tmp 91]⟩,
             ⟨some 93, none, .rd .pick [.tmp 84, .tmp 92, .pv (.bool false)]⟩] L36)
          (.cond (.tmp 93)
           (.seq (.region false [⟨some 94, none, .rd .mov [.tmp 8]⟩,
               ⟨some 4, none, .rd .mov [.tmp 94]⟩] L36)
            (.ret))
           (.skip)))
         (.seq (.region false [⟨some 95, none, .rd .mov [.tmp 8]⟩,
            ⟨some 96, none, .rd (.bin .add) [.tmp 95, .pv (.int .i64 1)]⟩,
            ⟨some 8, none, .rd .mov [.tmp 96]⟩] L36)
         (.seq (.region false [⟨some 97, none, .rd .mov [.tmp 10]⟩,
            ⟨some 98, none, .rd (.bin .add) [.tmp 97, .pv (.int .i64 1)]⟩,
            ⟨some 10, none, .rd .mov [.tmp 98]⟩] L36)
         (.seq (.region false [⟨some 99, none, .rd .mov [.tmp 5]⟩,
            ⟨some 100, none, .rd (.load none) [.glob 0]⟩,
            ⟨some 101, none, .rd (.bin .leq) [.tmp 99, .tmp 100]⟩,
            ⟨some 102, none, .rd .mov [.tmp 101]⟩,
            ⟨some 103, some (102, true), .rd .mov [.tmp 10]⟩,
            ⟨some 104, some (102, true), .rd .mov [.tmp 8]⟩,
            ⟨some 105, some (102, true), .call (.pv (.fn 40 [] [])) [.tmp 104]⟩,
            ⟨some 106, some (102, true), .rd (.bin .gtr) [.tmp 103, .tmp 105]⟩,
            ⟨some 107, none, .rd .pick [.tmp 102, .tmp 106, .pv (.bool false)]⟩] L36)
         (.cond (.tmp 107)
          (.seq (.region false [⟨some 108, none, .rd .mov [.tmp 0]⟩,
              ⟨some 109, none, .rd .mov [.tmp 8]⟩,
              ⟨some 110, none, .rd (.slcS true false) [.tmp 108, .tmp 109]⟩,
              ⟨some 111, none, .rd .mov [.tmp 1]⟩,
              ⟨some 112, none, .call (.pv (.fn 39 [] [])) [.tmp 110, .tmp 111]⟩,
              ⟨some 12, none, .rd .mov [.tmp 112]⟩] L36)
           (.seq (.seq (.region false [⟨some 113, none, .rd .mov [.tmp 12]⟩,
               ⟨some 114, none, .rd (.bin .geq) [.tmp 113, .pv (.int .i64 0)]⟩] L36)
            (.cond (.tmp 114)
             (.seq (.region false [⟨some 115, none, .rd .mov [.tmp 12]⟩,
                 ⟨some 116, none, .rd .mov [.tmp 8]⟩,
                 ⟨some 117, none, .rd (.bin .add) [.tmp 115, .tmp 116]⟩,
                 ⟨some 4, none, .rd .mov [.tmp 117]⟩] L36)
              (.ret))
             (.skip)))
           (.seq (.region false [⟨some 4, none, .rd .mov [.pv (.int .i64 (-1))]⟩] L36)
           (.ret))))
          (.seq (.region false [⟨some 118, none, .rd .mov [.tmp 5]⟩,
              ⟨some 119, none, .rd (.load none) [.glob 0]⟩,
              ⟨some 120, none, .rd (.bin .gtr) [.tmp 118, .tmp 119]⟩,
              ⟨some 121, none, .rd .mov [.tmp 120]⟩,
              ⟨some 122, some (121, true), .rd .mov [.tmp 10]⟩,
              ⟨some 123, some (121, true), .rd .mov [.tmp 8]⟩,
              ⟨some 124, some (121, true), .rd (.bin .shr) [.tmp 123, .pv (.int .u64 4)]⟩,
              ⟨some 125, some (121, true), .rd (.bin .add) [.pv (.int .i64 4), .tmp 124]⟩,
              ⟨some 126, some (121, true), .rd (.bin .geq) [.tmp 122, .tmp 125]⟩,
              ⟨some 127, none, .rd .pick [.tmp 121, .tmp 126, .pv (.bool false)]⟩,
              ⟨some 128, none, .rd .mov [.tmp 127]⟩,
              ⟨some 129, some (128, true), .rd .mov [.tmp 8]⟩,
              ⟨some 130, some (128, true), .rd .mov [.tmp 9]⟩,
              ⟨some 131, some (128, true), .rd (.bin .lss) [.tmp 129, .tmp 130]⟩,
              ⟨some 132, none, .rd .pick [.tmp 128, .tmp 131, .pv (.bool false)]⟩] L36)
           (.cond (.tmp 132)
            (.seq (.region false [⟨some 133, none, .rd .mov [.tmp 0]⟩,
                ⟨some 134, none, .rd .mov [.tmp 8]⟩,
                ⟨some 135, none, .rd (.slcS true false) [.tmp 133, .tmp 134]⟩,
                ⟨some 136, none, .rd .mov [.tmp 1]⟩,
                ⟨some 137, none, .call (.pv (.fn 41 [] [])) [.tmp 135, .tmp 136]⟩,
                ⟨some 13, none, .rd .mov [.tmp 137]⟩] L36)
             (.seq (.seq (.region false [⟨some 138, none, .rd .mov [.tmp 13]⟩,
                 ⟨some 139, none, .rd (.bin .lss) [.tmp 138, .pv (.int .i64 0)]⟩] L36)
              (.cond (.tmp 139)
               (.seq (.region false [⟨some 4, none, .rd .mov [.pv (.int .i64 (-1))]⟩] L36)
                (.ret))
               (.skip)))
             (.seq (.region false [⟨some 140, none, .rd .mov [.tmp 8]⟩,
                ⟨some 141, none, .rd .mov [.tmp 13]⟩,
                ⟨some 142, none, .rd (.bin .add) [.tmp 140, .tmp 141]⟩,
                ⟨some 4, none, .rd .mov [.tmp 142]⟩] L36)
             (.ret))))
            (.skip)))))))))))))
  (.seq (.region false [⟨some 4, none, .rd .mov [.pv (.int .i64 (-1))]⟩] L36)
  (.ret)))))))))),
  [.tmp 4]⟩

-- internal/stringslite.Cut
def L37 : List Nat := [0, 1, 4, 5, 6, 7, 12]
def c37 : CF := ⟨23,
  .seq (.region false [⟨some 4, none, .rd .mov [.pv (.str [])]⟩,
     ⟨some 5, none, .rd .mov [.pv (.str [])]⟩,
     ⟨some 6, none, .rd .mov [.pv (.bool false)]⟩] L37)
  (.seq (.seq (.region false [⟨some 8, none, .rd .mov [.tmp 0]⟩,
      ⟨some 9, none, .rd .mov [.tmp 1]⟩,
      ⟨some 10, none, .call (.pv (.fn 36 [] [])) [.tmp 8, .tmp 9]⟩,
      ⟨some 7, none, .rd .mov [.tmp 10]⟩] L37)
   (.seq (.region false [⟨some 11, none, .rd .mov [.tmp 7]⟩,
      ⟨some 12, none, .rd (.bin .geq) [.tmp 11, .pv (.int .i64 0)]⟩] L37)
   (.cond (.tmp 12)
    (.seq (.region true [⟨some 13, none, .rd .mov [.tmp 0]⟩,
        ⟨some 14, none, .rd .mov [.tmp 7]⟩,
        ⟨some 15, none, .rd (.slcS false true) [.tmp 13, .tmp 14]⟩,
        ⟨some 16, none, .rd .mov [.tmp 0]⟩,
        ⟨some 17, none, .rd .mov [.tmp 7]⟩,
        ⟨some 18, none, .rd .mov [.tmp 1]⟩,
        ⟨some 19, none, .rd .lenS [.tmp 18]⟩,
        ⟨some 20, none, .rd (.bin .add) [.tmp 17, .tmp 19]⟩,
        ⟨some 21, none, .rd (.slcS true false) [.tmp 16, .tmp 20]⟩,
        ⟨some 4, none, .rd .mov [.tmp 15]⟩,
        ⟨some 5, none, .rd .mov [.tmp 21]⟩,
        ⟨some 6, none, .rd .mov [.pv (.bool true)]⟩] L37)
     (.ret))
    (.skip))))
  (.seq (.region false [⟨some 22, none, .rd .mov [.tmp 0]⟩,
     ⟨some 4, none, .rd .mov [.tmp 22]⟩,
     ⟨some 5, none, .rd .mov [.pv (.str [])]⟩,
     ⟨some 6, none, .rd .mov [.pv (.bool false)]⟩] L37)
  (.ret))),
  [.tmp 4, .tmp 5, .tmp 6]⟩
theorem k3 : compileF Try.prog [] L3 Try.f3 = some c3 := by kernel_rfl
theorem k4 : compileF Try.prog [] L4 Try.f4 = some c4 := by kernel_rfl
theorem k5 : compileF Try.prog [] L5 Try.f5 = some c5 := by kernel_rfl
theorem k6 : compileF Try.prog [] L6 Try.f6 = some c6 := by kernel_rfl
theorem k7 : compileF Try.prog [] L7 Try.f7 = some c7 := by kernel_rfl
theorem k8 : compileF Try.prog [] L8 Try.f8 = some c8 := by kernel_rfl
theorem k9 : compileF Try.prog [] L9 Try.f9 = some c9 := by kernel_rfl
theorem k10 : compileF Try.prog [] L10 Try.f10 = some c10 := by kernel_rfl
theorem k11 : compileF Try.prog [] L11 Try.f11 = some c11 := by kernel_rfl
theorem k12 : compileF Try.prog [] L12 Try.f12 = some c12 := by kernel_rfl
theorem k13 : compileF Try.prog [] L13 Try.f13 = some c13 := by kernel_rfl
theorem k14 : compileF Try.prog [] L14 Try.f14 = some c14 := by kernel_rfl
theorem k15 : compileF Try.prog [] L15 Try.f15 = some c15 := by kernel_rfl
theorem k16 : compileF Try.prog [] L16 Try.f16 = some c16 := by kernel_rfl
theorem k17 : compileF Try.prog [] L17 Try.f17 = some c17 := by kernel_rfl
theorem k18 : compileF Try.prog [] L18 Try.f18 = some c18 := by kernel_rfl
theorem k19 : compileF Try.prog [] L19 Try.f19 = some c19 := by kernel_rfl
theorem k20 : compileF Try.prog [] L20 Try.f20 = some c20 := by kernel_rfl
theorem k21 : compileF Try.prog [] L21 Try.f21 = some c21 := by kernel_rfl
theorem k22 : compileF Try.prog [] L22 Try.f22 = some c22 := by kernel_rfl
theorem k23 : compileF Try.prog [] L23 Try.f23 = some c23 := by kernel_rfl
theorem k24 : compileF Try.prog [] L24 Try.f24 = some c24 := by kernel_rfl
theorem k25 : compileF Try.prog [] L25 Try.f25 = some c25 := by kernel_rfl
theorem k26 : compileF Try.prog [] L26 Try.f26 = some c26 := by kernel_rfl
theorem k27 : compileF Try.prog [] L27 Try.f27 = some c27 := by kernel_rfl
theorem k28 : compileF Try.prog [] L28 Try.f28 = some c28 := by kernel_rfl
theorem k29 : compileF Try.prog [] L29 Try.f29 = some c29 := by kernel_rfl
theorem k30 : compileF Try.prog [] L30 Try.f30 = some c30 := by kernel_rfl
theorem k34 : compileF Try.prog [] L34 Try.f34 = some c34 := by kernel_rfl
theorem k36 : compileF Try.prog [] L36 Try.f36 = some c36 := by kernel_rfl
theorem k37 : compileF Try.prog [] L37 Try.f37 = some c37 := by kernel_rfl
end Go.Proofs.Ytbbfjkjgboljkaa
