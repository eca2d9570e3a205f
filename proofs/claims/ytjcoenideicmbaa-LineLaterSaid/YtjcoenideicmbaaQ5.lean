import Derived.Test.YtjcoenideicmbaaProg
import Derived.KernelRfl
import Derived.Test.YtjcoenideicmbaaP3
namespace Go.Proofs.Ytjcoenideicmbaa
open PG Go.Proofs
-- (wagebook/line.Line).place
def L50 : List Nat := [0, 1, 2, 4, 5, 6, 7, 9, 10, 11, 12, 48]
def c50 : CF := ⟨52,
  .seq (.region false [⟨some 2, none, .eff (.box (some 1)) [.tmp 0]⟩,
     ⟨some 4, none, .rd .mov [.pv (.int .i64 0)]⟩] L50)
  (.seq (.region false [⟨some 5, none, .rd .mov [.pv (.int .i64 (-1))]⟩] L50)
  (.seq (.seq (.region false [⟨some 8, none, .rd (.fldAddr 0) [.tmp 2]⟩,
      ⟨some 9, none, .rd (.load none) [.tmp 8]⟩,
      ⟨some 10, none, .rd .lenL [.tmp 9]⟩,
      ⟨some 11, none, .rd .mov [.pv (.int .i64 0)]⟩] L50)
   (.block 0
    (.loop
      (.seq (.region false [⟨some 12, none, .rd (.bin .lss) [.tmp 11, .tmp 10]⟩] L50)
       (.seq (.cond (.tmp 12)
         (.skip)
         (.exit 0))
       (.seq (.block 1
         (.seq (.region false [⟨some 13, none, .rd .mov [.tmp 11]⟩,
             ⟨some 14, none, .rd (.idxAddr (some 9)) [.tmp 9, .tmp 11]⟩,
             ⟨some 15, none, .rd (.load (some 9)) [.tmp 14]⟩,
             ⟨some 7, none, .eff (.alloc (some 9) (.agg [(.int .i64 0), (.int .u32 0), (.int .u32 0), (.int .i64 0), (.int .i64 0), (.int .i64 0), (.str []), (.int .i64 0), (.str [])])) []⟩,
             ⟨some 6, none, .rd .mov [.tmp 13]⟩,
             ⟨none, none, .eff (.store (some 9)) [.tmp 7, .tmp 15]⟩] L50)
          (.seq (.region true [⟨some 16, none, .rd (.fldAddr 1) [.tmp 7]⟩,
             ⟨some 17, none, .rd (.fldAddr 3) [.tmp 16]⟩,
             ⟨some 18, none, .rd (.load none) [.tmp 17]⟩,
             ⟨some 19, none, .rd .mov [.tmp 1]⟩,
             ⟨some 20, none, .rd (.bin .leq) [.tmp 18, .tmp 19]⟩,
             ⟨some 21, none, .rd .mov [.tmp 20]⟩,
             ⟨some 22, some (21, true), .rd (.fldAddr 1) [.tmp 7]⟩,
             ⟨some 23, some (21, true), .rd (.fldAddr 4) [.tmp 22]⟩,
             ⟨some 24, some (21, true), .rd (.load none) [.tmp 23]⟩,
             ⟨some 25, some (21, true), .rd (.bin .eql) [.tmp 24, .pv (.int .i64 0)]⟩,
             ⟨some 26, some (21, true), .rd .mov [.tmp 25]⟩,
             ⟨some 27, some (26, false), .rd (.fldAddr 1) [.tmp 7]⟩,
             ⟨some 28, some (26, false), .rd (.fldAddr 4) [.tmp 27]⟩,
             ⟨some 29, some (26, false), .rd (.load none) [.tmp 28]⟩,
             ⟨some 30, some (26, false), .rd .mov [.tmp 1]⟩,
             ⟨some 31, some (26, false), .rd (.bin .gtr) [.tmp 29, .tmp 30]⟩,
             ⟨some 32, some (21, true), .rd .pick [.tmp 26, .pv (.bool true), .tmp 31]⟩,
             ⟨some 33, none, .rd .pick [.tmp 21, .tmp 32, .pv (.bool false)]⟩,
             ⟨some 34, none, .rd .mov [.tmp 33]⟩,
             ⟨some 35, some (34, true), .rd .mov [.tmp 5]⟩,
             ⟨some 36, some (34, true), .rd (.bin .lss) [.tmp 35, .pv (.int .i64 0)]⟩,
             ⟨some 37, some (34, true), .rd .mov [.tmp 36]⟩,
             ⟨some 38, some (37, false), .rd (.fldAddr 0) [.tmp 7]⟩,
             ⟨some 39, some (37, false), .rd (.load none) [.tmp 38]⟩,
             ⟨some 40, some (37, false), .rd (.fldAddr 0) [.tmp 2]⟩,
             ⟨some 41, some (37, false), .rd (.load none) [.tmp 40]⟩,
             ⟨some 42, some (37, false), .rd .mov [.tmp 5]⟩,
             ⟨some 43, some (37, false), .rd (.idxAddr (some 9)) [.tmp 41, .tmp 42]⟩,
             ⟨some 44, some (37, false), .rd (.fldAddr 0) [.tmp 43]⟩,
             ⟨some 45, some (37, false), .rd (.load none) [.tmp 44]⟩,
             ⟨some 46, some (37, false), .rd (.bin .gtr) [.tmp 39, .tmp 45]⟩,
             ⟨some 47, some (34, true), .rd .pick [.tmp 37, .pv (.bool true), .tmp 46]⟩,
             ⟨some 48, none, .rd .pick [.tmp 34, .tmp 47, .pv (.bool false)]⟩] L50)
          (.cond (.tmp 48)
           (.region false [⟨some 49, none, .rd .mov [.tmp 6]⟩,
              ⟨some 5, none, .rd .mov [.tmp 49]⟩] L50)
           (.skip)))))
       (.region false [⟨some 50, none, .rd (.bin .add) [.tmp 11, .pv (.int .i64 1)]⟩,
         ⟨some 11, none, .rd .mov [.tmp 50]⟩] L50)))))))
  (.seq (.region false [⟨some 51, none, .rd .mov [.tmp 5]⟩,
     ⟨some 4, none, .rd .mov [.tmp 51]⟩] L50)
  (.ret)))),
  [.tmp 4]⟩

-- (wagebook/line.Line).value
def L49 : List Nat := [0, 1, 2, 4, 5, 7]
def c49 : CF := ⟨23,
  .seq (.region false [⟨some 2, none, .eff (.box (some 1)) [.tmp 0]⟩,
     ⟨some 4, none, .eff (.alloc (some 3) (.agg [(.int .i64 0), (.int .i64 0), (.str [])])) []⟩] L49)
  (.seq (.seq (.region false [⟨some 6, none, .rd .mov [.tmp 1]⟩,
      ⟨some 7, none, .rd (.bin .lss) [.tmp 6, .pv (.int .i64 0)]⟩] L49)
   (.cond (.tmp 7)
    (.seq (.region false [⟨some 8, none, .rd (.build [(.int .i64 0), (.int .i64 0), (.str [])] []) []⟩,
        ⟨none, none, .eff (.store (some 3)) [.tmp 4, .tmp 8]⟩] L49)
     (.ret))
    (.skip)))
  (.seq (.region false [⟨some 9, none, .rd (.fldAddr 0) [.tmp 2]⟩,
     ⟨some 10, none, .rd (.load none) [.tmp 9]⟩,
     ⟨some 11, none, .rd .mov [.tmp 1]⟩,
     ⟨some 12, none, .rd (.idxAddr (some 9)) [.tmp 10, .tmp 11]⟩,
     ⟨some 13, none, .rd (.load (some 9)) [.tmp 12]⟩,
     ⟨some 5, none, .eff (.alloc (some 9) (.agg [(.int .i64 0), (.int .u32 0), (.int .u32 0), (.int .i64 0), (.int .i64 0), (.int .i64 0), (.str []), (.int .i64 0), (.str [])])) []⟩,
     ⟨none, none, .eff (.store (some 9)) [.tmp 5, .tmp 13]⟩] L49)
  (.seq (.region false [⟨some 14, none, .rd (.fldAddr 0) [.tmp 5]⟩,
     ⟨some 15, none, .rd (.load none) [.tmp 14]⟩,
     ⟨some 16, none, .rd (.fldAddr 1) [.tmp 5]⟩,
     ⟨some 17, none, .rd (.fldAddr 6) [.tmp 16]⟩,
     ⟨some 18, none, .rd (.load none) [.tmp 17]⟩,
     ⟨some 19, none, .rd (.fldAddr 1) [.tmp 5]⟩,
     ⟨some 20, none, .rd (.fldAddr 7) [.tmp 19]⟩,
     ⟨some 21, none, .rd (.load none) [.tmp 20]⟩,
     ⟨some 22, none, .rd (.build [(.int .i64 0), (.int .i64 0), (.str [])] [(0, 1), (1, 1), (2, 1)]) [.tmp 15, .tmp 18, .tmp 21]⟩,
     ⟨none, none, .eff (.store (some 3)) [.tmp 4, .tmp 22]⟩] L49)
  (.ret)))),
  [.cell 4 (some 3)]⟩

-- (wagebook/line.Line).At
def L27 : List Nat := [0, 1, 2, 4, 5, 6]
def c27 : CF := ⟨15,
  .seq (.region false [⟨some 2, none, .eff (.box (some 1)) [.tmp 0]⟩,
     ⟨some 4, none, .eff (.alloc (some 3) (.agg [(.int .i64 0), (.int .i64 0), (.str [])])) []⟩,
     ⟨some 5, none, .rd .mov [.pv (.bool false)]⟩] L27)
  (.seq (.region false [⟨some 7, none, .rd (.load (some 1)) [.tmp 2]⟩,
     ⟨some 8, none, .rd .mov [.tmp 1]⟩,
     ⟨some 9, none, .call (.pv (.fn 50 [] [])) [.tmp 7, .tmp 8]⟩,
     ⟨some 6, none, .rd .mov [.tmp 9]⟩] L27)
  (.seq (.region false [⟨some 10, none, .rd (.load (some 1)) [.tmp 2]⟩,
     ⟨some 11, none, .rd .mov [.tmp 6]⟩,
     ⟨some 12, none, .call (.pv (.fn 49 [] [])) [.tmp 10, .tmp 11]⟩,
     ⟨some 13, none, .rd .mov [.tmp 6]⟩,
     ⟨some 14, none, .rd (.bin .geq) [.tmp 13, .pv (.int .i64 0)]⟩,
     ⟨none, none, .eff (.store (some 3)) [.tmp 4, .tmp 12]⟩,
     ⟨some 5, none, .rd .mov [.tmp 14]⟩] L27)
  (.ret))),
  [.cell 4 (some 3), .tmp 5]⟩

-- wagebook/line.Of
def L19 : List Nat := [0, 2]
def c19 : CF := ⟨6,
  .seq (.region false [⟨some 2, none, .eff (.alloc (some 1) (.agg [.nilSl])) []⟩] L19)
  (.seq (.region false [⟨some 3, none, .rd .mov [.tmp 0]⟩,
     ⟨some 4, none, .call (.pv (.fn 47 [] [])) [.tmp 3]⟩,
     ⟨some 5, none, .rd (.build [.nilSl] [(0, 1)]) [.tmp 4]⟩,
     ⟨none, none, .eff (.store (some 1)) [.tmp 2, .tmp 5]⟩] L19)
  (.ret)),
  [.cell 2 (some 1)]⟩

-- slices.Clone[[]wagebook/store.Known,wagebook/store.Known]
def L47 : List Nat := [0, 2, 4]
def c47 : CF := ⟨8,
  .seq (.region false [⟨some 2, none, .rd .mov [.pv .nilSl]⟩] L47)
  (.seq (.seq (.region false [⟨some 3, none, .rd .mov [.tmp 0]⟩,
      ⟨some 4, none, .rd (.nilEq false 0) [.tmp 3, .pv .nilSl]⟩] L47)
   (.cond (.tmp 4)
    (.seq (.region false [⟨some 2, none, .rd .mov [.pv .nilSl]⟩] L47)
     (.ret))
    (.skip)))
  (.seq (.region false [⟨some 5, none, .eff (.lit (some 9) true) []⟩,
     ⟨some 6, none, .rd .mov [.tmp 0]⟩,
     ⟨some 7, none, .eff (.append (some 9) 80) [.tmp 5, .tmp 6]⟩,
     ⟨some 2, none, .rd .mov [.tmp 7]⟩] L47)
  (.ret))),
  [.tmp 2]⟩

-- (wagebook/line.Line).cuts
def L61 : List Nat := [0, 1, 2, 3, 4, 5, 7, 9, 11, 12, 13, 14, 23, 24, 25, 26, 38]
def c61 : CF := ⟨49,
  .seq (.region false [⟨some 2, none, .eff (.box (some 1)) [.tmp 0]⟩,
     ⟨some 3, none, .eff (.box (some 2)) [.tmp 1]⟩,
     ⟨some 4, none, .rd .mov [.pv .nilSl]⟩] L61)
  (.seq (.region false [⟨some 5, none, .rd .mov [.pv .nilSl]⟩] L61)
  (.seq (.seq (.region false [⟨some 10, none, .rd (.fldAddr 0) [.tmp 2]⟩,
      ⟨some 11, none, .rd (.load none) [.tmp 10]⟩,
      ⟨some 12, none, .rd .lenL [.tmp 11]⟩,
      ⟨some 13, none, .rd .mov [.pv (.int .i64 0)]⟩] L61)
   (.block 0
    (.loop
      (.seq (.region false [⟨some 14, none, .rd (.bin .lss) [.tmp 13, .tmp 12]⟩] L61)
       (.seq (.cond (.tmp 14)
         (.skip)
         (.exit 0))
       (.seq (.block 1
         (.seq (.region false [⟨some 15, none, .rd (.idxAddr (some 9)) [.tmp 11, .tmp 13]⟩,
             ⟨some 16, none, .rd (.load (some 9)) [.tmp 15]⟩,
             ⟨some 7, none, .eff (.alloc (some 9) (.agg [(.int .i64 0), (.int .u32 0), (.int .u32 0), (.int .i64 0), (.int .i64 0), (.int .i64 0), (.str []), (.int .i64 0), (.str [])])) []⟩,
             ⟨none, none, .eff (.store (some 9)) [.tmp 7, .tmp 16]⟩] L61)
          (.seq (.region false [⟨some 17, none, .rd (.fldAddr 1) [.tmp 7]⟩,
             ⟨some 18, none, .rd (.fldAddr 3) [.tmp 17]⟩,
             ⟨some 19, none, .rd (.load none) [.tmp 18]⟩,
             ⟨some 20, none, .rd (.fldAddr 1) [.tmp 7]⟩,
             ⟨some 21, none, .rd (.fldAddr 4) [.tmp 20]⟩,
             ⟨some 22, none, .rd (.load none) [.tmp 21]⟩,
             ⟨some 23, none, .eff (.lit none false) [.tmp 19, .tmp 22]⟩,
             ⟨some 24, none, .rd .lenL [.tmp 23]⟩,
             ⟨some 25, none, .rd .mov [.pv (.int .i64 0)]⟩] L61)
          (.block 2
           (.loop
             (.seq (.region false [⟨some 26, none, .rd (.bin .lss) [.tmp 25, .tmp 24]⟩] L61)
              (.seq (.cond (.tmp 26)
                (.skip)
                (.exit 2))
              (.seq (.block 3
                (.seq (.region false [⟨some 27, none, .rd (.idxAddr none) [.tmp 23, .tmp 25]⟩,
                    ⟨some 28, none, .rd (.load none) [.tmp 27]⟩,
                    ⟨some 9, none, .rd .mov [.tmp 28]⟩] L61)
                 (.seq (.region false [⟨some 29, none, .rd .mov [.tmp 9]⟩,
                    ⟨some 30, none, .rd (.fldAddr 0) [.tmp 3]⟩,
                    ⟨some 31, none, .rd (.load none) [.tmp 30]⟩,
                    ⟨some 32, none, .rd (.bin .gtr) [.tmp 29, .tmp 31]⟩,
                    ⟨some 33, none, .rd .mov [.tmp 32]⟩,
                    ⟨some 34, some (33, true), .rd .mov [.tmp 9]⟩,
                    ⟨some 35, some (33, true), .rd (.fldAddr 1) [.tmp 3]⟩,
                    ⟨some 36, some (33, true), .rd (.load none) [.tmp 35]⟩,
                    ⟨some 37, some (33, true), .rd (.bin .lss) [.tmp 34, .tmp 36]⟩,
                    ⟨some 38, none, .rd .pick [.tmp 33, .tmp 37, .pv (.bool false)]⟩] L61)
                 (.cond (.tmp 38)
                  (.region false [⟨some 39, none, .rd .mov [.tmp 5]⟩,
                     ⟨some 40, none, .rd .mov [.tmp 9]⟩,
                     ⟨some 41, none, .eff (.lit none false) [.tmp 40]⟩,
                     ⟨some 42, none, .eff (.append none 8) [.tmp 39, .tmp 41]⟩,
                     ⟨some 5, none, .rd .mov [.tmp 42]⟩] L61)
                  (.skip)))))
              (.region false [⟨some 43, none, .rd (.bin .add) [.tmp 25, .pv (.int .i64 1)]⟩,
                ⟨some 25, none, .rd .mov [.tmp 43]⟩] L61)))))))))
       (.region false [⟨some 44, none, .rd (.bin .add) [.tmp 13, .pv (.int .i64 1)]⟩,
         ⟨some 13, none, .rd .mov [.tmp 44]⟩] L61)))))))
  (.seq (.region false [⟨some 45, none, .rd .mov [.tmp 5]⟩,
     ⟨some 46, none, .call (.pv (.fn 66 [] [])) [.tmp 45]⟩] L61)
  (.seq (.region false [⟨some 47, none, .rd .mov [.tmp 5]⟩,
     ⟨some 48, none, .call (.pv (.fn 67 [] [])) [.tmp 47]⟩,
     ⟨some 4, none, .rd .mov [.tmp 48]⟩] L61)
  (.ret))))),
  [.tmp 4]⟩

-- wagebook/wagebooklaw10.known
def L20 : List Nat := [0, 2, 3, 4, 8]
def c20 : CF := ⟨42,
  .seq (.region false [⟨some 2, none, .rd .mov [.pv .nilSl]⟩] L20)
  (.seq (.region false [⟨some 3, none, .rd .mov [.pv .nilSl]⟩] L20)
  (.seq (.seq (.region false [⟨some 4, none, .rd .mov [.pv (.int .i64 0)]⟩] L20)
   (.block 0
    (.loop
      (.seq (.seq (.region false [⟨some 5, none, .rd .mov [.tmp 4]⟩,
           ⟨some 6, none, .rd .mov [.tmp 0]⟩,
           ⟨some 7, none, .rd .lenL [.tmp 6]⟩,
           ⟨some 8, none, .rd (.bin .lss) [.tmp 5, .tmp 7]⟩] L20)
        (.cond (.tmp 8)
         (.skip)
         (.exit 0)))
       (.seq (.block 1
         (.regionA (.alt [⟨some 11, none, .rd .mov [.tmp 3]⟩,
             ⟨some 12, none, .rd .mov [.tmp 0]⟩,
             ⟨some 13, none, .rd .mov [.tmp 4]⟩,
             ⟨some 14, none, .rd (.idxAddr (some 5)) [.tmp 12, .tmp 13]⟩,
             ⟨some 15, none, .rd (.fldAddr 0) [.tmp 14]⟩,
             ⟨some 16, none, .rd .loadC [.tmp 15]⟩,
             ⟨some 17, none, .rd .mov [.tmp 0]⟩,
             ⟨some 18, none, .rd .mov [.tmp 4]⟩,
             ⟨some 19, none, .rd (.idxAddr (some 5)) [.tmp 17, .tmp 18]⟩,
             ⟨some 20, none, .rd (.fldAddr 1) [.tmp 19]⟩,
             ⟨some 21, none, .rd .loadC [.tmp 20]⟩,
             ⟨some 22, none, .rd .mov [.tmp 0]⟩,
             ⟨some 23, none, .rd .mov [.tmp 4]⟩,
             ⟨some 24, none, .rd (.idxAddr (some 5)) [.tmp 22, .tmp 23]⟩,
             ⟨some 25, none, .rd (.fldAddr 2) [.tmp 24]⟩,
             ⟨some 26, none, .rd .loadC [.tmp 25]⟩,
             ⟨some 27, none, .rd .mov [.tmp 0]⟩,
             ⟨some 28, none, .rd .mov [.tmp 4]⟩,
             ⟨some 29, none, .rd (.idxAddr (some 5)) [.tmp 27, .tmp 28]⟩,
             ⟨some 30, none, .rd (.fldAddr 3) [.tmp 29]⟩,
             ⟨some 31, none, .rd .loadC [.tmp 30]⟩,
             ⟨some 32, none, .rd .mov [.tmp 0]⟩,
             ⟨some 33, none, .rd .mov [.tmp 4]⟩,
             ⟨some 34, none, .rd (.idxAddr (some 5)) [.tmp 32, .tmp 33]⟩,
             ⟨some 35, none, .rd (.fldAddr 4) [.tmp 34]⟩,
             ⟨some 36, none, .rd .loadC [.tmp 35]⟩,
             ⟨some 37, none, .rd (.build [(.int .u32 0), (.int .u32 0), (.int .i64 0), (.int .i64 0), (.int .i64 0), (.str []), (.int .i64 0), (.str [])] [(2, 1), (3, 1), (4, 1), (5, 1), (6, 1), (7, 1)]) [.pv (.int .i64 14), .tmp 21, .tmp 26, .pv (.str [120]), .tmp 31, .tmp 36]⟩,
             ⟨some 38, none, .rd (.build [(.int .i64 0), (.int .u32 0), (.int .u32 0), (.int .i64 0), (.int .i64 0), (.int .i64 0), (.str []), (.int .i64 0), (.str [])] [(0, 1), (1, 8)]) [.tmp 16, .tmp 37]⟩,
             ⟨some 39, none, .eff (.lit (some 9) false) [.tmp 38]⟩,
             ⟨some 40, none, .eff (.append (some 9) 80) [.tmp 11, .tmp 39]⟩,
             ⟨some 3, none, .rd .mov [.tmp 40]⟩]
            .done
            .stop) L20))
       (.region false [⟨some 9, none, .rd .mov [.tmp 4]⟩,
         ⟨some 10, none, .rd (.bin .add) [.tmp 9, .pv (.int .i64 1)]⟩,
         ⟨some 4, none, .rd .mov [.tmp 10]⟩] L20))))))
  (.seq (.region false [⟨some 41, none, .rd .mov [.tmp 3]⟩,
     ⟨some 2, none, .rd .mov [.tmp 41]⟩] L20)
  (.ret)))),
  [.tmp 2]⟩

-- wagebook/wagebooklaw10.facts
def L23 : List Nat := [0, 2, 3, 4, 8]
def c23 : CF := ⟨41,
  .seq (.region false [⟨some 2, none, .rd .mov [.pv .nilSl]⟩] L23)
  (.seq (.region false [⟨some 3, none, .rd .mov [.pv .nilSl]⟩] L23)
  (.seq (.seq (.region false [⟨some 4, none, .rd .mov [.pv (.int .i64 0)]⟩] L23)
   (.block 0
    (.loop
      (.seq (.seq (.region false [⟨some 5, none, .rd .mov [.tmp 4]⟩,
           ⟨some 6, none, .rd .mov [.tmp 0]⟩,
           ⟨some 7, none, .rd .lenL [.tmp 6]⟩,
           ⟨some 8, none, .rd (.bin .lss) [.tmp 5, .tmp 7]⟩] L23)
        (.cond (.tmp 8)
         (.skip)
         (.exit 0)))
       (.seq (.block 1
         (.regionA (.alt [⟨some 11, none, .rd .mov [.tmp 3]⟩,
             ⟨some 12, none, .rd .mov [.tmp 0]⟩,
             ⟨some 13, none, .rd .mov [.tmp 4]⟩,
             ⟨some 14, none, .rd (.idxAddr (some 5)) [.tmp 12, .tmp 13]⟩,
             ⟨some 15, none, .rd (.fldAddr 0) [.tmp 14]⟩,
             ⟨some 16, none, .rd .loadC [.tmp 15]⟩,
             ⟨some 17, none, .rd .mov [.tmp 0]⟩,
             ⟨some 18, none, .rd .mov [.tmp 4]⟩,
             ⟨some 19, none, .rd (.idxAddr (some 5)) [.tmp 17, .tmp 18]⟩,
             ⟨some 20, none, .rd (.fldAddr 1) [.tmp 19]⟩,
             ⟨some 21, none, .rd .loadC [.tmp 20]⟩,
             ⟨some 22, none, .rd .mov [.tmp 0]⟩,
             ⟨some 23, none, .rd .mov [.tmp 4]⟩,
             ⟨some 24, none, .rd (.idxAddr (some 5)) [.tmp 22, .tmp 23]⟩,
             ⟨some 25, none, .rd (.fldAddr 2) [.tmp 24]⟩,
             ⟨some 26, none, .rd .loadC [.tmp 25]⟩,
             ⟨some 27, none, .rd .mov [.tmp 0]⟩,
             ⟨some 28, none, .rd .mov [.tmp 4]⟩,
             ⟨some 29, none, .rd (.idxAddr (some 5)) [.tmp 27, .tmp 28]⟩,
             ⟨some 30, none, .rd (.fldAddr 3) [.tmp 29]⟩,
             ⟨some 31, none, .rd .loadC [.tmp 30]⟩,
             ⟨some 32, none, .rd .mov [.tmp 0]⟩,
             ⟨some 33, none, .rd .mov [.tmp 4]⟩,
             ⟨some 34, none, .rd (.idxAddr (some 5)) [.tmp 32, .tmp 33]⟩,
             ⟨some 35, none, .rd (.fldAddr 4) [.tmp 34]⟩,
             ⟨some 36, none, .rd .loadC [.tmp 35]⟩,
             ⟨some 37, none, .rd (.build [(.int .i64 0), (.int .i64 0), (.int .i64 0), (.int .i64 0), (.str [])] [(0, 1), (1, 1), (2, 1), (3, 1), (4, 1)]) [.tmp 16, .tmp 21, .tmp 26, .tmp 31, .tmp 36]⟩,
             ⟨some 38, none, .eff (.lit (some 5) false) [.tmp 37]⟩,
             ⟨some 39, none, .eff (.append (some 5) 48) [.tmp 11, .tmp 38]⟩,
             ⟨some 3, none, .rd .mov [.tmp 39]⟩]
            .done
            .stop) L23))
       (.region false [⟨some 9, none, .rd .mov [.tmp 4]⟩,
         ⟨some 10, none, .rd (.bin .add) [.tmp 9, .pv (.int .i64 1)]⟩,
         ⟨some 4, none, .rd .mov [.tmp 10]⟩] L23))))))
  (.seq (.region false [⟨some 40, none, .rd .mov [.tmp 3]⟩,
     ⟨some 2, none, .rd .mov [.tmp 40]⟩] L23)
  (.ret)))),
  [.tmp 2]⟩

-- wagebook/wagebooklaw10.value
def L24 : List Nat := [0, 1, 2]
def c24 : CF := ⟨10,
  .seq (.region false [⟨some 1, none, .eff (.box (some 5)) [.tmp 0]⟩,
     ⟨some 2, none, .eff (.alloc (some 3) (.agg [(.int .i64 0), (.int .i64 0), (.str [])])) []⟩] L24)
  (.seq (.region false [⟨some 3, none, .rd (.fldAddr 0) [.tmp 1]⟩,
     ⟨some 4, none, .rd (.load none) [.tmp 3]⟩,
     ⟨some 5, none, .rd (.fldAddr 3) [.tmp 1]⟩,
     ⟨some 6, none, .rd (.load none) [.tmp 5]⟩,
     ⟨some 7, none, .rd (.fldAddr 4) [.tmp 1]⟩,
     ⟨some 8, none, .rd (.load none) [.tmp 7]⟩,
     ⟨some 9, none, .rd (.build [(.int .i64 0), (.int .i64 0), (.str [])] [(0, 1), (1, 1), (2, 1)]) [.tmp 4, .tmp 6, .tmp 8]⟩,
     ⟨none, none, .eff (.store (some 3)) [.tmp 2, .tmp 9]⟩] L24)
  (.ret)),
  [.cell 2 (some 3)]⟩

-- wagebook/wagebooklaw10.awake
def L17 : List Nat := [0, 1, 2]
def c17 : CF := ⟨30,
  .seq (.region false [⟨some 0, none, .rd .mov [.pv (.bool false)]⟩] L17)
  (.seq (.region false [⟨some 3, none, .rd (.build [(.int .i64 0), (.int .i64 0), (.int .i64 0), (.int .i64 0), (.str [])] [(0, 1), (3, 1)]) [.pv (.int .i64 1), .pv (.int .i64 100)]⟩,
     ⟨some 4, none, .rd (.build [(.int .i64 0), (.int .i64 0), (.int .i64 0), (.int .i64 0), (.str [])] [(0, 1), (1, 1), (2, 1), (3, 1)]) [.pv (.int .i64 2), .pv (.int .i64 10), .pv (.int .i64 20), .pv (.int .i64 200)]⟩,
     ⟨some 5, none, .eff (.lit (some 5) false) [.tmp 3, .tmp 4]⟩,
     ⟨some 6, none, .call (.pv (.fn 20 [] [])) [.tmp 5]⟩,
     ⟨some 7, none, .call (.pv (.fn 19 [] [])) [.tmp 6]⟩,
     ⟨some 1, none, .eff (.alloc (some 1) (.agg [.nilSl])) []⟩,
     ⟨none, none, .eff (.store (some 1)) [.tmp 1, .tmp 7]⟩] L17)
  (.seq (.region false [⟨some 8, none, .rd (.load (some 1)) [.tmp 1]⟩,
     ⟨some 9, none, .rd (.build [(.int .i64 0), (.int .i64 0)] [(0, 1), (1, 1)]) [.pv (.int .i64 5), .pv (.int .i64 25)]⟩,
     ⟨some 10, none, .call (.pv (.fn 21 [] [])) [.tmp 8, .tmp 9]⟩,
     ⟨some 2, none, .rd .mov [.tmp 10]⟩] L17)
  (.seq (.region false [⟨some 11, none, .rd .mov [.tmp 2]⟩,
     ⟨some 12, none, .rd .lenL [.tmp 11]⟩,
     ⟨some 13, none, .rd (.bin .eql) [.tmp 12, .pv (.int .i64 3)]⟩,
     ⟨some 14, none, .rd .mov [.tmp 13]⟩,
     ⟨some 15, some (14, true), .rd .mov [.tmp 2]⟩,
     ⟨some 16, some (14, true), .rd (.idxAddr (some 5)) [.tmp 15, .pv (.int .i64 1)]⟩,
     ⟨some 17, some (14, true), .rd (.load (some 5)) [.tmp 16]⟩,
     ⟨some 18, some (14, true), .rd (.build [(.int .i64 0), (.int .i64 0)] [(0, 1), (1, 1)]) [.pv (.int .i64 10), .pv (.int .i64 20)]⟩,
     ⟨some 19, some (14, true), .rd (.build [(.int .i64 0), (.int .i64 0), (.str [])] [(0, 1), (1, 1)]) [.pv (.int .i64 2), .pv (.int .i64 200)]⟩,
     ⟨some 20, some (14, true), .rd (.build [(.int .i64 0), (.int .i64 0), (.int .i64 0), (.int .i64 0), (.str [])] [(0, 2), (2, 3)]) [.tmp 18, .tmp 19]⟩,
     ⟨some 21, some (14, true), .rd (.eqA false [0, 0, 0, 0, 2]) [.tmp 17, .tmp 20]⟩,
     ⟨some 22, none, .rd .pick [.tmp 14, .tmp 21, .pv (.bool false)]⟩,
     ⟨some 23, none, .rd .mov [.tmp 22]⟩,
     ⟨some 24, some (23, true), .rd (.load (some 1)) [.tmp 1]⟩,
     ⟨some 25, some (23, true), .rd (.build [(.int .i64 0), (.int .i64 0)] [(0, 1), (1, 1)]) [.pv (.int .i64 5), .pv (.int .i64 25)]⟩,
     ⟨some 26, some (23, true), .call (.pv (.fn 30 [] [])) [.tmp 24, .tmp 25]⟩,
     ⟨some 27, some (23, true), .rd .lenL [.tmp 26]⟩,
     ⟨some 28, some (23, true), .rd (.bin .eql) [.tmp 27, .pv (.int .i64 2)]⟩,
     ⟨some 29, none, .rd .pick [.tmp 23, .tmp 28, .pv (.bool false)]⟩,
     ⟨some 0, none, .rd .mov [.tmp 29]⟩] L17)
  (.ret)))),
  [.tmp 0]⟩

-- wagebook/wagebooklaw10.span
def L18 : List Nat := [0, 1, 4]
def c18 : CF := ⟨16,
  .seq (.region false [⟨some 4, none, .eff (.alloc (some 2) (.agg [(.int .i64 0), (.int .i64 0)])) []⟩] L18)
  (.seq (.region false [⟨some 5, none, .rd .mov [.tmp 0]⟩,
     ⟨some 6, none, .rd (.conv .i64) [.tmp 5]⟩,
     ⟨some 7, none, .rd (.bin .sub) [.tmp 6, .pv (.int .i64 20000)]⟩,
     ⟨some 8, none, .rd .mov [.tmp 0]⟩,
     ⟨some 9, none, .rd (.conv .i64) [.tmp 8]⟩,
     ⟨some 10, none, .rd (.bin .sub) [.tmp 9, .pv (.int .i64 20000)]⟩,
     ⟨some 11, none, .rd .mov [.tmp 1]⟩,
     ⟨some 12, none, .rd (.bin .rem) [.tmp 11, .pv (.int .u16 400)]⟩,
     ⟨some 13, none, .rd (.conv .i64) [.tmp 12]⟩,
     ⟨some 14, none, .rd (.bin .add) [.tmp 10, .tmp 13]⟩,
     ⟨some 15, none, .rd (.build [(.int .i64 0), (.int .i64 0)] [(0, 1), (1, 1)]) [.tmp 7, .tmp 14]⟩,
     ⟨none, none, .eff (.store (some 2)) [.tmp 4, .tmp 15]⟩] L18)
  (.ret)),
  [.cell 4 (some 2)]⟩

-- wagebook/wagebookref10.At
def L28 : List Nat := [0, 1, 4, 5, 6, 10, 35]
def c28 : CF := ⟨38,
  .seq (.region false [⟨some 4, none, .rd .mov [.pv (.int .i64 0)]⟩] L28)
  (.seq (.region false [⟨some 5, none, .rd .mov [.pv (.int .i64 (-1))]⟩] L28)
  (.seq (.seq (.region false [⟨some 6, none, .rd .mov [.pv (.int .i64 0)]⟩] L28)
   (.block 0
    (.loop
      (.seq (.seq (.region false [⟨some 7, none, .rd .mov [.tmp 6]⟩,
           ⟨some 8, none, .rd .mov [.tmp 0]⟩,
           ⟨some 9, none, .rd .lenL [.tmp 8]⟩,
           ⟨some 10, none, .rd (.bin .lss) [.tmp 7, .tmp 9]⟩] L28)
        (.cond (.tmp 10)
         (.skip)
         (.exit 0)))
       (.seq (.block 1
         (.seq (.region true [⟨some 13, none, .rd .mov [.tmp 0]⟩,
             ⟨some 14, none, .rd .mov [.tmp 6]⟩,
             ⟨some 15, none, .rd (.idxAddr (some 5)) [.tmp 13, .tmp 14]⟩,
             ⟨some 16, none, .rd (.load (some 5)) [.tmp 15]⟩,
             ⟨some 17, none, .rd .mov [.tmp 1]⟩,
             ⟨some 18, none, .call (.pv (.fn 51 [] [])) [.tmp 16, .tmp 17]⟩,
             ⟨some 19, none, .rd .mov [.tmp 18]⟩,
             ⟨some 20, some (19, true), .rd .mov [.tmp 5]⟩,
             ⟨some 21, some (19, true), .rd (.bin .lss) [.tmp 20, .pv (.int .i64 0)]⟩,
             ⟨some 22, some (19, true), .rd .mov [.tmp 21]⟩,
             ⟨some 23, some (22, false), .rd .mov [.tmp 0]⟩,
             ⟨some 24, some (22, false), .rd .mov [.tmp 6]⟩,
             ⟨some 25, some (22, false), .rd (.idxAddr (some 5)) [.tmp 23, .tmp 24]⟩,
             ⟨some 26, some (22, false), .rd (.fldAddr 0) [.tmp 25]⟩,
             ⟨some 27, some (22, false), .rd (.load none) [.tmp 26]⟩,
             ⟨some 28, some (22, false), .rd .mov [.tmp 0]⟩,
             ⟨some 29, some (22, false), .rd .mov [.tmp 5]⟩,
             ⟨some 30, some (22, false), .rd (.idxAddr (some 5)) [.tmp 28, .tmp 29]⟩,
             ⟨some 31, some (22, false), .rd (.fldAddr 0) [.tmp 30]⟩,
             ⟨some 32, some (22, false), .rd (.load none) [.tmp 31]⟩,
             ⟨some 33, some (22, false), .rd (.bin .gtr) [.tmp 27, .tmp 32]⟩,
             ⟨some 34, some (19, true), .rd .pick [.tmp 22, .pv (.bool true), .tmp 33]⟩,
             ⟨some 35, none, .rd .pick [.tmp 19, .tmp 34, .pv (.bool false)]⟩] L28)
          (.cond (.tmp 35)
           (.region false [⟨some 36, none, .rd .mov [.tmp 6]⟩,
              ⟨some 5, none, .rd .mov [.tmp 36]⟩] L28)
           (.skip))))
       (.region false [⟨some 11, none, .rd .mov [.tmp 6]⟩,
         ⟨some 12, none, .rd (.bin .add) [.tmp 11, .pv (.int .i64 1)]⟩,
         ⟨some 6, none, .rd .mov [.tmp 12]⟩] L28))))))
  (.seq (.region false [⟨some 37, none, .rd .mov [.tmp 5]⟩,
     ⟨some 4, none, .rd .mov [.tmp 37]⟩] L28)
  (.ret)))),
  [.tmp 4]⟩

-- wagebook/wagebookref10.Covers
def L51 : List Nat := [0, 1, 2, 4]
def c51 : CF := ⟨20,
  .seq (.region false [⟨some 2, none, .eff (.box (some 5)) [.tmp 0]⟩,
     ⟨some 4, none, .rd .mov [.pv (.bool false)]⟩] L51)
  (.seq (.region false [⟨some 5, none, .rd (.fldAddr 1) [.tmp 2]⟩,
     ⟨some 6, none, .rd (.load none) [.tmp 5]⟩,
     ⟨some 7, none, .rd .mov [.tmp 1]⟩,
     ⟨some 8, none, .rd (.bin .leq) [.tmp 6, .tmp 7]⟩,
     ⟨some 9, none, .rd .mov [.tmp 8]⟩,
     ⟨some 10, some (9, true), .rd (.fldAddr 2) [.tmp 2]⟩,
     ⟨some 11, some (9, true), .rd (.load none) [.tmp 10]⟩,
     ⟨some 12, some (9, true), .rd (.bin .eql) [.tmp 11, .pv (.int .i64 0)]⟩,
     ⟨some 13, some (9, true), .rd .mov [.tmp 12]⟩,
     ⟨some 14, some (13, false), .rd .mov [.tmp 1]⟩,
     ⟨some 15, some (13, false), .rd (.fldAddr 2) [.tmp 2]⟩,
     ⟨some 16, some (13, false), .rd (.load none) [.tmp 15]⟩,
     ⟨some 17, some (13, false), .rd (.bin .lss) [.tmp 14, .tmp 16]⟩,
     ⟨some 18, some (9, true), .rd .pick [.tmp 13, .pv (.bool true), .tmp 17]⟩,
     ⟨some 19, none, .rd .pick [.tmp 9, .tmp 18, .pv (.bool false)]⟩,
     ⟨some 4, none, .rd .mov [.tmp 19]⟩] L51)
  (.ret)),
  [.tmp 4]⟩

-- wagebook/wagebookref10.Over
def L22 : List Nat := [0, 1, 3, 4, 5, 6, 7, 8, 14, 26, 37]
def c22 : CF := ⟨49,
  .seq (.region false [⟨some 3, none, .eff (.box (some 2)) [.tmp 1]⟩,
     ⟨some 4, none, .rd .mov [.pv .nilSl]⟩] L22)
  (.seq (.region false [⟨some 5, none, .rd .mov [.pv .nilSl]⟩] L22)
  (.seq (.region false [⟨some 6, none, .rd .mov [.pv (.int .i64 (-1))]⟩] L22)
  (.seq (.seq (.region false [⟨some 9, none, .rd (.fldAddr 0) [.tmp 3]⟩,
      ⟨some 10, none, .rd (.load none) [.tmp 9]⟩,
      ⟨some 7, none, .rd .mov [.tmp 10]⟩] L22)
   (.block 0
    (.loop
      (.seq (.seq (.region false [⟨some 11, none, .rd .mov [.tmp 7]⟩,
           ⟨some 12, none, .rd (.fldAddr 1) [.tmp 3]⟩,
           ⟨some 13, none, .rd (.load none) [.tmp 12]⟩,
           ⟨some 14, none, .rd (.bin .lss) [.tmp 11, .tmp 13]⟩] L22)
        (.cond (.tmp 14)
         (.skip)
         (.exit 0)))
       (.seq (.block 1
         (.seq (.region false [⟨some 17, none, .rd .mov [.tmp 0]⟩,
             ⟨some 18, none, .rd .mov [.tmp 7]⟩,
             ⟨some 19, none, .call (.pv (.fn 28 [] [])) [.tmp 17, .tmp 18]⟩,
             ⟨some 8, none, .rd .mov [.tmp 19]⟩] L22)
          (.seq (.seq (.region false [⟨some 20, none, .rd .mov [.tmp 8]⟩,
              ⟨some 21, none, .rd (.bin .geq) [.tmp 20, .pv (.int .i64 0)]⟩,
              ⟨some 22, none, .rd .mov [.tmp 21]⟩,
              ⟨some 23, some (22, true), .rd .mov [.tmp 8]⟩,
              ⟨some 24, some (22, true), .rd .mov [.tmp 6]⟩,
              ⟨some 25, some (22, true), .rd (.bin .eql) [.tmp 23, .tmp 24]⟩,
              ⟨some 26, none, .rd .pick [.tmp 22, .tmp 25, .pv (.bool false)]⟩] L22)
           (.cond (.tmp 26)
            (.region false [⟨some 27, none, .rd .mov [.tmp 5]⟩,
               ⟨some 28, none, .rd .mov [.tmp 5]⟩,
               ⟨some 29, none, .rd .lenL [.tmp 28]⟩,
               ⟨some 30, none, .rd (.bin .sub) [.tmp 29, .pv (.int .i64 1)]⟩,
               ⟨some 31, none, .rd .mov [.tmp 7]⟩,
               ⟨some 32, none, .rd (.bin .add) [.tmp 31, .pv (.int .i64 1)]⟩,
               ⟨some 33, none, .rd (.idxAddr (some 3)) [.tmp 27, .tmp 30]⟩,
               ⟨some 34, none, .rd (.fldAddr 0) [.tmp 33]⟩,
               ⟨some 35, none, .rd (.fldAddr 1) [.tmp 34]⟩,
               ⟨none, none, .eff (.store none) [.tmp 35, .tmp 32]⟩] L22)
            (.seq (.region false [⟨some 36, none, .rd .mov [.tmp 8]⟩,
                ⟨some 37, none, .rd (.bin .geq) [.tmp 36, .pv (.int .i64 0)]⟩] L22)
             (.cond (.tmp 37)
              (.region false [⟨some 38, none, .rd .mov [.tmp 5]⟩,
                 ⟨some 39, none, .rd .mov [.tmp 7]⟩,
                 ⟨some 40, none, .rd .mov [.tmp 7]⟩,
                 ⟨some 41, none, .rd (.bin .add) [.tmp 40, .pv (.int .i64 1)]⟩,
                 ⟨some 42, none, .rd (.build [(.int .i64 0), (.int .i64 0)] [(0, 1), (1, 1)]) [.tmp 39, .tmp 41]⟩,
                 ⟨some 43, none, .rd .mov [.tmp 8]⟩,
                 ⟨some 44, none, .rd (.build [(.int .i64 0), (.int .i64 0), (.int .i64 0)] [(0, 2), (2, 1)]) [.tmp 42, .tmp 43]⟩,
                 ⟨some 45, none, .eff (.lit (some 3) false) [.tmp 44]⟩,
                 ⟨some 46, none, .eff (.append (some 3) 24) [.tmp 38, .tmp 45]⟩,
                 ⟨some 5, none, .rd .mov [.tmp 46]⟩] L22)
              (.skip)))))
          (.region false [⟨some 47, none, .rd .mov [.tmp 8]⟩,
            ⟨some 6, none, .rd .mov [.tmp 47]⟩] L22))))
       (.region false [⟨some 15, none, .rd .mov [.tmp 7]⟩,
         ⟨some 16, none, .rd (.bin .add) [.tmp 15, .pv (.int .i64 1)]⟩,
         ⟨some 7, none, .rd .mov [.tmp 16]⟩] L22))))))
  (.seq (.region false [⟨some 48, none, .rd .mov [.tmp 5]⟩,
     ⟨some 4, none, .rd .mov [.tmp 48]⟩] L22)
  (.ret))))),
  [.tmp 4]⟩

-- wagebook/wagebookref10.Changes
def L29 : List Nat := [0, 1, 2, 3, 4, 5, 6, 7, 23, 29]
def c29 : CF := ⟨44,
  .seq (.region false [⟨some 2, none, .eff (.box (some 1)) [.tmp 0]⟩,
     ⟨some 3, none, .eff (.box (some 2)) [.tmp 1]⟩,
     ⟨some 4, none, .rd .mov [.pv .nilSl]⟩] L29)
  (.seq (.seq (.region false [⟨some 9, none, .rd (.fldAddr 1) [.tmp 3]⟩,
      ⟨some 10, none, .rd (.load none) [.tmp 9]⟩,
      ⟨some 11, none, .rd (.fldAddr 0) [.tmp 3]⟩,
      ⟨some 12, none, .rd (.load none) [.tmp 11]⟩,
      ⟨some 13, none, .rd (.bin .leq) [.tmp 10, .tmp 12]⟩,
      ⟨some 14, none, .rd .mov [.tmp 13]⟩,
      ⟨some 15, some (14, false), .rd (.fldAddr 1) [.tmp 3]⟩,
      ⟨some 16, some (14, false), .rd (.load none) [.tmp 15]⟩,
      ⟨some 17, some (14, false), .rd (.conv .u64) [.tmp 16]⟩,
      ⟨some 18, some (14, false), .rd (.fldAddr 0) [.tmp 3]⟩,
      ⟨some 19, some (14, false), .rd (.load none) [.tmp 18]⟩,
      ⟨some 20, some (14, false), .rd (.conv .u64) [.tmp 19]⟩,
      ⟨some 21, some (14, false), .rd (.bin .sub) [.tmp 17, .tmp 20]⟩,
      ⟨some 22, some (14, false), .rd (.bin .gtr) [.tmp 21, .pv (.int .u64 4096)]⟩,
      ⟨some 23, none, .rd .pick [.tmp 14, .pv (.bool true), .tmp 22]⟩] L29)
   (.cond (.tmp 23)
    (.seq (.region false [⟨some 4, none, .rd .mov [.pv .nilSl]⟩] L29)
     (.ret))
    (.skip)))
  (.seq (.region false [⟨some 5, none, .rd .mov [.pv .nilSl]⟩] L29)
  (.seq (.seq (.region false [⟨some 24, none, .rd (.fldAddr 0) [.tmp 3]⟩,
      ⟨some 25, none, .rd (.load none) [.tmp 24]⟩,
      ⟨some 6, none, .rd .mov [.tmp 25]⟩] L29)
   (.block 0
    (.loop
      (.seq (.seq (.region false [⟨some 26, none, .rd .mov [.tmp 6]⟩,
           ⟨some 27, none, .rd (.fldAddr 1) [.tmp 3]⟩,
           ⟨some 28, none, .rd (.load none) [.tmp 27]⟩,
           ⟨some 29, none, .rd (.bin .lss) [.tmp 26, .tmp 28]⟩] L29)
        (.cond (.tmp 29)
         (.skip)
         (.exit 0)))
       (.seq (.block 1
         (.seq (.region false [⟨some 33, none, .rd (.load (some 1)) [.tmp 2]⟩,
             ⟨some 34, none, .rd .mov [.tmp 6]⟩,
             ⟨some 35, none, .call (.pv (.fn 27 [] [])) [.tmp 33, .tmp 34]⟩,
             ⟨some 32, none, .rd .mov [.tmp 35]⟩,
             ⟨some 36, none, .rd (.ext 0) [.tmp 32]⟩,
             ⟨some 37, none, .rd (.ext 1) [.tmp 32]⟩,
             ⟨some 7, none, .eff (.alloc (some 3) (.agg [(.int .i64 0), (.int .i64 0), (.str [])])) []⟩,
             ⟨none, none, .eff (.store (some 3)) [.tmp 7, .tmp 36]⟩,
             ⟨some 8, none, .rd .mov [.tmp 37]⟩] L29)
          (.region false [⟨some 38, none, .rd .mov [.tmp 5]⟩,
            ⟨some 39, none, .rd (.fldAddr 1) [.tmp 7]⟩,
            ⟨some 40, none, .rd (.load none) [.tmp 39]⟩,
            ⟨some 41, none, .eff (.lit none false) [.tmp 40]⟩,
            ⟨some 42, none, .eff (.append none 8) [.tmp 38, .tmp 41]⟩,
            ⟨some 5, none, .rd .mov [.tmp 42]⟩] L29)))
       (.region false [⟨some 30, none, .rd .mov [.tmp 6]⟩,
         ⟨some 31, none, .rd (.bin .add) [.tmp 30, .pv (.int .i64 1)]⟩,
         ⟨some 6, none, .rd .mov [.tmp 31]⟩] L29))))))
  (.seq (.region false [⟨some 43, none, .rd .mov [.tmp 5]⟩,
     ⟨some 4, none, .rd .mov [.tmp 43]⟩] L29)
  (.ret))))),
  [.tmp 4]⟩

-- wagebook/wagebooklaw10.one
def L25 : List Nat := [0, 1, 4, 5, 6, 10, 19]
def c25 : CF := ⟨24,
  .seq (.region false [⟨some 4, none, .rd .mov [.pv (.bool false)]⟩] L25)
  (.seq (.region false [⟨some 5, none, .rd .mov [.pv (.int .i64 0)]⟩] L25)
  (.seq (.seq (.region false [⟨some 6, none, .rd .mov [.pv (.int .i64 0)]⟩] L25)
   (.block 0
    (.loop
      (.seq (.seq (.region false [⟨some 7, none, .rd .mov [.tmp 6]⟩,
           ⟨some 8, none, .rd .mov [.tmp 0]⟩,
           ⟨some 9, none, .rd .lenL [.tmp 8]⟩,
           ⟨some 10, none, .rd (.bin .lss) [.tmp 7, .tmp 9]⟩] L25)
        (.cond (.tmp 10)
         (.skip)
         (.exit 0)))
       (.seq (.block 1
         (.seq (.region false [⟨some 13, none, .rd .mov [.tmp 0]⟩,
             ⟨some 14, none, .rd .mov [.tmp 6]⟩,
             ⟨some 15, none, .rd (.idxAddr (some 5)) [.tmp 13, .tmp 14]⟩,
             ⟨some 16, none, .rd (.fldAddr 0) [.tmp 15]⟩,
             ⟨some 17, none, .rd (.load none) [.tmp 16]⟩,
             ⟨some 18, none, .rd .mov [.tmp 1]⟩,
             ⟨some 19, none, .rd (.bin .eql) [.tmp 17, .tmp 18]⟩] L25)
          (.cond (.tmp 19)
           (.region false [⟨some 20, none, .rd .mov [.tmp 5]⟩,
              ⟨some 21, none, .rd (.bin .add) [.tmp 20, .pv (.int .i64 1)]⟩,
              ⟨some 5, none, .rd .mov [.tmp 21]⟩] L25)
           (.skip))))
       (.region false [⟨some 11, none, .rd .mov [.tmp 6]⟩,
         ⟨some 12, none, .rd (.bin .add) [.tmp 11, .pv (.int .i64 1)]⟩,
         ⟨some 6, none, .rd .mov [.tmp 12]⟩] L25))))))
  (.seq (.region false [⟨some 22, none, .rd .mov [.tmp 5]⟩,
     ⟨some 23, none, .rd (.bin .eql) [.tmp 22, .pv (.int .i64 1)]⟩,
     ⟨some 4, none, .rd .mov [.tmp 23]⟩] L25)
  (.ret)))),
  [.tmp 4]⟩

-- wagebook/wagebooklaw10.unlike
theorem k50 : compileF Try.prog [] L50 Try.f50 = some c50 := by kernel_rfl
theorem k49 : compileF Try.prog [] L49 Try.f49 = some c49 := by kernel_rfl
theorem k27 : compileF Try.prog [] L27 Try.f27 = some c27 := by kernel_rfl
theorem k19 : compileF Try.prog [] L19 Try.f19 = some c19 := by kernel_rfl
theorem k47 : compileF Try.prog [] L47 Try.f47 = some c47 := by kernel_rfl
theorem k61 : compileF Try.prog [] L61 Try.f61 = some c61 := by kernel_rfl
theorem k20 : compileF Try.prog [888888] L20 Try.f20 = some c20 := by kernel_rfl
theorem k23 : compileF Try.prog [888888] L23 Try.f23 = some c23 := by kernel_rfl
theorem k24 : compileF Try.prog [] L24 Try.f24 = some c24 := by kernel_rfl
theorem k17 : compileF Try.prog [] L17 Try.f17 = some c17 := by kernel_rfl
theorem k18 : compileF Try.prog [] L18 Try.f18 = some c18 := by kernel_rfl
theorem k28 : compileF Try.prog [] L28 Try.f28 = some c28 := by kernel_rfl
theorem k51 : compileF Try.prog [] L51 Try.f51 = some c51 := by kernel_rfl
theorem k22 : compileF Try.prog [] L22 Try.f22 = some c22 := by kernel_rfl
theorem k29 : compileF Try.prog [] L29 Try.f29 = some c29 := by kernel_rfl
theorem k25 : compileF Try.prog [] L25 Try.f25 = some c25 := by kernel_rfl
end Go.Proofs.Ytjcoenideicmbaa

