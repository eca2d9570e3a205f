import Derived.Test.YtjcoenideicmbaaProg
import Derived.KernelRfl
import Derived.Handy
import Derived.Test.YtjcoenideicmbaaP3
import Derived.Test.YtjcoenideicmbaaP4
namespace Go.Proofs.Ytjcoenideicmbaa
open PG Go.Proofs
-- (wagebook/line.Line).place
def L50 : List Nat := [0, 1, 2, 4, 5, 6, 7, 9, 10, 11, 12, 48]
def c50 : CF := ⟨52,
  .seq (.region false [⟨some 2, none, .eff (.box (some 1)) [.tmp 0]⟩,
     ⟨some 4, none, .rd .mov [.pv (.int .i64 0)]⟩] L50)
  (.seq (.region false [⟨some 5, none, .rd .mov [.pv (.int .i64 (-1))]⟩] L50)
  (.seq (.seq (.region false [⟨some 8, none, .rd (.fldAddr 0) [.tmp 2]⟩,
      ⟨some 9, none, .rd (.load none) [.tmp 8]⟩,
      ⟨some 10, none, .rd .lenL [.tmp 9]⟩,
      ⟨some 11, none, .rd .mov [.pv (.int .i64 0)]⟩] L50)
   (.block 0
    (.loop
      (.seq (.region false [⟨some 12, none, .rd (.bin .lss) [.tmp 11, .tmp 10]⟩] L50)
       (.seq (.cond (.tmp 12)
         (.skip)
         (.exit 0))
       (.seq (.block 1
         (.seq (.region false [⟨some 13, none, .rd .mov [.tmp 11]⟩,
             ⟨some 14, none, .rd (.idxAddr (some 9)) [.tmp 9, .tmp 11]⟩,
             ⟨some 15, none, .rd (.load (some 9)) [.tmp 14]⟩,
             ⟨some 7, none, .eff (.alloc (some 9) (.agg [(.int .i64 0), (.int .u32 0), (.int .u32 0), (.int .i64 0), (.int .i64 0), (.int .i64 0), (.str []), (.int .i64 0), (.str [])])) []⟩,
             ⟨some 6, none, .rd .mov [.tmp 13]⟩,
             ⟨none, none, .eff (.store (some 9)) [.tmp 7, .tmp 15]⟩] L50)
          (.seq (.region true [⟨some 16, none, .rd (.fldAddr 1) [.tmp 7]⟩,
             ⟨some 17, none, .rd (.fldAddr 3) [.tmp 16]⟩,
             ⟨some 18, none, .rd (.load none) [.tmp 17]⟩,
             ⟨some 19, none, .rd .mov [.tmp 1]⟩,
             ⟨some 20, none, .rd (.bin .leq) [.tmp 18, .tmp 19]⟩,
             ⟨some 21, none, .rd .mov [.tmp 20]⟩,
             ⟨some 22, some (21, true), .rd (.fldAddr 1) [.tmp 7]⟩,
             ⟨some 23, some (21, true), .rd (.fldAddr 4) [.tmp 22]⟩,
             ⟨some 24, some (21, true), .rd (.load none) [.tmp 23]⟩,
             ⟨some 25, some (21, true), .rd (.bin .eql) [.tmp 24, .pv (.int .i64 0)]⟩,
             ⟨some 26, some (21, true), .rd .mov [.tmp 25]⟩,
             ⟨some 27, some (26, false), .rd (.fldAddr 1) [.tmp 7]⟩,
             ⟨some 28, some (26, false), .rd (.fldAddr 4) [.tmp 27]⟩,
             ⟨some 29, some (26, false), .rd (.load none) [.tmp 28]⟩,
             ⟨some 30, some (26, false), .rd .mov [.tmp 1]⟩,
             ⟨some 31, some (26, false), .rd (.bin .gtr) [.tmp 29, .tmp 30]⟩,
             ⟨some 32, some (21, true), .rd .pick [.tmp 26, .pv (.bool true), .tmp 31]⟩,
             ⟨some 33, none, .rd .pick [.tmp 21, .tmp 32, .pv (.bool false)]⟩,
             ⟨some 34, none, .rd .mov [.tmp 33]⟩,
             ⟨some 35, some (34, true), .rd .mov [.tmp 5]⟩,
             ⟨some 36, some (34, true), .rd (.bin .lss) [.tmp 35, .pv (.int .i64 0)]⟩,
             ⟨some 37, some (34, true), .rd .mov [.tmp 36]⟩,
             ⟨some 38, some (37, false), .rd (.fldAddr 0) [.tmp 7]⟩,
             ⟨some 39, some (37, false), .rd (.load none) [.tmp 38]⟩,
             ⟨some 40, some (37, false), .rd (.fldAddr 0) [.tmp 2]⟩,
             ⟨some 41, some (37, false), .rd (.load none) [.tmp 40]⟩,
             ⟨some 42, some (37, false), .rd .mov [.tmp 5]⟩,
             ⟨some 43, some (37, false), .rd (.idxAddr (some 9)) [.tmp 41, .tmp 42]⟩,
             ⟨some 44, some (37, false), .rd (.fldAddr 0) [.tmp 43]⟩,
             ⟨some 45, some (37, false), .rd (.load none) [.tmp 44]⟩,
             ⟨some 46, some (37, false), .rd (.bin .gtr) [.tmp 39, .tmp 45]⟩,
             ⟨some 47, some (34, true), .rd .pick [.tmp 37, .pv (.bool true), .tmp 46]⟩,
             ⟨some 48, none, .rd .pick [.tmp 34, .tmp 47, .pv (.bool false)]⟩] L50)
          (.cond (.tmp 48)
           (.region false [⟨some 49, none, .rd .mov [.tmp 6]⟩,
              ⟨some 5, none, .rd .mov [.tmp 49]⟩] L50)
           (.skip)))))
       (.region false [⟨some 50, none, .rd (.bin .add) [.tmp 11, .pv (.int .i64 1)]⟩,
         ⟨some 11, none, .rd .mov [.tmp 50]⟩] L50)))))))
  (.seq (.region false [⟨some 51, none, .rd .mov [.tmp 5]⟩,
     ⟨some 4, none, .rd .mov [.tmp 51]⟩] L50)
  (.ret)))),
  [.tmp 4]⟩

-- (wagebook/line.Line).value
def L49 : List Nat := [0, 1, 2, 4, 5, 7]
def c49 : CF := ⟨23,
  .seq (.region false [⟨some 2, none, .eff (.box (some 1)) [.tmp 0]⟩,
     ⟨some 4, none, .eff (.alloc (some 3) (.agg [(.int .i64 0), (.int .i64 0), (.str [])])) []⟩] L49)
  (.seq (.seq (.region false [⟨some 6, none, .rd .mov [.tmp 1]⟩,
      ⟨some 7, none, .rd (.bin .lss) [.tmp 6, .pv (.int .i64 0)]⟩] L49)
   (.cond (.tmp 7)
    (.seq (.region false [⟨some 8, none, .rd (.build [(.int .i64 0), (.int .i64 0), (.str [])] []) []⟩,
        ⟨none, none, .eff (.store (some 3)) [.tmp 4, .tmp 8]⟩] L49)
     (.ret))
    (.skip)))
  (.seq (.region false [⟨some 9, none, .rd (.fldAddr 0) [.tmp 2]⟩,
     ⟨some 10, none, .rd (.load none) [.tmp 9]⟩,
     ⟨some 11, none, .rd .mov [.tmp 1]⟩,
     ⟨some 12, none, .rd (.idxAddr (some 9)) [.tmp 10, .tmp 11]⟩,
     ⟨some 13, none, .rd (.load (some 9)) [.tmp 12]⟩,
     ⟨some 5, none, .eff (.alloc (some 9) (.agg [(.int .i64 0), (.int .u32 0), (.int .u32 0), (.int .i64 0), (.int .i64 0), (.int .i64 0), (.str []), (.int .i64 0), (.str [])])) []⟩,
     ⟨none, none, .eff (.store (some 9)) [.tmp 5, .tmp 13]⟩] L49)
  (.seq (.region false [⟨some 14, none, .rd (.fldAddr 0) [.tmp 5]⟩,
     ⟨some 15, none, .rd (.load none) [.tmp 14]⟩,
     ⟨some 16, none, .rd (.fldAddr 1) [.tmp 5]⟩,
     ⟨some 17, none, .rd (.fldAddr 6) [.tmp 16]⟩,
     ⟨some 18, none, .rd (.load none) [.tmp 17]⟩,
     ⟨some 19, none, .rd (.fldAddr 1) [.tmp 5]⟩,
     ⟨some 20, none, .rd (.fldAddr 7) [.tmp 19]⟩,
     ⟨some 21, none, .rd (.load none) [.tmp 20]⟩,
     ⟨some 22, none, .rd (.build [(.int .i64 0), (.int .i64 0), (.str [])] [(0, 1), (1, 1), (2, 1)]) [.tmp 15, .tmp 18, .tmp 21]⟩,
     ⟨none, none, .eff (.store (some 3)) [.tmp 4, .tmp 22]⟩] L49)
  (.ret)))),
  [.cell 4 (some 3)]⟩

-- (wagebook/line.Line).At
def L27 : List Nat := [0, 1, 2, 4, 5, 6]
def c27 : CF := ⟨15,
  .seq (.region false [⟨some 2, none, .eff (.box (some 1)) [.tmp 0]⟩,
     ⟨some 4, none, .eff (.alloc (some 3) (.agg [(.int .i64 0), (.int .i64 0), (.str [])])) []⟩,
     ⟨some 5, none, .rd .mov [.pv (.bool false)]⟩] L27)
  (.seq (.region false [⟨some 7, none, .rd (.load (some 1)) [.tmp 2]⟩,
     ⟨some 8, none, .rd .mov [.tmp 1]⟩,
     ⟨some 9, none, .call (.pv (.fn 50 [] [])) [.tmp 7, .tmp 8]⟩,
     ⟨some 6, none, .rd .mov [.tmp 9]⟩] L27)
  (.seq (.region false [⟨some 10, none, .rd (.load (some 1)) [.tmp 2]⟩,
     ⟨some 11, none, .rd .mov [.tmp 6]⟩,
     ⟨some 12, none, .call (.pv (.fn 49 [] [])) [.tmp 10, .tmp 11]⟩,
     ⟨some 13, none, .rd .mov [.tmp 6]⟩,
     ⟨some 14, none, .rd (.bin .geq) [.tmp 13, .pv (.int .i64 0)]⟩,
     ⟨none, none, .eff (.store (some 3)) [.tmp 4, .tmp 12]⟩,
     ⟨some 5, none, .rd .mov [.tmp 14]⟩] L27)
  (.ret))),
  [.cell 4 (some 3), .tmp 5]⟩

-- wagebook/line.Of
def L19 : List Nat := [0, 2]
def c19 : CF := ⟨6,
  .seq (.region false [⟨some 2, none, .eff (.alloc (some 1) (.agg [.nilSl])) []⟩] L19)
  (.seq (.region false [⟨some 3, none, .rd .mov [.tmp 0]⟩,
     ⟨some 4, none, .call (.pv (.fn 47 [] [])) [.tmp 3]⟩,
     ⟨some 5, none, .rd (.build [.nilSl] [(0, 1)]) [.tmp 4]⟩,
     ⟨none, none, .eff (.store (some 1)) [.tmp 2, .tmp 5]⟩] L19)
  (.ret)),
  [.cell 2 (some 1)]⟩

-- slices.Clone[[]wagebook/store.Known,wagebook/store.Known]
def L47 : List Nat := [0, 2, 4]
def c47 : CF := ⟨8,
  .seq (.region false [⟨some 2, none, .rd .mov [.pv .nilSl]⟩] L47)
  (.seq (.seq (.region false [⟨some 3, none, .rd .mov [.tmp 0]⟩,
      ⟨some 4, none, .rd (.nilEq false 0) [.tmp 3, .pv .nilSl]⟩] L47)
   (.cond (.tmp 4)
    (.seq (.region false [⟨some 2, none, .rd .mov [.pv .nilSl]⟩] L47)
     (.ret))
    (.skip)))
  (.seq (.region false [⟨some 5, none, .eff (.lit (some 9) true) []⟩,
     ⟨some 6, none, .rd .mov [.tmp 0]⟩,
     ⟨some 7, none, .eff (.append (some 9) 80) [.tmp 5, .tmp 6]⟩,
     ⟨some 2, none, .rd .mov [.tmp 7]⟩] L47)
  (.ret))),
  [.tmp 2]⟩

-- (wagebook/line.Line).cuts
def L61 : List Nat := [0, 1, 2, 3, 4, 5, 7, 9, 11, 12, 13, 14, 23, 24, 25, 26, 38]
def c61 : CF := ⟨49,
  .seq (.region false [⟨some 2, none, .eff (.box (some 1)) [.tmp 0]⟩,
     ⟨some 3, none, .eff (.box (some 2)) [.tmp 1]⟩,
     ⟨some 4, none, .rd .mov [.pv .nilSl]⟩] L61)
  (.seq (.region false [⟨some 5, none, .rd .mov [.pv .nilSl]⟩] L61)
  (.seq (.seq (.region false [⟨some 10, none, .rd (.fldAddr 0) [.tmp 2]⟩,
      ⟨some 11, none, .rd (.load none) [.tmp 10]⟩,
      ⟨some 12, none, .rd .lenL [.tmp 11]⟩,
      ⟨some 13, none, .rd .mov [.pv (.int .i64 0)]⟩] L61)
   (.block 0
    (.loop
      (.seq (.region false [⟨some 14, none, .rd (.bin .lss) [.tmp 13, .tmp 12]⟩] L61)
       (.seq (.cond (.tmp 14)
         (.skip)
         (.exit 0))
       (.seq (.block 1
         (.seq (.region false [⟨some 15, none, .rd (.idxAddr (some 9)) [.tmp 11, .tmp 13]⟩,
             ⟨some 16, none, .rd (.load (some 9)) [.tmp 15]⟩,
             ⟨some 7, none, .eff (.alloc (some 9) (.agg [(.int .i64 0), (.int .u32 0), (.int .u32 0), (.int .i64 0), (.int .i64 0), (.int .i64 0), (.str []), (.int .i64 0), (.str [])])) []⟩,
             ⟨none, none, .eff (.store (some 9)) [.tmp 7, .tmp 16]⟩] L61)
          (.seq (.region false [⟨some 17, none, .rd (.fldAddr 1) [.tmp 7]⟩,
             ⟨some 18, none, .rd (.fldAddr 3) [.tmp 17]⟩,
             ⟨some 19, none, .rd (.load none) [.tmp 18]⟩,
             ⟨some 20, none, .rd (.fldAddr 1) [.tmp 7]⟩,
             ⟨some 21, none, .rd (.fldAddr 4) [.tmp 20]⟩,
             ⟨some 22, none, .rd (.load none) [.tmp 21]⟩,
             ⟨some 23, none, .eff (.lit none false) [.tmp 19, .tmp 22]⟩,
             ⟨some 24, none, .rd .lenL [.tmp 23]⟩,
             ⟨some 25, none, .rd .mov [.pv (.int .i64 0)]⟩] L61)
          (.block 2
           (.loop
             (.seq (.region false [⟨some 26, none, .rd (.bin .lss) [.tmp 25, .tmp 24]⟩] L61)
              (.seq (.cond (.tmp 26)
                (.skip)
                (.exit 2))
              (.seq (.block 3
                (.seq (.region false [⟨some 27, none, .rd (.idxAddr none) [.tmp 23, .tmp 25]⟩,
                    ⟨some 28, none, .rd (.load none) [.tmp 27]⟩,
                    ⟨some 9, none, .rd .mov [.tmp 28]⟩] L61)
                 (.seq (.region false [⟨some 29, none, .rd .mov [.tmp 9]⟩,
                    ⟨some 30, none, .rd (.fldAddr 0) [.tmp 3]⟩,
                    ⟨some 31, none, .rd (.load none) [.tmp 30]⟩,
                    ⟨some 32, none, .rd (.bin .gtr) [.tmp 29, .tmp 31]⟩,
                    ⟨some 33, none, .rd .mov [.tmp 32]⟩,
                    ⟨some 34, some (33, true), .rd .mov [.tmp 9]⟩,
                    ⟨some 35, some (33, true), .rd (.fldAddr 1) [.tmp 3]⟩,
                    ⟨some 36, some (33, true), .rd (.load none) [.tmp 35]⟩,
                    ⟨some 37, some (33, true), .rd (.bin .lss) [.tmp 34, .tmp 36]⟩,
                    ⟨some 38, none, .rd .pick [.tmp 33, .tmp 37, .pv (.bool false)]⟩] L61)
                 (.cond (.tmp 38)
                  (.region false [⟨some 39, none, .rd .mov [.tmp 5]⟩,
                     ⟨some 40, none, .rd .mov [.tmp 9]⟩,
                     ⟨some 41, none, .eff (.lit none false) [.tmp 40]⟩,
                     ⟨some 42, none, .eff (.append none 8) [.tmp 39, .tmp 41]⟩,
                     ⟨some 5, none, .rd .mov [.tmp 42]⟩] L61)
                  (.skip)))))
              (.region false [⟨some 43, none, .rd (.bin .add) [.tmp 25, .pv (.int .i64 1)]⟩,
                ⟨some 25, none, .rd .mov [.tmp 43]⟩] L61)))))))))
       (.region false [⟨some 44, none, .rd (.bin .add) [.tmp 13, .pv (.int .i64 1)]⟩,
         ⟨some 13, none, .rd .mov [.tmp 44]⟩] L61)))))))
  (.seq (.region false [⟨some 45, none, .rd .mov [.tmp 5]⟩,
     ⟨some 46, none, .call (.pv (.fn 66 [] [])) [.tmp 45]⟩] L61)
  (.seq (.region false [⟨some 47, none, .rd .mov [.tmp 5]⟩,
     ⟨some 48, none, .call (.pv (.fn 67 [] [])) [.tmp 47]⟩,
     ⟨some 4, none, .rd .mov [.tmp 48]⟩] L61)
  (.ret))))),
  [.tmp 4]⟩

-- wagebook/wagebooklaw10.known
def L23 : List Nat := [0, 2, 3, 4, 8]
def c23 : CF := ⟨41,
  .seq (.region false [⟨some 2, none, .rd .mov [.pv .nilSl]⟩] L23)
  (.seq (.region false [⟨some 3, none, .rd .mov [.pv .nilSl]⟩] L23)
  (.seq (.seq (.region false [⟨some 4, none, .rd .mov [.pv (.int .i64 0)]⟩] L23)
   (.block 0
    (.loop
      (.seq (.seq (.region false [⟨some 5, none, .rd .mov [.tmp 4]⟩,
           ⟨some 6, none, .rd .mov [.tmp 0]⟩,
           ⟨some 7, none, .rd .lenL [.tmp 6]⟩,
           ⟨some 8, none, .rd (.bin .lss) [.tmp 5, .tmp 7]⟩] L23)
        (.cond (.tmp 8)
         (.skip)
         (.exit 0)))
       (.seq (.block 1
         (.regionA (.alt [⟨some 11, none, .rd .mov [.tmp 3]⟩,
             ⟨some 12, none, .rd .mov [.tmp 0]⟩,
             ⟨some 13, none, .rd .mov [.tmp 4]⟩,
             ⟨some 14, none, .rd (.idxAddr (some 5)) [.tmp 12, .tmp 13]⟩,
             ⟨some 15, none, .rd (.fldAddr 0) [.tmp 14]⟩,
             ⟨some 16, none, .rd .loadC [.tmp 15]⟩,
             ⟨some 17, none, .rd .mov [.tmp 0]⟩,
             ⟨some 18, none, .rd .mov [.tmp 4]⟩,
             ⟨some 19, none, .rd (.idxAddr (some 5)) [.tmp 17, .tmp 18]⟩,
             ⟨some 20, none, .rd (.fldAddr 1) [.tmp 19]⟩,
             ⟨some 21, none, .rd .loadC [.tmp 20]⟩,
             ⟨some 22, none, .rd .mov [.tmp 0]⟩,
             ⟨some 23, none, .rd .mov [.tmp 4]⟩,
             ⟨some 24, none, .rd (.idxAddr (some 5)) [.tmp 22, .tmp 23]⟩,
             ⟨some 25, none, .rd (.fldAddr 2) [.tmp 24]⟩,
             ⟨some 26, none, .rd .loadC [.tmp 25]⟩,
             ⟨some 27, none, .rd .mov [.tmp 0]⟩,
             ⟨some 28, none, .rd .mov [.tmp 4]⟩,
             ⟨some 29, none, .rd (.idxAddr (some 5)) [.tmp 27, .tmp 28]⟩,
             ⟨some 30, none, .rd (.fldAddr 3) [.tmp 29]⟩,
             ⟨some 31, none, .rd .loadC [.tmp 30]⟩,
             ⟨some 32, none, .rd .mov [.tmp 0]⟩,
             ⟨some 33, none, .rd .mov [.tmp 4]⟩,
             ⟨some 34, none, .rd (.idxAddr (some 5)) [.tmp 32, .tmp 33]⟩,
             ⟨some 35, none, .rd (.fldAddr 4) [.tmp 34]⟩,
             ⟨some 36, none, .rd .loadC [.tmp 35]⟩,
             ⟨some 37, none, .rd (.build [(.int .i64 0), (.int .i64 0), (.int .i64 0), (.int .i64 0), (.str [])] [(0, 1), (1, 1), (2, 1), (3, 1), (4, 1)]) [.tmp 16, .tmp 21, .tmp 26, .tmp 31, .tmp 36]⟩,
             ⟨some 38, none, .eff (.lit (some 5) false) [.tmp 37]⟩,
             ⟨some 39, none, .eff (.append (some 5) 48) [.tmp 11, .tmp 38]⟩,
             ⟨some 3, none, .rd .mov [.tmp 39]⟩]
            .done
            .stop) L23))
       (.region false [⟨some 9, none, .rd .mov [.tmp 4]⟩,
         ⟨some 10, none, .rd (.bin .add) [.tmp 9, .pv (.int .i64 1)]⟩,
         ⟨some 4, none, .rd .mov [.tmp 10]⟩] L23))))))
  (.seq (.region false [⟨some 40, none, .rd .mov [.tmp 3]⟩,
     ⟨some 2, none, .rd .mov [.tmp 40]⟩] L23)
  (.ret)))),
  [.tmp 2]⟩

-- wagebook/wagebooklaw10.value
def L25 : List Nat := [0, 1, 4, 5, 6, 10, 19]
def c25 : CF := ⟨24,
  .seq (.region false [⟨some 4, none, .rd .mov [.pv (.bool false)]⟩] L25)
  (.seq (.region false [⟨some 5, none, .rd .mov [.pv (.int .i64 0)]⟩] L25)
  (.seq (.seq (.region false [⟨some 6, none, .rd .mov [.pv (.int .i64 0)]⟩] L25)
   (.block 0
    (.loop
      (.seq (.seq (.region false [⟨some 7, none, .rd .mov [.tmp 6]⟩,
           ⟨some 8, none, .rd .mov [.tmp 0]⟩,
           ⟨some 9, none, .rd .lenL [.tmp 8]⟩,
           ⟨some 10, none, .rd (.bin .lss) [.tmp 7, .tmp 9]⟩] L25)
        (.cond (.tmp 10)
         (.skip)
         (.exit 0)))
       (.seq (.block 1
         (.seq (.region false [⟨some 13, none, .rd .mov [.tmp 0]⟩,
             ⟨some 14, none, .rd .mov [.tmp 6]⟩,
             ⟨some 15, none, .rd (.idxAddr (some 5)) [.tmp 13, .tmp 14]⟩,
             ⟨some 16, none, .rd (.fldAddr 0) [.tmp 15]⟩,
             ⟨some 17, none, .rd (.load none) [.tmp 16]⟩,
             ⟨some 18, none, .rd .mov [.tmp 1]⟩,
             ⟨some 19, none, .rd (.bin .eql) [.tmp 17, .tmp 18]⟩] L25)
          (.cond (.tmp 19)
           (.region false [⟨some 20, none, .rd .mov [.tmp 5]⟩,
              ⟨some 21, none, .rd (.bin .add) [.tmp 20, .pv (.int .i64 1)]⟩,
              ⟨some 5, none, .rd .mov [.tmp 21]⟩] L25)
           (.skip))))
       (.region false [⟨some 11, none, .rd .mov [.tmp 6]⟩,
         ⟨some 12, none, .rd (.bin .add) [.tmp 11, .pv (.int .i64 1)]⟩,
         ⟨some 6, none, .rd .mov [.tmp 12]⟩] L25))))))
  (.seq (.region false [⟨some 22, none, .rd .mov [.tmp 5]⟩,
     ⟨some 23, none, .rd (.bin .eql) [.tmp 22, .pv (.int .i64 1)]⟩,
     ⟨some 4, none, .rd .mov [.tmp 23]⟩] L25)
  (.ret)))),
  [.tmp 4]⟩

-- wagebook/wagebooklaw10.unlike
def L26 : List Nat := [0, 2, 3, 7, 17]
def c26 : CF := ⟨18,
  .seq (.region false [⟨some 2, none, .rd .mov [.pv (.bool false)]⟩] L26)
  (.seq (.seq (.region false [⟨some 3, none, .rd .mov [.pv (.int .i64 0)]⟩] L26)
   (.block 0
    (.loop
      (.seq (.seq (.region false [⟨some 4, none, .rd .mov [.tmp 3]⟩,
           ⟨some 5, none, .rd .mov [.tmp 0]⟩,
           ⟨some 6, none, .rd .lenL [.tmp 5]⟩,
           ⟨some 7, none, .rd (.bin .lss) [.tmp 4, .tmp 6]⟩] L26)
        (.cond (.tmp 7)
         (.skip)
         (.exit 0)))
       (.seq (.block 1
         (.seq (.region false [⟨some 10, none, .rd .mov [.tmp 0]⟩,
             ⟨some 11, none, .rd .mov [.tmp 0]⟩,
             ⟨some 12, none, .rd .mov [.tmp 3]⟩,
             ⟨some 13, none, .rd (.idxAddr (some 5)) [.tmp 11, .tmp 12]⟩,
             ⟨some 14, none, .rd (.fldAddr 0) [.tmp 13]⟩,
             ⟨some 15, none, .rd (.load none) [.tmp 14]⟩,
             ⟨some 16, none, .call (.pv (.fn 25 [] [])) [.tmp 10, .tmp 15]⟩,
             ⟨some 17, none, .rd (.un .not) [.tmp 16]⟩] L26)
          (.cond (.tmp 17)
           (.seq (.region false [⟨some 2, none, .rd .mov [.pv (.bool false)]⟩] L26)
            (.ret))
           (.skip))))
       (.region false [⟨some 8, none, .rd .mov [.tmp 3]⟩,
         ⟨some 9, none, .rd (.bin .add) [.tmp 8, .pv (.int .i64 1)]⟩,
         ⟨some 3, none, .rd .mov [.tmp 9]⟩] L26))))))
  (.seq (.region false [⟨some 2, none, .rd .mov [.pv (.bool true)]⟩] L26)
  (.ret))),
  [.tmp 2]⟩
theorem k50 : compileF Try.prog [] L50 Try.f50 = some c50 := by kernel_rfl
theorem k49 : compileF Try.prog [] L49 Try.f49 = some c49 := by kernel_rfl
theorem k27 : compileF Try.prog [] L27 Try.f27 = some c27 := by kernel_rfl
theorem k19 : compileF Try.prog [] L19 Try.f19 = some c19 := by kernel_rfl
theorem k47 : compileF Try.prog [] L47 Try.f47 = some c47 := by kernel_rfl
theorem k61 : compileF Try.prog [] L61 Try.f61 = some c61 := by kernel_rfl
theorem k23 : compileF Try.prog [888888] L23 Try.f23 = some c23 := by kernel_rfl
theorem k25 : compileF Try.prog [] L25 Try.f25 = some c25 := by kernel_rfl
theorem k26 : compileF Try.prog [] L26 Try.f26 = some c26 := by kernel_rfl
end Go.Proofs.Ytjcoenideicmbaa

namespace Go.Proofs.Ytjcoenideicmbaa
open Go PG Go.Proofs
set_option linter.unusedSimpArgs false
set_option linter.unusedVariables false
set_option maxHeartbeats 4000000
set_option maxRecDepth 100000
abbrev G0 : Globs := fun _ => none
theorem mix : Try.prog.follows .mixedOrders = true := by kernel_rfl
theorem e50 : Ent Try.prog 50 := ⟨Try.f50, Try.func50, by kernel_rfl, by kernel_rfl⟩
theorem e49 : Ent Try.prog 49 := ⟨Try.f49, Try.func49, by kernel_rfl, by kernel_rfl⟩
theorem e47 : Ent Try.prog 47 := ⟨Try.f47, Try.func47, by kernel_rfl, by kernel_rfl⟩
theorem e19 : Ent Try.prog 19 := ⟨Try.f19, Try.func19, by kernel_rfl, by kernel_rfl⟩
/-! Known facts -/
structure Kn where
  n : Int
  id : Int
  pers : Int
  kind : Int
  fr : Int
  to : Int
  code : List UInt8
  num : Int
  text : List UInt8
  deriving Inhabited
def knP (k : Kn) : PV := .agg [.int .i64 k.n, .int .u32 k.id, .int .u32 k.pers, .int .i64 k.kind, .int .i64 k.fr, .int .i64 k.to, .str k.code, .int .i64 k.num, .str k.text]
abbrev knL (l : List Kn) : PV := .list (some 9) (l.map knP)
abbrev linP (l : List Kn) : PV := .agg [knL l]
theorem kn_getD (l : List Kn) (i : Nat) (h : i < l.length) : (l.map knP).getD i .junk = knP l[i] := by simp [List.getD, h]
def covB (k : Kn) (d : Int) : Bool := decide (k.fr ≤ d) && (decide (k.to = 0) || decide (d < k.to))
/-- The place of the fact in force, of the first i. -/
def placeN (l : List Kn) (d : Int) : Nat → Int
  | 0 => -1
  | i + 1 => if (covB (l.getD i default) d && (decide (placeN l d i < 0) || decide ((l.getD (placeN l d i).toNat default).n < (l.getD i default).n))) = true then (i : Int) else placeN l d i
def placeM (l : List Kn) (d : Int) : Int := placeN l d l.length
theorem placeN_in (l : List Kn) (d : Int) : ∀ i : Nat, -1 ≤ placeN l d i ∧ placeN l d i < i
  | 0 => by simp [placeN]
  | i + 1 => by
    have := placeN_in l d i
    unfold placeN
    split <;> omega
theorem v50 (l : List Kn) (hl : l.length ≤ 1000000000) (d : Int) : VCalls Try.prog G0 50 [linP l, .int .i64 d] (.int .i64 (placeM l d)) := by
  refine VCalls.of_PW Try.func50 k50 mix (by simp [c50]) ?_
  simp only [c50, L50, argE]
  have hlen : ((l.map knP).length : Nat) = l.length := by simp
  repeat' (first | exact True.intro | (refine PW.seqK ?_; intro K hK) | refine PW.block ?_ | refine PW.exit ?_ | refine PW.ret ?_ | refine PW.skip ?_ | refine seqK_n (by assumption) ?_ | refine seqK_r (by assumption) ?_ | refine seqK_e (by assumption) ?_ | refine PW.regionA ?_ | exact schedW_stop_i | refine schK_n (by assumption) ?_ | (refine schedW_alt_k ?_ ?_; focus (intro K hK; simp only [hlen, SS, SS2, SS3, SS4, Option.map_some, Bool.not_false, Bool.not_true, gArgs, gOk, Nat.reduceAdd, PV.shift, MObj.shift, rdV, rdD, reduceIte, Nat.reduceEqDiff, Nat.reduceBEq, PV.bin, PV.binOk, binI, binS, PV.withInt, PV.withIntP, okAll, PV.under, PV.okUnder, eq_self, implies_true, deadOk, ne_eq, allOk, RVar.val, RVar.ok, retV, PV.seen, PV.view, beq_self_eq_true, PV.flat, PV.noOwn, id_eq, behind, PV.kill, MObj.kill, killTag, reduceCtorEq, nilB]; (try go_unwrap; try simp only [hlen, toNat_add2, toNat_add1, Int.toNat_natCast, Bool.false_and, Bool.true_and, true_implies, true_and, Bool.false_eq_true, reduceCtorEq, false_implies, Bool.not_false, Bool.not_true, Bool.true_or, Bool.false_or]))) | (refine PW.cond rfl ?_ ?_ <;> intro hcond <;> (try contradiction) <;> try simp only [decide_eq_true_eq, decide_eq_false_iff_not] at hcond) | (refine gd_i ?_; intro hg; try simp only [hg]) | ((first | show @LE.le Nat _ _ _ | show @LT.lt Nat _ _ _ | show @LE.le Int _ _ _ | show @LT.lt Int _ _ _ | show @Eq Nat _ _ | show @Eq Int _ _ | show @Eq Bool _ _ | show _ ∨ _ | show ¬ _); first | omega | (simp only [decide_eq_true_eq, decide_eq_false_iff_not, List.length_cons, List.length_nil, List.length_append, List.length_map, Sh.size] <;> omega) | (go_unwrap; omega)) | ((first | refine PW.region ?_ | refine PW.regionQ ?_ | refine schedW_done_i ?_ | show (_ : Post) _ _ _ | show @Eq (List PV) _ _ | show @Eq Bool _ _ | show opsW _ _ _ _ _ _ _ _ | show okAll _ | show @Eq Bool _ _ ∨ _); focus (simp only [hlen, SS, SS2, SS3, SS4, Option.map_some, Bool.not_false, Bool.not_true, gArgs, gOk, Nat.reduceAdd, PV.shift, MObj.shift, rdV, rdD, reduceIte, Nat.reduceEqDiff, Nat.reduceBEq, PV.bin, PV.binOk, binI, binS, PV.withInt, PV.withIntP, okAll, PV.under, PV.okUnder, eq_self, implies_true, deadOk, ne_eq, allOk, RVar.val, RVar.ok, retV, PV.seen, PV.view, beq_self_eq_true, PV.flat, PV.noOwn, id_eq, behind, PV.kill, MObj.kill, killTag, reduceCtorEq, nilB]; (try go_unwrap; try simp only [hlen, toNat_add2, toNat_add1, Int.toNat_natCast, Bool.false_and, Bool.true_and, true_implies, true_and, Bool.false_eq_true, reduceCtorEq, false_implies, Bool.not_false, Bool.not_true, Bool.true_or, Bool.false_or]))) | refine And.intro ?_ ?_ | exact Or.inr ⟨rfl, Nat.le_refl _⟩ | exact (fun h => Bool.noConfusion h))
  refine PW.loopG (σ := Nat) 1 (fun _ _ => rfl) [1, 2, 4, 5, 9, 10, 11] (fun i => [.int .i64 d, .ref 0 0, .int .i64 0, .int .i64 (placeN l d i), knL l, .int .i64 l.length, .int .i64 i])
    (fun _ => [some (.var (some 1) (.agg [knL l]))]) (fun i => i ≤ l.length) (fun i => l.length - i) 0 ?_ rfl (by omega) ?_
  · simp only [SS, SS2, SS3, SS4, Option.map_some, Bool.not_false, Bool.not_true, gArgs, gOk, Nat.reduceAdd, PV.shift, MObj.shift, rdV, rdD, reduceIte, Nat.reduceEqDiff, Nat.reduceBEq, PV.bin, PV.binOk, binI, binS, PV.withInt, PV.withIntP, okAll, PV.under, PV.okUnder, eq_self, implies_true, deadOk, ne_eq, allOk, RVar.val, RVar.ok, retV, PV.seen, PV.view, beq_self_eq_true, PV.flat, PV.noOwn, id_eq, behind, PV.kill, MObj.kill, killTag, reduceCtorEq, nilB]; rfl
  rintro i hi
  simp only [List.zip_cons_cons, List.zip_nil_left]
  rcases Nat.lt_or_ge i l.length with h | h
  · have hd : decide ((i : Int) < l.length) = true := by simp only [decide_eq_true_eq]; omega
    have hg := kn_getD l i h
    have hp := placeN_in l d i
    have hst : placeN l d (i + 1) = if (covB l[i] d && (decide (placeN l d i < 0) || decide ((l.getD (placeN l d i).toNat default).n < l[i].n))) = true then (i : Int) else placeN l d i := by
      simp only [placeN]
      rw [show l.getD i default = l[i] by simp [List.getD, h]]
    generalize l[i] = k at hg hst
    generalize placeN l d i = p at hp hst
    simp only [knP] at hg
    have hidx : p < 0 ∨ (0 ≤ p ∧ p < l.length) := by omega
    have hk : covB k d = (decide (k.fr ≤ d) && (decide (k.to = 0) || decide (d < k.to))) := rfl
    by_cases h1 : k.fr ≤ d
    case neg =>
      have d1 : decide (k.fr ≤ d) = false := by simpa using h1
      rw [hk, d1] at hst
      simp only [Bool.false_and, Bool.false_eq_true, if_false] at hst
      repeat' (first | exact True.intro | (refine PW.seqK ?_; intro K hK) | refine PW.block ?_ | refine PW.exit ?_ | refine PW.ret ?_ | refine PW.skip ?_ | refine seqK_n (by assumption) ?_ | refine seqK_r (by assumption) ?_ | refine seqK_e (by assumption) ?_ | refine PW.regionA ?_ | exact schedW_stop_i | refine schK_n (by assumption) ?_ | (refine schedW_alt_k ?_ ?_; focus (intro K hK; simp only [hd, hlen, hg, d1, SS, SS2, SS3, SS4, Option.map_some, Bool.not_false, Bool.not_true, gArgs, gOk, Nat.reduceAdd, PV.shift, MObj.shift, rdV, rdD, reduceIte, Nat.reduceEqDiff, Nat.reduceBEq, PV.bin, PV.binOk, binI, binS, PV.withInt, PV.withIntP, okAll, PV.under, PV.okUnder, eq_self, implies_true, deadOk, ne_eq, allOk, RVar.val, RVar.ok, retV, PV.seen, PV.view, beq_self_eq_true, PV.flat, PV.noOwn, id_eq, behind, PV.kill, MObj.kill, killTag, reduceCtorEq, nilB]; (try go_unwrap; try simp only [hd, hlen, hg, d1, toNat_add2, toNat_add1, Int.toNat_natCast, Bool.false_and, Bool.true_and, true_implies, true_and, Bool.false_eq_true, reduceCtorEq, false_implies, Bool.not_false, Bool.not_true, Bool.true_or, Bool.false_or]))) | (refine PW.cond rfl ?_ ?_ <;> intro hcond <;> (try contradiction) <;> try simp only [decide_eq_true_eq, decide_eq_false_iff_not] at hcond) | (refine gd_i ?_; intro hg; try simp only [hg]) | ((first | show @LE.le Nat _ _ _ | show @LT.lt Nat _ _ _ | show @LE.le Int _ _ _ | show @LT.lt Int _ _ _ | show @Eq Nat _ _ | show @Eq Int _ _ | show @Eq Bool _ _ | show _ ∨ _ | show ¬ _); first | omega | (simp only [decide_eq_true_eq, decide_eq_false_iff_not, List.length_cons, List.length_nil, List.length_append, List.length_map, Sh.size] <;> omega) | (go_unwrap; omega)) | ((first | refine PW.region ?_ | refine PW.regionQ ?_ | refine schedW_done_i ?_ | show (_ : Post) _ _ _ | show @Eq (List PV) _ _ | show @Eq Bool _ _ | show opsW _ _ _ _ _ _ _ _ | show okAll _ | show @Eq Bool _ _ ∨ _); focus (simp only [hd, hlen, hg, d1, SS, SS2, SS3, SS4, Option.map_some, Bool.not_false, Bool.not_true, gArgs, gOk, Nat.reduceAdd, PV.shift, MObj.shift, rdV, rdD, reduceIte, Nat.reduceEqDiff, Nat.reduceBEq, PV.bin, PV.binOk, binI, binS, PV.withInt, PV.withIntP, okAll, PV.under, PV.okUnder, eq_self, implies_true, deadOk, ne_eq, allOk, RVar.val, RVar.ok, retV, PV.seen, PV.view, beq_self_eq_true, PV.flat, PV.noOwn, id_eq, behind, PV.kill, MObj.kill, killTag, reduceCtorEq, nilB]; (try go_unwrap; try simp only [hd, hlen, hg, d1, toNat_add2, toNat_add1, Int.toNat_natCast, Bool.false_and, Bool.true_and, true_implies, true_and, Bool.false_eq_true, reduceCtorEq, false_implies, Bool.not_false, Bool.not_true, Bool.true_or, Bool.false_or]))) | refine And.intro ?_ ?_ | exact Or.inr ⟨rfl, Nat.le_refl _⟩ | exact (fun h => Bool.noConfusion h))
      exact ⟨i + 1, (by rw [hst]; exact (by first | rfl | (simp only [trimE, trimM, List.take_succ_cons, List.take_zero, List.take_nil, List.map_cons, List.map_nil, Option.map_some, Option.map_none, MObj.kill, PV.kill, Nat.reduceLeDiff, decide_true, decide_false, dec_true, dec_false, Bool.false_eq_true, if_false, if_true, reduceIte, List.zip_cons_cons, List.zip_nil_left, Nat.le_refl, Nat.zero_le, Nat.not_le, Nat.lt_irrefl]; done) | (simp [trimE, trimM, MObj.kill, PV.kill]; done))), (by first | rfl | (simp only [trimE, trimM, List.take_succ_cons, List.take_zero, List.take_nil, List.map_cons, List.map_nil, Option.map_some, Option.map_none, MObj.kill, PV.kill, Nat.reduceLeDiff, decide_true, decide_false, dec_true, dec_false, Bool.false_eq_true, if_false, if_true, reduceIte, List.zip_cons_cons, List.zip_nil_left, Nat.le_refl, Nat.zero_le, Nat.not_le, Nat.lt_irrefl]; done) | (simp [trimE, trimM, MObj.kill, PV.kill]; done)), by omega, by omega⟩
    have d1 : decide (k.fr ≤ d) = true := by simpa using h1
    by_cases hc : (decide (k.to = 0) || decide (d < k.to)) = true
    case neg =>
      have hc' : (decide (k.to = 0) || decide (d < k.to)) = false := by simpa using hc
      rw [hk, d1, hc'] at hst
      simp only [Bool.and_false, Bool.false_and, Bool.false_eq_true, if_false] at hst
      rw [Bool.or_eq_false_iff] at hc'
      obtain ⟨d2, d3⟩ := hc'
      repeat' (first | exact True.intro | (refine PW.seqK ?_; intro K hK) | refine PW.block ?_ | refine PW.exit ?_ | refine PW.ret ?_ | refine PW.skip ?_ | refine seqK_n (by assumption) ?_ | refine seqK_r (by assumption) ?_ | refine seqK_e (by assumption) ?_ | refine PW.regionA ?_ | exact schedW_stop_i | refine schK_n (by assumption) ?_ | (refine schedW_alt_k ?_ ?_; focus (intro K hK; simp only [hd, hlen, hg, d1, d2, d3, SS, SS2, SS3, SS4, Option.map_some, Bool.not_false, Bool.not_true, gArgs, gOk, Nat.reduceAdd, PV.shift, MObj.shift, rdV, rdD, reduceIte, Nat.reduceEqDiff, Nat.reduceBEq, PV.bin, PV.binOk, binI, binS, PV.withInt, PV.withIntP, okAll, PV.under, PV.okUnder, eq_self, implies_true, deadOk, ne_eq, allOk, RVar.val, RVar.ok, retV, PV.seen, PV.view, beq_self_eq_true, PV.flat, PV.noOwn, id_eq, behind, PV.kill, MObj.kill, killTag, reduceCtorEq, nilB]; (try go_unwrap; try simp only [hd, hlen, hg, d1, d2, d3, toNat_add2, toNat_add1, Int.toNat_natCast, Bool.false_and, Bool.true_and, true_implies, true_and, Bool.false_eq_true, reduceCtorEq, false_implies, Bool.not_false, Bool.not_true, Bool.true_or, Bool.false_or]))) | (refine PW.cond rfl ?_ ?_ <;> intro hcond <;> (try contradiction) <;> try simp only [decide_eq_true_eq, decide_eq_false_iff_not] at hcond) | (refine gd_i ?_; intro hg; try simp only [hg]) | ((first | show @LE.le Nat _ _ _ | show @LT.lt Nat _ _ _ | show @LE.le Int _ _ _ | show @LT.lt Int _ _ _ | show @Eq Nat _ _ | show @Eq Int _ _ | show @Eq Bool _ _ | show _ ∨ _ | show ¬ _); first | omega | (simp only [decide_eq_true_eq, decide_eq_false_iff_not, List.length_cons, List.length_nil, List.length_append, List.length_map, Sh.size] <;> omega) | (go_unwrap; omega)) | ((first | refine PW.region ?_ | refine PW.regionQ ?_ | refine schedW_done_i ?_ | show (_ : Post) _ _ _ | show @Eq (List PV) _ _ | show @Eq Bool _ _ | show opsW _ _ _ _ _ _ _ _ | show okAll _ | show @Eq Bool _ _ ∨ _); focus (simp only [hd, hlen, hg, d1, d2, d3, SS, SS2, SS3, SS4, Option.map_some, Bool.not_false, Bool.not_true, gArgs, gOk, Nat.reduceAdd, PV.shift, MObj.shift, rdV, rdD, reduceIte, Nat.reduceEqDiff, Nat.reduceBEq, PV.bin, PV.binOk, binI, binS, PV.withInt, PV.withIntP, okAll, PV.under, PV.okUnder, eq_self, implies_true, deadOk, ne_eq, allOk, RVar.val, RVar.ok, retV, PV.seen, PV.view, beq_self_eq_true, PV.flat, PV.noOwn, id_eq, behind, PV.kill, MObj.kill, killTag, reduceCtorEq, nilB]; (try go_unwrap; try simp only [hd, hlen, hg, d1, d2, d3, toNat_add2, toNat_add1, Int.toNat_natCast, Bool.false_and, Bool.true_and, true_implies, true_and, Bool.false_eq_true, reduceCtorEq, false_implies, Bool.not_false, Bool.not_true, Bool.true_or, Bool.false_or]))) | refine And.intro ?_ ?_ | exact Or.inr ⟨rfl, Nat.le_refl _⟩ | exact (fun h => Bool.noConfusion h))
      exact ⟨i + 1, (by rw [hst]; exact (by first | rfl | (simp only [trimE, trimM, List.take_succ_cons, List.take_zero, List.take_nil, List.map_cons, List.map_nil, Option.map_some, Option.map_none, MObj.kill, PV.kill, Nat.reduceLeDiff, decide_true, decide_false, dec_true, dec_false, Bool.false_eq_true, if_false, if_true, reduceIte, List.zip_cons_cons, List.zip_nil_left, Nat.le_refl, Nat.zero_le, Nat.not_le, Nat.lt_irrefl]; done) | (simp [trimE, trimM, MObj.kill, PV.kill]; done))), (by first | rfl | (simp only [trimE, trimM, List.take_succ_cons, List.take_zero, List.take_nil, List.map_cons, List.map_nil, Option.map_some, Option.map_none, MObj.kill, PV.kill, Nat.reduceLeDiff, decide_true, decide_false, dec_true, dec_false, Bool.false_eq_true, if_false, if_true, reduceIte, List.zip_cons_cons, List.zip_nil_left, Nat.le_refl, Nat.zero_le, Nat.not_le, Nat.lt_irrefl]; done) | (simp [trimE, trimM, MObj.kill, PV.kill]; done)), by omega, by omega⟩
    rw [hk, d1, hc] at hst
    simp only [Bool.and_self, Bool.true_and] at hst
    rcases hidx with hp0 | ⟨hp0, hp1⟩
    · have d4 : decide (p < 0) = true := by simpa using hp0
      rw [d4] at hst
      simp only [Bool.true_or, if_true] at hst
      repeat' (first | exact True.intro | (refine PW.seqK ?_; intro K hK) | refine PW.block ?_ | refine PW.exit ?_ | refine PW.ret ?_ | refine PW.skip ?_ | refine seqK_n (by assumption) ?_ | refine seqK_r (by assumption) ?_ | refine seqK_e (by assumption) ?_ | refine PW.regionA ?_ | exact schedW_stop_i | refine schK_n (by assumption) ?_ | (refine schedW_alt_k ?_ ?_; focus (intro K hK; simp only [hd, hlen, hg, d1, d4, hc, SS, SS2, SS3, SS4, Option.map_some, Bool.not_false, Bool.not_true, gArgs, gOk, Nat.reduceAdd, PV.shift, MObj.shift, rdV, rdD, reduceIte, Nat.reduceEqDiff, Nat.reduceBEq, PV.bin, PV.binOk, binI, binS, PV.withInt, PV.withIntP, okAll, PV.under, PV.okUnder, eq_self, implies_true, deadOk, ne_eq, allOk, RVar.val, RVar.ok, retV, PV.seen, PV.view, beq_self_eq_true, PV.flat, PV.noOwn, id_eq, behind, PV.kill, MObj.kill, killTag, reduceCtorEq, nilB]; (try go_unwrap; try simp only [hd, hlen, hg, d1, d4, hc, toNat_add2, toNat_add1, Int.toNat_natCast, Bool.false_and, Bool.true_and, true_implies, true_and, Bool.false_eq_true, reduceCtorEq, false_implies, Bool.not_false, Bool.not_true, Bool.true_or, Bool.false_or]))) | (refine PW.cond rfl ?_ ?_ <;> intro hcond <;> (try contradiction) <;> try simp only [decide_eq_true_eq, decide_eq_false_iff_not] at hcond) | (refine gd_i ?_; intro hg; try simp only [hg]) | ((first | show @LE.le Nat _ _ _ | show @LT.lt Nat _ _ _ | show @LE.le Int _ _ _ | show @LT.lt Int _ _ _ | show @Eq Nat _ _ | show @Eq Int _ _ | show @Eq Bool _ _ | show _ ∨ _ | show ¬ _); first | omega | (simp only [decide_eq_true_eq, decide_eq_false_iff_not, List.length_cons, List.length_nil, List.length_append, List.length_map, Sh.size] <;> omega) | (go_unwrap; omega)) | ((first | refine PW.region ?_ | refine PW.regionQ ?_ | refine schedW_done_i ?_ | show (_ : Post) _ _ _ | show @Eq (List PV) _ _ | show @Eq Bool _ _ | show opsW _ _ _ _ _ _ _ _ | show okAll _ | show @Eq Bool _ _ ∨ _); focus (simp only [hd, hlen, hg, d1, d4, hc, SS, SS2, SS3, SS4, Option.map_some, Bool.not_false, Bool.not_true, gArgs, gOk, Nat.reduceAdd, PV.shift, MObj.shift, rdV, rdD, reduceIte, Nat.reduceEqDiff, Nat.reduceBEq, PV.bin, PV.binOk, binI, binS, PV.withInt, PV.withIntP, okAll, PV.under, PV.okUnder, eq_self, implies_true, deadOk, ne_eq, allOk, RVar.val, RVar.ok, retV, PV.seen, PV.view, beq_self_eq_true, PV.flat, PV.noOwn, id_eq, behind, PV.kill, MObj.kill, killTag, reduceCtorEq, nilB]; (try go_unwrap; try simp only [hd, hlen, hg, d1, d4, hc, toNat_add2, toNat_add1, Int.toNat_natCast, Bool.false_and, Bool.true_and, true_implies, true_and, Bool.false_eq_true, reduceCtorEq, false_implies, Bool.not_false, Bool.not_true, Bool.true_or, Bool.false_or]))) | refine And.intro ?_ ?_ | exact Or.inr ⟨rfl, Nat.le_refl _⟩ | exact (fun h => Bool.noConfusion h))
      all_goals exact ⟨i + 1, (by rw [hst]; exact (by first | rfl | (simp only [trimE, trimM, List.take_succ_cons, List.take_zero, List.take_nil, List.map_cons, List.map_nil, Option.map_some, Option.map_none, MObj.kill, PV.kill, Nat.reduceLeDiff, decide_true, decide_false, dec_true, dec_false, Bool.false_eq_true, if_false, if_true, reduceIte, List.zip_cons_cons, List.zip_nil_left, Nat.le_refl, Nat.zero_le, Nat.not_le, Nat.lt_irrefl]; done) | (simp [trimE, trimM, MObj.kill, PV.kill]; done))), (by first | rfl | (simp only [trimE, trimM, List.take_succ_cons, List.take_zero, List.take_nil, List.map_cons, List.map_nil, Option.map_some, Option.map_none, MObj.kill, PV.kill, Nat.reduceLeDiff, decide_true, decide_false, dec_true, dec_false, Bool.false_eq_true, if_false, if_true, reduceIte, List.zip_cons_cons, List.zip_nil_left, Nat.le_refl, Nat.zero_le, Nat.not_le, Nat.lt_irrefl]; done) | (simp [trimE, trimM, MObj.kill, PV.kill]; done)), by omega, by omega⟩
    · have d4 : decide (p < 0) = false := by simp only [decide_eq_false_iff_not]; omega
      have hgp := kn_getD l p.toNat (by omega)
      have hgd : l.getD p.toNat default = l[p.toNat] := by simp [List.getD, show p.toNat < l.length by omega]
      rw [d4, hgd] at hst
      simp only [Bool.false_or] at hst
      generalize l[p.toNat] = k2 at hgp hst
      simp only [knP] at hgp
      by_cases h5 : k2.n < k.n
      · have d5 : decide (k2.n < k.n) = true := by simpa using h5
        rw [d5] at hst
        simp only [if_true] at hst
        repeat' (first | exact True.intro | (refine PW.seqK ?_; intro K hK) | refine PW.block ?_ | refine PW.exit ?_ | refine PW.ret ?_ | refine PW.skip ?_ | refine seqK_n (by assumption) ?_ | refine seqK_r (by assumption) ?_ | refine seqK_e (by assumption) ?_ | refine PW.regionA ?_ | exact schedW_stop_i | refine schK_n (by assumption) ?_ | (refine schedW_alt_k ?_ ?_; focus (intro K hK; simp only [hd, hlen, hg, hgp, d1, d4, d5, hc, SS, SS2, SS3, SS4, Option.map_some, Bool.not_false, Bool.not_true, gArgs, gOk, Nat.reduceAdd, PV.shift, MObj.shift, rdV, rdD, reduceIte, Nat.reduceEqDiff, Nat.reduceBEq, PV.bin, PV.binOk, binI, binS, PV.withInt, PV.withIntP, okAll, PV.under, PV.okUnder, eq_self, implies_true, deadOk, ne_eq, allOk, RVar.val, RVar.ok, retV, PV.seen, PV.view, beq_self_eq_true, PV.flat, PV.noOwn, id_eq, behind, PV.kill, MObj.kill, killTag, reduceCtorEq, nilB]; (try go_unwrap; try simp only [hd, hlen, hg, hgp, d1, d4, d5, hc, toNat_add2, toNat_add1, Int.toNat_natCast, Bool.false_and, Bool.true_and, true_implies, true_and, Bool.false_eq_true, reduceCtorEq, false_implies, Bool.not_false, Bool.not_true, Bool.true_or, Bool.false_or]))) | (refine PW.cond rfl ?_ ?_ <;> intro hcond <;> (try contradiction) <;> try simp only [decide_eq_true_eq, decide_eq_false_iff_not] at hcond) | (refine gd_i ?_; intro hg; try simp only [hg]) | ((first | show @LE.le Nat _ _ _ | show @LT.lt Nat _ _ _ | show @LE.le Int _ _ _ | show @LT.lt Int _ _ _ | show @Eq Nat _ _ | show @Eq Int _ _ | show @Eq Bool _ _ | show _ ∨ _ | show ¬ _); first | omega | (simp only [decide_eq_true_eq, decide_eq_false_iff_not, List.length_cons, List.length_nil, List.length_append, List.length_map, Sh.size] <;> omega) | (go_unwrap; omega)) | ((first | refine PW.region ?_ | refine PW.regionQ ?_ | refine schedW_done_i ?_ | show (_ : Post) _ _ _ | show @Eq (List PV) _ _ | show @Eq Bool _ _ | show opsW _ _ _ _ _ _ _ _ | show okAll _ | show @Eq Bool _ _ ∨ _); focus (simp only [hd, hlen, hg, hgp, d1, d4, d5, hc, SS, SS2, SS3, SS4, Option.map_some, Bool.not_false, Bool.not_true, gArgs, gOk, Nat.reduceAdd, PV.shift, MObj.shift, rdV, rdD, reduceIte, Nat.reduceEqDiff, Nat.reduceBEq, PV.bin, PV.binOk, binI, binS, PV.withInt, PV.withIntP, okAll, PV.under, PV.okUnder, eq_self, implies_true, deadOk, ne_eq, allOk, RVar.val, RVar.ok, retV, PV.seen, PV.view, beq_self_eq_true, PV.flat, PV.noOwn, id_eq, behind, PV.kill, MObj.kill, killTag, reduceCtorEq, nilB]; (try go_unwrap; try simp only [hd, hlen, hg, hgp, d1, d4, d5, hc, toNat_add2, toNat_add1, Int.toNat_natCast, Bool.false_and, Bool.true_and, true_implies, true_and, Bool.false_eq_true, reduceCtorEq, false_implies, Bool.not_false, Bool.not_true, Bool.true_or, Bool.false_or]))) | refine And.intro ?_ ?_ | exact Or.inr ⟨rfl, Nat.le_refl _⟩ | exact (fun h => Bool.noConfusion h))
        all_goals exact ⟨i + 1, (by rw [hst]; exact (by first | rfl | (simp only [trimE, trimM, List.take_succ_cons, List.take_zero, List.take_nil, List.map_cons, List.map_nil, Option.map_some, Option.map_none, MObj.kill, PV.kill, Nat.reduceLeDiff, decide_true, decide_false, dec_true, dec_false, Bool.false_eq_true, if_false, if_true, reduceIte, List.zip_cons_cons, List.zip_nil_left, Nat.le_refl, Nat.zero_le, Nat.not_le, Nat.lt_irrefl]; done) | (simp [trimE, trimM, MObj.kill, PV.kill]; done))), (by first | rfl | (simp only [trimE, trimM, List.take_succ_cons, List.take_zero, List.take_nil, List.map_cons, List.map_nil, Option.map_some, Option.map_none, MObj.kill, PV.kill, Nat.reduceLeDiff, decide_true, decide_false, dec_true, dec_false, Bool.false_eq_true, if_false, if_true, reduceIte, List.zip_cons_cons, List.zip_nil_left, Nat.le_refl, Nat.zero_le, Nat.not_le, Nat.lt_irrefl]; done) | (simp [trimE, trimM, MObj.kill, PV.kill]; done)), by omega, by omega⟩
      · have d5 : decide (k2.n < k.n) = false := by simpa using h5
        rw [d5] at hst
        simp only [Bool.false_eq_true, if_false] at hst
        repeat' (first | exact True.intro | (refine PW.seqK ?_; intro K hK) | refine PW.block ?_ | refine PW.exit ?_ | refine PW.ret ?_ | refine PW.skip ?_ | refine seqK_n (by assumption) ?_ | refine seqK_r (by assumption) ?_ | refine seqK_e (by assumption) ?_ | refine PW.regionA ?_ | exact schedW_stop_i | refine schK_n (by assumption) ?_ | (refine schedW_alt_k ?_ ?_; focus (intro K hK; simp only [hd, hlen, hg, hgp, d1, d4, d5, hc, SS, SS2, SS3, SS4, Option.map_some, Bool.not_false, Bool.not_true, gArgs, gOk, Nat.reduceAdd, PV.shift, MObj.shift, rdV, rdD, reduceIte, Nat.reduceEqDiff, Nat.reduceBEq, PV.bin, PV.binOk, binI, binS, PV.withInt, PV.withIntP, okAll, PV.under, PV.okUnder, eq_self, implies_true, deadOk, ne_eq, allOk, RVar.val, RVar.ok, retV, PV.seen, PV.view, beq_self_eq_true, PV.flat, PV.noOwn, id_eq, behind, PV.kill, MObj.kill, killTag, reduceCtorEq, nilB]; (try go_unwrap; try simp only [hd, hlen, hg, hgp, d1, d4, d5, hc, toNat_add2, toNat_add1, Int.toNat_natCast, Bool.false_and, Bool.true_and, true_implies, true_and, Bool.false_eq_true, reduceCtorEq, false_implies, Bool.not_false, Bool.not_true, Bool.true_or, Bool.false_or]))) | (refine PW.cond rfl ?_ ?_ <;> intro hcond <;> (try contradiction) <;> try simp only [decide_eq_true_eq, decide_eq_false_iff_not] at hcond) | (refine gd_i ?_; intro hg; try simp only [hg]) | ((first | show @LE.le Nat _ _ _ | show @LT.lt Nat _ _ _ | show @LE.le Int _ _ _ | show @LT.lt Int _ _ _ | show @Eq Nat _ _ | show @Eq Int _ _ | show @Eq Bool _ _ | show _ ∨ _ | show ¬ _); first | omega | (simp only [decide_eq_true_eq, decide_eq_false_iff_not, List.length_cons, List.length_nil, List.length_append, List.length_map, Sh.size] <;> omega) | (go_unwrap; omega)) | ((first | refine PW.region ?_ | refine PW.regionQ ?_ | refine schedW_done_i ?_ | show (_ : Post) _ _ _ | show @Eq (List PV) _ _ | show @Eq Bool _ _ | show opsW _ _ _ _ _ _ _ _ | show okAll _ | show @Eq Bool _ _ ∨ _); focus (simp only [hd, hlen, hg, hgp, d1, d4, d5, hc, SS, SS2, SS3, SS4, Option.map_some, Bool.not_false, Bool.not_true, gArgs, gOk, Nat.reduceAdd, PV.shift, MObj.shift, rdV, rdD, reduceIte, Nat.reduceEqDiff, Nat.reduceBEq, PV.bin, PV.binOk, binI, binS, PV.withInt, PV.withIntP, okAll, PV.under, PV.okUnder, eq_self, implies_true, deadOk, ne_eq, allOk, RVar.val, RVar.ok, retV, PV.seen, PV.view, beq_self_eq_true, PV.flat, PV.noOwn, id_eq, behind, PV.kill, MObj.kill, killTag, reduceCtorEq, nilB]; (try go_unwrap; try simp only [hd, hlen, hg, hgp, d1, d4, d5, hc, toNat_add2, toNat_add1, Int.toNat_natCast, Bool.false_and, Bool.true_and, true_implies, true_and, Bool.false_eq_true, reduceCtorEq, false_implies, Bool.not_false, Bool.not_true, Bool.true_or, Bool.false_or]))) | refine And.intro ?_ ?_ | exact Or.inr ⟨rfl, Nat.le_refl _⟩ | exact (fun h => Bool.noConfusion h))
        all_goals exact ⟨i + 1, (by rw [hst]; exact (by first | rfl | (simp only [trimE, trimM, List.take_succ_cons, List.take_zero, List.take_nil, List.map_cons, List.map_nil, Option.map_some, Option.map_none, MObj.kill, PV.kill, Nat.reduceLeDiff, decide_true, decide_false, dec_true, dec_false, Bool.false_eq_true, if_false, if_true, reduceIte, List.zip_cons_cons, List.zip_nil_left, Nat.le_refl, Nat.zero_le, Nat.not_le, Nat.lt_irrefl]; done) | (simp [trimE, trimM, MObj.kill, PV.kill]; done))), (by first | rfl | (simp only [trimE, trimM, List.take_succ_cons, List.take_zero, List.take_nil, List.map_cons, List.map_nil, Option.map_some, Option.map_none, MObj.kill, PV.kill, Nat.reduceLeDiff, decide_true, decide_false, dec_true, dec_false, Bool.false_eq_true, if_false, if_true, reduceIte, List.zip_cons_cons, List.zip_nil_left, Nat.le_refl, Nat.zero_le, Nat.not_le, Nat.lt_irrefl]; done) | (simp [trimE, trimM, MObj.kill, PV.kill]; done)), by omega, by omega⟩
  · have hd : decide ((i : Int) < l.length) = false := by simp only [decide_eq_false_iff_not]; omega
    have hi' : i = l.length := by omega
    subst hi'
    repeat' (first | exact True.intro | (refine PW.seqK ?_; intro K hK) | refine PW.block ?_ | refine PW.exit ?_ | refine PW.ret ?_ | refine PW.skip ?_ | refine seqK_n (by assumption) ?_ | refine seqK_r (by assumption) ?_ | refine seqK_e (by assumption) ?_ | refine PW.regionA ?_ | exact schedW_stop_i | refine schK_n (by assumption) ?_ | (refine schedW_alt_k ?_ ?_; focus (intro K hK; simp only [hd, hlen, SS, SS2, SS3, SS4, Option.map_some, Bool.not_false, Bool.not_true, gArgs, gOk, Nat.reduceAdd, PV.shift, MObj.shift, rdV, rdD, reduceIte, Nat.reduceEqDiff, Nat.reduceBEq, PV.bin, PV.binOk, binI, binS, PV.withInt, PV.withIntP, okAll, PV.under, PV.okUnder, eq_self, implies_true, deadOk, ne_eq, allOk, RVar.val, RVar.ok, retV, PV.seen, PV.view, beq_self_eq_true, PV.flat, PV.noOwn, id_eq, behind, PV.kill, MObj.kill, killTag, reduceCtorEq, nilB]; (try go_unwrap; try simp only [hd, hlen, toNat_add2, toNat_add1, Int.toNat_natCast, Bool.false_and, Bool.true_and, true_implies, true_and, Bool.false_eq_true, reduceCtorEq, false_implies, Bool.not_false, Bool.not_true, Bool.true_or, Bool.false_or]))) | (refine PW.cond rfl ?_ ?_ <;> intro hcond <;> (try contradiction) <;> try simp only [decide_eq_true_eq, decide_eq_false_iff_not] at hcond) | (refine gd_i ?_; intro hg; try simp only [hg]) | ((first | show @LE.le Nat _ _ _ | show @LT.lt Nat _ _ _ | show @LE.le Int _ _ _ | show @LT.lt Int _ _ _ | show @Eq Nat _ _ | show @Eq Int _ _ | show @Eq Bool _ _ | show _ ∨ _ | show ¬ _); first | omega | (simp only [decide_eq_true_eq, decide_eq_false_iff_not, List.length_cons, List.length_nil, List.length_append, List.length_map, Sh.size] <;> omega) | (go_unwrap; omega)) | ((first | refine PW.region ?_ | refine PW.regionQ ?_ | refine schedW_done_i ?_ | show (_ : Post) _ _ _ | show @Eq (List PV) _ _ | show @Eq Bool _ _ | show opsW _ _ _ _ _ _ _ _ | show okAll _ | show @Eq Bool _ _ ∨ _); focus (simp only [hd, hlen, SS, SS2, SS3, SS4, Option.map_some, Bool.not_false, Bool.not_true, gArgs, gOk, Nat.reduceAdd, PV.shift, MObj.shift, rdV, rdD, reduceIte, Nat.reduceEqDiff, Nat.reduceBEq, PV.bin, PV.binOk, binI, binS, PV.withInt, PV.withIntP, okAll, PV.under, PV.okUnder, eq_self, implies_true, deadOk, ne_eq, allOk, RVar.val, RVar.ok, retV, PV.seen, PV.view, beq_self_eq_true, PV.flat, PV.noOwn, id_eq, behind, PV.kill, MObj.kill, killTag, reduceCtorEq, nilB]; (try go_unwrap; try simp only [hd, hlen, toNat_add2, toNat_add1, Int.toNat_natCast, Bool.false_and, Bool.true_and, true_implies, true_and, Bool.false_eq_true, reduceCtorEq, false_implies, Bool.not_false, Bool.not_true, Bool.true_or, Bool.false_or]))) | refine And.intro ?_ ?_ | exact Or.inr ⟨rfl, Nat.le_refl _⟩ | exact (fun h => Bool.noConfusion h))
    rfl
end Go.Proofs.Ytjcoenideicmbaa

