import Derived.Test.YtjcoenideicmbaaProg
import Derived.KernelRfl
import Derived.Test.YtjcoenideicmbaaP3
namespace Go.Proofs.Ytjcoenideicmbaa
open PG Go.Proofs
-- wagebook/wagebooklaw11.of
def L34 : List Nat := [0, 2, 3, 4, 5, 9]
def c34 : CF := ⟨39,
  .seq (.region false [⟨some 2, none, .rd .mov [.pv .nilSl]⟩] L34)
  (.seq (.region false [⟨some 3, none, .rd .mov [.pv .nilSl]⟩] L34)
  (.seq (.seq (.region false [⟨some 4, none, .rd .mov [.pv (.int .i64 0)]⟩] L34)
   (.block 0
    (.loop
      (.seq (.seq (.region false [⟨some 6, none, .rd .mov [.tmp 4]⟩,
           ⟨some 7, none, .rd .mov [.tmp 0]⟩,
           ⟨some 8, none, .rd .lenL [.tmp 7]⟩,
           ⟨some 9, none, .rd (.bin .lss) [.tmp 6, .tmp 8]⟩] L34)
        (.cond (.tmp 9)
         (.skip)
         (.exit 0)))
       (.seq (.block 1
         (.seq (.region false [⟨some 12, none, .rd .mov [.tmp 0]⟩,
             ⟨some 13, none, .rd .mov [.tmp 4]⟩,
             ⟨some 14, none, .rd (.idxAddr (some 9)) [.tmp 12, .tmp 13]⟩,
             ⟨some 15, none, .rd (.fldAddr 1) [.tmp 14]⟩,
             ⟨some 16, none, .rd (.load (some 8)) [.tmp 15]⟩,
             ⟨some 5, none, .eff (.alloc (some 8) (.agg [(.int .u32 0), (.int .u32 0), (.int .i64 0), (.int .i64 0), (.int .i64 0), (.str []), (.int .i64 0), (.str [])])) []⟩,
             ⟨none, none, .eff (.store (some 8)) [.tmp 5, .tmp 16]⟩] L34)
          (.regionA (.alt [⟨some 17, none, .rd .mov [.tmp 3]⟩,
             ⟨some 18, none, .rd .mov [.tmp 0]⟩,
             ⟨some 19, none, .rd .mov [.tmp 4]⟩,
             ⟨some 20, none, .rd (.idxAddr (some 9)) [.tmp 18, .tmp 19]⟩,
             ⟨some 21, none, .rd (.fldAddr 0) [.tmp 20]⟩,
             ⟨some 22, none, .rd .loadC [.tmp 21]⟩,
             ⟨some 23, none, .rd (.fldAddr 2) [.tmp 5]⟩,
             ⟨some 24, none, .rd .loadC [.tmp 23]⟩,
             ⟨some 25, none, .rd (.fldAddr 3) [.tmp 5]⟩,
             ⟨some 26, none, .rd .loadC [.tmp 25]⟩,
             ⟨some 27, none, .rd (.fldAddr 4) [.tmp 5]⟩,
             ⟨some 28, none, .rd .loadC [.tmp 27]⟩,
             ⟨some 29, none, .rd (.fldAddr 5) [.tmp 5]⟩,
             ⟨some 30, none, .rd .loadC [.tmp 29]⟩,
             ⟨some 31, none, .rd (.fldAddr 6) [.tmp 5]⟩,
             ⟨some 32, none, .rd .loadC [.tmp 31]⟩,
             ⟨some 33, none, .rd (.fldAddr 7) [.tmp 5]⟩,
             ⟨some 34, none, .rd .loadC [.tmp 33]⟩,
             ⟨some 35, none, .rd (.build [(.int .i64 0), (.int .i64 0), (.int .i64 0), (.int .i64 0), (.str []), (.int .i64 0), (.str [])] [(0, 1), (1, 1), (2, 1), (3, 1), (4, 1), (5, 1), (6, 1)]) [.tmp 22, .tmp 24, .tmp 26, .tmp 28, .tmp 30, .tmp 32, .tmp 34]⟩,
             ⟨some 36, none, .eff (.lit (some 7) false) [.tmp 35]⟩,
             ⟨some 37, none, .eff (.append (some 7) 72) [.tmp 17, .tmp 36]⟩,
             ⟨some 3, none, .rd .mov [.tmp 37]⟩]
            .done
            .stop) L34)))
       (.region false [⟨some 10, none, .rd .mov [.tmp 4]⟩,
         ⟨some 11, none, .rd (.bin .add) [.tmp 10, .pv (.int .i64 1)]⟩,
         ⟨some 4, none, .rd .mov [.tmp 11]⟩] L34))))))
  (.seq (.region false [⟨some 38, none, .rd .mov [.tmp 3]⟩,
     ⟨some 2, none, .rd .mov [.tmp 38]⟩] L34)
  (.ret)))),
  [.tmp 2]⟩

-- wagebook/wagebookref11.Short
def L33 : List Nat := [0, 2, 3, 11, 29]
def c33 : CF := ⟨33,
  .seq (.region false [⟨some 2, none, .rd .mov [.pv (.bool false)]⟩] L33)
  (.seq (.seq (.region false [⟨some 3, none, .rd .mov [.pv (.int .i64 0)]⟩] L33)
   (.block 0
    (.loop
      (.seq (.seq (.region false [⟨some 4, none, .rd .mov [.tmp 3]⟩,
           ⟨some 5, none, .rd .mov [.tmp 0]⟩,
           ⟨some 6, none, .rd .lenL [.tmp 5]⟩,
           ⟨some 7, none, .rd (.bin .lss) [.tmp 4, .tmp 6]⟩,
           ⟨some 8, none, .rd .mov [.tmp 7]⟩,
           ⟨some 9, some (8, true), .rd .mov [.tmp 3]⟩,
           ⟨some 10, some (8, true), .rd (.bin .lss) [.tmp 9, .pv (.int .i64 40)]⟩,
           ⟨some 11, none, .rd .pick [.tmp 8, .tmp 10, .pv (.bool false)]⟩] L33)
        (.cond (.tmp 11)
         (.skip)
         (.exit 0)))
       (.seq (.block 1
         (.seq (.region false [⟨some 14, none, .rd .mov [.tmp 0]⟩,
             ⟨some 15, none, .rd .mov [.tmp 3]⟩,
             ⟨some 16, none, .rd (.idxAddr (some 7)) [.tmp 14, .tmp 15]⟩,
             ⟨some 17, none, .rd (.fldAddr 4) [.tmp 16]⟩,
             ⟨some 18, none, .rd (.load none) [.tmp 17]⟩,
             ⟨some 19, none, .rd .lenS [.tmp 18]⟩,
             ⟨some 20, none, .rd (.bin .gtr) [.tmp 19, .pv (.int .i64 300)]⟩,
             ⟨some 21, none, .rd .mov [.tmp 20]⟩,
             ⟨some 22, some (21, false), .rd .mov [.tmp 0]⟩,
             ⟨some 23, some (21, false), .rd .mov [.tmp 3]⟩,
             ⟨some 24, some (21, false), .rd (.idxAddr (some 7)) [.tmp 22, .tmp 23]⟩,
             ⟨some 25, some (21, false), .rd (.fldAddr 6) [.tmp 24]⟩,
             ⟨some 26, some (21, false), .rd (.load none) [.tmp 25]⟩,
             ⟨some 27, some (21, false), .rd .lenS [.tmp 26]⟩,
             ⟨some 28, some (21, false), .rd (.bin .gtr) [.tmp 27, .pv (.int .i64 300)]⟩,
             ⟨some 29, none, .rd .pick [.tmp 21, .pv (.bool true), .tmp 28]⟩] L33)
          (.cond (.tmp 29)
           (.seq (.region false [⟨some 2, none, .rd .mov [.pv (.bool false)]⟩] L33)
            (.ret))
           (.skip))))
       (.region false [⟨some 12, none, .rd .mov [.tmp 3]⟩,
         ⟨some 13, none, .rd (.bin .add) [.tmp 12, .pv (.int .i64 1)]⟩,
         ⟨some 3, none, .rd .mov [.tmp 13]⟩] L33))))))
  (.seq (.region false [⟨some 30, none, .rd .mov [.tmp 0]⟩,
     ⟨some 31, none, .rd .lenL [.tmp 30]⟩,
     ⟨some 32, none, .rd (.bin .leq) [.tmp 31, .pv (.int .i64 40)]⟩,
     ⟨some 2, none, .rd .mov [.tmp 32]⟩] L33)
  (.ret))),
  [.tmp 2]⟩

-- wagebook/book.Of
def L36 : List Nat := [0, 1, 2, 4, 5, 6, 7, 9, 12, 14, 24]
def c36 : CF := ⟨32,
  .seq (.region false [⟨some 2, none, .eff (.box (some 1)) [.tmp 0]⟩,
     ⟨some 4, none, .rd .mov [.pv .nilSl]⟩] L36)
  (.seq (.region false [⟨some 5, none, .rd .mov [.pv .nilSl]⟩] L36)
  (.seq (.seq (.region false [⟨some 10, none, .rd (.fldAddr 0) [.tmp 2]⟩,
      ⟨some 11, none, .rd (.load none) [.tmp 10]⟩,
      ⟨some 12, none, .eff (.rng .str) [.tmp 11]⟩] L36)
   (.block 0
    (.loop
      (.seq (.region false [⟨some 13, none, .eff .nxt [.tmp 12]⟩,
          ⟨some 14, none, .rd (.ext 0) [.tmp 13]⟩] L36)
       (.seq (.cond (.tmp 14)
         (.skip)
         (.exit 0))
       (.block 1
        (.seq (.region false [⟨some 15, none, .eff .ent [.tmp 12]⟩,
            ⟨some 16, none, .rd (.ext 0) [.tmp 15]⟩,
            ⟨some 17, none, .rd (.ext 1) [.tmp 15]⟩,
            ⟨some 7, none, .eff (.alloc (some 1) (.agg [.nilSl])) []⟩,
            ⟨some 6, none, .rd .mov [.tmp 16]⟩,
            ⟨none, none, .eff (.store (some 1)) [.tmp 7, .tmp 17]⟩] L36)
         (.seq (.region false [⟨some 19, none, .rd (.load (some 1)) [.tmp 7]⟩,
            ⟨some 20, none, .rd .mov [.tmp 1]⟩,
            ⟨some 21, none, .call (.pv (.fn 27 [] [])) [.tmp 19, .tmp 20]⟩,
            ⟨some 18, none, .rd .mov [.tmp 21]⟩,
            ⟨some 22, none, .rd (.ext 0) [.tmp 18]⟩,
            ⟨some 23, none, .rd (.ext 1) [.tmp 18]⟩,
            ⟨some 8, none, .eff (.alloc (some 3) (.agg [(.int .i64 0), (.int .i64 0), (.str [])])) []⟩,
            ⟨none, none, .eff (.store (some 3)) [.tmp 8, .tmp 22]⟩,
            ⟨some 9, none, .rd .mov [.tmp 23]⟩] L36)
         (.seq (.region false [⟨some 24, none, .rd .mov [.tmp 9]⟩] L36)
         (.cond (.tmp 24)
          (.region false [⟨some 25, none, .rd .mov [.tmp 5]⟩,
             ⟨some 26, none, .rd .mov [.tmp 6]⟩,
             ⟨some 27, none, .eff (.lit none false) [.tmp 26]⟩,
             ⟨some 28, none, .eff (.append none 16) [.tmp 25, .tmp 27]⟩,
             ⟨some 5, none, .rd .mov [.tmp 28]⟩] L36)
          (.skip)))))))))))
  (.seq (.region false [⟨some 29, none, .rd .mov [.tmp 5]⟩,
     ⟨some 30, none, .call (.pv (.fn 53 [] [])) [.tmp 29]⟩] L36)
  (.seq (.region false [⟨some 31, none, .rd .mov [.tmp 5]⟩,
     ⟨some 4, none, .rd .mov [.tmp 31]⟩] L36)
  (.ret))))),
  [.tmp 4]⟩

-- (wagebook/book.Book).Num
def L37 : List Nat := [0, 1, 2, 3, 6, 7, 8, 9]
def c37 : CF := ⟨22,
  .seq (.region false [⟨some 3, none, .eff (.box (some 1)) [.tmp 0]⟩,
     ⟨some 6, none, .rd .mov [.pv (.int .i64 0)]⟩,
     ⟨some 7, none, .rd .mov [.pv (.bool false)]⟩] L37)
  (.seq (.region false [⟨some 11, none, .rd (.fldAddr 0) [.tmp 3]⟩,
     ⟨some 12, none, .rd (.load none) [.tmp 11]⟩,
     ⟨some 13, none, .rd .mov [.tmp 1]⟩,
     ⟨some 14, none, .rd (.look .str false (.agg [.nilSl])) [.tmp 12, .tmp 13]⟩,
     ⟨some 15, none, .rd .mov [.tmp 2]⟩,
     ⟨some 16, none, .call (.pv (.fn 27 [] [])) [.tmp 14, .tmp 15]⟩,
     ⟨some 10, none, .rd .mov [.tmp 16]⟩,
     ⟨some 17, none, .rd (.ext 0) [.tmp 10]⟩,
     ⟨some 18, none, .rd (.ext 1) [.tmp 10]⟩,
     ⟨some 8, none, .eff (.alloc (some 3) (.agg [(.int .i64 0), (.int .i64 0), (.str [])])) []⟩,
     ⟨none, none, .eff (.store (some 3)) [.tmp 8, .tmp 17]⟩,
     ⟨some 9, none, .rd .mov [.tmp 18]⟩] L37)
  (.seq (.region false [⟨some 19, none, .rd (.fldAddr 1) [.tmp 8]⟩,
     ⟨some 20, none, .rd (.load none) [.tmp 19]⟩,
     ⟨some 21, none, .rd .mov [.tmp 9]⟩,
     ⟨some 6, none, .rd .mov [.tmp 20]⟩,
     ⟨some 7, none, .rd .mov [.tmp 21]⟩] L37)
  (.ret))),
  [.tmp 6, .tmp 7]⟩

-- (wagebook/book.Book).Under
def L38 : List Nat := [0, 1, 2, 3, 6, 7, 9, 10, 11, 12, 17, 18, 19, 20, 30, 38]
def c38 : CF := ⟨48,
  .seq (.region false [⟨some 3, none, .eff (.box (some 1)) [.tmp 0]⟩,
     ⟨some 6, none, .rd .mov [.pv .nilSl]⟩] L38)
  (.seq (.region false [⟨some 7, none, .rd .mov [.pv .nilSl]⟩] L38)
  (.seq (.seq (.region false [⟨some 15, none, .rd (.load (some 1)) [.tmp 3]⟩,
      ⟨some 16, none, .rd .mov [.tmp 2]⟩,
      ⟨some 17, none, .call (.pv (.fn 36 [] [])) [.tmp 15, .tmp 16]⟩,
      ⟨some 18, none, .rd .lenL [.tmp 17]⟩,
      ⟨some 19, none, .rd .mov [.pv (.int .i64 0)]⟩] L38)
   (.block 0
    (.loop
      (.seq (.region false [⟨some 20, none, .rd (.bin .lss) [.tmp 19, .tmp 18]⟩] L38)
       (.seq (.cond (.tmp 20)
         (.skip)
         (.exit 0))
       (.seq (.block 1
         (.seq (.region false [⟨some 21, none, .rd (.idxAddr none) [.tmp 17, .tmp 19]⟩,
             ⟨some 22, none, .rd (.load none) [.tmp 21]⟩,
             ⟨some 9, none, .rd .mov [.tmp 22]⟩] L38)
          (.seq (.region false [⟨some 24, none, .rd .mov [.tmp 9]⟩,
             ⟨some 25, none, .rd .mov [.tmp 1]⟩,
             ⟨some 26, none, .call (.pv (.fn 54 [] [])) [.tmp 24, .tmp 25]⟩,
             ⟨some 23, none, .rd .mov [.tmp 26]⟩,
             ⟨some 27, none, .rd (.ext 0) [.tmp 23]⟩,
             ⟨some 28, none, .rd (.ext 1) [.tmp 23]⟩,
             ⟨some 10, none, .rd .mov [.tmp 27]⟩,
             ⟨some 11, none, .rd .mov [.tmp 28]⟩] L38)
          (.seq (.seq (.region false [⟨some 29, none, .rd .mov [.tmp 11]⟩,
              ⟨some 30, none, .rd (.un .not) [.tmp 29]⟩] L38)
           (.cond (.tmp 30)
            (.exit 1)
            (.skip)))
          (.seq (.region false [⟨some 32, none, .rd .mov [.tmp 10]⟩,
             ⟨some 33, none, .call (.pv (.fn 55 [] [])) [.tmp 32, .pv (.str [46])]⟩,
             ⟨some 31, none, .rd .mov [.tmp 33]⟩,
             ⟨some 34, none, .rd (.ext 0) [.tmp 31]⟩,
             ⟨some 35, none, .rd (.ext 1) [.tmp 31]⟩,
             ⟨some 36, none, .rd (.ext 2) [.tmp 31]⟩,
             ⟨some 12, none, .rd .mov [.tmp 34]⟩,
             ⟨some 13, none, .rd .mov [.tmp 35]⟩,
             ⟨some 14, none, .rd .mov [.tmp 36]⟩] L38)
          (.seq (.region false [⟨some 37, none, .rd .mov [.tmp 12]⟩,
             ⟨some 38, none, .rd (.bin .neq) [.tmp 37, .pv (.str [])]⟩] L38)
          (.cond (.tmp 38)
           (.region false [⟨some 39, none, .rd .mov [.tmp 7]⟩,
              ⟨some 40, none, .rd .mov [.tmp 12]⟩,
              ⟨some 41, none, .eff (.lit none false) [.tmp 40]⟩,
              ⟨some 42, none, .eff (.append none 16) [.tmp 39, .tmp 41]⟩,
              ⟨some 7, none, .rd .mov [.tmp 42]⟩] L38)
           (.skip))))))))
       (.region false [⟨some 43, none, .rd (.bin .add) [.tmp 19, .pv (.int .i64 1)]⟩,
         ⟨some 19, none, .rd .mov [.tmp 43]⟩] L38)))))))
  (.seq (.region false [⟨some 44, none, .rd .mov [.tmp 7]⟩,
     ⟨some 45, none, .call (.pv (.fn 53 [] [])) [.tmp 44]⟩] L38)
  (.seq (.region false [⟨some 46, none, .rd .mov [.tmp 7]⟩,
     ⟨some 47, none, .call (.pv (.fn 56 [] [])) [.tmp 46]⟩,
     ⟨some 6, none, .rd .mov [.tmp 47]⟩] L38)
  (.ret))))),
  [.tmp 6]⟩

-- wagebook/wagebookref11.Texts
def L39 : List Nat := [0, 1, 4, 5, 10, 14, 25]
def c39 : CF := ⟨26,
  .seq (.region false [⟨some 4, none, .rd .mov [.pv (.bool false)]⟩] L39)
  (.seq (.seq (.region false [⟨some 6, none, .rd .mov [.tmp 0]⟩,
      ⟨some 7, none, .rd .lenL [.tmp 6]⟩,
      ⟨some 8, none, .rd .mov [.tmp 1]⟩,
      ⟨some 9, none, .rd .lenL [.tmp 8]⟩,
      ⟨some 10, none, .rd (.bin .neq) [.tmp 7, .tmp 9]⟩] L39)
   (.cond (.tmp 10)
    (.seq (.region false [⟨some 4, none, .rd .mov [.pv (.bool false)]⟩] L39)
     (.ret))
    (.skip)))
  (.seq (.seq (.region false [⟨some 5, none, .rd .mov [.pv (.int .i64 0)]⟩] L39)
   (.block 0
    (.loop
      (.seq (.seq (.region false [⟨some 11, none, .rd .mov [.tmp 5]⟩,
           ⟨some 12, none, .rd .mov [.tmp 0]⟩,
           ⟨some 13, none, .rd .lenL [.tmp 12]⟩,
           ⟨some 14, none, .rd (.bin .lss) [.tmp 11, .tmp 13]⟩] L39)
        (.cond (.tmp 14)
         (.skip)
         (.exit 0)))
       (.seq (.block 1
         (.seq (.region true [⟨some 17, none, .rd .mov [.tmp 0]⟩,
             ⟨some 18, none, .rd .mov [.tmp 5]⟩,
             ⟨some 19, none, .rd (.idxAddr none) [.tmp 17, .tmp 18]⟩,
             ⟨some 20, none, .rd (.load none) [.tmp 19]⟩,
             ⟨some 21, none, .rd .mov [.tmp 1]⟩,
             ⟨some 22, none, .rd .mov [.tmp 5]⟩,
             ⟨some 23, none, .rd (.idxAddr none) [.tmp 21, .tmp 22]⟩,
             ⟨some 24, none, .rd (.load none) [.tmp 23]⟩,
             ⟨some 25, none, .rd (.bin .neq) [.tmp 20, .tmp 24]⟩] L39)
          (.cond (.tmp 25)
           (.seq (.region false [⟨some 4, none, .rd .mov [.pv (.bool false)]⟩] L39)
            (.ret))
           (.skip))))
       (.region false [⟨some 15, none, .rd .mov [.tmp 5]⟩,
         ⟨some 16, none, .rd (.bin .add) [.tmp 15, .pv (.int .i64 1)]⟩,
         ⟨some 5, none, .rd .mov [.tmp 16]⟩] L39))))))
  (.seq (.region false [⟨some 4, none, .rd .mov [.pv (.bool true)]⟩] L39)
  (.ret)))),
  [.tmp 4]⟩

-- (wagebook/book.Book).Text
def L40 : List Nat := [0, 1, 2, 3, 6, 7, 8, 9]
def c40 : CF := ⟨22,
  .seq (.region false [⟨some 3, none, .eff (.box (some 1)) [.tmp 0]⟩,
     ⟨some 6, none, .rd .mov [.pv (.str [])]⟩,
     ⟨some 7, none, .rd .mov [.pv (.bool false)]⟩] L40)
  (.seq (.region false [⟨some 11, none, .rd (.fldAddr 0) [.tmp 3]⟩,
     ⟨some 12, none, .rd (.load none) [.tmp 11]⟩,
     ⟨some 13, none, .rd .mov [.tmp 1]⟩,
     ⟨some 14, none, .rd (.look .str false (.agg [.nilSl])) [.tmp 12, .tmp 13]⟩,
     ⟨some 15, none, .rd .mov [.tmp 2]⟩,
     ⟨some 16, none, .call (.pv (.fn 27 [] [])) [.tmp 14, .tmp 15]⟩,
     ⟨some 10, none, .rd .mov [.tmp 16]⟩,
     ⟨some 17, none, .rd (.ext 0) [.tmp 10]⟩,
     ⟨some 18, none, .rd (.ext 1) [.tmp 10]⟩,
     ⟨some 8, none, .eff (.alloc (some 3) (.agg [(.int .i64 0), (.int .i64 0), (.str [])])) []⟩,
     ⟨none, none, .eff (.store (some 3)) [.tmp 8, .tmp 17]⟩,
     ⟨some 9, none, .rd .mov [.tmp 18]⟩] L40)
  (.seq (.region false [⟨some 19, none, .rd (.fldAddr 2) [.tmp 8]⟩,
     ⟨some 20, none, .rd (.load none) [.tmp 19]⟩,
     ⟨some 21, none, .rd .mov [.tmp 9]⟩,
     ⟨some 6, none, .rd .mov [.tmp 20]⟩,
     ⟨some 7, none, .rd .mov [.tmp 21]⟩] L40)
  (.ret))),
  [.tmp 6, .tmp 7]⟩

-- wagebook/wagebookref11.Place
def L41 : List Nat := [0, 1, 2, 6, 7, 8, 12, 54]
def c41 : CF := ⟨57,
  .seq (.region false [⟨some 6, none, .rd .mov [.pv (.int .i64 0)]⟩] L41)
  (.seq (.region false [⟨some 7, none, .rd .mov [.pv (.int .i64 (-1))]⟩] L41)
  (.seq (.seq (.region false [⟨some 8, none, .rd .mov [.pv (.int .i64 0)]⟩] L41)
   (.block 0
    (.loop
      (.seq (.seq (.region false [⟨some 9, none, .rd .mov [.tmp 8]⟩,
           ⟨some 10, none, .rd .mov [.tmp 0]⟩,
           ⟨some 11, none, .rd .lenL [.tmp 10]⟩,
           ⟨some 12, none, .rd (.bin .lss) [.tmp 9, .tmp 11]⟩] L41)
        (.cond (.tmp 12)
         (.skip)
         (.exit 0)))
       (.seq (.block 1
         (.seq (.region true [⟨some 15, none, .rd .mov [.tmp 0]⟩,
             ⟨some 16, none, .rd .mov [.tmp 8]⟩,
             ⟨some 17, none, .rd (.idxAddr (some 7)) [.tmp 15, .tmp 16]⟩,
             ⟨some 18, none, .rd (.fldAddr 1) [.tmp 17]⟩,
             ⟨some 19, none, .rd (.load none) [.tmp 18]⟩,
             ⟨some 20, none, .rd (.bin .eql) [.tmp 19, .pv (.int .i64 14)]⟩,
             ⟨some 21, none, .rd .mov [.tmp 20]⟩,
             ⟨some 22, some (21, true), .rd .mov [.tmp 0]⟩,
             ⟨some 23, some (21, true), .rd .mov [.tmp 8]⟩,
             ⟨some 24, some (21, true), .rd (.idxAddr (some 7)) [.tmp 22, .tmp 23]⟩,
             ⟨some 25, some (21, true), .rd (.fldAddr 4) [.tmp 24]⟩,
             ⟨some 26, some (21, true), .rd (.load none) [.tmp 25]⟩,
             ⟨some 27, some (21, true), .rd .mov [.tmp 1]⟩,
             ⟨some 28, some (21, true), .rd (.bin .eql) [.tmp 26, .tmp 27]⟩,
             ⟨some 29, none, .rd .pick [.tmp 21, .tmp 28, .pv (.bool false)]⟩,
             ⟨some 30, none, .rd .mov [.tmp 29]⟩,
             ⟨some 31, some (30, true), .rd .mov [.tmp 0]⟩,
             ⟨some 32, some (30, true), .rd .mov [.tmp 8]⟩,
             ⟨some 33, some (30, true), .rd (.idxAddr (some 7)) [.tmp 31, .tmp 32]⟩,
             ⟨some 34, some (30, true), .rd (.load (some 7)) [.tmp 33]⟩,
             ⟨some 35, some (30, true), .rd .mov [.tmp 2]⟩,
             ⟨some 36, some (30, true), .call (.pv (.fn 57 [] [])) [.tmp 34, .tmp 35]⟩,
             ⟨some 37, none, .rd .pick [.tmp 30, .tmp 36, .pv (.bool false)]⟩,
             ⟨some 38, none, .rd .mov [.tmp 37]⟩,
             ⟨some 39, some (38, true), .rd .mov [.tmp 7]⟩,
             ⟨some 40, some (38, true), .rd (.bin .lss) [.tmp 39, .pv (.int .i64 0)]⟩,
             ⟨some 41, some (38, true), .rd .mov [.tmp 40]⟩,
             ⟨some 42, some (41, false), .rd .mov [.tmp 0]⟩,
             ⟨some 43, some (41, false), .rd .mov [.tmp 8]⟩,
             ⟨some 44, some (41, false), .rd (.idxAddr (some 7)) [.tmp 42, .tmp 43]⟩,
             ⟨some 45, some (41, false), .rd (.fldAddr 0) [.tmp 44]⟩,
             ⟨some 46, some (41, false), .rd (.load none) [.tmp 45]⟩,
             ⟨some 47, some (41, false), .rd .mov [.tmp 0]⟩,
             ⟨some 48, some (41, false), .rd .mov [.tmp 7]⟩,
             ⟨some 49, some (41, false), .rd (.idxAddr (some 7)) [.tmp 47, .tmp 48]⟩,
             ⟨some 50, some (41, false), .rd (.fldAddr 0) [.tmp 49]⟩,
             ⟨some 51, some (41, false), .rd (.load none) [.tmp 50]⟩,
             ⟨some 52, some (41, false), .rd (.bin .gtr) [.tmp 46, .tmp 51]⟩,
             ⟨some 53, some (38, true), .rd .pick [.tmp 41, .pv (.bool true), .tmp 52]⟩,
             ⟨some 54, none, .rd .pick [.tmp 38, .tmp 53, .pv (.bool false)]⟩] L41)
          (.cond (.tmp 54)
           (.region false [⟨some 55, none, .rd .mov [.tmp 8]⟩,
              ⟨some 7, none, .rd .mov [.tmp 55]⟩] L41)
           (.skip))))
       (.region false [⟨some 13, none, .rd .mov [.tmp 8]⟩,
         ⟨some 14, none, .rd (.bin .add) [.tmp 13, .pv (.int .i64 1)]⟩,
         ⟨some 8, none, .rd .mov [.tmp 14]⟩] L41))))))
  (.seq (.region false [⟨some 56, none, .rd .mov [.tmp 7]⟩,
     ⟨some 6, none, .rd .mov [.tmp 56]⟩] L41)
  (.ret)))),
  [.tmp 6]⟩

-- wagebook/wagebookref11.Names
def L44 : List Nat := [0, 1, 2, 3, 5, 6]
def c44 : CF := ⟨13,
  .seq (.region false [⟨some 3, none, .eff (.box (some 1)) [.tmp 0]⟩,
     ⟨some 5, none, .eff (.box (some 2)) [.tmp 2]⟩,
     ⟨some 6, none, .rd .mov [.pv .nilSl]⟩] L44)
  (.seq (.region false [⟨some 7, none, .rd (.fldAddr 0) [.tmp 3]⟩,
     ⟨some 8, none, .rd (.load none) [.tmp 7]⟩,
     ⟨some 9, none, .rd .mov [.tmp 1]⟩,
     ⟨some 10, none, .rd (.look .str false (.agg [.nilSl])) [.tmp 8, .tmp 9]⟩,
     ⟨some 11, none, .rd (.load (some 2)) [.tmp 5]⟩,
     ⟨some 12, none, .call (.pv (.fn 30 [] [])) [.tmp 10, .tmp 11]⟩,
     ⟨some 6, none, .rd .mov [.tmp 12]⟩] L44)
  (.ret)),
  [.tmp 6]⟩

-- wagebook/wagebookref11.Days
def L32 : List Nat := [0, 1, 2, 3]
def c32 : CF := ⟨50,
  .seq (.region false [⟨some 0, none, .rd .mov [.pv (.bool false)]⟩] L32)
  (.seq (.region false [⟨some 4, none, .call (.pv (.fn 52 [] [])) [.pv (.int .i64 1), .pv (.str [115, 111, 99, 105, 97, 108, 46, 97, 103, 101, 46, 114, 97, 116, 101]), .pv (.int .i64 5)]⟩,
     ⟨some 5, none, .call (.pv (.fn 52 [] [])) [.pv (.int .i64 2), .pv (.str [115, 111, 99, 105, 97, 108, 46, 97, 103, 101, 46, 116, 111, 112]), .pv (.int .i64 6)]⟩,
     ⟨some 6, none, .call (.pv (.fn 52 [] [])) [.pv (.int .i64 3), .pv (.str [115, 111, 99, 105, 97, 108, 46, 115, 105, 99, 107, 46, 114, 97, 116, 101]), .pv (.int .i64 7)]⟩,
     ⟨some 7, none, .call (.pv (.fn 52 [] [])) [.pv (.int .i64 4), .pv (.str [116, 97, 120, 46, 102, 114, 101, 101]), .pv (.int .i64 8)]⟩,
     ⟨some 8, none, .eff (.lit (some 9) false) [.tmp 4, .tmp 5, .tmp 6, .tmp 7]⟩,
     ⟨some 9, none, .call (.pv (.fn 35 [] [])) [.tmp 8]⟩,
     ⟨some 1, none, .eff (.alloc (some 1) (.agg [.nilMap])) []⟩,
     ⟨none, none, .eff (.store (some 1)) [.tmp 1, .tmp 9]⟩] L32)
  (.seq (.region false [⟨some 11, none, .rd (.load (some 1)) [.tmp 1]⟩,
     ⟨some 12, none, .call (.pv (.fn 37 [] [])) [.tmp 11, .pv (.str [116, 97, 120, 46, 102, 114, 101, 101]), .pv (.int .i64 100)]⟩,
     ⟨some 10, none, .rd .mov [.tmp 12]⟩,
     ⟨some 13, none, .rd (.ext 0) [.tmp 10]⟩,
     ⟨some 14, none, .rd (.ext 1) [.tmp 10]⟩,
     ⟨some 2, none, .rd .mov [.tmp 13]⟩,
     ⟨some 3, none, .rd .mov [.tmp 14]⟩] L32)
  (.seq (.region false [⟨some 15, none, .rd .mov [.tmp 2]⟩,
     ⟨some 16, none, .rd (.bin .eql) [.tmp 15, .pv (.int .i64 8)]⟩,
     ⟨some 17, none, .rd .mov [.tmp 16]⟩,
     ⟨some 18, some (17, true), .rd .mov [.tmp 3]⟩,
     ⟨some 19, none, .rd .pick [.tmp 17, .tmp 18, .pv (.bool false)]⟩,
     ⟨some 20, none, .rd .mov [.tmp 19]⟩,
     ⟨some 21, some (20, true), .rd (.load (some 1)) [.tmp 1]⟩,
     ⟨some 22, some (20, true), .call (.pv (.fn 38 [] [])) [.tmp 21, .pv (.str [115, 111, 99, 105, 97, 108, 46]), .pv (.int .i64 0)]⟩,
     ⟨some 23, some (20, true), .eff (.lit none false) [.pv (.str [97, 103, 101]), .pv (.str [115, 105, 99, 107])]⟩,
     ⟨some 24, some (20, true), .call (.pv (.fn 39 [] [])) [.tmp 22, .tmp 23]⟩,
     ⟨some 25, none, .rd .pick [.tmp 20, .tmp 24, .pv (.bool false)]⟩,
     ⟨some 26, none, .rd .mov [.tmp 25]⟩,
     ⟨some 27, some (26, true), .rd (.load (some 1)) [.tmp 1]⟩,
     ⟨some 28, some (26, true), .call (.pv (.fn 38 [] [])) [.tmp 27, .pv (.str [115, 111, 99, 105, 97, 108, 46, 97, 103, 101, 46]), .pv (.int .i64 0)]⟩,
     ⟨some 29, some (26, true), .eff (.lit none false) [.pv (.str [114, 97, 116, 101]), .pv (.str [116, 111, 112])]⟩,
     ⟨some 30, some (26, true), .call (.pv (.fn 39 [] [])) [.tmp 28, .tmp 29]⟩,
     ⟨some 31, none, .rd .pick [.tmp 26, .tmp 30, .pv (.bool false)]⟩,
     ⟨some 32, none, .rd .mov [.tmp 31]⟩,
     ⟨some 33, some (32, true), .rd (.load (some 1)) [.tmp 1]⟩,
     ⟨some 34, some (32, true), .call (.pv (.fn 38 [] [])) [.tmp 33, .pv (.str [116, 97, 120, 46, 102, 114, 101, 101]), .pv (.int .i64 0)]⟩,
     ⟨some 35, some (32, true), .rd .lenL [.tmp 34]⟩,
     ⟨some 36, some (32, true), .rd (.bin .eql) [.tmp 35, .pv (.int .i64 0)]⟩,
     ⟨some 37, none, .rd .pick [.tmp 32, .tmp 36, .pv (.bool false)]⟩,
     ⟨some 38, none, .rd .mov [.tmp 37]⟩,
     ⟨some 39, some (38, true), .rd (.load (some 1)) [.tmp 1]⟩,
     ⟨some 40, some (38, true), .call (.pv (.fn 36 [] [])) [.tmp 39, .pv (.int .i64 0)]⟩,
     ⟨some 41, some (38, true), .rd .lenL [.tmp 40]⟩,
     ⟨some 42, some (38, true), .rd (.bin .eql) [.tmp 41, .pv (.int .i64 4)]⟩,
     ⟨some 43, none, .rd .pick [.tmp 38, .tmp 42, .pv (.bool false)]⟩,
     ⟨some 44, none, .rd .mov [.tmp 43]⟩,
     ⟨some 45, some (44, true), .rd (.load (some 1)) [.tmp 1]⟩,
     ⟨some 46, some (44, true), .call (.pv (.fn 36 [] [])) [.tmp 45, .pv (.int .i64 (-1))]⟩,
     ⟨some 47, some (44, true), .rd .lenL [.tmp 46]⟩,
     ⟨some 48, some (44, true), .rd (.bin .eql) [.tmp 47, .pv (.int .i64 0)]⟩,
     ⟨some 49, none, .rd .pick [.tmp 44, .tmp 48, .pv (.bool false)]⟩,
     ⟨some 0, none, .rd .mov [.tmp 49]⟩] L32)
  (.ret)))),
  [.tmp 0]⟩

-- wagebook/wagebooklaw11.rule
def L52 : List Nat := [0, 1, 2, 6]
def c52 : CF := ⟨12,
  .seq (.region false [⟨some 6, none, .eff (.alloc (some 9) (.agg [(.int .i64 0), (.int .u32 0), (.int .u32 0), (.int .i64 0), (.int .i64 0), (.int .i64 0), (.str []), (.int .i64 0), (.str [])])) []⟩] L52)
  (.seq (.region false [⟨some 7, none, .rd .mov [.tmp 0]⟩,
     ⟨some 8, none, .rd .mov [.tmp 1]⟩,
     ⟨some 9, none, .rd .mov [.tmp 2]⟩,
     ⟨some 10, none, .rd (.build [(.int .u32 0), (.int .u32 0), (.int .i64 0), (.int .i64 0), (.int .i64 0), (.str []), (.int .i64 0), (.str [])] [(2, 1), (5, 1), (6, 1)]) [.pv (.int .i64 14), .tmp 8, .tmp 9]⟩,
     ⟨some 11, none, .rd (.build [(.int .i64 0), (.int .u32 0), (.int .u32 0), (.int .i64 0), (.int .i64 0), (.int .i64 0), (.str []), (.int .i64 0), (.str [])] [(0, 1), (1, 8)]) [.tmp 7, .tmp 10]⟩,
     ⟨none, none, .eff (.store (some 9)) [.tmp 6, .tmp 11]⟩] L52)
  (.ret)),
  [.cell 6 (some 9)]⟩

-- strings.CutPrefix
def L54 : List Nat := [0, 1, 4, 5]
def c54 : CF := ⟨11,
  .seq (.region false [⟨some 4, none, .rd .mov [.pv (.str [])]⟩,
     ⟨some 5, none, .rd .mov [.pv (.bool false)]⟩] L54)
  (.seq (.region false [⟨some 6, none, .rd .mov [.tmp 0]⟩,
     ⟨some 7, none, .rd .mov [.tmp 1]⟩,
     ⟨some 8, none, .call (.pv (.fn 64 [] [])) [.tmp 6, .tmp 7]⟩,
     ⟨some 9, none, .rd (.ext 0) [.tmp 8]⟩,
     ⟨some 10, none, .rd (.ext 1) [.tmp 8]⟩,
     ⟨some 4, none, .rd .mov [.tmp 9]⟩,
     ⟨some 5, none, .rd .mov [.tmp 10]⟩] L54)
  (.ret)),
  [.tmp 4, .tmp 5]⟩

-- strings.Cut
def L55 : List Nat := [0, 1, 4, 5, 6]
def c55 : CF := ⟨13,
  .seq (.region false [⟨some 4, none, .rd .mov [.pv (.str [])]⟩,
     ⟨some 5, none, .rd .mov [.pv (.str [])]⟩,
     ⟨some 6, none, .rd .mov [.pv (.bool false)]⟩] L55)
  (.seq (.region false [⟨some 7, none, .rd .mov [.tmp 0]⟩,
     ⟨some 8, none, .rd .mov [.tmp 1]⟩,
     ⟨some 9, none, .call (.pv (.fn 65 [] [])) [.tmp 7, .tmp 8]⟩,
     ⟨some 10, none, .rd (.ext 0) [.tmp 9]⟩,
     ⟨some 11, none, .rd (.ext 1) [.tmp 9]⟩,
     ⟨some 12, none, .rd (.ext 2) [.tmp 9]⟩,
     ⟨some 4, none, .rd .mov [.tmp 10]⟩,
     ⟨some 5, none, .rd .mov [.tmp 11]⟩,
     ⟨some 6, none, .rd .mov [.tmp 12]⟩] L55)
  (.ret)),
  [.tmp 4, .tmp 5, .tmp 6]⟩

-- wagebook/wagebookref11.Covers
def L57 : List Nat := [0, 1, 2, 4]
def c57 : CF := ⟨20,
  .seq (.region false [⟨some 2, none, .eff (.box (some 7)) [.tmp 0]⟩,
     ⟨some 4, none, .rd .mov [.pv (.bool false)]⟩] L57)
  (.seq (.region false [⟨some 5, none, .rd (.fldAddr 2) [.tmp 2]⟩,
     ⟨some 6, none, .rd (.load none) [.tmp 5]⟩,
     ⟨some 7, none, .rd .mov [.tmp 1]⟩,
     ⟨some 8, none, .rd (.bin .leq) [.tmp 6, .tmp 7]⟩,
     ⟨some 9, none, .rd .mov [.tmp 8]⟩,
     ⟨some 10, some (9, true), .rd (.fldAddr 3) [.tmp 2]⟩,
     ⟨some 11, some (9, true), .rd (.load none) [.tmp 10]⟩,
     ⟨some 12, some (9, true), .rd (.bin .eql) [.tmp 11, .pv (.int .i64 0)]⟩,
     ⟨some 13, some (9, true), .rd .mov [.tmp 12]⟩,
     ⟨some 14, some (13, false), .rd (.fldAddr 3) [.tmp 2]⟩,
     ⟨some 15, some (13, false), .rd (.load none) [.tmp 14]⟩,
     ⟨some 16, some (13, false), .rd .mov [.tmp 1]⟩,
     ⟨some 17, some (13, false), .rd (.bin .gtr) [.tmp 15, .tmp 16]⟩,
     ⟨some 18, some (9, true), .rd .pick [.tmp 13, .pv (.bool true), .tmp 17]⟩,
     ⟨some 19, none, .rd .pick [.tmp 9, .tmp 18, .pv (.bool false)]⟩,
     ⟨some 4, none, .rd .mov [.tmp 19]⟩] L57)
  (.ret)),
  [.tmp 4]⟩

-- wagebook/wagebookref11.put
def L64 : List Nat := [0, 1, 4, 5, 9]
def c64 : CF := ⟨15,
  .seq (.region false [⟨some 4, none, .rd .mov [.pv (.str [])]⟩,
     ⟨some 5, none, .rd .mov [.pv (.bool false)]⟩] L64)
  (.seq (.seq (.region false [⟨some 6, none, .rd .mov [.tmp 0]⟩,
      ⟨some 7, none, .rd .mov [.tmp 1]⟩,
      ⟨some 8, none, .call (.pv (.fn 79 [] [])) [.tmp 6, .tmp 7]⟩,
      ⟨some 9, none, .rd (.un .not) [.tmp 8]⟩] L64)
   (.cond (.tmp 9)
    (.seq (.region false [⟨some 10, none, .rd .mov [.tmp 0]⟩,
        ⟨some 4, none, .rd .mov [.tmp 10]⟩,
        ⟨some 5, none, .rd .mov [.pv (.bool false)]⟩] L64)
     (.ret))
    (.skip)))
  (.seq (.region false [⟨some 11, none, .rd .mov [.tmp 0]⟩,
     ⟨some 12, none, .rd .mov [.tmp 1]⟩,
     ⟨some 13, none, .rd .lenS [.tmp 12]⟩,
     ⟨some 14, none, .rd (.slcS true false) [.tmp 11, .tmp 13]⟩,
     ⟨some 4, none, .rd .mov [.tmp 14]⟩,
     ⟨some 5, none, .rd .mov [.pv (.bool true)]⟩] L64)
  (.ret))),
  [.tmp 4, .tmp 5]⟩

-- internal/stringslite.Cut
def L65 : List Nat := [0, 1, 4, 5, 6, 7, 12]
def c65 : CF := ⟨23,
  .seq (.region false [⟨some 4, none, .rd .mov [.pv (.str [])]⟩,
     ⟨some 5, none, .rd .mov [.pv (.str [])]⟩,
     ⟨some 6, none, .rd .mov [.pv (.bool false)]⟩] L65)
  (.seq (.seq (.region false [⟨some 8, none, .rd .mov [.tmp 0]⟩,
      ⟨some 9, none, .rd .mov [.tmp 1]⟩,
      ⟨some 10, none, .call (.pv (.fn 80 [] [])) [.tmp 8, .tmp 9]⟩,
      ⟨some 7, none, .rd .mov [.tmp 10]⟩] L65)
   (.seq (.region false [⟨some 11, none, .rd .mov [.tmp 7]⟩,
      ⟨some 12, none, .rd (.bin .geq) [.tmp 11, .pv (.int .i64 0)]⟩] L65)
   (.cond (.tmp 12)
    (.seq (.region true [⟨some 13, none, .rd .mov [.tmp 0]⟩,
        ⟨some 14, none, .rd .mov [.tmp 7]⟩,
        ⟨some 15, none, .rd (.slcS false true) [.tmp 13, .tmp 14]⟩,
        ⟨some 16, none, .rd .mov [.tmp 0]⟩,
        ⟨some 17, none, .rd .mov [.tmp 7]⟩,
        ⟨some 18, none, .rd .mov [.tmp 1]⟩,
        ⟨some 19, none, .rd .lenS [.tmp 18]⟩,
        ⟨some 20, none, .rd (.bin .add) [.tmp 17, .tmp 19]⟩,
        ⟨some 21, none, .rd (.slcS true false) [.tmp 16, .tmp 20]⟩,
        ⟨some 4, none, .rd .mov [.tmp 15]⟩,
        ⟨some 5, none, .rd .mov [.tmp 21]⟩,
        ⟨some 6, none, .rd .mov [.pv (.bool true)]⟩] L65)
     (.ret))
    (.skip))))
  (.seq (.region false [⟨some 22, none, .rd .mov [.tmp 0]⟩,
     ⟨some 4, none, .rd .mov [.tmp 22]⟩,
     ⟨some 5, none, .rd .mov [.pv (.str [])]⟩,
     ⟨some 6, none, .rd .mov [.pv (.bool false)]⟩] L65)
  (.ret))),
  [.tmp 4, .tmp 5, .tmp 6]⟩

-- internal/stringslite.HasPrefix
def L79 : List Nat := [0, 1, 4]
def c79 : CF := ⟨18,
  .seq (.region false [⟨some 4, none, .rd .mov [.pv (.bool false)]⟩] L79)
  (.seq (.region false [⟨some 5, none, .rd .mov [.tmp 0]⟩,
     ⟨some 6, none, .rd .lenS [.tmp 5]⟩,
     ⟨some 7, none, .rd .mov [.tmp 1]⟩,
     ⟨some 8, none, .rd .lenS [.tmp 7]⟩,
     ⟨some 9, none, .rd (.bin .geq) [.tmp 6, .tmp 8]⟩,
     ⟨some 10, none, .rd .mov [.tmp 9]⟩,
     ⟨some 11, some (10, true), .rd .mov [.tmp 0]⟩,
     ⟨some 12, some (10, true), .rd .mov [.tmp 1]⟩,
     ⟨some 13, some (10, true), .rd .lenS [.tmp 12]⟩,
     ⟨some 14, some (10, true), .rd (.slcS false true) [.tmp 11, .tmp 13]⟩,
     ⟨some 15, some (10, true), .rd .mov [.tmp 1]⟩,
     ⟨some 16, some (10, true), .rd (.bin .eql) [.tmp 14, .tmp 15]⟩,
     ⟨some 17, none, .rd .pick [.tmp 10, .tmp 16, .pv (.bool false)]⟩,
     ⟨some 4, none, .rd .mov [.tmp 17]⟩] L79)
  (.ret)),
  [.tmp 4]⟩
theorem k34 : compileF Try.prog [888888] L34 Try.f34 = some c34 := by kernel_rfl
theorem k33 : compileF Try.prog [] L33 Try.f33 = some c33 := by kernel_rfl
theorem k36 : compileF Try.prog [] L36 Try.f36 = some c36 := by kernel_rfl
theorem k37 : compileF Try.prog [] L37 Try.f37 = some c37 := by kernel_rfl
theorem k38 : compileF Try.prog [] L38 Try.f38 = some c38 := by kernel_rfl
theorem k39 : compileF Try.prog [] L39 Try.f39 = some c39 := by kernel_rfl
theorem k40 : compileF Try.prog [] L40 Try.f40 = some c40 := by kernel_rfl
theorem k41 : compileF Try.prog [888888] L41 Try.f41 = some c41 := by kernel_rfl
theorem k44 : compileF Try.prog [] L44 Try.f44 = some c44 := by kernel_rfl
theorem k32 : compileF Try.prog [] L32 Try.f32 = some c32 := by kernel_rfl
theorem k52 : compileF Try.prog [] L52 Try.f52 = some c52 := by kernel_rfl
theorem k54 : compileF Try.prog [] L54 Try.f54 = some c54 := by kernel_rfl
theorem k55 : compileF Try.prog [] L55 Try.f55 = some c55 := by kernel_rfl
theorem k57 : compileF Try.prog [] L57 Try.f57 = some c57 := by kernel_rfl
theorem k64 : compileF Try.prog [] L64 Try.f64 = some c64 := by kernel_rfl
theorem k65 : compileF Try.prog [] L65 Try.f65 = some c65 := by kernel_rfl
theorem k79 : compileF Try.prog [] L79 Try.f79 = some c79 := by kernel_rfl
end Go.Proofs.Ytjcoenideicmbaa

