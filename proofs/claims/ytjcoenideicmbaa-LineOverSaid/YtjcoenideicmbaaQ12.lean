import Derived.Test.YtjcoenideicmbaaProg
import Derived.KernelRfl
import Derived.Test.YtjcoenideicmbaaP3
import Derived.Test.YtjcoenideicmbaaQ11
import Derived.Test.YtjcoenideicmbaaQ9
namespace Go.Proofs.Ytjcoenideicmbaa
open PG Go.Proofs
-- wagebook/wagebooklaw10.LineOver
def L3 : List Nat := [0, 1, 2, 6, 7, 8, 9, 10, 13, 31, 35, 66]
def c3 : CF := ⟨68,
  .seq (.region false [⟨some 6, none, .rd .mov [.pv (.bool false)]⟩] L3)
  (.seq (.seq (.region false [⟨some 11, none, .rd .mov [.tmp 0]⟩,
      ⟨some 12, none, .rd .lenL [.tmp 11]⟩,
      ⟨some 13, none, .rd (.bin .gtr) [.tmp 12, .pv (.int .i64 30)]⟩] L3)
   (.cond (.tmp 13)
    (.seq (.region false [⟨some 14, none, .call (.pv (.fn 17 [] [])) []⟩,
        ⟨some 6, none, .rd .mov [.tmp 14]⟩] L3)
     (.ret))
    (.skip)))
  (.seq (.region false [⟨some 15, none, .rd .mov [.tmp 1]⟩,
     ⟨some 16, none, .rd .mov [.tmp 2]⟩,
     ⟨some 17, none, .call (.pv (.fn 18 [] [])) [.tmp 15, .tmp 16]⟩,
     ⟨some 7, none, .eff (.alloc (some 2) (.agg [(.int .i64 0), (.int .i64 0)])) []⟩,
     ⟨none, none, .eff (.store (some 2)) [.tmp 7, .tmp 17]⟩] L3)
  (.seq (.regionA (.alt [⟨some 18, none, .rd .mov [.tmp 0]⟩]
     (.alt [⟨some 19, none, .call (.pv (.fn 20 [] [])) [.tmp 18]⟩]
      (.alt [⟨some 20, none, .call (.pv (.fn 19 [] [])) [.tmp 19]⟩,
        ⟨some 21, none, .rd (.load (some 2)) [.tmp 7]⟩,
        ⟨some 22, none, .call (.pv (.fn 21 [] [])) [.tmp 20, .tmp 21]⟩,
        ⟨some 8, none, .rd .mov [.tmp 22]⟩]
       .done
       (.alt [⟨some 21, none, .rd (.load (some 2)) [.tmp 7]⟩,
         ⟨some 20, none, .call (.pv (.fn 19 [] [])) [.tmp 19]⟩,
         ⟨some 22, none, .call (.pv (.fn 21 [] [])) [.tmp 20, .tmp 21]⟩,
         ⟨some 8, none, .rd .mov [.tmp 22]⟩]
        .done
        .stop))
      (.alt [⟨some 21, none, .rd (.load (some 2)) [.tmp 7]⟩,
        ⟨some 19, none, .call (.pv (.fn 20 [] [])) [.tmp 18]⟩,
        ⟨some 20, none, .call (.pv (.fn 19 [] [])) [.tmp 19]⟩,
        ⟨some 22, none, .call (.pv (.fn 21 [] [])) [.tmp 20, .tmp 21]⟩,
        ⟨some 8, none, .rd .mov [.tmp 22]⟩]
       .done
       .stop))
     .stop) L3)
  (.seq (.regionA (.alt [⟨some 23, none, .rd .mov [.tmp 0]⟩]
     (.alt [⟨some 24, none, .call (.pv (.fn 23 [] [])) [.tmp 23]⟩,
       ⟨some 25, none, .rd (.load (some 2)) [.tmp 7]⟩,
       ⟨some 26, none, .call (.pv (.fn 22 [] [])) [.tmp 24, .tmp 25]⟩,
       ⟨some 9, none, .rd .mov [.tmp 26]⟩]
      .done
      (.alt [⟨some 25, none, .rd (.load (some 2)) [.tmp 7]⟩,
        ⟨some 24, none, .call (.pv (.fn 23 [] [])) [.tmp 23]⟩,
        ⟨some 26, none, .call (.pv (.fn 22 [] [])) [.tmp 24, .tmp 25]⟩,
        ⟨some 9, none, .rd .mov [.tmp 26]⟩]
       .done
       .stop))
     .stop) L3)
  (.seq (.seq (.region false [⟨some 27, none, .rd .mov [.tmp 8]⟩,
      ⟨some 28, none, .rd .lenL [.tmp 27]⟩,
      ⟨some 29, none, .rd .mov [.tmp 9]⟩,
      ⟨some 30, none, .rd .lenL [.tmp 29]⟩,
      ⟨some 31, none, .rd (.bin .neq) [.tmp 28, .tmp 30]⟩] L3)
   (.cond (.tmp 31)
    (.seq (.region false [⟨some 6, none, .rd .mov [.pv (.bool false)]⟩] L3)
     (.ret))
    (.skip)))
  (.seq (.seq (.region false [⟨some 10, none, .rd .mov [.pv (.int .i64 0)]⟩] L3)
   (.block 0
    (.loop
      (.seq (.seq (.region false [⟨some 32, none, .rd .mov [.tmp 10]⟩,
           ⟨some 33, none, .rd .mov [.tmp 8]⟩,
           ⟨some 34, none, .rd .lenL [.tmp 33]⟩,
           ⟨some 35, none, .rd (.bin .lss) [.tmp 32, .tmp 34]⟩] L3)
        (.cond (.tmp 35)
         (.skip)
         (.exit 0)))
       (.seq (.block 1
         (.seq (.regionA (.alt [⟨some 38, none, .rd .mov [.tmp 8]⟩,
              ⟨some 39, none, .rd .mov [.tmp 10]⟩,
              ⟨some 40, none, .rd (.idxAddr (some 5)) [.tmp 38, .tmp 39]⟩,
              ⟨some 41, none, .rd (.fldAddr 0) [.tmp 40]⟩,
              ⟨some 43, none, .rd .mov [.tmp 9]⟩,
              ⟨some 44, none, .rd .mov [.tmp 10]⟩,
              ⟨some 45, none, .rd (.idxAddr (some 3)) [.tmp 43, .tmp 44]⟩,
              ⟨some 46, none, .rd (.fldAddr 0) [.tmp 45]⟩]
             (.alt [⟨some 42, none, .rd (.load (some 2)) [.tmp 41]⟩,
               ⟨some 47, none, .rd (.load (some 2)) [.tmp 46]⟩,
               ⟨some 48, none, .rd (.eqA true [0, 0]) [.tmp 42, .tmp 47]⟩,
               ⟨some 49, none, .rd .mov [.tmp 48]⟩,
               ⟨some 50, some (49, false), .rd .mov [.tmp 8]⟩,
               ⟨some 51, some (49, false), .rd .mov [.tmp 10]⟩,
               ⟨some 52, some (49, false), .rd (.idxAddr (some 5)) [.tmp 50, .tmp 51]⟩,
               ⟨some 53, some (49, false), .rd (.fldAddr 2) [.tmp 52]⟩,
               ⟨some 55, some (49, false), .rd .mov [.tmp 0]⟩,
               ⟨some 57, some (49, false), .rd .mov [.tmp 9]⟩,
               ⟨some 58, some (49, false), .rd .mov [.tmp 10]⟩,
               ⟨some 59, some (49, false), .rd (.idxAddr (some 3)) [.tmp 57, .tmp 58]⟩,
               ⟨some 60, some (49, false), .rd (.fldAddr 2) [.tmp 59]⟩]
              (.alt [⟨some 54, some (49, false), .rd (.load (some 3)) [.tmp 53]⟩]
               (.alt [⟨some 56, some (49, false), .call (.pv (.fn 23 [] [])) [.tmp 55]⟩,
                 ⟨some 61, some (49, false), .rd (.load none) [.tmp 60]⟩,
                 ⟨some 62, some (49, false), .rd (.idxAddr (some 5)) [.tmp 56, .tmp 61]⟩,
                 ⟨some 63, some (49, false), .rd (.load (some 5)) [.tmp 62]⟩,
                 ⟨some 64, some (49, false), .call (.pv (.fn 24 [] [])) [.tmp 63]⟩,
                 ⟨some 65, some (49, false), .rd (.eqA true [0, 0, 2]) [.tmp 54, .tmp 64]⟩,
                 ⟨some 66, none, .rd .pick [.tmp 49, .pv (.bool true), .tmp 65]⟩]
                .done
                (.alt [⟨some 61, some (49, false), .rd (.load none) [.tmp 60]⟩,
                  ⟨some 56, some (49, false), .call (.pv (.fn 23 [] [])) [.tmp 55]⟩,
                  ⟨some 62, some (49, false), .rd (.idxAddr (some 5)) [.tmp 56, .tmp 61]⟩,
                  ⟨some 63, some (49, false), .rd (.load (some 5)) [.tmp 62]⟩,
                  ⟨some 64, some (49, false), .call (.pv (.fn 24 [] [])) [.tmp 63]⟩,
                  ⟨some 65, some (49, false), .rd (.eqA true [0, 0, 2]) [.tmp 54, .tmp 64]⟩,
                  ⟨some 66, none, .rd .pick [.tmp 49, .pv (.bool true), .tmp 65]⟩]
                 .done
                 .stop))
               (.alt [⟨some 56, some (49, false), .call (.pv (.fn 23 [] [])) [.tmp 55]⟩]
                (.alt [⟨some 54, some (49, false), .rd (.load (some 3)) [.tmp 53]⟩,
                  ⟨some 61, some (49, false), .rd (.load none) [.tmp 60]⟩,
                  ⟨some 62, some (49, false), .rd (.idxAddr (some 5)) [.tmp 56, .tmp 61]⟩,
                  ⟨some 63, some (49, false), .rd (.load (some 5)) [.tmp 62]⟩,
                  ⟨some 64, some (49, false), .call (.pv (.fn 24 [] [])) [.tmp 63]⟩,
                  ⟨some 65, some (49, false), .rd (.eqA true [0, 0, 2]) [.tmp 54, .tmp 64]⟩,
                  ⟨some 66, none, .rd .pick [.tmp 49, .pv (.bool true), .tmp 65]⟩]
                 .done
                 (.alt [⟨some 61, some (49, false), .rd (.load none) [.tmp 60]⟩,
                   ⟨some 62, some (49, false), .rd (.idxAddr (some 5)) [.tmp 56, .tmp 61]⟩]
                  (.alt [⟨some 54, some (49, false), .rd (.load (some 3)) [.tmp 53]⟩,
                    ⟨some 63, some (49, false), .rd (.load (some 5)) [.tmp 62]⟩,
                    ⟨some 64, some (49, false), .call (.pv (.fn 24 [] [])) [.tmp 63]⟩,
                    ⟨some 65, some (49, false), .rd (.eqA true [0, 0, 2]) [.tmp 54, .tmp 64]⟩,
                    ⟨some 66, none, .rd .pick [.tmp 49, .pv (.bool true), .tmp 65]⟩]
                   .done
                   (.alt [⟨some 63, some (49, false), .rd (.load (some 5)) [.tmp 62]⟩]
                    (.alt [⟨some 54, some (49, false), .rd (.load (some 3)) [.tmp 53]⟩,
                      ⟨some 64, some (49, false), .call (.pv (.fn 24 [] [])) [.tmp 63]⟩,
                      ⟨some 65, some (49, false), .rd (.eqA true [0, 0, 2]) [.tmp 54, .tmp 64]⟩,
                      ⟨some 66, none, .rd .pick [.tmp 49, .pv (.bool true), .tmp 65]⟩]
                     .done
                     (.alt [⟨some 64, some (49, false), .call (.pv (.fn 24 [] [])) [.tmp 63]⟩,
                       ⟨some 54, some (49, false), .rd (.load (some 3)) [.tmp 53]⟩,
                       ⟨some 65, some (49, false), .rd (.eqA true [0, 0, 2]) [.tmp 54, .tmp 64]⟩,
                       ⟨some 66, none, .rd .pick [.tmp 49, .pv (.bool true), .tmp 65]⟩]
                      .done
                      .stop))
                    .stop))
                  .stop))
                (.alt [⟨some 61, some (49, false), .rd (.load none) [.tmp 60]⟩]
                 (.alt [⟨some 54, some (49, false), .rd (.load (some 3)) [.tmp 53]⟩,
                   ⟨some 56, some (49, false), .call (.pv (.fn 23 [] [])) [.tmp 55]⟩,
                   ⟨some 62, some (49, false), .rd (.idxAddr (some 5)) [.tmp 56, .tmp 61]⟩,
                   ⟨some 63, some (49, false), .rd (.load (some 5)) [.tmp 62]⟩,
                   ⟨some 64, some (49, false), .call (.pv (.fn 24 [] [])) [.tmp 63]⟩,
                   ⟨some 65, some (49, false), .rd (.eqA true [0, 0, 2]) [.tmp 54, .tmp 64]⟩,
                   ⟨some 66, none, .rd .pick [.tmp 49, .pv (.bool true), .tmp 65]⟩]
                  .done
                  (.alt [⟨some 56, some (49, false), .call (.pv (.fn 23 [] [])) [.tmp 55]⟩,
                    ⟨some 62, some (49, false), .rd (.idxAddr (some 5)) [.tmp 56, .tmp 61]⟩]
                   (.alt [⟨some 54, some (49, false), .rd (.load (some 3)) [.tmp 53]⟩,
                     ⟨some 63, some (49, false), .rd (.load (some 5)) [.tmp 62]⟩,
                     ⟨some 64, some (49, false), .call (.pv (.fn 24 [] [])) [.tmp 63]⟩,
                     ⟨some 65, some (49, false), .rd (.eqA true [0, 0, 2]) [.tmp 54, .tmp 64]⟩,
                     ⟨some 66, none, .rd .pick [.tmp 49, .pv (.bool true), .tmp 65]⟩]
                    .done
                    (.alt [⟨some 63, some (49, false), .rd (.load (some 5)) [.tmp 62]⟩]
                     (.alt [⟨some 54, some (49, false), .rd (.load (some 3)) [.tmp 53]⟩,
                       ⟨some 64, some (49, false), .call (.pv (.fn 24 [] [])) [.tmp 63]⟩,
                       ⟨some 65, some (49, false), .rd (.eqA true [0, 0, 2]) [.tmp 54, .tmp 64]⟩,
                       ⟨some 66, none, .rd .pick [.tmp 49, .pv (.bool true), .tmp 65]⟩]
                      .done
                      (.alt [⟨some 64, some (49, false), .call (.pv (.fn 24 [] [])) [.tmp 63]⟩,
                        ⟨some 54, some (49, false), .rd (.load (some 3)) [.tmp 53]⟩,
                        ⟨some 65, some (49, false), .rd (.eqA true [0, 0, 2]) [.tmp 54, .tmp 64]⟩,
                        ⟨some 66, none, .rd .pick [.tmp 49, .pv (.bool true), .tmp 65]⟩]
                       .done
                       .stop))
                     .stop))
                   .stop))
                 .stop)))
              (.alt [⟨some 47, none, .rd (.load (some 2)) [.tmp 46]⟩,
                ⟨some 42, none, .rd (.load (some 2)) [.tmp 41]⟩,
                ⟨some 48, none, .rd (.eqA true [0, 0]) [.tmp 42, .tmp 47]⟩,
                ⟨some 49, none, .rd .mov [.tmp 48]⟩,
                ⟨some 50, some (49, false), .rd .mov [.tmp 8]⟩,
                ⟨some 51, some (49, false), .rd .mov [.tmp 10]⟩,
                ⟨some 52, some (49, false), .rd (.idxAddr (some 5)) [.tmp 50, .tmp 51]⟩,
                ⟨some 53, some (49, false), .rd (.fldAddr 2) [.tmp 52]⟩,
                ⟨some 55, some (49, false), .rd .mov [.tmp 0]⟩,
                ⟨some 57, some (49, false), .rd .mov [.tmp 9]⟩,
                ⟨some 58, some (49, false), .rd .mov [.tmp 10]⟩,
                ⟨some 59, some (49, false), .rd (.idxAddr (some 3)) [.tmp 57, .tmp 58]⟩,
                ⟨some 60, some (49, false), .rd (.fldAddr 2) [.tmp 59]⟩]
               (.alt [⟨some 54, some (49, false), .rd (.load (some 3)) [.tmp 53]⟩]
                (.alt [⟨some 56, some (49, false), .call (.pv (.fn 23 [] [])) [.tmp 55]⟩,
                  ⟨some 61, some (49, false), .rd (.load none) [.tmp 60]⟩,
                  ⟨some 62, some (49, false), .rd (.idxAddr (some 5)) [.tmp 56, .tmp 61]⟩,
                  ⟨some 63, some (49, false), .rd (.load (some 5)) [.tmp 62]⟩,
                  ⟨some 64, some (49, false), .call (.pv (.fn 24 [] [])) [.tmp 63]⟩,
                  ⟨some 65, some (49, false), .rd (.eqA true [0, 0, 2]) [.tmp 54, .tmp 64]⟩,
                  ⟨some 66, none, .rd .pick [.tmp 49, .pv (.bool true), .tmp 65]⟩]
                 .done
                 (.alt [⟨some 61, some (49, false), .rd (.load none) [.tmp 60]⟩,
                   ⟨some 56, some (49, false), .call (.pv (.fn 23 [] [])) [.tmp 55]⟩,
                   ⟨some 62, some (49, false), .rd (.idxAddr (some 5)) [.tmp 56, .tmp 61]⟩,
                   ⟨some 63, some (49, false), .rd (.load (some 5)) [.tmp 62]⟩,
                   ⟨some 64, some (49, false), .call (.pv (.fn 24 [] [])) [.tmp 63]⟩,
                   ⟨some 65, some (49, false), .rd (.eqA true [0, 0, 2]) [.tmp 54, .tmp 64]⟩,
                   ⟨some 66, none, .rd .pick [.tmp 49, .pv (.bool true), .tmp 65]⟩]
                  .done
                  .stop))
                (.alt [⟨some 56, some (49, false), .call (.pv (.fn 23 [] [])) [.tmp 55]⟩]
                 (.alt [⟨some 54, some (49, false), .rd (.load (some 3)) [.tmp 53]⟩,
                   ⟨some 61, some (49, false), .rd (.load none) [.tmp 60]⟩,
                   ⟨some 62, some (49, false), .rd (.idxAddr (some 5)) [.tmp 56, .tmp 61]⟩,
                   ⟨some 63, some (49, false), .rd (.load (some 5)) [.tmp 62]⟩,
                   ⟨some 64, some (49, false), .call (.pv (.fn 24 [] [])) [.tmp 63]⟩,
                   ⟨some 65, some (49, false), .rd (.eqA true [0, 0, 2]) [.tmp 54, .tmp 64]⟩,
                   ⟨some 66, none, .rd .pick [.tmp 49, .pv (.bool true), .tmp 65]⟩]
                  .done
                  (.alt [⟨some 61, some (49, false), .rd (.load none) [.tmp 60]⟩,
                    ⟨some 62, some (49, false), .rd (.idxAddr (some 5)) [.tmp 56, .tmp 61]⟩]
                   (.alt [⟨some 54, some (49, false), .rd (.load (some 3)) [.tmp 53]⟩,
                     ⟨some 63, some (49, false), .rd (.load (some 5)) [.tmp 62]⟩,
                     ⟨some 64, some (49, false), .call (.pv (.fn 24 [] [])) [.tmp 63]⟩,
                     ⟨some 65, some (49, false), .rd (.eqA true [0, 0, 2]) [.tmp 54, .tmp 64]⟩,
                     ⟨some 66, none, .rd .pick [.tmp 49, .pv (.bool true), .tmp 65]⟩]
                    .done
                    (.alt [⟨some 63, some (49, false), .rd (.load (some 5)) [.tmp 62]⟩]
                     (.alt [⟨some 54, some (49, false), .rd (.load (some 3)) [.tmp 53]⟩,
                       ⟨some 64, some (49, false), .call (.pv (.fn 24 [] [])) [.tmp 63]⟩,
                       ⟨some 65, some (49, false), .rd (.eqA true [0, 0, 2]) [.tmp 54, .tmp 64]⟩,
                       ⟨some 66, none, .rd .pick [.tmp 49, .pv (.bool true), .tmp 65]⟩]
                      .done
                      (.alt [⟨some 64, some (49, false), .call (.pv (.fn 24 [] [])) [.tmp 63]⟩,
                        ⟨some 54, some (49, false), .rd (.load (some 3)) [.tmp 53]⟩,
                        ⟨some 65, some (49, false), .rd (.eqA true [0, 0, 2]) [.tmp 54, .tmp 64]⟩,
                        ⟨some 66, none, .rd .pick [.tmp 49, .pv (.bool true), .tmp 65]⟩]
                       .done
                       .stop))
                     .stop))
                   .stop))
                 (.alt [⟨some 61, some (49, false), .rd (.load none) [.tmp 60]⟩]
                  (.alt [⟨some 54, some (49, false), .rd (.load (some 3)) [.tmp 53]⟩,
                    ⟨some 56, some (49, false), .call (.pv (.fn 23 [] [])) [.tmp 55]⟩,
                    ⟨some 62, some (49, false), .rd (.idxAddr (some 5)) [.tmp 56, .tmp 61]⟩,
                    ⟨some 63, some (49, false), .rd (.load (some 5)) [.tmp 62]⟩,
                    ⟨some 64, some (49, false), .call (.pv (.fn 24 [] [])) [.tmp 63]⟩,
                    ⟨some 65, some (49, false), .rd (.eqA true [0, 0, 2]) [.tmp 54, .tmp 64]⟩,
                    ⟨some 66, none, .rd .pick [.tmp 49, .pv (.bool true), .tmp 65]⟩]
                   .done
                   (.alt [⟨some 56, some (49, false), .call (.pv (.fn 23 [] [])) [.tmp 55]⟩,
                     ⟨some 62, some (49, false), .rd (.idxAddr (some 5)) [.tmp 56, .tmp 61]⟩]
                    (.alt [⟨some 54, some (49, false), .rd (.load (some 3)) [.tmp 53]⟩,
                      ⟨some 63, some (49, false), .rd (.load (some 5)) [.tmp 62]⟩,
                      ⟨some 64, some (49, false), .call (.pv (.fn 24 [] [])) [.tmp 63]⟩,
                      ⟨some 65, some (49, false), .rd (.eqA true [0, 0, 2]) [.tmp 54, .tmp 64]⟩,
                      ⟨some 66, none, .rd .pick [.tmp 49, .pv (.bool true), .tmp 65]⟩]
                     .done
                     (.alt [⟨some 63, some (49, false), .rd (.load (some 5)) [.tmp 62]⟩]
                      (.alt [⟨some 54, some (49, false), .rd (.load (some 3)) [.tmp 53]⟩,
                        ⟨some 64, some (49, false), .call (.pv (.fn 24 [] [])) [.tmp 63]⟩,
                        ⟨some 65, some (49, false), .rd (.eqA true [0, 0, 2]) [.tmp 54, .tmp 64]⟩,
                        ⟨some 66, none, .rd .pick [.tmp 49, .pv (.bool true), .tmp 65]⟩]
                       .done
                       (.alt [⟨some 64, some (49, false), .call (.pv (.fn 24 [] [])) [.tmp 63]⟩,
                         ⟨some 54, some (49, false), .rd (.load (some 3)) [.tmp 53]⟩,
                         ⟨some 65, some (49, false), .rd (.eqA true [0, 0, 2]) [.tmp 54, .tmp 64]⟩,
                         ⟨some 66, none, .rd .pick [.tmp 49, .pv (.bool true), .tmp 65]⟩]
                        .done
                        .stop))
                      .stop))
                    .stop))
                  .stop)))
               .stop))
             .stop) L3)
          (.cond (.tmp 66)
           (.seq (.region false [⟨some 6, none, .rd .mov [.pv (.bool false)]⟩] L3)
            (.ret))
           (.skip))))
       (.region false [⟨some 36, none, .rd .mov [.tmp 10]⟩,
         ⟨some 37, none, .rd (.bin .add) [.tmp 36, .pv (.int .i64 1)]⟩,
         ⟨some 10, none, .rd .mov [.tmp 37]⟩] L3))))))
  (.seq (.region false [⟨some 67, none, .call (.pv (.fn 17 [] [])) []⟩,
     ⟨some 6, none, .rd .mov [.tmp 67]⟩] L3)
  (.ret)))))))),
  [.tmp 6]⟩

-- wagebook/wagebooklaw10.LineOrder
def L9 : List Nat := [0, 1, 3, 4, 5, 6, 7, 8, 9, 10, 11, 12, 15, 24, 57, 85, 138, 154, 173, 189]
def c9 : CF := ⟨216,
  .seq (.region false [⟨some 3, none, .eff (.box (some 2)) [.tmp 1]⟩,
     ⟨some 4, none, .rd .mov [.pv (.bool false)]⟩] L9)
  (.seq (.seq (.region false [⟨some 13, none, .rd .mov [.tmp 0]⟩,
      ⟨some 14, none, .rd .lenL [.tmp 13]⟩,
      ⟨some 15, none, .rd (.bin .gtr) [.tmp 14, .pv (.int .i64 30)]⟩] L9)
   (.cond (.tmp 15)
    (.seq (.region false [⟨some 16, none, .call (.pv (.fn 17 [] [])) []⟩,
        ⟨some 4, none, .rd .mov [.tmp 16]⟩] L9)
     (.ret))
    (.skip)))
  (.seq (.region false [⟨some 17, none, .rd .mov [.tmp 0]⟩,
     ⟨some 18, none, .call (.pv (.fn 20 [] [])) [.tmp 17]⟩,
     ⟨some 19, none, .call (.pv (.fn 19 [] [])) [.tmp 18]⟩,
     ⟨some 5, none, .eff (.alloc (some 1) (.agg [.nilSl])) []⟩,
     ⟨none, none, .eff (.store (some 1)) [.tmp 5, .tmp 19]⟩] L9)
  (.seq (.seq (.region false [⟨some 20, none, .rd (.fldAddr 1) [.tmp 3]⟩,
      ⟨some 21, none, .rd (.load none) [.tmp 20]⟩,
      ⟨some 22, none, .rd (.fldAddr 0) [.tmp 3]⟩,
      ⟨some 23, none, .rd (.load none) [.tmp 22]⟩,
      ⟨some 24, none, .rd (.bin .leq) [.tmp 21, .tmp 23]⟩] L9)
   (.cond (.tmp 24)
    (.seq (.region false [⟨some 25, none, .rd (.load (some 1)) [.tmp 5]⟩,
        ⟨some 26, none, .rd (.load (some 2)) [.tmp 3]⟩,
        ⟨some 27, none, .call (.pv (.fn 21 [] [])) [.tmp 25, .tmp 26]⟩,
        ⟨some 28, none, .rd .lenL [.tmp 27]⟩,
        ⟨some 29, none, .rd (.bin .eql) [.tmp 28, .pv (.int .i64 0)]⟩,
        ⟨some 30, none, .rd .mov [.tmp 29]⟩,
        ⟨some 31, some (30, true), .rd (.load (some 1)) [.tmp 5]⟩,
        ⟨some 32, some (30, true), .rd (.load (some 2)) [.tmp 3]⟩,
        ⟨some 33, some (30, true), .call (.pv (.fn 29 [] [])) [.tmp 31, .tmp 32]⟩,
        ⟨some 34, some (30, true), .rd .lenL [.tmp 33]⟩,
        ⟨some 35, some (30, true), .rd (.bin .eql) [.tmp 34, .pv (.int .i64 0)]⟩,
        ⟨some 36, none, .rd .pick [.tmp 30, .tmp 35, .pv (.bool false)]⟩,
        ⟨some 37, none, .rd .mov [.tmp 36]⟩,
        ⟨some 38, some (37, true), .rd (.load (some 1)) [.tmp 5]⟩,
        ⟨some 39, some (37, true), .rd (.load (some 2)) [.tmp 3]⟩,
        ⟨some 40, some (37, true), .call (.pv (.fn 30 [] [])) [.tmp 38, .tmp 39]⟩,
        ⟨some 41, some (37, true), .rd .lenL [.tmp 40]⟩,
        ⟨some 42, some (37, true), .rd (.bin .eql) [.tmp 41, .pv (.int .i64 0)]⟩,
        ⟨some 43, none, .rd .pick [.tmp 37, .tmp 42, .pv (.bool false)]⟩,
        ⟨some 44, none, .rd .mov [.tmp 43]⟩,
        ⟨some 45, some (44, true), .call (.pv (.fn 17 [] [])) []⟩,
        ⟨some 46, none, .rd .pick [.tmp 44, .tmp 45, .pv (.bool false)]⟩,
        ⟨some 4, none, .rd .mov [.tmp 46]⟩] L9)
     (.ret))
    (.skip)))
  (.seq (.region false [⟨some 47, none, .rd .mov [.tmp 0]⟩,
     ⟨some 48, none, .call (.pv (.fn 23 [] [])) [.tmp 47]⟩,
     ⟨some 6, none, .rd .mov [.tmp 48]⟩] L9)
  (.seq (.region false [⟨some 49, none, .rd (.load (some 1)) [.tmp 5]⟩,
     ⟨some 50, none, .rd (.load (some 2)) [.tmp 3]⟩,
     ⟨some 51, none, .call (.pv (.fn 21 [] [])) [.tmp 49, .tmp 50]⟩,
     ⟨some 7, none, .rd .mov [.tmp 51]⟩] L9)
  (.seq (.region false [⟨some 52, none, .rd (.fldAddr 0) [.tmp 3]⟩,
     ⟨some 53, none, .rd (.load none) [.tmp 52]⟩,
     ⟨some 8, none, .rd .mov [.tmp 53]⟩] L9)
  (.seq (.seq (.region false [⟨some 9, none, .rd .mov [.pv (.int .i64 0)]⟩] L9)
   (.block 0
    (.loop
      (.seq (.seq (.region false [⟨some 54, none, .rd .mov [.tmp 9]⟩,
           ⟨some 55, none, .rd .mov [.tmp 7]⟩,
           ⟨some 56, none, .rd .lenL [.tmp 55]⟩,
           ⟨some 57, none, .rd (.bin .lss) [.tmp 54, .tmp 56]⟩] L9)
        (.cond (.tmp 57)
         (.skip)
         (.exit 0)))
       (.seq (.block 1
         (.seq (.regionA (.alt [⟨some 60, none, .rd .mov [.tmp 7]⟩,
              ⟨some 61, none, .rd .mov [.tmp 9]⟩,
              ⟨some 62, none, .rd (.idxAddr (some 5)) [.tmp 60, .tmp 61]⟩,
              ⟨some 63, none, .rd (.fldAddr 0) [.tmp 62]⟩,
              ⟨some 64, none, .rd (.fldAddr 0) [.tmp 63]⟩,
              ⟨some 65, none, .rd .loadC [.tmp 64]⟩,
              ⟨some 66, none, .rd .mov [.tmp 7]⟩,
              ⟨some 67, none, .rd .mov [.tmp 9]⟩,
              ⟨some 68, none, .rd (.idxAddr (some 5)) [.tmp 66, .tmp 67]⟩,
              ⟨some 69, none, .rd (.fldAddr 0) [.tmp 68]⟩,
              ⟨some 70, none, .rd (.fldAddr 1) [.tmp 69]⟩,
              ⟨some 71, none, .rd .loadC [.tmp 70]⟩,
              ⟨some 10, none, .rd .mov [.tmp 65]⟩,
              ⟨some 11, none, .rd .mov [.tmp 71]⟩]
             .done
             .stop) L9)
          (.seq (.seq (.region false [⟨some 72, none, .rd .mov [.tmp 10]⟩,
              ⟨some 73, none, .rd .mov [.tmp 8]⟩,
              ⟨some 74, none, .rd (.bin .lss) [.tmp 72, .tmp 73]⟩,
              ⟨some 75, none, .rd .mov [.tmp 74]⟩,
              ⟨some 76, some (75, false), .rd .mov [.tmp 11]⟩,
              ⟨some 77, some (75, false), .rd .mov [.tmp 10]⟩,
              ⟨some 78, some (75, false), .rd (.bin .leq) [.tmp 76, .tmp 77]⟩,
              ⟨some 79, none, .rd .pick [.tmp 75, .pv (.bool true), .tmp 78]⟩,
              ⟨some 80, none, .rd .mov [.tmp 79]⟩,
              ⟨some 81, some (80, false), .rd .mov [.tmp 11]⟩,
              ⟨some 82, some (80, false), .rd (.fldAddr 1) [.tmp 3]⟩,
              ⟨some 83, some (80, false), .rd (.load none) [.tmp 82]⟩,
              ⟨some 84, some (80, false), .rd (.bin .gtr) [.tmp 81, .tmp 83]⟩,
              ⟨some 85, none, .rd .pick [.tmp 80, .pv (.bool true), .tmp 84]⟩] L9)
           (.cond (.tmp 85)
            (.seq (.region false [⟨some 4, none, .rd .mov [.pv (.bool false)]⟩] L9)
             (.ret))
            (.skip)))
          (.seq (.region false [⟨some 86, none, .rd .mov [.tmp 6]⟩,
             ⟨some 87, none, .rd .mov [.tmp 10]⟩,
             ⟨some 88, none, .call (.pv (.fn 28 [] [])) [.tmp 86, .tmp 87]⟩,
             ⟨some 12, none, .rd .mov [.tmp 88]⟩] L9)
          (.seq (.seq (.regionA (.alt [⟨some 89, none, .rd .mov [.tmp 12]⟩,
               ⟨some 90, none, .rd (.bin .lss) [.tmp 89, .pv (.int .i64 0)]⟩,
               ⟨some 91, none, .rd .mov [.tmp 90]⟩,
               ⟨some 92, some (91, false), .rd .mov [.tmp 7]⟩,
               ⟨some 93, some (91, false), .rd .mov [.tmp 9]⟩,
               ⟨some 94, some (91, false), .rd (.idxAddr (some 5)) [.tmp 92, .tmp 93]⟩,
               ⟨some 95, some (91, false), .rd (.fldAddr 2) [.tmp 94]⟩,
               ⟨some 97, some (91, false), .rd .mov [.tmp 6]⟩,
               ⟨some 98, some (91, false), .rd .mov [.tmp 12]⟩,
               ⟨some 99, some (91, false), .rd (.idxAddr (some 5)) [.tmp 97, .tmp 98]⟩]
              (.alt [⟨some 96, some (91, false), .rd (.load (some 3)) [.tmp 95]⟩,
                ⟨some 100, some (91, false), .rd (.load (some 5)) [.tmp 99]⟩,
                ⟨some 101, some (91, false), .call (.pv (.fn 24 [] [])) [.tmp 100]⟩,
                ⟨some 102, some (91, false), .rd (.eqA true [0, 0, 2]) [.tmp 96, .tmp 101]⟩,
                ⟨some 103, none, .rd .pick [.tmp 91, .pv (.bool true), .tmp 102]⟩,
                ⟨some 104, none, .rd .mov [.tmp 103]⟩,
                ⟨some 105, some (104, false), .rd .mov [.tmp 6]⟩,
                ⟨some 106, some (104, false), .rd .mov [.tmp 11]⟩,
                ⟨some 107, some (104, false), .rd (.bin .sub) [.tmp 106, .pv (.int .i64 1)]⟩,
                ⟨some 109, some (104, false), .rd .mov [.tmp 12]⟩,
                ⟨some 108, some (104, false), .call (.pv (.fn 28 [] [])) [.tmp 105, .tmp 107]⟩,
                ⟨some 110, some (104, false), .rd (.bin .neq) [.tmp 108, .tmp 109]⟩,
                ⟨some 111, none, .rd .pick [.tmp 104, .pv (.bool true), .tmp 110]⟩,
                ⟨some 112, none, .rd .mov [.tmp 111]⟩,
                ⟨some 113, some (112, false), .rd .mov [.tmp 11]⟩,
                ⟨some 114, some (112, false), .rd (.fldAddr 1) [.tmp 3]⟩,
                ⟨some 115, some (112, false), .rd (.load none) [.tmp 114]⟩,
                ⟨some 116, some (112, false), .rd (.bin .lss) [.tmp 113, .tmp 115]⟩,
                ⟨some 117, some (112, false), .rd .mov [.tmp 116]⟩,
                ⟨some 118, some (117, true), .rd .mov [.tmp 6]⟩,
                ⟨some 119, some (117, true), .rd .mov [.tmp 11]⟩,
                ⟨some 121, some (117, true), .rd .mov [.tmp 12]⟩,
                ⟨some 120, some (117, true), .call (.pv (.fn 28 [] [])) [.tmp 118, .tmp 119]⟩,
                ⟨some 122, some (117, true), .rd (.bin .eql) [.tmp 120, .tmp 121]⟩,
                ⟨some 123, some (112, false), .rd .pick [.tmp 117, .tmp 122, .pv (.bool false)]⟩,
                ⟨some 124, none, .rd .pick [.tmp 112, .pv (.bool true), .tmp 123]⟩,
                ⟨some 125, none, .rd .mov [.tmp 124]⟩,
                ⟨some 126, some (125, false), .rd .mov [.tmp 10]⟩,
                ⟨some 127, some (125, false), .rd (.fldAddr 0) [.tmp 3]⟩,
                ⟨some 128, some (125, false), .rd (.load none) [.tmp 127]⟩,
                ⟨some 129, some (125, false), .rd (.bin .gtr) [.tmp 126, .tmp 128]⟩,
                ⟨some 130, some (125, false), .rd .mov [.tmp 129]⟩,
                ⟨some 131, some (130, true), .rd .mov [.tmp 6]⟩,
                ⟨some 132, some (130, true), .rd .mov [.tmp 10]⟩,
                ⟨some 133, some (130, true), .rd (.bin .sub) [.tmp 132, .pv (.int .i64 1)]⟩,
                ⟨some 135, some (130, true), .rd .mov [.tmp 12]⟩,
                ⟨some 134, some (130, true), .call (.pv (.fn 28 [] [])) [.tmp 131, .tmp 133]⟩,
                ⟨some 136, some (130, true), .rd (.bin .eql) [.tmp 134, .tmp 135]⟩,
                ⟨some 137, some (125, false), .rd .pick [.tmp 130, .tmp 136, .pv (.bool false)]⟩,
                ⟨some 138, none, .rd .pick [.tmp 125, .pv (.bool true), .tmp 137]⟩]
               .done
               (.alt [⟨some 100, some (91, false), .rd (.load (some 5)) [.tmp 99]⟩]
                (.alt [⟨some 96, some (91, false), .rd (.load (some 3)) [.tmp 95]⟩,
                  ⟨some 101, some (91, false), .call (.pv (.fn 24 [] [])) [.tmp 100]⟩,
                  ⟨some 102, some (91, false), .rd (.eqA true [0, 0, 2]) [.tmp 96, .tmp 101]⟩,
                  ⟨some 103, none, .rd .pick [.tmp 91, .pv (.bool true), .tmp 102]⟩,
                  ⟨some 104, none, .rd .mov [.tmp 103]⟩,
                  ⟨some 105, some (104, false), .rd .mov [.tmp 6]⟩,
                  ⟨some 106, some (104, false), .rd .mov [.tmp 11]⟩,
                  ⟨some 107, some (104, false), .rd (.bin .sub) [.tmp 106, .pv (.int .i64 1)]⟩,
                  ⟨some 109, some (104, false), .rd .mov [.tmp 12]⟩,
                  ⟨some 108, some (104, false), .call (.pv (.fn 28 [] [])) [.tmp 105, .tmp 107]⟩,
                  ⟨some 110, some (104, false), .rd (.bin .neq) [.tmp 108, .tmp 109]⟩,
                  ⟨some 111, none, .rd .pick [.tmp 104, .pv (.bool true), .tmp 110]⟩,
                  ⟨some 112, none, .rd .mov [.tmp 111]⟩,
                  ⟨some 113, some (112, false), .rd .mov [.tmp 11]⟩,
                  ⟨some 114, some (112, false), .rd (.fldAddr 1) [.tmp 3]⟩,
                  ⟨some 115, some (112, false), .rd (.load none) [.tmp 114]⟩,
                  ⟨some 116, some (112, false), .rd (.bin .lss) [.tmp 113, .tmp 115]⟩,
                  ⟨some 117, some (112, false), .rd .mov [.tmp 116]⟩,
                  ⟨some 118, some (117, true), .rd .mov [.tmp 6]⟩,
                  ⟨some 119, some (117, true), .rd .mov [.tmp 11]⟩,
                  ⟨some 121, some (117, true), .rd .mov [.tmp 12]⟩,
                  ⟨some 120, some (117, true), .call (.pv (.fn 28 [] [])) [.tmp 118, .tmp 119]⟩,
                  ⟨some 122, some (117, true), .rd (.bin .eql) [.tmp 120, .tmp 121]⟩,
                  ⟨some 123, some (112, false), .rd .pick [.tmp 117, .tmp 122, .pv (.bool false)]⟩,
                  ⟨some 124, none, .rd .pick [.tmp 112, .pv (.bool true), .tmp 123]⟩,
                  ⟨some 125, none, .rd .mov [.tmp 124]⟩,
                  ⟨some 126, some (125, false), .rd .mov [.tmp 10]⟩,
                  ⟨some 127, some (125, false), .rd (.fldAddr 0) [.tmp 3]⟩,
                  ⟨some 128, some (125, false), .rd (.load none) [.tmp 127]⟩,
                  ⟨some 129, some (125, false), .rd (.bin .gtr) [.tmp 126, .tmp 128]⟩,
                  ⟨some 130, some (125, false), .rd .mov [.tmp 129]⟩,
                  ⟨some 131, some (130, true), .rd .mov [.tmp 6]⟩,
                  ⟨some 132, some (130, true), .rd .mov [.tmp 10]⟩,
                  ⟨some 133, some (130, true), .rd (.bin .sub) [.tmp 132, .pv (.int .i64 1)]⟩,
                  ⟨some 135, some (130, true), .rd .mov [.tmp 12]⟩,
                  ⟨some 134, some (130, true), .call (.pv (.fn 28 [] [])) [.tmp 131, .tmp 133]⟩,
                  ⟨some 136, some (130, true), .rd (.bin .eql) [.tmp 134, .tmp 135]⟩,
                  ⟨some 137, some (125, false), .rd .pick [.tmp 130, .tmp 136, .pv (.bool false)]⟩,
                  ⟨some 138, none, .rd .pick [.tmp 125, .pv (.bool true), .tmp 137]⟩]
                 .done
                 (.alt [⟨some 101, some (91, false), .call (.pv (.fn 24 [] [])) [.tmp 100]⟩,
                   ⟨some 96, some (91, false), .rd (.load (some 3)) [.tmp 95]⟩,
                   ⟨some 102, some (91, false), .rd (.eqA true [0, 0, 2]) [.tmp 96, .tmp 101]⟩,
                   ⟨some 103, none, .rd .pick [.tmp 91, .pv (.bool true), .tmp 102]⟩,
                   ⟨some 104, none, .rd .mov [.tmp 103]⟩,
                   ⟨some 105, some (104, false), .rd .mov [.tmp 6]⟩,
                   ⟨some 106, some (104, false), .rd .mov [.tmp 11]⟩,
                   ⟨some 107, some (104, false), .rd (.bin .sub) [.tmp 106, .pv (.int .i64 1)]⟩,
                   ⟨some 109, some (104, false), .rd .mov [.tmp 12]⟩,
                   ⟨some 108, some (104, false), .call (.pv (.fn 28 [] [])) [.tmp 105, .tmp 107]⟩,
                   ⟨some 110, some (104, false), .rd (.bin .neq) [.tmp 108, .tmp 109]⟩,
                   ⟨some 111, none, .rd .pick [.tmp 104, .pv (.bool true), .tmp 110]⟩,
                   ⟨some 112, none, .rd .mov [.tmp 111]⟩,
                   ⟨some 113, some (112, false), .rd .mov [.tmp 11]⟩,
                   ⟨some 114, some (112, false), .rd (.fldAddr 1) [.tmp 3]⟩,
                   ⟨some 115, some (112, false), .rd (.load none) [.tmp 114]⟩,
                   ⟨some 116, some (112, false), .rd (.bin .lss) [.tmp 113, .tmp 115]⟩,
                   ⟨some 117, some (112, false), .rd .mov [.tmp 116]⟩,
                   ⟨some 118, some (117, true), .rd .mov [.tmp 6]⟩,
                   ⟨some 119, some (117, true), .rd .mov [.tmp 11]⟩,
                   ⟨some 121, some (117, true), .rd .mov [.tmp 12]⟩,
                   ⟨some 120, some (117, true), .call (.pv (.fn 28 [] [])) [.tmp 118, .tmp 119]⟩,
                   ⟨some 122, some (117, true), .rd (.bin .eql) [.tmp 120, .tmp 121]⟩,
                   ⟨some 123, some (112, false), .rd .pick [.tmp 117, .tmp 122, .pv (.bool false)]⟩,
                   ⟨some 124, none, .rd .pick [.tmp 112, .pv (.bool true), .tmp 123]⟩,
                   ⟨some 125, none, .rd .mov [.tmp 124]⟩,
                   ⟨some 126, some (125, false), .rd .mov [.tmp 10]⟩,
                   ⟨some 127, some (125, false), .rd (.fldAddr 0) [.tmp 3]⟩,
                   ⟨some 128, some (125, false), .rd (.load none) [.tmp 127]⟩,
                   ⟨some 129, some (125, false), .rd (.bin .gtr) [.tmp 126, .tmp 128]⟩,
                   ⟨some 130, some (125, false), .rd .mov [.tmp 129]⟩,
                   ⟨some 131, some (130, true), .rd .mov [.tmp 6]⟩,
                   ⟨some 132, some (130, true), .rd .mov [.tmp 10]⟩,
                   ⟨some 133, some (130, true), .rd (.bin .sub) [.tmp 132, .pv (.int .i64 1)]⟩,
                   ⟨some 135, some (130, true), .rd .mov [.tmp 12]⟩,
                   ⟨some 134, some (130, true), .call (.pv (.fn 28 [] [])) [.tmp 131, .tmp 133]⟩,
                   ⟨some 136, some (130, true), .rd (.bin .eql) [.tmp 134, .tmp 135]⟩,
                   ⟨some 137, some (125, false), .rd .pick [.tmp 130, .tmp 136, .pv (.bool false)]⟩,
                   ⟨some 138, none, .rd .pick [.tmp 125, .pv (.bool true), .tmp 137]⟩]
                  .done
                  .stop))
                .stop))
              .stop) L9)
           (.cond (.tmp 138)
            (.seq (.region false [⟨some 4, none, .rd .mov [.pv (.bool false)]⟩] L9)
             (.ret))
            (.skip)))
          (.seq (.seq (.region false [⟨some 139, none, .rd .mov [.tmp 10]⟩,
              ⟨some 140, none, .rd .mov [.tmp 8]⟩,
              ⟨some 141, none, .rd (.bin .gtr) [.tmp 139, .tmp 140]⟩,
              ⟨some 142, none, .rd .mov [.tmp 141]⟩,
              ⟨some 143, some (142, true), .rd .mov [.tmp 6]⟩,
              ⟨some 144, some (142, true), .rd .mov [.tmp 8]⟩,
              ⟨some 145, some (142, true), .call (.pv (.fn 28 [] [])) [.tmp 143, .tmp 144]⟩,
              ⟨some 146, some (142, true), .rd (.bin .geq) [.tmp 145, .pv (.int .i64 0)]⟩,
              ⟨some 147, some (142, true), .rd .mov [.tmp 146]⟩,
              ⟨some 148, some (147, false), .rd .mov [.tmp 6]⟩,
              ⟨some 149, some (147, false), .rd .mov [.tmp 10]⟩,
              ⟨some 150, some (147, false), .rd (.bin .sub) [.tmp 149, .pv (.int .i64 1)]⟩,
              ⟨some 151, some (147, false), .call (.pv (.fn 28 [] [])) [.tmp 148, .tmp 150]⟩,
              ⟨some 152, some (147, false), .rd (.bin .geq) [.tmp 151, .pv (.int .i64 0)]⟩,
              ⟨some 153, some (142, true), .rd .pick [.tmp 147, .pv (.bool true), .tmp 152]⟩,
              ⟨some 154, none, .rd .pick [.tmp 142, .tmp 153, .pv (.bool false)]⟩] L9)
           (.cond (.tmp 154)
            (.seq (.region false [⟨some 4, none, .rd .mov [.pv (.bool false)]⟩] L9)
             (.ret))
            (.skip)))
          (.region false [⟨some 155, none, .rd .mov [.tmp 11]⟩,
            ⟨some 8, none, .rd .mov [.tmp 155]⟩] L9)))))))
       (.region false [⟨some 58, none, .rd .mov [.tmp 9]⟩,
         ⟨some 59, none, .rd (.bin .add) [.tmp 58, .pv (.int .i64 1)]⟩,
         ⟨some 9, none, .rd .mov [.tmp 59]⟩] L9))))))
  (.seq (.seq (.region false [⟨some 156, none, .rd .mov [.tmp 8]⟩,
      ⟨some 157, none, .rd (.fldAddr 1) [.tmp 3]⟩,
      ⟨some 158, none, .rd (.load none) [.tmp 157]⟩,
      ⟨some 159, none, .rd (.bin .lss) [.tmp 156, .tmp 158]⟩,
      ⟨some 160, none, .rd .mov [.tmp 159]⟩,
      ⟨some 161, some (160, true), .rd .mov [.tmp 6]⟩,
      ⟨some 162, some (160, true), .rd .mov [.tmp 8]⟩,
      ⟨some 163, some (160, true), .call (.pv (.fn 28 [] [])) [.tmp 161, .tmp 162]⟩,
      ⟨some 164, some (160, true), .rd (.bin .geq) [.tmp 163, .pv (.int .i64 0)]⟩,
      ⟨some 165, some (160, true), .rd .mov [.tmp 164]⟩,
      ⟨some 166, some (165, false), .rd .mov [.tmp 6]⟩,
      ⟨some 167, some (165, false), .rd (.fldAddr 1) [.tmp 3]⟩,
      ⟨some 168, some (165, false), .rd (.load none) [.tmp 167]⟩,
      ⟨some 169, some (165, false), .rd (.bin .sub) [.tmp 168, .pv (.int .i64 1)]⟩,
      ⟨some 170, some (165, false), .call (.pv (.fn 28 [] [])) [.tmp 166, .tmp 169]⟩,
      ⟨some 171, some (165, false), .rd (.bin .geq) [.tmp 170, .pv (.int .i64 0)]⟩,
      ⟨some 172, some (160, true), .rd .pick [.tmp 165, .pv (.bool true), .tmp 171]⟩,
      ⟨some 173, none, .rd .pick [.tmp 160, .tmp 172, .pv (.bool false)]⟩] L9)
   (.cond (.tmp 173)
    (.seq (.region false [⟨some 4, none, .rd .mov [.pv (.bool false)]⟩] L9)
     (.ret))
    (.skip)))
  (.seq (.seq (.region false [⟨some 174, none, .rd (.fldAddr 0) [.tmp 3]⟩,
      ⟨some 175, none, .rd (.load none) [.tmp 174]⟩,
      ⟨some 176, none, .rd (.bin .lss) [.tmp 175, .pv (.int .i64 (-1099511627776))]⟩,
      ⟨some 177, none, .rd .mov [.tmp 176]⟩,
      ⟨some 178, some (177, false), .rd (.fldAddr 1) [.tmp 3]⟩,
      ⟨some 179, some (177, false), .rd (.load none) [.tmp 178]⟩,
      ⟨some 180, some (177, false), .rd (.bin .gtr) [.tmp 179, .pv (.int .i64 1099511627776)]⟩,
      ⟨some 181, none, .rd .pick [.tmp 177, .pv (.bool true), .tmp 180]⟩,
      ⟨some 182, none, .rd .mov [.tmp 181]⟩,
      ⟨some 183, some (182, false), .rd (.fldAddr 1) [.tmp 3]⟩,
      ⟨some 184, some (182, false), .rd (.load none) [.tmp 183]⟩,
      ⟨some 185, some (182, false), .rd (.fldAddr 0) [.tmp 3]⟩,
      ⟨some 186, some (182, false), .rd (.load none) [.tmp 185]⟩,
      ⟨some 187, some (182, false), .rd (.bin .sub) [.tmp 184, .tmp 186]⟩,
      ⟨some 188, some (182, false), .rd (.bin .gtr) [.tmp 187, .pv (.int .i64 4096)]⟩,
      ⟨some 189, none, .rd .pick [.tmp 182, .pv (.bool true), .tmp 188]⟩] L9)
   (.cond (.tmp 189)
    (.seq (.region false [⟨some 190, none, .rd (.load (some 1)) [.tmp 5]⟩,
        ⟨some 191, none, .rd (.load (some 2)) [.tmp 3]⟩,
        ⟨some 192, none, .call (.pv (.fn 29 [] [])) [.tmp 190, .tmp 191]⟩,
        ⟨some 193, none, .rd .lenL [.tmp 192]⟩,
        ⟨some 194, none, .rd (.bin .eql) [.tmp 193, .pv (.int .i64 0)]⟩,
        ⟨some 195, none, .rd .mov [.tmp 194]⟩,
        ⟨some 196, some (195, false), .rd (.fldAddr 1) [.tmp 3]⟩,
        ⟨some 197, some (195, false), .rd (.load none) [.tmp 196]⟩,
        ⟨some 198, some (195, false), .rd (.fldAddr 0) [.tmp 3]⟩,
        ⟨some 199, some (195, false), .rd (.load none) [.tmp 198]⟩,
        ⟨some 200, some (195, false), .rd (.bin .sub) [.tmp 197, .tmp 199]⟩,
        ⟨some 201, some (195, false), .rd (.bin .leq) [.tmp 200, .pv (.int .i64 4096)]⟩,
        ⟨some 202, none, .rd .pick [.tmp 195, .pv (.bool true), .tmp 201]⟩,
        ⟨some 4, none, .rd .mov [.tmp 202]⟩] L9)
     (.ret))
    (.skip)))
  (.seq (.regionA (.alt [⟨some 207, none, .rd (.fldAddr 1) [.tmp 3]⟩,
      ⟨some 208, none, .rd .loadC [.tmp 207]⟩,
      ⟨some 209, none, .rd (.fldAddr 0) [.tmp 3]⟩,
      ⟨some 210, none, .rd .loadC [.tmp 209]⟩,
      ⟨some 211, none, .rd (.bin .sub) [.tmp 208, .tmp 210]⟩]
     (.alt [⟨some 203, none, .rd (.load (some 1)) [.tmp 5]⟩,
       ⟨some 204, none, .rd (.load (some 2)) [.tmp 3]⟩,
       ⟨some 205, none, .call (.pv (.fn 29 [] [])) [.tmp 203, .tmp 204]⟩,
       ⟨some 206, none, .rd .lenL [.tmp 205]⟩,
       ⟨some 212, none, .rd (.bin .eql) [.tmp 206, .tmp 211]⟩,
       ⟨some 213, none, .rd .mov [.tmp 212]⟩,
       ⟨some 214, some (213, true), .call (.pv (.fn 17 [] [])) []⟩,
       ⟨some 215, none, .rd .pick [.tmp 213, .tmp 214, .pv (.bool false)]⟩,
       ⟨some 4, none, .rd .mov [.tmp 215]⟩]
      .done
      (.alt [⟨some 204, none, .rd (.load (some 2)) [.tmp 3]⟩,
        ⟨some 203, none, .rd (.load (some 1)) [.tmp 5]⟩,
        ⟨some 205, none, .call (.pv (.fn 29 [] [])) [.tmp 203, .tmp 204]⟩,
        ⟨some 206, none, .rd .lenL [.tmp 205]⟩,
        ⟨some 212, none, .rd (.bin .eql) [.tmp 206, .tmp 211]⟩,
        ⟨some 213, none, .rd .mov [.tmp 212]⟩,
        ⟨some 214, some (213, true), .call (.pv (.fn 17 [] [])) []⟩,
        ⟨some 215, none, .rd .pick [.tmp 213, .tmp 214, .pv (.bool false)]⟩,
        ⟨some 4, none, .rd .mov [.tmp 215]⟩]
       .done
       .stop))
     .stop) L9)
  (.ret))))))))))),
  [.tmp 4]⟩
theorem k3 : compileF Try.prog [999999, 888888] L3 Try.f3 = some c3 := by kernel_rfl
end Go.Proofs.Ytjcoenideicmbaa

namespace Go.Proofs.Ytjcoenideicmbaa
open Go PG Go.Proofs
set_option linter.unusedSimpArgs false
set_option linter.unusedVariables false
set_option maxHeartbeats 4000000
set_option maxRecDepth 100000
theorem valM_kn (l : List En) (p : Int) (h0 : 0 ≤ p) (h : p.toNat < l.length) : valM (l.map knOf) p = vlOf l[p.toNat] := by
  unfold valM
  rw [if_neg (by omega)]
  have : (l.map knOf).getD p.toNat default = knOf l[p.toNat] := by simp [List.getD, h]
  rw [this]; rfl
end Go.Proofs.Ytjcoenideicmbaa

namespace Go.Proofs.Ytjcoenideicmbaa
open PG Go.Proofs
theorem full_none (l : List Kn) {a b : Int} (h : b ≤ a) : fullM l a b = [] := by unfold fullM; rw [if_pos h]
/-- The last stretch may be longer. -/
theorem runs_last {f : Int → Int} {b a : Int} {R : List (Int × Int × Int)} (h : IsRuns f b a R) : ∃ R0 c, R = R0 ++ [(c, b, f c)] ∧ a ≤ c ∧ c < b ∧ (∀ d, c ≤ d → d < b → f d = f c) ∧
    ∀ b', c < b' → (∀ d, c ≤ d → d < b' → f d = f c) → IsRuns f b' a (R0 ++ [(c, b', f c)]) := by
  induction h with
  | one a h hf => exact ⟨[], a, rfl, by omega, h, hf, fun b' h1 h2 => .one a h1 h2⟩
  | cons a c l h hf hn ht ih =>
    obtain ⟨R0, c', rfl, h0, h1, h2, h3⟩ := ih
    exact ⟨(a, c, f a) :: R0, c', rfl, by omega, h1, h2, fun b' e1 e2 => .cons a c _ h hf hn (h3 b' e1 e2)⟩
theorem pcs_app (l m : List St3) : pcs (l ++ m) = pcs l ++ pcs m := by simp [pcs]
theorem pcs_one (a b k : Int) : pcs [(a, b, k)] = if 0 ≤ k then [(a, b, k)] else [] := by
  unfold pcs; by_cases h : 0 ≤ k <;> simp [h]
/-- The pieces so far, day by day. -/
def lastF (f : Int → Int) (a : Int) : Nat → Int
  | 0 => -1
  | i + 1 => f (a + i)
def endL (l : List St3) (d : Int) : List St3 := l.set (l.length - 1) ((l.getD (l.length - 1) (0, 0, 0)).1, d, (l.getD (l.length - 1) (0, 0, 0)).2.2)
def ovU (f : Int → Int) (a : Int) : Nat → List St3
  | 0 => []
  | i + 1 => if 0 ≤ f (a + i) then (if f (a + i) = lastF f a i then endL (ovU f a i) (a + i + 1) else ovU f a i ++ [(a + i, a + i + 1, f (a + i))]) else ovU f a i
theorem endL_app (l : List St3) (x : St3) (d : Int) : endL (l ++ [x]) d = l ++ [(x.1, d, x.2.2)] := by
  unfold endL
  rw [show (l ++ [x]).length - 1 = l.length by simp]
  simp [List.getD]
theorem ovU_len (f : Int → Int) (a : Int) : ∀ i, (ovU f a i).length ≤ i
  | 0 => by simp [ovU]
  | i + 1 => by
    have := ovU_len f a i
    unfold ovU; split
    · split
      · simp [endL]; omega
      · simp; omega
    · omega
theorem ovU_runs (f : Int → Int) (a : Int) : ∀ i : Nat, ∃ R, IsRuns f (a + i + 1) a R ∧ pcs R = ovU f a (i + 1)
  | 0 => by
    refine ⟨[(a, a + (0 : Nat) + 1, f a)], .one a (by omega) (fun d h1 h2 => by rw [show d = a by omega]), ?_⟩
    rw [pcs_one]
    unfold ovU
    simp only [Int.ofNat_zero, Int.add_zero, ovU, lastF]
    split
    · rw [if_neg (by omega)]; rfl
    · rfl
  | i + 1 => by
    obtain ⟨R, h1, h2⟩ := ovU_runs f a i
    obtain ⟨R0, c, rfl, h0, h3, h4, h5⟩ := runs_last h1
    have hd : a + ((i + 1 : Nat) : Int) = a + i + 1 := by omega
    have hfc : f (a + i) = f c := h4 _ (by omega) (by omega)
    rw [pcs_app, pcs_one] at h2
    rw [show a + ((i + 1 : Nat) : Int) + 1 = a + i + 1 + 1 by omega]
    by_cases he : f (a + i + 1) = f (a + i)
    · refine ⟨_, h5 (a + i + 1 + 1) (by omega) (fun d e1 e2 => ?_), ?_⟩
      · rcases Int.lt_or_le d (a + i + 1) with e | e
        · exact h4 d e1 e
        · rw [show d = a + i + 1 by omega, he, hfc]
      · conv => rhs; unfold ovU
        rw [hd, lastF, he, pcs_app, pcs_one, ← h2, hfc]
        by_cases hz : 0 ≤ f c
        · simp only [if_pos hz, if_true]
          rw [endL_app]
        · simp only [if_neg hz]
    · refine ⟨_, IsRuns.append (h5 (a + i + 1) (by omega) h4) (.one (a + i + 1) (by omega : a + i + 1 < a + i + 1 + 1) fun d e1 e2 => by rw [show d = a + i + 1 by omega]) (by rw [show a + i + 1 - 1 = a + i by omega]; exact he) , ?_⟩
      conv => rhs; unfold ovU
      rw [hd, lastF, if_neg he, pcs_app, pcs_app, pcs_one, pcs_one, h2]
      split <;> simp
theorem ovU_eq (l : List Kn) {a b : Int} (h : a ≤ b) : ovU (placeM l) a (b - a).toNat = pcs (fullM l a b) := by
  rcases Int.lt_or_eq_of_le h with h | h
  · obtain ⟨R, h1, h2⟩ := ovU_runs (placeM l) a (b - a - 1).toNat
    rw [show a + ((b - a - 1).toNat : Int) + 1 = b by omega] at h1
    rw [show (b - a).toNat = (b - a - 1).toNat + 1 by omega, ← h2, h1.uniq (full_runs l h)]
  · subst h; rw [full_none l (by omega)]; simp [ovU, pcs]
theorem ovU_last (f : Int → Int) (a : Int) (i : Nat) (h : 0 ≤ lastF f a i) : ∃ A0 c, ovU f a i = A0 ++ [c] := by
  match i with
  | 0 => simp [lastF] at h
  | i + 1 =>
    obtain ⟨R, h1, h2⟩ := ovU_runs f a i
    obtain ⟨R0, c, rfl, h0, h3, h4, h5⟩ := runs_last h1
    have hfc : f (a + i) = f c := h4 _ (by omega) (by omega)
    rw [lastF, hfc] at h
    rw [← h2, pcs_app, pcs_one, if_pos h]
    exact ⟨_, _, rfl⟩
end Go.Proofs.Ytjcoenideicmbaa

