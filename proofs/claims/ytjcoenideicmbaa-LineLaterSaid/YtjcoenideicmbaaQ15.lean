import Derived.Test.YtjcoenideicmbaaProg
import Derived.KernelRfl
import Derived.Test.YtjcoenideicmbaaP3
namespace Go.Proofs.Ytjcoenideicmbaa
open PG Go.Proofs
-- wagebook/wagebooklaw10.LineOrder
def L9 : List Nat := [0, 1, 3, 4, 5, 6, 7, 8, 9, 10, 11, 12, 15, 24, 57, 85, 138, 154, 173, 189]
def c9 : CF := ⟨216,
  .seq (.region false [⟨some 3, none, .eff (.box (some 2)) [.tmp 1]⟩,
     ⟨some 4, none, .rd .mov [.pv (.bool false)]⟩] L9)
  (.seq (.seq (.region false [⟨some 13, none, .rd .mov [.tmp 0]⟩,
      ⟨some 14, none, .rd .lenL [.tmp 13]⟩,
      ⟨some 15, none, .rd (.bin .gtr) [.tmp 14, .pv (.int .i64 30)]⟩] L9)
   (.cond (.tmp 15)
    (.seq (.region false [⟨some 16, none, .call (.pv (.fn 17 [] [])) []⟩,
        ⟨some 4, none, .rd .mov [.tmp 16]⟩] L9)
     (.ret))
    (.skip)))
  (.seq (.region false [⟨some 17, none, .rd .mov [.tmp 0]⟩,
     ⟨some 18, none, .call (.pv (.fn 20 [] [])) [.tmp 17]⟩,
     ⟨some 19, none, .call (.pv (.fn 19 [] [])) [.tmp 18]⟩,
     ⟨some 5, none, .eff (.alloc (some 1) (.agg [.nilSl])) []⟩,
     ⟨none, none, .eff (.store (some 1)) [.tmp 5, .tmp 19]⟩] L9)
  (.seq (.seq (.region false [⟨some 20, none, .rd (.fldAddr 1) [.tmp 3]⟩,
      ⟨some 21, none, .rd (.load none) [.tmp 20]⟩,
      ⟨some 22, none, .rd (.fldAddr 0) [.tmp 3]⟩,
      ⟨some 23, none, .rd (.load none) [.tmp 22]⟩,
      ⟨some 24, none, .rd (.bin .leq) [.tmp 21, .tmp 23]⟩] L9)
   (.cond (.tmp 24)
    (.seq (.region false [⟨some 25, none, .rd (.load (some 1)) [.tmp 5]⟩,
        ⟨some 26, none, .rd (.load (some 2)) [.tmp 3]⟩,
        ⟨some 27, none, .call (.pv (.fn 21 [] [])) [.tmp 25, .tmp 26]⟩,
        ⟨some 28, none, .rd .lenL [.tmp 27]⟩,
        ⟨some 29, none, .rd (.bin .eql) [.tmp 28, .pv (.int .i64 0)]⟩,
        ⟨some 30, none, .rd .mov [.tmp 29]⟩,
        ⟨some 31, some (30, true), .rd (.load (some 1)) [.tmp 5]⟩,
        ⟨some 32, some (30, true), .rd (.load (some 2)) [.tmp 3]⟩,
        ⟨some 33, some (30, true), .call (.pv (.fn 29 [] [])) [.tmp 31, .tmp 32]⟩,
        ⟨some 34, some (30, true), .rd .lenL [.tmp 33]⟩,
        ⟨some 35, some (30, true), .rd (.bin .eql) [.tmp 34, .pv (.int .i64 0)]⟩,
        ⟨some 36, none, .rd .pick [.tmp 30, .tmp 35, .pv (.bool false)]⟩,
        ⟨some 37, none, .rd .mov [.tmp 36]⟩,
        ⟨some 38, some (37, true), .rd (.load (some 1)) [.tmp 5]⟩,
        ⟨some 39, some (37, true), .rd (.load (some 2)) [.tmp 3]⟩,
        ⟨some 40, some (37, true), .call (.pv (.fn 30 [] [])) [.tmp 38, .tmp 39]⟩,
        ⟨some 41, some (37, true), .rd .lenL [.tmp 40]⟩,
        ⟨some 42, some (37, true), .rd (.bin .eql) [.tmp 41, .pv (.int .i64 0)]⟩,
        ⟨some 43, none, .rd .pick [.tmp 37, .tmp 42, .pv (.bool false)]⟩,
        ⟨some 44, none, .rd .mov [.tmp 43]⟩,
        ⟨some 45, some (44, true), .call (.pv (.fn 17 [] [])) []⟩,
        ⟨some 46, none, .rd .pick [.tmp 44, .tmp 45, .pv (.bool false)]⟩,
        ⟨some 4, none, .rd .mov [.tmp 46]⟩] L9)
     (.ret))
    (.skip)))
  (.seq (.region false [⟨some 47, none, .rd .mov [.tmp 0]⟩,
     ⟨some 48, none, .call (.pv (.fn 23 [] [])) [.tmp 47]⟩,
     ⟨some 6, none, .rd .mov [.tmp 48]⟩] L9)
  (.seq (.region false [⟨some 49, none, .rd (.load (some 1)) [.tmp 5]⟩,
     ⟨some 50, none, .rd (.load (some 2)) [.tmp 3]⟩,
     ⟨some 51, none, .call (.pv (.fn 21 [] [])) [.tmp 49, .tmp 50]⟩,
     ⟨some 7, none, .rd .mov [.tmp 51]⟩] L9)
  (.seq (.region false [⟨some 52, none, .rd (.fldAddr 0) [.tmp 3]⟩,
     ⟨some 53, none, .rd (.load none) [.tmp 52]⟩,
     ⟨some 8, none, .rd .mov [.tmp 53]⟩] L9)
  (.seq (.seq (.region false [⟨some 9, none, .rd .mov [.pv (.int .i64 0)]⟩] L9)
   (.block 0
    (.loop
      (.seq (.seq (.region false [⟨some 54, none, .rd .mov [.tmp 9]⟩,
           ⟨some 55, none, .rd .mov [.tmp 7]⟩,
           ⟨some 56, none, .rd .lenL [.tmp 55]⟩,
           ⟨some 57, none, .rd (.bin .lss) [.tmp 54, .tmp 56]⟩] L9)
        (.cond (.tmp 57)
         (.skip)
         (.exit 0)))
       (.seq (.block 1
         (.seq (.regionA (.alt [⟨some 60, none, .rd .mov [.tmp 7]⟩,
              ⟨some 61, none, .rd .mov [.tmp 9]⟩,
              ⟨some 62, none, .rd (.idxAddr (some 5)) [.tmp 60, .tmp 61]⟩,
              ⟨some 63, none, .rd (.fldAddr 0) [.tmp 62]⟩,
              ⟨some 64, none, .rd (.fldAddr 0) [.tmp 63]⟩,
              ⟨some 66, none, .rd .mov [.tmp 7]⟩,
              ⟨some 67, none, .rd .mov [.tmp 9]⟩,
              ⟨some 68, none, .rd (.idxAddr (some 5)) [.tmp 66, .tmp 67]⟩,
              ⟨some 69, none, .rd (.fldAddr 0) [.tmp 68]⟩,
              ⟨some 70, none, .rd (.fldAddr 1) [.tmp 69]⟩]
             (.alt [⟨some 65, none, .rd (.load none) [.tmp 64]⟩,
               ⟨some 10, none, .rd .mov [.tmp 65]⟩,
               ⟨some 71, none, .rd (.load none) [.tmp 70]⟩,
               ⟨some 11, none, .rd .mov [.tmp 71]⟩]
              .done
              (.alt [⟨some 71, none, .rd (.load none) [.tmp 70]⟩,
                ⟨some 65, none, .rd (.load none) [.tmp 64]⟩,
                ⟨some 10, none, .rd .mov [.tmp 65]⟩,
                ⟨some 11, none, .rd .mov [.tmp 71]⟩]
               .done
               .stop))
             .stop) L9)
          (.seq (.seq (.region false [⟨some 72, none, .rd .mov [.tmp 10]⟩,
              ⟨some 73, none, .rd .mov [.tmp 8]⟩,
              ⟨some 74, none, .rd (.bin .lss) [.tmp 72, .tmp 73]⟩,
              ⟨some 75, none, .rd .mov [.tmp 74]⟩,
              ⟨some 76, some (75, false), .rd .mov [.tmp 11]⟩,
              ⟨some 77, some (75, false), .rd .mov [.tmp 10]⟩,
              ⟨some 78, some (75, false), .rd (.bin .leq) [.tmp 76, .tmp 77]⟩,
              ⟨some 79, none, .rd .pick [.tmp 75, .pv (.bool true), .tmp 78]⟩,
              ⟨some 80, none, .rd .mov [.tmp 79]⟩,
              ⟨some 81, some (80, false), .rd .mov [.tmp 11]⟩,
              ⟨some 82, some (80, false), .rd (.fldAddr 1) [.tmp 3]⟩,
              ⟨some 83, some (80, false), .rd (.load none) [.tmp 82]⟩,
              ⟨some 84, some (80, false), .rd (.bin .gtr) [.tmp 81, .tmp 83]⟩,
              ⟨some 85, none, .rd .pick [.tmp 80, .pv (.bool true), .tmp 84]⟩] L9)
           (.cond (.tmp 85)
            (.seq (.region false [⟨some 4, none, .rd .mov [.pv (.bool false)]⟩] L9)
             (.ret))
            (.skip)))
          (.seq (.region false [⟨some 86, none, .rd .mov [.tmp 6]⟩,
             ⟨some 87, none, .rd .mov [.tmp 10]⟩,
             ⟨some 88, none, .call (.pv (.fn 28 [] [])) [.tmp 86, .tmp 87]⟩,
             ⟨some 12, none, .rd .mov [.tmp 88]⟩] L9)
          (.seq (.seq (.regionA (.alt [⟨some 89, none, .rd .mov [.tmp 12]⟩,
               ⟨some 90, none, .rd (.bin .lss) [.tmp 89, .pv (.int .i64 0)]⟩,
               ⟨some 91, none, .rd .mov [.tmp 90]⟩,
               ⟨some 92, some (91, false), .rd .mov [.tmp 7]⟩,
               ⟨some 93, some (91, false), .rd .mov [.tmp 9]⟩,
               ⟨some 94, some (91, false), .rd (.idxAddr (some 5)) [.tmp 92, .tmp 93]⟩,
               ⟨some 95, some (91, false), .rd (.fldAddr 2) [.tmp 94]⟩,
               ⟨some 97, some (91, false), .rd .mov [.tmp 6]⟩,
               ⟨some 98, some (91, false), .rd .mov [.tmp 12]⟩,
               ⟨some 99, some (91, false), .rd (.idxAddr (some 5)) [.tmp 97, .tmp 98]⟩]
              (.alt [⟨some 96, some (91, false), .rd (.load (some 3)) [.tmp 95]⟩,
                ⟨some 100, some (91, false), .rd (.load (some 5)) [.tmp 99]⟩,
                ⟨some 101, some (91, false), .call (.pv (.fn 24 [] [])) [.tmp 100]⟩,
                ⟨some 102, some (91, false), .rd (.eqA true [0, 0, 2]) [.tmp 96, .tmp 101]⟩,
                ⟨some 103, none, .rd .pick [.tmp 91, .pv (.bool true), .tmp 102]⟩,
                ⟨some 104, none, .rd .mov [.tmp 103]⟩,
                ⟨some 105, some (104, false), .rd .mov [.tmp 6]⟩,
                ⟨some 106, some (104, false), .rd .mov [.tmp 11]⟩,
                ⟨some 107, some (104, false), .rd (.bin .sub) [.tmp 106, .pv (.int .i64 1)]⟩,
                ⟨some 109, some (104, false), .rd .mov [.tmp 12]⟩,
                ⟨some 108, some (104, false), .call (.pv (.fn 28 [] [])) [.tmp 105, .tmp 107]⟩,
                ⟨some 110, some (104, false), .rd (.bin .neq) [.tmp 108, .tmp 109]⟩,
                ⟨some 111, none, .rd .pick [.tmp 104, .pv (.bool true), .tmp 110]⟩,
                ⟨some 112, none, .rd .mov [.tmp 111]⟩,
                ⟨some 113, some (112, false), .rd .mov [.tmp 11]⟩,
                ⟨some 114, some (112, false), .rd (.fldAddr 1) [.tmp 3]⟩,
                ⟨some 115, some (112, false), .rd (.load none) [.tmp 114]⟩,
                ⟨some 116, some (112, false), .rd (.bin .lss) [.tmp 113, .tmp 115]⟩,
                ⟨some 117, some (112, false), .rd .mov [.tmp 116]⟩,
                ⟨some 118, some (117, true), .rd .mov [.tmp 6]⟩,
                ⟨some 119, some (117, true), .rd .mov [.tmp 11]⟩,
                ⟨some 121, some (117, true), .rd .mov [.tmp 12]⟩,
                ⟨some 120, some (117, true), .call (.pv (.fn 28 [] [])) [.tmp 118, .tmp 119]⟩,
                ⟨some 122, some (117, true), .rd (.bin .eql) [.tmp 120, .tmp 121]⟩,
                ⟨some 123, some (112, false), .rd .pick [.tmp 117, .tmp 122, .pv (.bool false)]⟩,
                ⟨some 124, none, .rd .pick [.tmp 112, .pv (.bool true), .tmp 123]⟩,
                ⟨some 125, none, .rd .mov [.tmp 124]⟩,
                ⟨some 126, some (125, false), .rd .mov [.tmp 10]⟩,
                ⟨some 127, some (125, false), .rd (.fldAddr 0) [.tmp 3]⟩,
                ⟨some 128, some (125, false), .rd (.load none) [.tmp 127]⟩,
                ⟨some 129, some (125, false), .rd (.bin .gtr) [.tmp 126, .tmp 128]⟩,
                ⟨some 130, some (125, false), .rd .mov [.tmp 129]⟩,
                ⟨some 131, some (130, true), .rd .mov [.tmp 6]⟩,
                ⟨some 132, some (130, true), .rd .mov [.tmp 10]⟩,
                ⟨some 133, some (130, true), .rd (.bin .sub) [.tmp 132, .pv (.int .i64 1)]⟩,
                ⟨some 135, some (130, true), .rd .mov [.tmp 12]⟩,
                ⟨some 134, some (130, true), .call (.pv (.fn 28 [] [])) [.tmp 131, .tmp 133]⟩,
                ⟨some 136, some (130, true), .rd (.bin .eql) [.tmp 134, .tmp 135]⟩,
                ⟨some 137, some (125, false), .rd .pick [.tmp 130, .tmp 136, .pv (.bool false)]⟩,
                ⟨some 138, none, .rd .pick [.tmp 125, .pv (.bool true), .tmp 137]⟩]
               .done
               (.alt [⟨some 100, some (91, false), .rd (.load (some 5)) [.tmp 99]⟩]
                (.alt [⟨some 96, some (91, false), .rd (.load (some 3)) [.tmp 95]⟩,
                  ⟨some 101, some (91, false), .call (.pv (.fn 24 [] [])) [.tmp 100]⟩,
                  ⟨some 102, some (91, false), .rd (.eqA true [0, 0, 2]) [.tmp 96, .tmp 101]⟩,
                  ⟨some 103, none, .rd .pick [.tmp 91, .pv (.bool true), .tmp 102]⟩,
                  ⟨some 104, none, .rd .mov [.tmp 103]⟩,
                  ⟨some 105, some (104, false), .rd .mov [.tmp 6]⟩,
                  ⟨some 106, some (104, false), .rd .mov [.tmp 11]⟩,
                  ⟨some 107, some (104, false), .rd (.bin .sub) [.tmp 106, .pv (.int .i64 1)]⟩,
                  ⟨some 109, some (104, false), .rd .mov [.tmp 12]⟩,
                  ⟨some 108, some (104, false), .call (.pv (.fn 28 [] [])) [.tmp 105, .tmp 107]⟩,
                  ⟨some 110, some (104, false), .rd (.bin .neq) [.tmp 108, .tmp 109]⟩,
                  ⟨some 111, none, .rd .pick [.tmp 104, .pv (.bool true), .tmp 110]⟩,
                  ⟨some 112, none, .rd .mov [.tmp 111]⟩,
                  ⟨some 113, some (112, false), .rd .mov [.tmp 11]⟩,
                  ⟨some 114, some (112, false), .rd (.fldAddr 1) [.tmp 3]⟩,
                  ⟨some 115, some (112, false), .rd (.load none) [.tmp 114]⟩,
                  ⟨some 116, some (112, false), .rd (.bin .lss) [.tmp 113, .tmp 115]⟩,
                  ⟨some 117, some (112, false), .rd .mov [.tmp 116]⟩,
                  ⟨some 118, some (117, true), .rd .mov [.tmp 6]⟩,
                  ⟨some 119, some (117, true), .rd .mov [.tmp 11]⟩,
                  ⟨some 121, some (117, true), .rd .mov [.tmp 12]⟩,
                  ⟨some 120, some (117, true), .call (.pv (.fn 28 [] [])) [.tmp 118, .tmp 119]⟩,
                  ⟨some 122, some (117, true), .rd (.bin .eql) [.tmp 120, .tmp 121]⟩,
                  ⟨some 123, some (112, false), .rd .pick [.tmp 117, .tmp 122, .pv (.bool false)]⟩,
                  ⟨some 124, none, .rd .pick [.tmp 112, .pv (.bool true), .tmp 123]⟩,
                  ⟨some 125, none, .rd .mov [.tmp 124]⟩,
                  ⟨some 126, some (125, false), .rd .mov [.tmp 10]⟩,
                  ⟨some 127, some (125, false), .rd (.fldAddr 0) [.tmp 3]⟩,
                  ⟨some 128, some (125, false), .rd (.load none) [.tmp 127]⟩,
                  ⟨some 129, some (125, false), .rd (.bin .gtr) [.tmp 126, .tmp 128]⟩,
                  ⟨some 130, some (125, false), .rd .mov [.tmp 129]⟩,
                  ⟨some 131, some (130, true), .rd .mov [.tmp 6]⟩,
                  ⟨some 132, some (130, true), .rd .mov [.tmp 10]⟩,
                  ⟨some 133, some (130, true), .rd (.bin .sub) [.tmp 132, .pv (.int .i64 1)]⟩,
                  ⟨some 135, some (130, true), .rd .mov [.tmp 12]⟩,
                  ⟨some 134, some (130, true), .call (.pv (.fn 28 [] [])) [.tmp 131, .tmp 133]⟩,
                  ⟨some 136, some (130, true), .rd (.bin .eql) [.tmp 134, .tmp 135]⟩,
                  ⟨some 137, some (125, false), .rd .pick [.tmp 130, .tmp 136, .pv (.bool false)]⟩,
                  ⟨some 138, none, .rd .pick [.tmp 125, .pv (.bool true), .tmp 137]⟩]
                 .done
                 (.alt [⟨some 101, some (91, false), .call (.pv (.fn 24 [] [])) [.tmp 100]⟩,
                   ⟨some 96, some (91, false), .rd (.load (some 3)) [.tmp 95]⟩,
                   ⟨some 102, some (91, false), .rd (.eqA true [0, 0, 2]) [.tmp 96, .tmp 101]⟩,
                   ⟨some 103, none, .rd .pick [.tmp 91, .pv (.bool true), .tmp 102]⟩,
                   ⟨some 104, none, .rd .mov [.tmp 103]⟩,
                   ⟨some 105, some (104, false), .rd .mov [.tmp 6]⟩,
                   ⟨some 106, some (104, false), .rd .mov [.tmp 11]⟩,
                   ⟨some 107, some (104, false), .rd (.bin .sub) [.tmp 106, .pv (.int .i64 1)]⟩,
                   ⟨some 109, some (104, false), .rd .mov [.tmp 12]⟩,
                   ⟨some 108, some (104, false), .call (.pv (.fn 28 [] [])) [.tmp 105, .tmp 107]⟩,
                   ⟨some 110, some (104, false), .rd (.bin .neq) [.tmp 108, .tmp 109]⟩,
                   ⟨some 111, none, .rd .pick [.tmp 104, .pv (.bool true), .tmp 110]⟩,
                   ⟨some 112, none, .rd .mov [.tmp 111]⟩,
                   ⟨some 113, some (112, false), .rd .mov [.tmp 11]⟩,
                   ⟨some 114, some (112, false), .rd (.fldAddr 1) [.tmp 3]⟩,
                   ⟨some 115, some (112, false), .rd (.load none) [.tmp 114]⟩,
                   ⟨some 116, some (112, false), .rd (.bin .lss) [.tmp 113, .tmp 115]⟩,
                   ⟨some 117, some (112, false), .rd .mov [.tmp 116]⟩,
                   ⟨some 118, some (117, true), .rd .mov [.tmp 6]⟩,
                   ⟨some 119, some (117, true), .rd .mov [.tmp 11]⟩,
                   ⟨some 121, some (117, true), .rd .mov [.tmp 12]⟩,
                   ⟨some 120, some (117, true), .call (.pv (.fn 28 [] [])) [.tmp 118, .tmp 119]⟩,
                   ⟨some 122, some (117, true), .rd (.bin .eql) [.tmp 120, .tmp 121]⟩,
                   ⟨some 123, some (112, false), .rd .pick [.tmp 117, .tmp 122, .pv (.bool false)]⟩,
                   ⟨some 124, none, .rd .pick [.tmp 112, .pv (.bool true), .tmp 123]⟩,
                   ⟨some 125, none, .rd .mov [.tmp 124]⟩,
                   ⟨some 126, some (125, false), .rd .mov [.tmp 10]⟩,
                   ⟨some 127, some (125, false), .rd (.fldAddr 0) [.tmp 3]⟩,
                   ⟨some 128, some (125, false), .rd (.load none) [.tmp 127]⟩,
                   ⟨some 129, some (125, false), .rd (.bin .gtr) [.tmp 126, .tmp 128]⟩,
                   ⟨some 130, some (125, false), .rd .mov [.tmp 129]⟩,
                   ⟨some 131, some (130, true), .rd .mov [.tmp 6]⟩,
                   ⟨some 132, some (130, true), .rd .mov [.tmp 10]⟩,
                   ⟨some 133, some (130, true), .rd (.bin .sub) [.tmp 132, .pv (.int .i64 1)]⟩,
                   ⟨some 135, some (130, true), .rd .mov [.tmp 12]⟩,
                   ⟨some 134, some (130, true), .call (.pv (.fn 28 [] [])) [.tmp 131, .tmp 133]⟩,
                   ⟨some 136, some (130, true), .rd (.bin .eql) [.tmp 134, .tmp 135]⟩,
                   ⟨some 137, some (125, false), .rd .pick [.tmp 130, .tmp 136, .pv (.bool false)]⟩,
                   ⟨some 138, none, .rd .pick [.tmp 125, .pv (.bool true), .tmp 137]⟩]
                  .done
                  .stop))
                .stop))
              .stop) L9)
           (.cond (.tmp 138)
            (.seq (.region false [⟨some 4, none, .rd .mov [.pv (.bool false)]⟩] L9)
             (.ret))
            (.skip)))
          (.seq (.seq (.region false [⟨some 139, none, .rd .mov [.tmp 10]⟩,
              ⟨some 140, none, .rd .mov [.tmp 8]⟩,
              ⟨some 141, none, .rd (.bin .gtr) [.tmp 139, .tmp 140]⟩,
              ⟨some 142, none, .rd .mov [.tmp 141]⟩,
              ⟨some 143, some (142, true), .rd .mov [.tmp 6]⟩,
              ⟨some 144, some (142, true), .rd .mov [.tmp 8]⟩,
              ⟨some 145, some (142, true), .call (.pv (.fn 28 [] [])) [.tmp 143, .tmp 144]⟩,
              ⟨some 146, some (142, true), .rd (.bin .geq) [.tmp 145, .pv (.int .i64 0)]⟩,
              ⟨some 147, some (142, true), .rd .mov [.tmp 146]⟩,
              ⟨some 148, some (147, false), .rd .mov [.tmp 6]⟩,
              ⟨some 149, some (147, false), .rd .mov [.tmp 10]⟩,
              ⟨some 150, some (147, false), .rd (.bin .sub) [.tmp 149, .pv (.int .i64 1)]⟩,
              ⟨some 151, some (147, false), .call (.pv (.fn 28 [] [])) [.tmp 148, .tmp 150]⟩,
              ⟨some 152, some (147, false), .rd (.bin .geq) [.tmp 151, .pv (.int .i64 0)]⟩,
              ⟨some 153, some (142, true), .rd .pick [.tmp 147, .pv (.bool true), .tmp 152]⟩,
              ⟨some 154, none, .rd .pick [.tmp 142, .tmp 153, .pv (.bool false)]⟩] L9)
           (.cond (.tmp 154)
            (.seq (.region false [⟨some 4, none, .rd .mov [.pv (.bool false)]⟩] L9)
             (.ret))
            (.skip)))
          (.region false [⟨some 155, none, .rd .mov [.tmp 11]⟩,
            ⟨some 8, none, .rd .mov [.tmp 155]⟩] L9)))))))
       (.region false [⟨some 58, none, .rd .mov [.tmp 9]⟩,
         ⟨some 59, none, .rd (.bin .add) [.tmp 58, .pv (.int .i64 1)]⟩,
         ⟨some 9, none, .rd .mov [.tmp 59]⟩] L9))))))
  (.seq (.seq (.region false [⟨some 156, none, .rd .mov [.tmp 8]⟩,
      ⟨some 157, none, .rd (.fldAddr 1) [.tmp 3]⟩,
      ⟨some 158, none, .rd (.load none) [.tmp 157]⟩,
      ⟨some 159, none, .rd (.bin .lss) [.tmp 156, .tmp 158]⟩,
      ⟨some 160, none, .rd .mov [.tmp 159]⟩,
      ⟨some 161, some (160, true), .rd .mov [.tmp 6]⟩,
      ⟨some 162, some (160, true), .rd .mov [.tmp 8]⟩,
      ⟨some 163, some (160, true), .call (.pv (.fn 28 [] [])) [.tmp 161, .tmp 162]⟩,
      ⟨some 164, some (160, true), .rd (.bin .geq) [.tmp 163, .pv (.int .i64 0)]⟩,
      ⟨some 165, some (160, true), .rd .mov [.tmp 164]⟩,
      ⟨some 166, some (165, false), .rd .mov [.tmp 6]⟩,
      ⟨some 167, some (165, false), .rd (.fldAddr 1) [.tmp 3]⟩,
      ⟨some 168, some (165, false), .rd (.load none) [.tmp 167]⟩,
      ⟨some 169, some (165, false), .rd (.bin .sub) [.tmp 168, .pv (.int .i64 1)]⟩,
      ⟨some 170, some (165, false), .call (.pv (.fn 28 [] [])) [.tmp 166, .tmp 169]⟩,
      ⟨some 171, some (165, false), .rd (.bin .geq) [.tmp 170, .pv (.int .i64 0)]⟩,
      ⟨some 172, some (160, true), .rd .pick [.tmp 165, .pv (.bool true), .tmp 171]⟩,
      ⟨some 173, none, .rd .pick [.tmp 160, .tmp 172, .pv (.bool false)]⟩] L9)
   (.cond (.tmp 173)
    (.seq (.region false [⟨some 4, none, .rd .mov [.pv (.bool false)]⟩] L9)
     (.ret))
    (.skip)))
  (.seq (.seq (.region false [⟨some 174, none, .rd (.fldAddr 0) [.tmp 3]⟩,
      ⟨some 175, none, .rd (.load none) [.tmp 174]⟩,
      ⟨some 176, none, .rd (.bin .lss) [.tmp 175, .pv (.int .i64 (-1099511627776))]⟩,
      ⟨some 177, none, .rd .mov [.tmp 176]⟩,
      ⟨some 178, some (177, false), .rd (.fldAddr 1) [.tmp 3]⟩,
      ⟨some 179, some (177, false), .rd (.load none) [.tmp 178]⟩,
      ⟨some 180, some (177, false), .rd (.bin .gtr) [.tmp 179, .pv (.int .i64 1099511627776)]⟩,
      ⟨some 181, none, .rd .pick [.tmp 177, .pv (.bool true), .tmp 180]⟩,
      ⟨some 182, none, .rd .mov [.tmp 181]⟩,
      ⟨some 183, some (182, false), .rd (.fldAddr 1) [.tmp 3]⟩,
      ⟨some 184, some (182, false), .rd (.load none) [.tmp 183]⟩,
      ⟨some 185, some (182, false), .rd (.fldAddr 0) [.tmp 3]⟩,
      ⟨some 186, some (182, false), .rd (.load none) [.tmp 185]⟩,
      ⟨some 187, some (182, false), .rd (.bin .sub) [.tmp 184, .tmp 186]⟩,
      ⟨some 188, some (182, false), .rd (.bin .gtr) [.tmp 187, .pv (.int .i64 4096)]⟩,
      ⟨some 189, none, .rd .pick [.tmp 182, .pv (.bool true), .tmp 188]⟩] L9)
   (.cond (.tmp 189)
    (.seq (.region false [⟨some 190, none, .rd (.load (some 1)) [.tmp 5]⟩,
        ⟨some 191, none, .rd (.load (some 2)) [.tmp 3]⟩,
        ⟨some 192, none, .call (.pv (.fn 29 [] [])) [.tmp 190, .tmp 191]⟩,
        ⟨some 193, none, .rd .lenL [.tmp 192]⟩,
        ⟨some 194, none, .rd (.bin .eql) [.tmp 193, .pv (.int .i64 0)]⟩,
        ⟨some 195, none, .rd .mov [.tmp 194]⟩,
        ⟨some 196, some (195, false), .rd (.fldAddr 1) [.tmp 3]⟩,
        ⟨some 197, some (195, false), .rd (.load none) [.tmp 196]⟩,
        ⟨some 198, some (195, false), .rd (.fldAddr 0) [.tmp 3]⟩,
        ⟨some 199, some (195, false), .rd (.load none) [.tmp 198]⟩,
        ⟨some 200, some (195, false), .rd (.bin .sub) [.tmp 197, .tmp 199]⟩,
        ⟨some 201, some (195, false), .rd (.bin .leq) [.tmp 200, .pv (.int .i64 4096)]⟩,
        ⟨some 202, none, .rd .pick [.tmp 195, .pv (.bool true), .tmp 201]⟩,
        ⟨some 4, none, .rd .mov [.tmp 202]⟩] L9)
     (.ret))
    (.skip)))
  (.seq (.regionA (.alt [⟨some 207, none, .rd (.fldAddr 1) [.tmp 3]⟩,
      ⟨some 209, none, .rd (.fldAddr 0) [.tmp 3]⟩]
     (.alt [⟨some 203, none, .rd (.load (some 1)) [.tmp 5]⟩]
      (.alt [⟨some 204, none, .rd (.load (some 2)) [.tmp 3]⟩]
       (.alt [⟨some 205, none, .call (.pv (.fn 29 [] [])) [.tmp 203, .tmp 204]⟩,
         ⟨some 206, none, .rd .lenL [.tmp 205]⟩]
        (.alt [⟨some 208, none, .rd (.load none) [.tmp 207]⟩,
          ⟨some 210, none, .rd (.load none) [.tmp 209]⟩,
          ⟨some 211, none, .rd (.bin .sub) [.tmp 208, .tmp 210]⟩,
          ⟨some 212, none, .rd (.bin .eql) [.tmp 206, .tmp 211]⟩,
          ⟨some 213, none, .rd .mov [.tmp 212]⟩,
          ⟨some 214, some (213, true), .call (.pv (.fn 17 [] [])) []⟩,
          ⟨some 215, none, .rd .pick [.tmp 213, .tmp 214, .pv (.bool false)]⟩,
          ⟨some 4, none, .rd .mov [.tmp 215]⟩]
         .done
         (.alt [⟨some 210, none, .rd (.load none) [.tmp 209]⟩,
           ⟨some 208, none, .rd (.load none) [.tmp 207]⟩,
           ⟨some 211, none, .rd (.bin .sub) [.tmp 208, .tmp 210]⟩,
           ⟨some 212, none, .rd (.bin .eql) [.tmp 206, .tmp 211]⟩,
           ⟨some 213, none, .rd .mov [.tmp 212]⟩,
           ⟨some 214, some (213, true), .call (.pv (.fn 17 [] [])) []⟩,
           ⟨some 215, none, .rd .pick [.tmp 213, .tmp 214, .pv (.bool false)]⟩,
           ⟨some 4, none, .rd .mov [.tmp 215]⟩]
          .done
          .stop))
        (.alt [⟨some 208, none, .rd (.load none) [.tmp 207]⟩]
         (.alt [⟨some 205, none, .call (.pv (.fn 29 [] [])) [.tmp 203, .tmp 204]⟩,
           ⟨some 206, none, .rd .lenL [.tmp 205]⟩,
           ⟨some 210, none, .rd (.load none) [.tmp 209]⟩,
           ⟨some 211, none, .rd (.bin .sub) [.tmp 208, .tmp 210]⟩,
           ⟨some 212, none, .rd (.bin .eql) [.tmp 206, .tmp 211]⟩,
           ⟨some 213, none, .rd .mov [.tmp 212]⟩,
           ⟨some 214, some (213, true), .call (.pv (.fn 17 [] [])) []⟩,
           ⟨some 215, none, .rd .pick [.tmp 213, .tmp 214, .pv (.bool false)]⟩,
           ⟨some 4, none, .rd .mov [.tmp 215]⟩]
          .done
          (.alt [⟨some 210, none, .rd (.load none) [.tmp 209]⟩,
            ⟨some 211, none, .rd (.bin .sub) [.tmp 208, .tmp 210]⟩,
            ⟨some 205, none, .call (.pv (.fn 29 [] [])) [.tmp 203, .tmp 204]⟩,
            ⟨some 206, none, .rd .lenL [.tmp 205]⟩,
            ⟨some 212, none, .rd (.bin .eql) [.tmp 206, .tmp 211]⟩,
            ⟨some 213, none, .rd .mov [.tmp 212]⟩,
            ⟨some 214, some (213, true), .call (.pv (.fn 17 [] [])) []⟩,
            ⟨some 215, none, .rd .pick [.tmp 213, .tmp 214, .pv (.bool false)]⟩,
            ⟨some 4, none, .rd .mov [.tmp 215]⟩]
           .done
           .stop))
         (.alt [⟨some 210, none, .rd (.load none) [.tmp 209]⟩]
          (.alt [⟨some 205, none, .call (.pv (.fn 29 [] [])) [.tmp 203, .tmp 204]⟩,
            ⟨some 206, none, .rd .lenL [.tmp 205]⟩,
            ⟨some 208, none, .rd (.load none) [.tmp 207]⟩,
            ⟨some 211, none, .rd (.bin .sub) [.tmp 208, .tmp 210]⟩,
            ⟨some 212, none, .rd (.bin .eql) [.tmp 206, .tmp 211]⟩,
            ⟨some 213, none, .rd .mov [.tmp 212]⟩,
            ⟨some 214, some (213, true), .call (.pv (.fn 17 [] [])) []⟩,
            ⟨some 215, none, .rd .pick [.tmp 213, .tmp 214, .pv (.bool false)]⟩,
            ⟨some 4, none, .rd .mov [.tmp 215]⟩]
           .done
           (.alt [⟨some 208, none, .rd (.load none) [.tmp 207]⟩,
             ⟨some 211, none, .rd (.bin .sub) [.tmp 208, .tmp 210]⟩,
             ⟨some 205, none, .call (.pv (.fn 29 [] [])) [.tmp 203, .tmp 204]⟩,
             ⟨some 206, none, .rd .lenL [.tmp 205]⟩,
             ⟨some 212, none, .rd (.bin .eql) [.tmp 206, .tmp 211]⟩,
             ⟨some 213, none, .rd .mov [.tmp 212]⟩,
             ⟨some 214, some (213, true), .call (.pv (.fn 17 [] [])) []⟩,
             ⟨some 215, none, .rd .pick [.tmp 213, .tmp 214, .pv (.bool false)]⟩,
             ⟨some 4, none, .rd .mov [.tmp 215]⟩]
            .done
            .stop))
          .stop)))
       (.alt [⟨some 208, none, .rd (.load none) [.tmp 207]⟩]
        (.alt [⟨some 204, none, .rd (.load (some 2)) [.tmp 3]⟩]
         (.alt [⟨some 205, none, .call (.pv (.fn 29 [] [])) [.tmp 203, .tmp 204]⟩,
           ⟨some 206, none, .rd .lenL [.tmp 205]⟩,
           ⟨some 210, none, .rd (.load none) [.tmp 209]⟩,
           ⟨some 211, none, .rd (.bin .sub) [.tmp 208, .tmp 210]⟩,
           ⟨some 212, none, .rd (.bin .eql) [.tmp 206, .tmp 211]⟩,
           ⟨some 213, none, .rd .mov [.tmp 212]⟩,
           ⟨some 214, some (213, true), .call (.pv (.fn 17 [] [])) []⟩,
           ⟨some 215, none, .rd .pick [.tmp 213, .tmp 214, .pv (.bool false)]⟩,
           ⟨some 4, none, .rd .mov [.tmp 215]⟩]
          .done
          (.alt [⟨some 210, none, .rd (.load none) [.tmp 209]⟩,
            ⟨some 211, none, .rd (.bin .sub) [.tmp 208, .tmp 210]⟩,
            ⟨some 205, none, .call (.pv (.fn 29 [] [])) [.tmp 203, .tmp 204]⟩,
            ⟨some 206, none, .rd .lenL [.tmp 205]⟩,
            ⟨some 212, none, .rd (.bin .eql) [.tmp 206, .tmp 211]⟩,
            ⟨some 213, none, .rd .mov [.tmp 212]⟩,
            ⟨some 214, some (213, true), .call (.pv (.fn 17 [] [])) []⟩,
            ⟨some 215, none, .rd .pick [.tmp 213, .tmp 214, .pv (.bool false)]⟩,
            ⟨some 4, none, .rd .mov [.tmp 215]⟩]
           .done
           .stop))
         (.alt [⟨some 210, none, .rd (.load none) [.tmp 209]⟩,
           ⟨some 211, none, .rd (.bin .sub) [.tmp 208, .tmp 210]⟩,
           ⟨some 204, none, .rd (.load (some 2)) [.tmp 3]⟩,
           ⟨some 205, none, .call (.pv (.fn 29 [] [])) [.tmp 203, .tmp 204]⟩,
           ⟨some 206, none, .rd .lenL [.tmp 205]⟩,
           ⟨some 212, none, .rd (.bin .eql) [.tmp 206, .tmp 211]⟩,
           ⟨some 213, none, .rd .mov [.tmp 212]⟩,
           ⟨some 214, some (213, true), .call (.pv (.fn 17 [] [])) []⟩,
           ⟨some 215, none, .rd .pick [.tmp 213, .tmp 214, .pv (.bool false)]⟩,
           ⟨some 4, none, .rd .mov [.tmp 215]⟩]
          .done
          .stop))
        (.alt [⟨some 210, none, .rd (.load none) [.tmp 209]⟩]
         (.alt [⟨some 204, none, .rd (.load (some 2)) [.tmp 3]⟩]
          (.alt [⟨some 205, none, .call (.pv (.fn 29 [] [])) [.tmp 203, .tmp 204]⟩,
            ⟨some 206, none, .rd .lenL [.tmp 205]⟩,
            ⟨some 208, none, .rd (.load none) [.tmp 207]⟩,
            ⟨some 211, none, .rd (.bin .sub) [.tmp 208, .tmp 210]⟩,
            ⟨some 212, none, .rd (.bin .eql) [.tmp 206, .tmp 211]⟩,
            ⟨some 213, none, .rd .mov [.tmp 212]⟩,
            ⟨some 214, some (213, true), .call (.pv (.fn 17 [] [])) []⟩,
            ⟨some 215, none, .rd .pick [.tmp 213, .tmp 214, .pv (.bool false)]⟩,
            ⟨some 4, none, .rd .mov [.tmp 215]⟩]
           .done
           (.alt [⟨some 208, none, .rd (.load none) [.tmp 207]⟩,
             ⟨some 211, none, .rd (.bin .sub) [.tmp 208, .tmp 210]⟩,
             ⟨some 205, none, .call (.pv (.fn 29 [] [])) [.tmp 203, .tmp 204]⟩,
             ⟨some 206, none, .rd .lenL [.tmp 205]⟩,
             ⟨some 212, none, .rd (.bin .eql) [.tmp 206, .tmp 211]⟩,
             ⟨some 213, none, .rd .mov [.tmp 212]⟩,
             ⟨some 214, some (213, true), .call (.pv (.fn 17 [] [])) []⟩,
             ⟨some 215, none, .rd .pick [.tmp 213, .tmp 214, .pv (.bool false)]⟩,
             ⟨some 4, none, .rd .mov [.tmp 215]⟩]
            .done
            .stop))
          (.alt [⟨some 208, none, .rd (.load none) [.tmp 207]⟩,
            ⟨some 211, none, .rd (.bin .sub) [.tmp 208, .tmp 210]⟩,
            ⟨some 204, none, .rd (.load (some 2)) [.tmp 3]⟩,
            ⟨some 205, none, .call (.pv (.fn 29 [] [])) [.tmp 203, .tmp 204]⟩,
            ⟨some 206, none, .rd .lenL [.tmp 205]⟩,
            ⟨some 212, none, .rd (.bin .eql) [.tmp 206, .tmp 211]⟩,
            ⟨some 213, none, .rd .mov [.tmp 212]⟩,
            ⟨some 214, some (213, true), .call (.pv (.fn 17 [] [])) []⟩,
            ⟨some 215, none, .rd .pick [.tmp 213, .tmp 214, .pv (.bool false)]⟩,
            ⟨some 4, none, .rd .mov [.tmp 215]⟩]
           .done
           .stop))
         .stop)))
      (.alt [⟨some 204, none, .rd (.load (some 2)) [.tmp 3]⟩]
       (.alt [⟨some 203, none, .rd (.load (some 1)) [.tmp 5]⟩]
        (.alt [⟨some 205, none, .call (.pv (.fn 29 [] [])) [.tmp 203, .tmp 204]⟩,
          ⟨some 206, none, .rd .lenL [.tmp 205]⟩]
         (.alt [⟨some 208, none, .rd (.load none) [.tmp 207]⟩,
           ⟨some 210, none, .rd (.load none) [.tmp 209]⟩,
           ⟨some 211, none, .rd (.bin .sub) [.tmp 208, .tmp 210]⟩,
           ⟨some 212, none, .rd (.bin .eql) [.tmp 206, .tmp 211]⟩,
           ⟨some 213, none, .rd .mov [.tmp 212]⟩,
           ⟨some 214, some (213, true), .call (.pv (.fn 17 [] [])) []⟩,
           ⟨some 215, none, .rd .pick [.tmp 213, .tmp 214, .pv (.bool false)]⟩,
           ⟨some 4, none, .rd .mov [.tmp 215]⟩]
          .done
          (.alt [⟨some 210, none, .rd (.load none) [.tmp 209]⟩,
            ⟨some 208, none, .rd (.load none) [.tmp 207]⟩,
            ⟨some 211, none, .rd (.bin .sub) [.tmp 208, .tmp 210]⟩,
            ⟨some 212, none, .rd (.bin .eql) [.tmp 206, .tmp 211]⟩,
            ⟨some 213, none, .rd .mov [.tmp 212]⟩,
            ⟨some 214, some (213, true), .call (.pv (.fn 17 [] [])) []⟩,
            ⟨some 215, none, .rd .pick [.tmp 213, .tmp 214, .pv (.bool false)]⟩,
            ⟨some 4, none, .rd .mov [.tmp 215]⟩]
           .done
           .stop))
         (.alt [⟨some 208, none, .rd (.load none) [.tmp 207]⟩]
          (.alt [⟨some 205, none, .call (.pv (.fn 29 [] [])) [.tmp 203, .tmp 204]⟩,
            ⟨some 206, none, .rd .lenL [.tmp 205]⟩,
            ⟨some 210, none, .rd (.load none) [.tmp 209]⟩,
            ⟨some 211, none, .rd (.bin .sub) [.tmp 208, .tmp 210]⟩,
            ⟨some 212, none, .rd (.bin .eql) [.tmp 206, .tmp 211]⟩,
            ⟨some 213, none, .rd .mov [.tmp 212]⟩,
            ⟨some 214, some (213, true), .call (.pv (.fn 17 [] [])) []⟩,
            ⟨some 215, none, .rd .pick [.tmp 213, .tmp 214, .pv (.bool false)]⟩,
            ⟨some 4, none, .rd .mov [.tmp 215]⟩]
           .done
           (.alt [⟨some 210, none, .rd (.load none) [.tmp 209]⟩,
             ⟨some 211, none, .rd (.bin .sub) [.tmp 208, .tmp 210]⟩,
             ⟨some 205, none, .call (.pv (.fn 29 [] [])) [.tmp 203, .tmp 204]⟩,
             ⟨some 206, none, .rd .lenL [.tmp 205]⟩,
             ⟨some 212, none, .rd (.bin .eql) [.tmp 206, .tmp 211]⟩,
             ⟨some 213, none, .rd .mov [.tmp 212]⟩,
             ⟨some 214, some (213, true), .call (.pv (.fn 17 [] [])) []⟩,
             ⟨some 215, none, .rd .pick [.tmp 213, .tmp 214, .pv (.bool false)]⟩,
             ⟨some 4, none, .rd .mov [.tmp 215]⟩]
            .done
            .stop))
          (.alt [⟨some 210, none, .rd (.load none) [.tmp 209]⟩]
           (.alt [⟨some 205, none, .call (.pv (.fn 29 [] [])) [.tmp 203, .tmp 204]⟩,
             ⟨some 206, none, .rd .lenL [.tmp 205]⟩,
             ⟨some 208, none, .rd (.load none) [.tmp 207]⟩,
             ⟨some 211, none, .rd (.bin .sub) [.tmp 208, .tmp 210]⟩,
             ⟨some 212, none, .rd (.bin .eql) [.tmp 206, .tmp 211]⟩,
             ⟨some 213, none, .rd .mov [.tmp 212]⟩,
             ⟨some 214, some (213, true), .call (.pv (.fn 17 [] [])) []⟩,
             ⟨some 215, none, .rd .pick [.tmp 213, .tmp 214, .pv (.bool false)]⟩,
             ⟨some 4, none, .rd .mov [.tmp 215]⟩]
            .done
            (.alt [⟨some 208, none, .rd (.load none) [.tmp 207]⟩,
              ⟨some 211, none, .rd (.bin .sub) [.tmp 208, .tmp 210]⟩,
              ⟨some 205, none, .call (.pv (.fn 29 [] [])) [.tmp 203, .tmp 204]⟩,
              ⟨some 206, none, .rd .lenL [.tmp 205]⟩,
              ⟨some 212, none, .rd (.bin .eql) [.tmp 206, .tmp 211]⟩,
              ⟨some 213, none, .rd .mov [.tmp 212]⟩,
              ⟨some 214, some (213, true), .call (.pv (.fn 17 [] [])) []⟩,
              ⟨some 215, none, .rd .pick [.tmp 213, .tmp 214, .pv (.bool false)]⟩,
              ⟨some 4, none, .rd .mov [.tmp 215]⟩]
             .done
             .stop))
           .stop)))
        (.alt [⟨some 208, none, .rd (.load none) [.tmp 207]⟩]
         (.alt [⟨some 203, none, .rd (.load (some 1)) [.tmp 5]⟩]
          (.alt [⟨some 205, none, .call (.pv (.fn 29 [] [])) [.tmp 203, .tmp 204]⟩,
            ⟨some 206, none, .rd .lenL [.tmp 205]⟩,
            ⟨some 210, none, .rd (.load none) [.tmp 209]⟩,
            ⟨some 211, none, .rd (.bin .sub) [.tmp 208, .tmp 210]⟩,
            ⟨some 212, none, .rd (.bin .eql) [.tmp 206, .tmp 211]⟩,
            ⟨some 213, none, .rd .mov [.tmp 212]⟩,
            ⟨some 214, some (213, true), .call (.pv (.fn 17 [] [])) []⟩,
            ⟨some 215, none, .rd .pick [.tmp 213, .tmp 214, .pv (.bool false)]⟩,
            ⟨some 4, none, .rd .mov [.tmp 215]⟩]
           .done
           (.alt [⟨some 210, none, .rd (.load none) [.tmp 209]⟩,
             ⟨some 211, none, .rd (.bin .sub) [.tmp 208, .tmp 210]⟩,
             ⟨some 205, none, .call (.pv (.fn 29 [] [])) [.tmp 203, .tmp 204]⟩,
             ⟨some 206, none, .rd .lenL [.tmp 205]⟩,
             ⟨some 212, none, .rd (.bin .eql) [.tmp 206, .tmp 211]⟩,
             ⟨some 213, none, .rd .mov [.tmp 212]⟩,
             ⟨some 214, some (213, true), .call (.pv (.fn 17 [] [])) []⟩,
             ⟨some 215, none, .rd .pick [.tmp 213, .tmp 214, .pv (.bool false)]⟩,
             ⟨some 4, none, .rd .mov [.tmp 215]⟩]
            .done
            .stop))
          (.alt [⟨some 210, none, .rd (.load none) [.tmp 209]⟩,
            ⟨some 211, none, .rd (.bin .sub) [.tmp 208, .tmp 210]⟩,
            ⟨some 203, none, .rd (.load (some 1)) [.tmp 5]⟩,
            ⟨some 205, none, .call (.pv (.fn 29 [] [])) [.tmp 203, .tmp 204]⟩,
            ⟨some 206, none, .rd .lenL [.tmp 205]⟩,
            ⟨some 212, none, .rd (.bin .eql) [.tmp 206, .tmp 211]⟩,
            ⟨some 213, none, .rd .mov [.tmp 212]⟩,
            ⟨some 214, some (213, true), .call (.pv (.fn 17 [] [])) []⟩,
            ⟨some 215, none, .rd .pick [.tmp 213, .tmp 214, .pv (.bool false)]⟩,
            ⟨some 4, none, .rd .mov [.tmp 215]⟩]
           .done
           .stop))
         (.alt [⟨some 210, none, .rd (.load none) [.tmp 209]⟩]
          (.alt [⟨some 203, none, .rd (.load (some 1)) [.tmp 5]⟩]
           (.alt [⟨some 205, none, .call (.pv (.fn 29 [] [])) [.tmp 203, .tmp 204]⟩,
             ⟨some 206, none, .rd .lenL [.tmp 205]⟩,
             ⟨some 208, none, .rd (.load none) [.tmp 207]⟩,
             ⟨some 211, none, .rd (.bin .sub) [.tmp 208, .tmp 210]⟩,
             ⟨some 212, none, .rd (.bin .eql) [.tmp 206, .tmp 211]⟩,
             ⟨some 213, none, .rd .mov [.tmp 212]⟩,
             ⟨some 214, some (213, true), .call (.pv (.fn 17 [] [])) []⟩,
             ⟨some 215, none, .rd .pick [.tmp 213, .tmp 214, .pv (.bool false)]⟩,
             ⟨some 4, none, .rd .mov [.tmp 215]⟩]
            .done
            (.alt [⟨some 208, none, .rd (.load none) [.tmp 207]⟩,
              ⟨some 211, none, .rd (.bin .sub) [.tmp 208, .tmp 210]⟩,
              ⟨some 205, none, .call (.pv (.fn 29 [] [])) [.tmp 203, .tmp 204]⟩,
              ⟨some 206, none, .rd .lenL [.tmp 205]⟩,
              ⟨some 212, none, .rd (.bin .eql) [.tmp 206, .tmp 211]⟩,
              ⟨some 213, none, .rd .mov [.tmp 212]⟩,
              ⟨some 214, some (213, true), .call (.pv (.fn 17 [] [])) []⟩,
              ⟨some 215, none, .rd .pick [.tmp 213, .tmp 214, .pv (.bool false)]⟩,
              ⟨some 4, none, .rd .mov [.tmp 215]⟩]
             .done
             .stop))
           (.alt [⟨some 208, none, .rd (.load none) [.tmp 207]⟩,
             ⟨some 211, none, .rd (.bin .sub) [.tmp 208, .tmp 210]⟩,
             ⟨some 203, none, .rd (.load (some 1)) [.tmp 5]⟩,
             ⟨some 205, none, .call (.pv (.fn 29 [] [])) [.tmp 203, .tmp 204]⟩,
             ⟨some 206, none, .rd .lenL [.tmp 205]⟩,
             ⟨some 212, none, .rd (.bin .eql) [.tmp 206, .tmp 211]⟩,
             ⟨some 213, none, .rd .mov [.tmp 212]⟩,
             ⟨some 214, some (213, true), .call (.pv (.fn 17 [] [])) []⟩,
             ⟨some 215, none, .rd .pick [.tmp 213, .tmp 214, .pv (.bool false)]⟩,
             ⟨some 4, none, .rd .mov [.tmp 215]⟩]
            .done
            .stop))
          .stop)))
       (.alt [⟨some 208, none, .rd (.load none) [.tmp 207]⟩]
        (.alt [⟨some 203, none, .rd (.load (some 1)) [.tmp 5]⟩]
         (.alt [⟨some 204, none, .rd (.load (some 2)) [.tmp 3]⟩]
          (.alt [⟨some 205, none, .call (.pv (.fn 29 [] [])) [.tmp 203, .tmp 204]⟩,
            ⟨some 206, none, .rd .lenL [.tmp 205]⟩,
            ⟨some 210, none, .rd (.load none) [.tmp 209]⟩,
            ⟨some 211, none, .rd (.bin .sub) [.tmp 208, .tmp 210]⟩,
            ⟨some 212, none, .rd (.bin .eql) [.tmp 206, .tmp 211]⟩,
            ⟨some 213, none, .rd .mov [.tmp 212]⟩,
            ⟨some 214, some (213, true), .call (.pv (.fn 17 [] [])) []⟩,
            ⟨some 215, none, .rd .pick [.tmp 213, .tmp 214, .pv (.bool false)]⟩,
            ⟨some 4, none, .rd .mov [.tmp 215]⟩]
           .done
           (.alt [⟨some 210, none, .rd (.load none) [.tmp 209]⟩,
             ⟨some 211, none, .rd (.bin .sub) [.tmp 208, .tmp 210]⟩,
             ⟨some 205, none, .call (.pv (.fn 29 [] [])) [.tmp 203, .tmp 204]⟩,
             ⟨some 206, none, .rd .lenL [.tmp 205]⟩,
             ⟨some 212, none, .rd (.bin .eql) [.tmp 206, .tmp 211]⟩,
             ⟨some 213, none, .rd .mov [.tmp 212]⟩,
             ⟨some 214, some (213, true), .call (.pv (.fn 17 [] [])) []⟩,
             ⟨some 215, none, .rd .pick [.tmp 213, .tmp 214, .pv (.bool false)]⟩,
             ⟨some 4, none, .rd .mov [.tmp 215]⟩]
            .done
            .stop))
          (.alt [⟨some 210, none, .rd (.load none) [.tmp 209]⟩,
            ⟨some 211, none, .rd (.bin .sub) [.tmp 208, .tmp 210]⟩,
            ⟨some 204, none, .rd (.load (some 2)) [.tmp 3]⟩,
            ⟨some 205, none, .call (.pv (.fn 29 [] [])) [.tmp 203, .tmp 204]⟩,
            ⟨some 206, none, .rd .lenL [.tmp 205]⟩,
            ⟨some 212, none, .rd (.bin .eql) [.tmp 206, .tmp 211]⟩,
            ⟨some 213, none, .rd .mov [.tmp 212]⟩,
            ⟨some 214, some (213, true), .call (.pv (.fn 17 [] [])) []⟩,
            ⟨some 215, none, .rd .pick [.tmp 213, .tmp 214, .pv (.bool false)]⟩,
            ⟨some 4, none, .rd .mov [.tmp 215]⟩]
           .done
           .stop))
         (.alt [⟨some 204, none, .rd (.load (some 2)) [.tmp 3]⟩]
          (.alt [⟨some 203, none, .rd (.load (some 1)) [.tmp 5]⟩]
           (.alt [⟨some 205, none, .call (.pv (.fn 29 [] [])) [.tmp 203, .tmp 204]⟩,
             ⟨some 206, none, .rd .lenL [.tmp 205]⟩,
             ⟨some 210, none, .rd (.load none) [.tmp 209]⟩,
             ⟨some 211, none, .rd (.bin .sub) [.tmp 208, .tmp 210]⟩,
             ⟨some 212, none, .rd (.bin .eql) [.tmp 206, .tmp 211]⟩,
             ⟨some 213, none, .rd .mov [.tmp 212]⟩,
             ⟨some 214, some (213, true), .call (.pv (.fn 17 [] [])) []⟩,
             ⟨some 215, none, .rd .pick [.tmp 213, .tmp 214, .pv (.bool false)]⟩,
             ⟨some 4, none, .rd .mov [.tmp 215]⟩]
            .done
            (.alt [⟨some 210, none, .rd (.load none) [.tmp 209]⟩,
              ⟨some 211, none, .rd (.bin .sub) [.tmp 208, .tmp 210]⟩,
              ⟨some 205, none, .call (.pv (.fn 29 [] [])) [.tmp 203, .tmp 204]⟩,
              ⟨some 206, none, .rd .lenL [.tmp 205]⟩,
              ⟨some 212, none, .rd (.bin .eql) [.tmp 206, .tmp 211]⟩,
              ⟨some 213, none, .rd .mov [.tmp 212]⟩,
              ⟨some 214, some (213, true), .call (.pv (.fn 17 [] [])) []⟩,
              ⟨some 215, none, .rd .pick [.tmp 213, .tmp 214, .pv (.bool false)]⟩,
              ⟨some 4, none, .rd .mov [.tmp 215]⟩]
             .done
             .stop))
           (.alt [⟨some 210, none, .rd (.load none) [.tmp 209]⟩,
             ⟨some 211, none, .rd (.bin .sub) [.tmp 208, .tmp 210]⟩,
             ⟨some 203, none, .rd (.load (some 1)) [.tmp 5]⟩,
             ⟨some 205, none, .call (.pv (.fn 29 [] [])) [.tmp 203, .tmp 204]⟩,
             ⟨some 206, none, .rd .lenL [.tmp 205]⟩,
             ⟨some 212, none, .rd (.bin .eql) [.tmp 206, .tmp 211]⟩,
             ⟨some 213, none, .rd .mov [.tmp 212]⟩,
             ⟨some 214, some (213, true), .call (.pv (.fn 17 [] [])) []⟩,
             ⟨some 215, none, .rd .pick [.tmp 213, .tmp 214, .pv (.bool false)]⟩,
             ⟨some 4, none, .rd .mov [.tmp 215]⟩]
            .done
            .stop))
          (.alt [⟨some 210, none, .rd (.load none) [.tmp 209]⟩,
            ⟨some 211, none, .rd (.bin .sub) [.tmp 208, .tmp 210]⟩]
           (.alt [⟨some 203, none, .rd (.load (some 1)) [.tmp 5]⟩,
             ⟨some 204, none, .rd (.load (some 2)) [.tmp 3]⟩,
             ⟨some 205, none, .call (.pv (.fn 29 [] [])) [.tmp 203, .tmp 204]⟩,
             ⟨some 206, none, .rd .lenL [.tmp 205]⟩,
             ⟨some 212, none, .rd (.bin .eql) [.tmp 206, .tmp 211]⟩,
             ⟨some 213, none, .rd .mov [.tmp 212]⟩,
             ⟨some 214, some (213, true), .call (.pv (.fn 17 [] [])) []⟩,
             ⟨some 215, none, .rd .pick [.tmp 213, .tmp 214, .pv (.bool false)]⟩,
             ⟨some 4, none, .rd .mov [.tmp 215]⟩]
            .done
            (.alt [⟨some 204, none, .rd (.load (some 2)) [.tmp 3]⟩,
              ⟨some 203, none, .rd (.load (some 1)) [.tmp 5]⟩,
              ⟨some 205, none, .call (.pv (.fn 29 [] [])) [.tmp 203, .tmp 204]⟩,
              ⟨some 206, none, .rd .lenL [.tmp 205]⟩,
              ⟨some 212, none, .rd (.bin .eql) [.tmp 206, .tmp 211]⟩,
              ⟨some 213, none, .rd .mov [.tmp 212]⟩,
              ⟨some 214, some (213, true), .call (.pv (.fn 17 [] [])) []⟩,
              ⟨some 215, none, .rd .pick [.tmp 213, .tmp 214, .pv (.bool false)]⟩,
              ⟨some 4, none, .rd .mov [.tmp 215]⟩]
             .done
             .stop))
           .stop)))
        (.alt [⟨some 210, none, .rd (.load none) [.tmp 209]⟩]
         (.alt [⟨some 203, none, .rd (.load (some 1)) [.tmp 5]⟩]
          (.alt [⟨some 204, none, .rd (.load (some 2)) [.tmp 3]⟩]
           (.alt [⟨some 205, none, .call (.pv (.fn 29 [] [])) [.tmp 203, .tmp 204]⟩,
             ⟨some 206, none, .rd .lenL [.tmp 205]⟩,
             ⟨some 208, none, .rd (.load none) [.tmp 207]⟩,
             ⟨some 211, none, .rd (.bin .sub) [.tmp 208, .tmp 210]⟩,
             ⟨some 212, none, .rd (.bin .eql) [.tmp 206, .tmp 211]⟩,
             ⟨some 213, none, .rd .mov [.tmp 212]⟩,
             ⟨some 214, some (213, true), .call (.pv (.fn 17 [] [])) []⟩,
             ⟨some 215, none, .rd .pick [.tmp 213, .tmp 214, .pv (.bool false)]⟩,
             ⟨some 4, none, .rd .mov [.tmp 215]⟩]
            .done
            (.alt [⟨some 208, none, .rd (.load none) [.tmp 207]⟩,
              ⟨some 211, none, .rd (.bin .sub) [.tmp 208, .tmp 210]⟩,
              ⟨some 205, none, .call (.pv (.fn 29 [] [])) [.tmp 203, .tmp 204]⟩,
              ⟨some 206, none, .rd .lenL [.tmp 205]⟩,
              ⟨some 212, none, .rd (.bin .eql) [.tmp 206, .tmp 211]⟩,
              ⟨some 213, none, .rd .mov [.tmp 212]⟩,
              ⟨some 214, some (213, true), .call (.pv (.fn 17 [] [])) []⟩,
              ⟨some 215, none, .rd .pick [.tmp 213, .tmp 214, .pv (.bool false)]⟩,
              ⟨some 4, none, .rd .mov [.tmp 215]⟩]
             .done
             .stop))
           (.alt [⟨some 208, none, .rd (.load none) [.tmp 207]⟩,
             ⟨some 211, none, .rd (.bin .sub) [.tmp 208, .tmp 210]⟩,
             ⟨some 204, none, .rd (.load (some 2)) [.tmp 3]⟩,
             ⟨some 205, none, .call (.pv (.fn 29 [] [])) [.tmp 203, .tmp 204]⟩,
             ⟨some 206, none, .rd .lenL [.tmp 205]⟩,
             ⟨some 212, none, .rd (.bin .eql) [.tmp 206, .tmp 211]⟩,
             ⟨some 213, none, .rd .mov [.tmp 212]⟩,
             ⟨some 214, some (213, true), .call (.pv (.fn 17 [] [])) []⟩,
             ⟨some 215, none, .rd .pick [.tmp 213, .tmp 214, .pv (.bool false)]⟩,
             ⟨some 4, none, .rd .mov [.tmp 215]⟩]
            .done
            .stop))
          (.alt [⟨some 204, none, .rd (.load (some 2)) [.tmp 3]⟩]
           (.alt [⟨some 203, none, .rd (.load (some 1)) [.tmp 5]⟩]
            (.alt [⟨some 205, none, .call (.pv (.fn 29 [] [])) [.tmp 203, .tmp 204]⟩,
              ⟨some 206, none, .rd .lenL [.tmp 205]⟩,
              ⟨some 208, none, .rd (.load none) [.tmp 207]⟩,
              ⟨some 211, none, .rd (.bin .sub) [.tmp 208, .tmp 210]⟩,
              ⟨some 212, none, .rd (.bin .eql) [.tmp 206, .tmp 211]⟩,
              ⟨some 213, none, .rd .mov [.tmp 212]⟩,
              ⟨some 214, some (213, true), .call (.pv (.fn 17 [] [])) []⟩,
              ⟨some 215, none, .rd .pick [.tmp 213, .tmp 214, .pv (.bool false)]⟩,
              ⟨some 4, none, .rd .mov [.tmp 215]⟩]
             .done
             (.alt [⟨some 208, none, .rd (.load none) [.tmp 207]⟩,
               ⟨some 211, none, .rd (.bin .sub) [.tmp 208, .tmp 210]⟩,
               ⟨some 205, none, .call (.pv (.fn 29 [] [])) [.tmp 203, .tmp 204]⟩,
               ⟨some 206, none, .rd .lenL [.tmp 205]⟩,
               ⟨some 212, none, .rd (.bin .eql) [.tmp 206, .tmp 211]⟩,
               ⟨some 213, none, .rd .mov [.tmp 212]⟩,
               ⟨some 214, some (213, true), .call (.pv (.fn 17 [] [])) []⟩,
               ⟨some 215, none, .rd .pick [.tmp 213, .tmp 214, .pv (.bool false)]⟩,
               ⟨some 4, none, .rd .mov [.tmp 215]⟩]
              .done
              .stop))
            (.alt [⟨some 208, none, .rd (.load none) [.tmp 207]⟩,
              ⟨some 211, none, .rd (.bin .sub) [.tmp 208, .tmp 210]⟩,
              ⟨some 203, none, .rd (.load (some 1)) [.tmp 5]⟩,
              ⟨some 205, none, .call (.pv (.fn 29 [] [])) [.tmp 203, .tmp 204]⟩,
              ⟨some 206, none, .rd .lenL [.tmp 205]⟩,
              ⟨some 212, none, .rd (.bin .eql) [.tmp 206, .tmp 211]⟩,
              ⟨some 213, none, .rd .mov [.tmp 212]⟩,
              ⟨some 214, some (213, true), .call (.pv (.fn 17 [] [])) []⟩,
              ⟨some 215, none, .rd .pick [.tmp 213, .tmp 214, .pv (.bool false)]⟩,
              ⟨some 4, none, .rd .mov [.tmp 215]⟩]
             .done
             .stop))
           (.alt [⟨some 208, none, .rd (.load none) [.tmp 207]⟩,
             ⟨some 211, none, .rd (.bin .sub) [.tmp 208, .tmp 210]⟩]
            (.alt [⟨some 203, none, .rd (.load (some 1)) [.tmp 5]⟩,
              ⟨some 204, none, .rd (.load (some 2)) [.tmp 3]⟩,
              ⟨some 205, none, .call (.pv (.fn 29 [] [])) [.tmp 203, .tmp 204]⟩,
              ⟨some 206, none, .rd .lenL [.tmp 205]⟩,
              ⟨some 212, none, .rd (.bin .eql) [.tmp 206, .tmp 211]⟩,
              ⟨some 213, none, .rd .mov [.tmp 212]⟩,
              ⟨some 214, some (213, true), .call (.pv (.fn 17 [] [])) []⟩,
              ⟨some 215, none, .rd .pick [.tmp 213, .tmp 214, .pv (.bool false)]⟩,
              ⟨some 4, none, .rd .mov [.tmp 215]⟩]
             .done
             (.alt [⟨some 204, none, .rd (.load (some 2)) [.tmp 3]⟩,
               ⟨some 203, none, .rd (.load (some 1)) [.tmp 5]⟩,
               ⟨some 205, none, .call (.pv (.fn 29 [] [])) [.tmp 203, .tmp 204]⟩,
               ⟨some 206, none, .rd .lenL [.tmp 205]⟩,
               ⟨some 212, none, .rd (.bin .eql) [.tmp 206, .tmp 211]⟩,
               ⟨some 213, none, .rd .mov [.tmp 212]⟩,
               ⟨some 214, some (213, true), .call (.pv (.fn 17 [] [])) []⟩,
               ⟨some 215, none, .rd .pick [.tmp 213, .tmp 214, .pv (.bool false)]⟩,
               ⟨some 4, none, .rd .mov [.tmp 215]⟩]
              .done
              .stop))
            .stop)))
         .stop))))
     .stop) L9)
  (.ret))))))))))),
  [.tmp 4]⟩
end Go.Proofs.Ytjcoenideicmbaa

