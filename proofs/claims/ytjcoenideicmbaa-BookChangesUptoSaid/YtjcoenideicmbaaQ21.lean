import Derived.Test.YtjcoenideicmbaaProg
import Derived.KernelRfl
import Derived.Test.YtjcoenideicmbaaP3
namespace Go.Proofs.Ytjcoenideicmbaa
open PG Go.Proofs
-- wagebook/wagebooklaw11.BookChanges
def L16 : List Nat := [0, 1, 2, 3, 6, 8, 9, 10, 11, 12, 13, 14, 15, 16, 17, 19, 22, 32, 45, 55, 59, 67]
def c16 : CF := ⟨111,
  .seq (.region false [⟨some 6, none, .eff (.box (some 2)) [.tmp 2]⟩,
     ⟨some 8, none, .rd .mov [.pv (.bool false)]⟩] L16)
  (.seq (.seq (.region false [⟨some 21, none, .call (.pv (.fn 32 [] [])) []⟩,
      ⟨some 22, none, .rd (.un .not) [.tmp 21]⟩] L16)
   (.cond (.tmp 22)
    (.seq (.region false [⟨some 8, none, .rd .mov [.pv (.bool false)]⟩] L16)
     (.ret))
    (.skip)))
  (.seq (.region false [⟨some 23, none, .rd .mov [.tmp 0]⟩,
     ⟨some 24, none, .call (.pv (.fn 34 [] [])) [.tmp 23]⟩,
     ⟨some 9, none, .rd .mov [.tmp 24]⟩] L16)
  (.seq (.seq (.region false [⟨some 25, none, .rd .mov [.tmp 9]⟩,
      ⟨some 26, none, .call (.pv (.fn 33 [] [])) [.tmp 25]⟩,
      ⟨some 27, none, .rd (.un .not) [.tmp 26]⟩,
      ⟨some 28, none, .rd .mov [.tmp 27]⟩,
      ⟨some 29, some (28, false), .rd .mov [.tmp 1]⟩,
      ⟨some 30, some (28, false), .rd .lenS [.tmp 29]⟩,
      ⟨some 31, some (28, false), .rd (.bin .gtr) [.tmp 30, .pv (.int .i64 300)]⟩,
      ⟨some 32, none, .rd .pick [.tmp 28, .pv (.bool true), .tmp 31]⟩] L16)
   (.cond (.tmp 32)
    (.seq (.region false [⟨some 8, none, .rd .mov [.pv (.bool true)]⟩] L16)
     (.ret))
    (.skip)))
  (.seq (.region false [⟨some 33, none, .rd .mov [.tmp 0]⟩,
     ⟨some 34, none, .call (.pv (.fn 35 [] [])) [.tmp 33]⟩,
     ⟨some 10, none, .eff (.alloc (some 1) (.agg [.nilMap])) []⟩,
     ⟨none, none, .eff (.store (some 1)) [.tmp 10, .tmp 34]⟩] L16)
  (.seq (.region false [⟨some 35, none, .rd (.load (some 1)) [.tmp 10]⟩,
     ⟨some 36, none, .rd .mov [.tmp 1]⟩,
     ⟨some 37, none, .rd (.load (some 2)) [.tmp 6]⟩,
     ⟨some 38, none, .call (.pv (.fn 44 [] [])) [.tmp 35, .tmp 36, .tmp 37]⟩,
     ⟨some 11, none, .rd .mov [.tmp 38]⟩] L16)
  (.seq (.seq (.region false [⟨some 39, none, .rd .mov [.tmp 11]⟩,
      ⟨some 40, none, .rd .mov [.tmp 9]⟩,
      ⟨some 41, none, .rd .mov [.tmp 1]⟩,
      ⟨some 42, none, .rd (.load (some 2)) [.tmp 6]⟩,
      ⟨some 43, none, .call (.pv (.fn 46 [] [])) [.tmp 40, .tmp 41, .tmp 42]⟩,
      ⟨some 44, none, .call (.pv (.fn 45 [] [])) [.tmp 39, .tmp 43]⟩,
      ⟨some 45, none, .rd (.un .not) [.tmp 44]⟩] L16)
   (.cond (.tmp 45)
    (.seq (.region false [⟨some 8, none, .rd .mov [.pv (.bool false)]⟩] L16)
     (.ret))
    (.skip)))
  (.seq (.seq (.region false [⟨some 46, none, .rd .mov [.tmp 3]⟩,
      ⟨some 47, none, .rd (.fldAddr 0) [.tmp 6]⟩,
      ⟨some 48, none, .rd (.load none) [.tmp 47]⟩,
      ⟨some 49, none, .rd (.bin .leq) [.tmp 46, .tmp 48]⟩,
      ⟨some 50, none, .rd .mov [.tmp 49]⟩,
      ⟨some 51, some (50, false), .rd .mov [.tmp 3]⟩,
      ⟨some 52, some (50, false), .rd (.fldAddr 1) [.tmp 6]⟩,
      ⟨some 53, some (50, false), .rd (.load none) [.tmp 52]⟩,
      ⟨some 54, some (50, false), .rd (.bin .geq) [.tmp 51, .tmp 53]⟩,
      ⟨some 55, none, .rd .pick [.tmp 50, .pv (.bool true), .tmp 54]⟩] L16)
   (.cond (.tmp 55)
    (.seq (.region false [⟨some 8, none, .rd .mov [.pv (.bool true)]⟩] L16)
     (.ret))
    (.skip)))
  (.seq (.seq (.region false [⟨some 12, none, .rd .mov [.pv (.int .i64 0)]⟩] L16)
   (.block 0
    (.loop
      (.seq (.seq (.region false [⟨some 56, none, .rd .mov [.tmp 12]⟩,
           ⟨some 57, none, .rd .mov [.tmp 11]⟩,
           ⟨some 58, none, .rd .lenL [.tmp 57]⟩,
           ⟨some 59, none, .rd (.bin .lss) [.tmp 56, .tmp 58]⟩] L16)
        (.cond (.tmp 59)
         (.skip)
         (.exit 0)))
       (.seq (.block 1
         (.seq (.region false [⟨some 62, none, .rd .mov [.tmp 11]⟩,
             ⟨some 63, none, .rd .mov [.tmp 12]⟩,
             ⟨some 64, none, .rd (.idxAddr none) [.tmp 62, .tmp 63]⟩,
             ⟨some 65, none, .rd (.load none) [.tmp 64]⟩,
             ⟨some 66, none, .rd .mov [.tmp 3]⟩,
             ⟨some 67, none, .rd (.bin .eql) [.tmp 65, .tmp 66]⟩] L16)
          (.cond (.tmp 67)
           (.seq (.region false [⟨some 8, none, .rd .mov [.pv (.bool true)]⟩] L16)
            (.ret))
           (.skip))))
       (.region false [⟨some 60, none, .rd .mov [.tmp 12]⟩,
         ⟨some 61, none, .rd (.bin .add) [.tmp 60, .pv (.int .i64 1)]⟩,
         ⟨some 12, none, .rd .mov [.tmp 61]⟩] L16))))))
  (.seq (.region false [⟨some 69, none, .rd (.load (some 1)) [.tmp 10]⟩,
     ⟨some 70, none, .rd .mov [.tmp 1]⟩,
     ⟨some 71, none, .rd .mov [.tmp 3]⟩,
     ⟨some 72, none, .call (.pv (.fn 37 [] [])) [.tmp 69, .tmp 70, .tmp 71]⟩,
     ⟨some 68, none, .rd .mov [.tmp 72]⟩,
     ⟨some 73, none, .rd (.ext 0) [.tmp 68]⟩,
     ⟨some 74, none, .rd (.ext 1) [.tmp 68]⟩,
     ⟨some 13, none, .rd .mov [.tmp 73]⟩,
     ⟨some 14, none, .rd .mov [.tmp 74]⟩] L16)
  (.seq (.region false [⟨some 76, none, .rd (.load (some 1)) [.tmp 10]⟩,
     ⟨some 77, none, .rd .mov [.tmp 1]⟩,
     ⟨some 78, none, .rd .mov [.tmp 3]⟩,
     ⟨some 79, none, .rd (.bin .sub) [.tmp 78, .pv (.int .i64 1)]⟩,
     ⟨some 80, none, .call (.pv (.fn 37 [] [])) [.tmp 76, .tmp 77, .tmp 79]⟩,
     ⟨some 75, none, .rd .mov [.tmp 80]⟩,
     ⟨some 81, none, .rd (.ext 0) [.tmp 75]⟩,
     ⟨some 82, none, .rd (.ext 1) [.tmp 75]⟩,
     ⟨some 15, none, .rd .mov [.tmp 81]⟩,
     ⟨some 16, none, .rd .mov [.tmp 82]⟩] L16)
  (.seq (.region false [⟨some 84, none, .rd (.load (some 1)) [.tmp 10]⟩,
     ⟨some 85, none, .rd .mov [.tmp 1]⟩,
     ⟨some 86, none, .rd .mov [.tmp 3]⟩,
     ⟨some 87, none, .call (.pv (.fn 40 [] [])) [.tmp 84, .tmp 85, .tmp 86]⟩,
     ⟨some 83, none, .rd .mov [.tmp 87]⟩,
     ⟨some 88, none, .rd (.ext 0) [.tmp 83]⟩,
     ⟨some 89, none, .rd (.ext 1) [.tmp 83]⟩,
     ⟨some 17, none, .rd .mov [.tmp 88]⟩,
     ⟨some 18, none, .rd .mov [.tmp 89]⟩] L16)
  (.seq (.region false [⟨some 91, none, .rd (.load (some 1)) [.tmp 10]⟩,
     ⟨some 92, none, .rd .mov [.tmp 1]⟩,
     ⟨some 93, none, .rd .mov [.tmp 3]⟩,
     ⟨some 94, none, .rd (.bin .sub) [.tmp 93, .pv (.int .i64 1)]⟩,
     ⟨some 95, none, .call (.pv (.fn 40 [] [])) [.tmp 91, .tmp 92, .tmp 94]⟩,
     ⟨some 90, none, .rd .mov [.tmp 95]⟩,
     ⟨some 96, none, .rd (.ext 0) [.tmp 90]⟩,
     ⟨some 97, none, .rd (.ext 1) [.tmp 90]⟩,
     ⟨some 19, none, .rd .mov [.tmp 96]⟩,
     ⟨some 20, none, .rd .mov [.tmp 97]⟩] L16)
  (.seq (.region false [⟨some 98, none, .rd .mov [.tmp 13]⟩,
     ⟨some 99, none, .rd .mov [.tmp 15]⟩,
     ⟨some 100, none, .rd (.bin .eql) [.tmp 98, .tmp 99]⟩,
     ⟨some 101, none, .rd .mov [.tmp 100]⟩,
     ⟨some 102, some (101, true), .rd .mov [.tmp 14]⟩,
     ⟨some 103, some (101, true), .rd .mov [.tmp 16]⟩,
     ⟨some 104, some (101, true), .rd (.eqB false) [.tmp 102, .tmp 103]⟩,
     ⟨some 105, none, .rd .pick [.tmp 101, .tmp 104, .pv (.bool false)]⟩,
     ⟨some 106, none, .rd .mov [.tmp 105]⟩,
     ⟨some 107, some (106, true), .rd .mov [.tmp 17]⟩,
     ⟨some 108, some (106, true), .rd .mov [.tmp 19]⟩,
     ⟨some 109, some (106, true), .rd (.bin .eql) [.tmp 107, .tmp 108]⟩,
     ⟨some 110, none, .rd .pick [.tmp 106, .tmp 109, .pv (.bool false)]⟩,
     ⟨some 8, none, .rd .mov [.tmp 110]⟩] L16)
  (.ret)))))))))))))),
  [.tmp 8]⟩
theorem k16 : compileF Try.prog [999999, 888888] L16 Try.f16 = some c16 := by kernel_rfl
end Go.Proofs.Ytjcoenideicmbaa

