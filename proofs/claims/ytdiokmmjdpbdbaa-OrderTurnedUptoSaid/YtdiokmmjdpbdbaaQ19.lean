import Derived.KernelRfl
import Derived.Test.YtdiokmmjdpbdbaaQ17
import Derived.Test.YtdiokmmjdpbdbaaP4
namespace Go.Proofs.Ytdiokmmjdpbdbaa
open PG Go.Proofs
def o6_1 : List CO := [⟨some 35, none, .rd .mov [.tmp 5]⟩,
 ⟨some 36, none, .rd .mov [.tmp 0]⟩,
 ⟨some 37, none, .rd .mov [.tmp 6]⟩,
 ⟨some 38, none, .rd (.idxAddr (some 2)) [.tmp 36, .tmp 37]⟩,
 ⟨some 39, none, .rd (.fldAddr 0) [.tmp 38]⟩,
 ⟨some 42, none, .rd .mov [.tmp 0]⟩,
 ⟨some 43, none, .rd .mov [.tmp 6]⟩,
 ⟨some 44, none, .rd (.idxAddr (some 2)) [.tmp 42, .tmp 43]⟩,
 ⟨some 45, none, .rd (.fldAddr 1) [.tmp 44]⟩,
 ⟨some 48, none, .rd .mov [.tmp 0]⟩,
 ⟨some 49, none, .rd .mov [.tmp 6]⟩,
 ⟨some 50, none, .rd (.idxAddr (some 2)) [.tmp 48, .tmp 49]⟩,
 ⟨some 51, none, .rd (.fldAddr 1) [.tmp 50]⟩,
 ⟨some 40, none, .rd (.load none) [.tmp 39]⟩,
 ⟨some 41, none, .eff (.lit none true) []⟩,
 ⟨some 46, none, .rd (.load none) [.tmp 45]⟩,
 ⟨some 47, none, .eff (.append none 16) [.tmp 41, .tmp 46]⟩,
 ⟨some 52, none, .rd (.load none) [.tmp 51]⟩,
 ⟨some 53, none, .eff (.append none 16) [.tmp 47, .tmp 52]⟩,
 ⟨some 54, none, .rd (.build [(.str []), .nilSl] [(0, 1), (1, 1)]) [.tmp 40, .tmp 53]⟩,
 ⟨some 55, none, .eff (.lit (some 2) false) [.tmp 54]⟩,
 ⟨some 56, none, .eff (.append (some 2) 40) [.tmp 35, .tmp 55]⟩,
 ⟨some 5, none, .rd .mov [.tmp 56]⟩]
def t6_1 : IS := (.alt [0, 1, 2, 3, 4, 5, 6, 7, 8, 9, 10, 11, 12] (.alt [13] (.alt [14] (.alt [15] (.alt [16, 17, 18, 19, 20, 21, 22] .done (.alt [17, 16, 18, 19, 20, 21, 22] .done .stop)) (.alt [17, 15, 16, 18, 19, 20, 21, 22] .done .stop)) (.alt [15] (.alt [14] (.alt [16, 17, 18, 19, 20, 21, 22] .done (.alt [17, 16, 18, 19, 20, 21, 22] .done .stop)) (.alt [17, 14, 16, 18, 19, 20, 21, 22] .done .stop)) (.alt [17] (.alt [14, 15, 16, 18, 19, 20, 21, 22] .done (.alt [15, 14, 16, 18, 19, 20, 21, 22] .done .stop)) .stop))) (.alt [14] (.alt [13] (.alt [15] (.alt [16, 17, 18, 19, 20, 21, 22] .done (.alt [17, 16, 18, 19, 20, 21, 22] .done .stop)) (.alt [17, 15, 16, 18, 19, 20, 21, 22] .done .stop)) (.alt [15] (.alt [13] (.alt [16, 17, 18, 19, 20, 21, 22] .done (.alt [17, 16, 18, 19, 20, 21, 22] .done .stop)) (.alt [16] (.alt [13, 17, 18, 19, 20, 21, 22] .done (.alt [17] (.alt [13, 18, 19, 20, 21, 22] .done (.alt [18, 13, 19, 20, 21, 22] .done .stop)) .stop)) (.alt [17] (.alt [13, 16, 18, 19, 20, 21, 22] .done (.alt [16] (.alt [13, 18, 19, 20, 21, 22] .done (.alt [18, 13, 19, 20, 21, 22] .done .stop)) .stop)) .stop))) (.alt [17] (.alt [13, 15, 16, 18, 19, 20, 21, 22] .done (.alt [15] (.alt [13, 16, 18, 19, 20, 21, 22] .done (.alt [16] (.alt [13, 18, 19, 20, 21, 22] .done (.alt [18, 13, 19, 20, 21, 22] .done .stop)) .stop)) .stop)) .stop))) (.alt [15] (.alt [13] (.alt [14] (.alt [16, 17, 18, 19, 20, 21, 22] .done (.alt [17, 16, 18, 19, 20, 21, 22] .done .stop)) (.alt [17, 14, 16, 18, 19, 20, 21, 22] .done .stop)) (.alt [14] (.alt [13] (.alt [16, 17, 18, 19, 20, 21, 22] .done (.alt [17, 16, 18, 19, 20, 21, 22] .done .stop)) (.alt [16] (.alt [13, 17, 18, 19, 20, 21, 22] .done (.alt [17] (.alt [13, 18, 19, 20, 21, 22] .done (.alt [18, 13, 19, 20, 21, 22] .done .stop)) .stop)) (.alt [17] (.alt [13, 16, 18, 19, 20, 21, 22] .done (.alt [16] (.alt [13, 18, 19, 20, 21, 22] .done (.alt [18, 13, 19, 20, 21, 22] .done .stop)) .stop)) .stop))) (.alt [17] (.alt [13, 14, 16, 18, 19, 20, 21, 22] .done (.alt [14] (.alt [13, 16, 18, 19, 20, 21, 22] .done (.alt [16] (.alt [13, 18, 19, 20, 21, 22] .done (.alt [18, 13, 19, 20, 21, 22] .done .stop)) .stop)) .stop)) .stop))) (.alt [17] (.alt [13] (.alt [14, 15, 16, 18, 19, 20, 21, 22] .done (.alt [15, 14, 16, 18, 19, 20, 21, 22] .done .stop)) (.alt [14] (.alt [13, 15, 16, 18, 19, 20, 21, 22] .done (.alt [15] (.alt [13, 16, 18, 19, 20, 21, 22] .done (.alt [16] (.alt [13, 18, 19, 20, 21, 22] .done (.alt [18, 13, 19, 20, 21, 22] .done .stop)) .stop)) .stop)) (.alt [15] (.alt [13, 14, 16, 18, 19, 20, 21, 22] .done (.alt [14] (.alt [13, 16, 18, 19, 20, 21, 22] .done (.alt [16] (.alt [13, 18, 19, 20, 21, 22] .done (.alt [18, 13, 19, 20, 21, 22] .done .stop)) .stop)) .stop)) .stop))) .stop)))) .stop)
def c6d : CF := ⟨107,
  .seq (.region false [⟨some 4, none, .rd .mov [.pv (.bool false)]⟩] L6)
  (.seq (.seq (.region false [⟨some 11, none, .call (.pv (.fn 10 [] [])) []⟩,
      ⟨some 12, none, .rd (.un .not) [.tmp 11]⟩] L6)
   (.cond (.tmp 12)
    (.seq (.region false [⟨some 4, none, .rd .mov [.pv (.bool false)]⟩] L6)
     (.ret))
    (.skip)))
  (.seq (.seq (.region false [⟨some 13, none, .rd .mov [.tmp 0]⟩,
      ⟨some 14, none, .call (.pv (.fn 11 [] [])) [.tmp 13, .pv (.int .i64 20)]⟩,
      ⟨some 15, none, .rd (.un .not) [.tmp 14]⟩,
      ⟨some 16, none, .rd .mov [.tmp 15]⟩,
      ⟨some 17, some (16, false), .rd .mov [.tmp 1]⟩,
      ⟨some 18, some (16, false), .rd .lenS [.tmp 17]⟩,
      ⟨some 19, some (16, false), .rd (.bin .gtr) [.tmp 18, .pv (.int .i64 60)]⟩,
      ⟨some 20, none, .rd .pick [.tmp 16, .pv (.bool true), .tmp 19]⟩] L6)
   (.cond (.tmp 20)
    (.seq (.region false [⟨some 4, none, .rd .mov [.pv (.bool true)]⟩] L6)
     (.ret))
    (.skip)))
  (.seq (.region false [⟨some 5, none, .rd .mov [.pv .nilSl]⟩] L6)
  (.seq (.seq (.region false [⟨some 21, none, .rd .mov [.tmp 0]⟩,
      ⟨some 22, none, .rd .lenL [.tmp 21]⟩,
      ⟨some 23, none, .rd (.bin .sub) [.tmp 22, .pv (.int .i64 1)]⟩,
      ⟨some 6, none, .rd .mov [.tmp 23]⟩] L6)
   (.block 0
    (.loop
      (.seq (.seq (.region false [⟨some 24, none, .rd .mov [.tmp 6]⟩,
           ⟨some 25, none, .rd (.bin .geq) [.tmp 24, .pv (.int .i64 0)]⟩] L6)
        (.cond (.tmp 25)
         (.skip)
         (.exit 0)))
       (.seq (.block 1
         (.seq (.seq (.region false [⟨some 28, none, .rd .mov [.tmp 0]⟩,
              ⟨some 29, none, .rd .mov [.tmp 6]⟩,
              ⟨some 30, none, .rd (.idxAddr (some 2)) [.tmp 28, .tmp 29]⟩,
              ⟨some 31, none, .rd (.fldAddr 1) [.tmp 30]⟩,
              ⟨some 32, none, .rd (.load none) [.tmp 31]⟩,
              ⟨some 33, none, .rd .lenL [.tmp 32]⟩,
              ⟨some 34, none, .rd (.bin .gtr) [.tmp 33, .pv (.int .i64 30)]⟩] L6)
           (.cond (.tmp 34)
            (.seq (.region false [⟨some 4, none, .rd .mov [.pv (.bool true)]⟩] L6)
             (.ret))
            (.skip)))
          (.regionA (IS.toS o6_1 t6_1) L6)))
       (.region false [⟨some 26, none, .rd .mov [.tmp 6]⟩,
         ⟨some 27, none, .rd (.bin .sub) [.tmp 26, .pv (.int .i64 1)]⟩,
         ⟨some 6, none, .rd .mov [.tmp 27]⟩] L6))))))
  (.seq (.region false [⟨some 58, none, .rd .mov [.tmp 0]⟩,
     ⟨some 59, none, .call (.pv (.fn 20 [] [])) [.tmp 58]⟩,
     ⟨some 57, none, .rd .mov [.tmp 59]⟩,
     ⟨some 60, none, .rd (.ext 0) [.tmp 57]⟩,
     ⟨some 61, none, .rd (.ext 1) [.tmp 57]⟩,
     ⟨some 7, none, .rd .mov [.tmp 60]⟩,
     ⟨some 8, none, .rd .mov [.tmp 61]⟩] L6)
  (.seq (.region false [⟨some 63, none, .rd .mov [.tmp 5]⟩,
     ⟨some 64, none, .call (.pv (.fn 20 [] [])) [.tmp 63]⟩,
     ⟨some 62, none, .rd .mov [.tmp 64]⟩,
     ⟨some 65, none, .rd (.ext 0) [.tmp 62]⟩,
     ⟨some 66, none, .rd (.ext 1) [.tmp 62]⟩,
     ⟨some 9, none, .rd .mov [.tmp 65]⟩,
     ⟨some 10, none, .rd .mov [.tmp 66]⟩] L6)
  (.seq (.seq (.region false [⟨some 67, none, .rd .mov [.tmp 8]⟩,
      ⟨some 68, none, .rd (.bin .eql) [.tmp 67, .pv (.int .i64 0)]⟩,
      ⟨some 69, none, .rd .mov [.tmp 10]⟩,
      ⟨some 70, none, .rd (.bin .eql) [.tmp 69, .pv (.int .i64 0)]⟩,
      ⟨some 71, none, .rd (.eqB true) [.tmp 68, .tmp 70]⟩,
      ⟨some 72, none, .rd .mov [.tmp 71]⟩,
      ⟨some 73, some (72, false), .rd .mov [.tmp 8]⟩,
      ⟨some 74, some (72, false), .rd (.bin .eql) [.tmp 73, .pv (.int .i64 13)]⟩,
      ⟨some 75, some (72, false), .rd .mov [.tmp 10]⟩,
      ⟨some 76, some (72, false), .rd (.bin .eql) [.tmp 75, .pv (.int .i64 13)]⟩,
      ⟨some 77, some (72, false), .rd (.eqB true) [.tmp 74, .tmp 76]⟩,
      ⟨some 78, none, .rd .pick [.tmp 72, .pv (.bool true), .tmp 77]⟩] L6)
   (.cond (.tmp 78)
    (.seq (.region false [⟨some 4, none, .rd .mov [.pv (.bool false)]⟩] L6)
     (.ret))
    (.skip)))
  (.seq (.region false [⟨some 79, none, .rd .mov [.tmp 7]⟩,
     ⟨some 80, none, .rd .mov [.tmp 9]⟩,
     ⟨some 81, none, .call (.pv (.fn 12 [] [])) [.tmp 79, .tmp 80]⟩,
     ⟨some 82, none, .rd .mov [.tmp 81]⟩,
     ⟨some 83, some (82, true), .rd .mov [.tmp 0]⟩,
     ⟨some 84, some (82, true), .call (.pv (.fn 13 [] [])) [.tmp 83]⟩,
     ⟨some 85, some (82, true), .rd .mov [.tmp 5]⟩,
     ⟨some 86, some (82, true), .call (.pv (.fn 13 [] [])) [.tmp 85]⟩,
     ⟨some 87, some (82, true), .call (.pv (.fn 12 [] [])) [.tmp 84, .tmp 86]⟩,
     ⟨some 88, none, .rd .pick [.tmp 82, .tmp 87, .pv (.bool false)]⟩,
     ⟨some 89, none, .rd .mov [.tmp 88]⟩,
     ⟨some 90, some (89, true), .rd .mov [.tmp 1]⟩,
     ⟨some 91, some (89, true), .rd .mov [.tmp 0]⟩,
     ⟨some 92, some (89, true), .call (.pv (.fn 16 [] [])) [.tmp 90, .tmp 91]⟩,
     ⟨some 93, some (89, true), .rd .mov [.tmp 1]⟩,
     ⟨some 94, some (89, true), .rd .mov [.tmp 5]⟩,
     ⟨some 95, some (89, true), .call (.pv (.fn 16 [] [])) [.tmp 93, .tmp 94]⟩,
     ⟨some 96, some (89, true), .call (.pv (.fn 12 [] [])) [.tmp 92, .tmp 95]⟩,
     ⟨some 97, none, .rd .pick [.tmp 89, .tmp 96, .pv (.bool false)]⟩,
     ⟨some 98, none, .rd .mov [.tmp 97]⟩,
     ⟨some 99, some (98, true), .rd .mov [.tmp 1]⟩,
     ⟨some 100, some (98, true), .rd .mov [.tmp 0]⟩,
     ⟨some 101, some (98, true), .call (.pv (.fn 18 [] [])) [.tmp 99, .tmp 100]⟩,
     ⟨some 102, some (98, true), .rd .mov [.tmp 1]⟩,
     ⟨some 103, some (98, true), .rd .mov [.tmp 5]⟩,
     ⟨some 104, some (98, true), .call (.pv (.fn 18 [] [])) [.tmp 102, .tmp 103]⟩,
     ⟨some 105, some (98, true), .call (.pv (.fn 12 [] [])) [.tmp 101, .tmp 104]⟩,
     ⟨some 106, none, .rd .pick [.tmp 98, .tmp 105, .pv (.bool false)]⟩,
     ⟨some 4, none, .rd .mov [.tmp 106]⟩] L6)
  (.ret))))))))),
  [.tmp 4]⟩

theorem k6d : compileF Try.prog [] L6 Try.f6 = some c6d := by kernel_rfl
end Go.Proofs.Ytdiokmmjdpbdbaa

