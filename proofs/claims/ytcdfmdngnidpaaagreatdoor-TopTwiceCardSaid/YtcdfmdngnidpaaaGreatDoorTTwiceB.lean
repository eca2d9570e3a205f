import Derived.Test.YtcdfmdngnidpaaaGreatDoorP1
import Derived.Test.YtcdfmdngnidpaaaGreatDoorP2
import Derived.Test.YtcdfmdngnidpaaaGreatDoorP3
import Derived.Test.YtcdfmdngnidpaaaGreatDoorP4
import Derived.Test.YtcdfmdngnidpaaaGreatDoorQ5
import Derived.Test.YtcdfmdngnidpaaaGreatDoorQ6
import Derived.Test.YtcdfmdngnidpaaaGreatDoorQ7
import Derived.Test.YtcdfmdngnidpaaaGreatDoorQ8
import Derived.Test.YtcdfmdngnidpaaaGreatDoorQ9
import Derived.Test.YtcdfmdngnidpaaaGreatDoorQ10
import Derived.Test.YtcdfmdngnidpaaaGreatDoorQ11
import Derived.Test.YtcdfmdngnidpaaaGreatDoorQ12
namespace PG
open Go
set_option linter.unusedSimpArgs false
set_option linter.unusedVariables false
set_option linter.unusedSectionVars false
section
variable {P : Program} {G : Globs} {N : Nat} {w : World} {κ : Kap} {env : Env} {μ : Mem} {mv : Nat → Bool} {Q : Post}
theorem goCallG_skip {q : Bool} {d : Option Nat} {rest : List CO} {K : Env → Mem → Prop} {b want : Bool} {f : PV} {qas : List PV} (hb : (b == want) = false) (h : opsW P G q mv rest (putE env d (.cond (b == want) .junk)) μ K) : goCallG P G q mv d rest env K μ b want f qas := by
  unfold goCallG
  exact ⟨.junk, fun e => absurd hb (by rw [e]; simp), h⟩
end
end PG
namespace Go.Proofs.YtcdfmdngnidpaaaGreatDoor
open Go PG Go.Proofs
set_option linter.unusedSimpArgs false
set_option linter.unusedVariables false
set_option linter.unusedSectionVars false
set_option maxHeartbeats 4000000
set_option maxRecDepth 100000
def L17 : List Nat := [0, 1, 2, 4, 5, 6, 7, 8, 10, 11, 12, 13, 15, 16, 17, 18, 35, 45]
def c17 : CF := ⟨52,
  .seq (.region false [⟨some 2, none, .eff (.box (some 1)) [.tmp 0]⟩,
     ⟨some 4, none, .eff (.alloc (some 1) (.agg [.nilSl])) []⟩,
     ⟨some 5, none, .rd .mov [.pv (.int .i64 0)]⟩,
     ⟨some 6, none, .rd .mov [.pv (.int .i64 0)]⟩] L17)
  (.seq (.region false [⟨some 14, none, .rd (.load (some 1)) [.tmp 2]⟩,
     ⟨some 7, none, .eff (.alloc (some 1) (.agg [.nilSl])) []⟩,
     ⟨none, none, .eff (.store (some 1)) [.tmp 7, .tmp 14]⟩,
     ⟨some 8, none, .rd .mov [.pv (.int .i64 0)]⟩] L17)
  (.seq (.seq (.region false [⟨some 15, none, .rd .mov [.tmp 1]⟩,
      ⟨some 16, none, .rd .lenL [.tmp 15]⟩,
      ⟨some 17, none, .rd .mov [.pv (.int .i64 0)]⟩] L17)
   (.block 0
    (.loop
      (.seq (.region false [⟨some 18, none, .rd (.bin .lss) [.tmp 17, .tmp 16]⟩] L17)
       (.seq (.cond (.tmp 18)
         (.skip)
         (.exit 0))
       (.seq (.block 1
         (.seq (.region false [⟨some 19, none, .rd (.idxAddr (some 8)) [.tmp 15, .tmp 17]⟩,
             ⟨some 20, none, .rd (.load (some 8)) [.tmp 19]⟩,
             ⟨some 10, none, .eff (.alloc (some 8) (.agg [(.int .u32 0), (.int .u32 0), (.int .i64 0), (.int .i64 0), (.int .i64 0), (.str []), (.int .i64 0), (.str [])])) []⟩,
             ⟨none, none, .eff (.store (some 8)) [.tmp 10, .tmp 20]⟩] L17)
          (.seq (.seq (.region false [⟨some 21, none, .rd (.load (some 1)) [.tmp 7]⟩,
              ⟨some 22, none, .rd (.fldAddr 0) [.tmp 10]⟩,
              ⟨some 23, none, .rd (.load none) [.tmp 22]⟩,
              ⟨some 24, none, .call (.pv (.fn 25 [] [])) [.tmp 21, .tmp 23]⟩,
              ⟨some 11, none, .rd .mov [.tmp 24]⟩] L17)
           (.seq (.region true [⟨some 25, none, .rd .mov [.tmp 11]⟩,
              ⟨some 26, none, .rd (.bin .geq) [.tmp 25, .pv (.int .i64 0)]⟩,
              ⟨some 27, none, .rd .mov [.tmp 26]⟩,
              ⟨some 28, some (27, true), .rd (.fldAddr 0) [.tmp 7]⟩,
              ⟨some 29, some (27, true), .rd (.load none) [.tmp 28]⟩,
              ⟨some 30, some (27, true), .rd .mov [.tmp 11]⟩,
              ⟨some 31, some (27, true), .rd (.idxAddr (some 8)) [.tmp 29, .tmp 30]⟩,
              ⟨some 32, some (27, true), .rd (.load (some 8)) [.tmp 31]⟩,
              ⟨some 33, some (27, true), .rd (.load (some 8)) [.tmp 10]⟩,
              ⟨some 34, some (27, true), .call (.pv (.fn 27 [] [])) [.tmp 32, .tmp 33]⟩,
              ⟨some 35, none, .rd .pick [.tmp 27, .tmp 34, .pv (.bool false)]⟩] L17)
           (.cond (.tmp 35)
            (.seq (.region false [⟨some 36, none, .rd .mov [.tmp 8]⟩,
                ⟨some 37, none, .rd (.bin .add) [.tmp 36, .pv (.int .i64 1)]⟩,
                ⟨some 8, none, .rd .mov [.tmp 37]⟩] L17)
             (.exit 1))
            (.skip))))
          (.seq (.region false [⟨some 39, none, .rd (.load (some 1)) [.tmp 7]⟩,
             ⟨some 40, none, .rd (.load (some 8)) [.tmp 10]⟩,
             ⟨some 41, none, .call (.pv (.fn 14 [] [])) [.tmp 39, .tmp 40]⟩,
             ⟨some 38, none, .rd .mov [.tmp 41]⟩,
             ⟨some 42, none, .rd (.ext 0) [.tmp 38]⟩,
             ⟨some 43, none, .rd (.ext 1) [.tmp 38]⟩,
             ⟨some 12, none, .eff (.alloc (some 1) (.agg [.nilSl])) []⟩,
             ⟨none, none, .eff (.store (some 1)) [.tmp 12, .tmp 42]⟩,
             ⟨some 13, none, .rd .mov [.tmp 43]⟩] L17)
          (.seq (.seq (.region false [⟨some 44, none, .rd .mov [.tmp 13]⟩,
              ⟨some 45, none, .rd (.bin .neq) [.tmp 44, .pv (.int .i64 0)]⟩] L17)
           (.cond (.tmp 45)
            (.seq (.region false [⟨some 46, none, .rd (.load (some 1)) [.tmp 2]⟩,
                ⟨some 47, none, .rd .mov [.tmp 13]⟩,
                ⟨none, none, .eff (.store (some 1)) [.tmp 4, .tmp 46]⟩,
                ⟨some 5, none, .rd .mov [.pv (.int .i64 0)]⟩,
                ⟨some 6, none, .rd .mov [.tmp 47]⟩] L17)
             (.ret))
            (.skip)))
          (.region false [⟨some 48, none, .rd (.load (some 1)) [.tmp 12]⟩,
            ⟨none, none, .eff (.store (some 1)) [.tmp 7, .tmp 48]⟩] L17))))))
       (.region false [⟨some 49, none, .rd (.bin .add) [.tmp 17, .pv (.int .i64 1)]⟩,
         ⟨some 17, none, .rd .mov [.tmp 49]⟩] L17)))))))
  (.seq (.region false [⟨some 50, none, .rd (.load (some 1)) [.tmp 7]⟩,
     ⟨some 51, none, .rd .mov [.tmp 8]⟩,
     ⟨none, none, .eff (.store (some 1)) [.tmp 4, .tmp 50]⟩,
     ⟨some 5, none, .rd .mov [.tmp 51]⟩,
     ⟨some 6, none, .rd .mov [.pv (.int .i64 0)]⟩] L17)
  (.ret)))),
  [.cell 4 (some 1), .tmp 5, .tmp 6]⟩

-- (wagebook/store.Store).All
def L18 : List Nat := [0, 1, 2, 3, 4, 5, 7, 8, 9, 10]
def c18 : CF := ⟨23,
  .seq (.region false [⟨some 1, none, .eff (.box (some 1)) [.tmp 0]⟩,
     ⟨some 2, none, .rd .mov [.pv .nilSl]⟩] L18)
  (.seq (.region false [⟨some 3, none, .rd .mov [.pv .nilSl]⟩] L18)
  (.seq (.seq (.region false [⟨some 6, none, .rd (.fldAddr 0) [.tmp 1]⟩,
      ⟨some 7, none, .rd (.load none) [.tmp 6]⟩,
      ⟨some 8, none, .rd .lenL [.tmp 7]⟩,
      ⟨some 9, none, .rd .mov [.pv (.int .i64 0)]⟩] L18)
   (.block 0
    (.loop
      (.seq (.region false [⟨some 10, none, .rd (.bin .lss) [.tmp 9, .tmp 8]⟩] L18)
       (.seq (.cond (.tmp 10)
         (.skip)
         (.exit 0))
       (.seq (.block 1
         (.seq (.region false [⟨some 11, none, .rd .mov [.tmp 9]⟩,
             ⟨some 12, none, .rd (.idxAddr (some 8)) [.tmp 7, .tmp 9]⟩,
             ⟨some 13, none, .rd (.load (some 8)) [.tmp 12]⟩,
             ⟨some 5, none, .eff (.alloc (some 8) (.agg [(.int .u32 0), (.int .u32 0), (.int .i64 0), (.int .i64 0), (.int .i64 0), (.str []), (.int .i64 0), (.str [])])) []⟩,
             ⟨some 4, none, .rd .mov [.tmp 11]⟩,
             ⟨none, none, .eff (.store (some 8)) [.tmp 5, .tmp 13]⟩] L18)
          (.region false [⟨some 14, none, .rd .mov [.tmp 3]⟩,
            ⟨some 15, none, .rd .mov [.tmp 4]⟩,
            ⟨some 16, none, .rd (.bin .add) [.tmp 15, .pv (.int .i64 1)]⟩,
            ⟨some 17, none, .rd (.load (some 8)) [.tmp 5]⟩,
            ⟨some 18, none, .rd (.build [(.int .i64 0), (.int .u32 0), (.int .u32 0), (.int .i64 0), (.int .i64 0), (.int .i64 0), (.str []), (.int .i64 0), (.str [])] [(0, 1), (1, 8)]) [.tmp 16, .tmp 17]⟩,
            ⟨some 19, none, .eff (.lit (some 9) false) [.tmp 18]⟩,
            ⟨some 20, none, .eff (.append (some 9) 80) [.tmp 14, .tmp 19]⟩,
            ⟨some 3, none, .rd .mov [.tmp 20]⟩] L18)))
       (.region false [⟨some 21, none, .rd (.bin .add) [.tmp 9, .pv (.int .i64 1)]⟩,
         ⟨some 9, none, .rd .mov [.tmp 21]⟩] L18)))))))
  (.seq (.region false [⟨some 22, none, .rd .mov [.tmp 3]⟩,
     ⟨some 2, none, .rd .mov [.tmp 22]⟩] L18)
  (.ret)))),
  [.tmp 2]⟩

-- slices.Clone[[]wagebook/store.Known,wagebook/store.Known]
theorem k17 : compileF Tryz.prog [] L17 Tryz.f17 = some c17 := by kernel_rfl
theorem k18 : compileF Tryz.prog [] L18 Tryz.f18 = some c18 := by kernel_rfl
def L27 : List Nat := [0, 1, 2, 3, 4]
def c27 : CF := ⟨11,
  .seq (.region false [⟨some 2, none, .eff (.box (some 8)) [.tmp 0]⟩,
     ⟨some 3, none, .eff (.box (some 8)) [.tmp 1]⟩,
     ⟨some 4, none, .rd .mov [.pv (.bool false)]⟩] L27)
  (.seq (.region false [⟨some 5, none, .rd (.fldAddr 0) [.tmp 2]⟩,
     ⟨some 6, none, .rd (.load none) [.tmp 5]⟩,
     ⟨some 7, none, .rd (.fldAddr 0) [.tmp 3]⟩,
     ⟨none, none, .eff (.store none) [.tmp 7, .tmp 6]⟩] L27)
  (.seq (.region false [⟨some 8, none, .rd (.load (some 8)) [.tmp 2]⟩,
     ⟨some 9, none, .rd (.load (some 8)) [.tmp 3]⟩,
     ⟨some 10, none, .rd (.eqA false [0, 0, 0, 0, 0, 2, 0, 2]) [.tmp 8, .tmp 9]⟩,
     ⟨some 4, none, .rd .mov [.tmp 10]⟩] L27)
  (.ret))),
  [.tmp 4]⟩

-- (wagebook/store.View).back
theorem k27 : compileF Tryz.prog [] L27 Tryz.f27 = some c27 := by kernel_rfl
theorem e17 : Ent Tryz.prog 17 := ⟨Tryz.f17, Tryz.func17, by kernel_rfl, by kernel_rfl⟩
theorem e18 : Ent Tryz.prog 18 := ⟨Tryz.f18, Tryz.func18, by kernel_rfl, by kernel_rfl⟩
theorem e27 : Ent Tryz.prog 27 := ⟨Tryz.f27, Tryz.func27, by kernel_rfl, by kernel_rfl⟩
def L5d : List Nat := [0, 1, 2, 6, 7, 8, 9, 10, 11, 12, 13, 14, 15, 16, 17, 18, 20, 23, 24, 25, 26, 27, 61]
def c5d : CF := ⟨111,
  .seq (.region false [⟨some 6, none, .rd .mov [.pv (.bool false)]⟩] L5d)
  (.seq (.seq (.region false [⟨some 19, none, .call (.pv (.fn 6 [] [])) []⟩,
      ⟨some 20, none, .rd (.un .not) [.tmp 19]⟩] L5d)
   (.cond (.tmp 20)
    (.seq (.region false [⟨some 6, none, .rd .mov [.pv (.bool false)]⟩] L5d)
     (.ret))
    (.skip)))
  (.seq (.seq (.region false [⟨some 21, none, .rd .mov [.tmp 0]⟩,
      ⟨some 22, none, .rd .lenL [.tmp 21]⟩,
      ⟨some 23, none, .rd (.bin .gtr) [.tmp 22, .pv (.int .i64 40)]⟩] L5d)
   (.cond (.tmp 23)
    (.seq (.region false [⟨some 6, none, .rd .mov [.pv (.bool true)]⟩] L5d)
     (.ret))
    (.skip)))
  (.seq (.region false [⟨some 7, none, .rd .mov [.pv .nilSl]⟩] L5d)
  (.seq (.seq (.region false [⟨some 24, none, .rd .mov [.tmp 0]⟩,
      ⟨some 25, none, .rd .lenL [.tmp 24]⟩,
      ⟨some 26, none, .rd .mov [.pv (.int .i64 0)]⟩] L5d)
   (.block 0
    (.loop
      (.seq (.region false [⟨some 27, none, .rd (.bin .lss) [.tmp 26, .tmp 25]⟩] L5d)
       (.seq (.cond (.tmp 27)
         (.skip)
         (.exit 0))
       (.seq (.block 1
         (.seq (.region false [⟨some 28, none, .rd .mov [.tmp 26]⟩,
             ⟨some 29, none, .rd (.idxAddr (some 5)) [.tmp 24, .tmp 26]⟩,
             ⟨some 30, none, .rd (.load (some 5)) [.tmp 29]⟩,
             ⟨some 9, none, .eff (.alloc (some 5) (.agg [(.int .u8 0), (.int .u32 0), (.int .u16 0), (.int .u16 0), (.int .u16 0)])) []⟩,
             ⟨some 8, none, .rd .mov [.tmp 28]⟩,
             ⟨none, none, .eff (.store (some 5)) [.tmp 9, .tmp 30]⟩] L5d)
          (.seq (.region false [⟨some 31, none, .rd (.load (some 5)) [.tmp 9]⟩,
             ⟨some 32, none, .call (.pv (.fn 7 [] [])) [.tmp 31]⟩,
             ⟨some 10, none, .eff (.alloc (some 8) (.agg [(.int .u32 0), (.int .u32 0), (.int .i64 0), (.int .i64 0), (.int .i64 0), (.str []), (.int .i64 0), (.str [])])) []⟩,
             ⟨none, none, .eff (.store (some 8)) [.tmp 10, .tmp 32]⟩] L5d)
          (.seq (.region false [⟨some 33, none, .rd .mov [.tmp 8]⟩,
             ⟨some 34, none, .rd (.conv .u32) [.tmp 33]⟩,
             ⟨some 35, none, .rd (.bin .add) [.tmp 34, .pv (.int .u32 1)]⟩,
             ⟨some 36, none, .rd (.fldAddr 0) [.tmp 10]⟩,
             ⟨none, none, .eff (.store none) [.tmp 36, .tmp 35]⟩] L5d)
          (.region false [⟨some 37, none, .rd .mov [.tmp 7]⟩,
            ⟨some 38, none, .rd (.load (some 8)) [.tmp 10]⟩,
            ⟨some 39, none, .eff (.lit (some 8) false) [.tmp 38]⟩,
            ⟨some 40, none, .eff (.append (some 8) 72) [.tmp 37, .tmp 39]⟩,
            ⟨some 7, none, .rd .mov [.tmp 40]⟩] L5d)))))
       (.region false [⟨some 41, none, .rd (.bin .add) [.tmp 26, .pv (.int .i64 1)]⟩,
         ⟨some 26, none, .rd .mov [.tmp 41]⟩] L5d)))))))
  (.seq (.region false [⟨some 43, none, .rd (.build [.nilSl] []) []⟩,
     ⟨some 44, none, .rd .mov [.tmp 7]⟩,
     ⟨some 45, none, .call (.pv (.fn 17 [] [])) [.tmp 43, .tmp 44]⟩,
     ⟨some 42, none, .rd .mov [.tmp 45]⟩,
     ⟨some 46, none, .rd (.ext 0) [.tmp 42]⟩,
     ⟨some 47, none, .rd (.ext 1) [.tmp 42]⟩,
     ⟨some 48, none, .rd (.ext 2) [.tmp 42]⟩,
     ⟨some 11, none, .eff (.alloc (some 1) (.agg [.nilSl])) []⟩,
     ⟨none, none, .eff (.store (some 1)) [.tmp 11, .tmp 46]⟩,
     ⟨some 12, none, .rd .mov [.tmp 47]⟩,
     ⟨some 13, none, .rd .mov [.tmp 48]⟩] L5d)
  (.seq (.seq (.region false [⟨some 49, none, .rd .mov [.tmp 13]⟩,
      ⟨some 50, none, .rd (.bin .neq) [.tmp 49, .pv (.int .i64 0)]⟩,
      ⟨some 51, none, .rd .mov [.tmp 50]⟩,
      ⟨some 52, some (51, false), .rd .mov [.tmp 12]⟩,
      ⟨some 53, some (51, false), .rd (.bin .neq) [.tmp 52, .pv (.int .i64 0)]⟩,
      ⟨some 54, none, .rd .pick [.tmp 51, .pv (.bool true), .tmp 53]⟩,
      ⟨some 55, none, .rd .mov [.tmp 54]⟩,
      ⟨some 56, some (55, false), .rd (.load (some 1)) [.tmp 11]⟩,
      ⟨some 57, some (55, false), .call (.pv (.fn 13 [] [])) [.tmp 56]⟩,
      ⟨some 58, some (55, false), .rd .mov [.tmp 0]⟩,
      ⟨some 59, some (55, false), .rd .lenL [.tmp 58]⟩,
      ⟨some 60, some (55, false), .rd (.bin .neq) [.tmp 57, .tmp 59]⟩,
      ⟨some 61, none, .rd .pick [.tmp 55, .pv (.bool true), .tmp 60]⟩] L5d)
   (.cond (.tmp 61)
    (.seq (.region false [⟨some 6, none, .rd .mov [.pv (.bool false)]⟩] L5d)
     (.ret))
    (.skip)))
  (.seq (.region false [⟨some 62, none, .rd .mov [.tmp 1]⟩,
     ⟨some 63, none, .rd (.conv .i64) [.tmp 62]⟩,
     ⟨some 64, none, .rd .mov [.tmp 0]⟩,
     ⟨some 65, none, .rd .lenL [.tmp 64]⟩,
     ⟨some 66, none, .rd (.bin .add) [.tmp 65, .pv (.int .i64 1)]⟩,
     ⟨some 67, none, .rd (.bin .rem) [.tmp 63, .tmp 66]⟩,
     ⟨some 14, none, .rd .mov [.tmp 67]⟩] L5d)
  (.seq (.region false [⟨some 68, none, .rd .mov [.tmp 14]⟩,
     ⟨some 69, none, .rd .mov [.tmp 2]⟩,
     ⟨some 70, none, .rd (.conv .i64) [.tmp 69]⟩,
     ⟨some 71, none, .rd .mov [.tmp 0]⟩,
     ⟨some 72, none, .rd .lenL [.tmp 71]⟩,
     ⟨some 73, none, .rd .mov [.tmp 14]⟩,
     ⟨some 74, none, .rd (.bin .sub) [.tmp 72, .tmp 73]⟩,
     ⟨some 75, none, .rd (.bin .add) [.tmp 74, .pv (.int .i64 1)]⟩,
     ⟨some 76, none, .rd (.bin .rem) [.tmp 70, .tmp 75]⟩,
     ⟨some 77, none, .rd (.bin .add) [.tmp 68, .tmp 76]⟩,
     ⟨some 15, none, .rd .mov [.tmp 77]⟩] L5d)
  (.seq (.regionA (.alt [⟨some 80, none, .rd .mov [.tmp 7]⟩,
      ⟨some 81, none, .rd .mov [.tmp 14]⟩,
      ⟨some 82, none, .rd .mov [.tmp 15]⟩,
      ⟨some 83, none, .rd (.slc (some 8) true true false) [.tmp 80, .tmp 81, .tmp 82]⟩]
     (.alt [⟨some 79, none, .rd (.load (some 1)) [.tmp 11]⟩]
      (.alt [⟨some 84, none, .call (.pv (.fn 17 [] [])) [.tmp 79, .tmp 83]⟩,
        ⟨some 78, none, .rd .mov [.tmp 84]⟩,
        ⟨some 85, none, .rd (.ext 0) [.tmp 78]⟩,
        ⟨some 86, none, .rd (.ext 1) [.tmp 78]⟩,
        ⟨some 87, none, .rd (.ext 2) [.tmp 78]⟩,
        ⟨some 16, none, .eff (.alloc (some 1) (.agg [.nilSl])) []⟩,
        ⟨none, none, .eff (.store (some 1)) [.tmp 16, .tmp 85]⟩,
        ⟨some 17, none, .rd .mov [.tmp 86]⟩,
        ⟨some 18, none, .rd .mov [.tmp 87]⟩]
       .done
       (.alt [⟨some 16, none, .eff (.alloc (some 1) (.agg [.nilSl])) []⟩,
         ⟨some 84, none, .call (.pv (.fn 17 [] [])) [.tmp 79, .tmp 83]⟩,
         ⟨some 78, none, .rd .mov [.tmp 84]⟩,
         ⟨some 85, none, .rd (.ext 0) [.tmp 78]⟩,
         ⟨some 86, none, .rd (.ext 1) [.tmp 78]⟩,
         ⟨some 87, none, .rd (.ext 2) [.tmp 78]⟩,
         ⟨none, none, .eff (.store (some 1)) [.tmp 16, .tmp 85]⟩,
         ⟨some 17, none, .rd .mov [.tmp 86]⟩,
         ⟨some 18, none, .rd .mov [.tmp 87]⟩]
        .done
        .stop))
      (.alt [⟨some 16, none, .eff (.alloc (some 1) (.agg [.nilSl])) []⟩,
        ⟨some 79, none, .rd (.load (some 1)) [.tmp 11]⟩,
        ⟨some 84, none, .call (.pv (.fn 17 [] [])) [.tmp 79, .tmp 83]⟩,
        ⟨some 78, none, .rd .mov [.tmp 84]⟩,
        ⟨some 85, none, .rd (.ext 0) [.tmp 78]⟩,
        ⟨some 86, none, .rd (.ext 1) [.tmp 78]⟩,
        ⟨some 87, none, .rd (.ext 2) [.tmp 78]⟩,
        ⟨none, none, .eff (.store (some 1)) [.tmp 16, .tmp 85]⟩,
        ⟨some 17, none, .rd .mov [.tmp 86]⟩,
        ⟨some 18, none, .rd .mov [.tmp 87]⟩]
       .done
       .stop))
     .stop) L5d)
  (.seq (.regionA (.alt [⟨some 88, none, .rd .mov [.tmp 18]⟩,
      ⟨some 89, none, .rd (.bin .eql) [.tmp 88, .pv (.int .i64 0)]⟩,
      ⟨some 90, none, .rd .mov [.tmp 89]⟩,
      ⟨some 91, some (90, true), .rd .mov [.tmp 17]⟩,
      ⟨some 92, some (90, true), .rd .mov [.tmp 15]⟩,
      ⟨some 93, some (90, true), .rd .mov [.tmp 14]⟩,
      ⟨some 94, some (90, true), .rd (.bin .sub) [.tmp 92, .tmp 93]⟩,
      ⟨some 95, some (90, true), .rd (.bin .eql) [.tmp 91, .tmp 94]⟩,
      ⟨some 96, none, .rd .pick [.tmp 90, .tmp 95, .pv (.bool false)]⟩,
      ⟨some 97, none, .rd .mov [.tmp 96]⟩]
     (.alt [⟨some 98, some (97, true), .rd (.load (some 1)) [.tmp 16]⟩]
      (.alt [⟨some 99, some (97, true), .call (.pv (.fn 13 [] [])) [.tmp 98]⟩,
        ⟨some 100, some (97, true), .rd (.load (some 1)) [.tmp 11]⟩,
        ⟨some 101, some (97, true), .call (.pv (.fn 13 [] [])) [.tmp 100]⟩,
        ⟨some 102, some (97, true), .rd (.bin .eql) [.tmp 99, .tmp 101]⟩,
        ⟨some 103, none, .rd .pick [.tmp 97, .tmp 102, .pv (.bool false)]⟩,
        ⟨some 104, none, .rd .mov [.tmp 103]⟩]
       (.alt [⟨some 105, some (104, true), .rd (.load (some 1)) [.tmp 11]⟩]
        (.alt [⟨some 106, some (104, true), .call (.pv (.fn 18 [] [])) [.tmp 105]⟩,
          ⟨some 107, some (104, true), .rd (.load (some 1)) [.tmp 16]⟩,
          ⟨some 108, some (104, true), .call (.pv (.fn 18 [] [])) [.tmp 107]⟩,
          ⟨some 109, some (104, true), .call (.pv (.fn 15 [] [])) [.tmp 106, .tmp 108]⟩,
          ⟨some 110, none, .rd .pick [.tmp 104, .tmp 109, .pv (.bool false)]⟩,
          ⟨some 6, none, .rd .mov [.tmp 110]⟩]
         .done
         (.alt [⟨some 107, some (104, true), .rd (.load (some 1)) [.tmp 16]⟩,
           ⟨some 106, some (104, true), .call (.pv (.fn 18 [] [])) [.tmp 105]⟩,
           ⟨some 108, some (104, true), .call (.pv (.fn 18 [] [])) [.tmp 107]⟩,
           ⟨some 109, some (104, true), .call (.pv (.fn 15 [] [])) [.tmp 106, .tmp 108]⟩,
           ⟨some 110, none, .rd .pick [.tmp 104, .tmp 109, .pv (.bool false)]⟩,
           ⟨some 6, none, .rd .mov [.tmp 110]⟩]
          .done
          .stop))
        (.alt [⟨some 107, some (104, true), .rd (.load (some 1)) [.tmp 16]⟩,
          ⟨some 105, some (104, true), .rd (.load (some 1)) [.tmp 11]⟩,
          ⟨some 106, some (104, true), .call (.pv (.fn 18 [] [])) [.tmp 105]⟩,
          ⟨some 108, some (104, true), .call (.pv (.fn 18 [] [])) [.tmp 107]⟩,
          ⟨some 109, some (104, true), .call (.pv (.fn 15 [] [])) [.tmp 106, .tmp 108]⟩,
          ⟨some 110, none, .rd .pick [.tmp 104, .tmp 109, .pv (.bool false)]⟩,
          ⟨some 6, none, .rd .mov [.tmp 110]⟩]
         .done
         .stop))
       (.alt [⟨some 100, some (97, true), .rd (.load (some 1)) [.tmp 11]⟩,
         ⟨some 99, some (97, true), .call (.pv (.fn 13 [] [])) [.tmp 98]⟩,
         ⟨some 101, some (97, true), .call (.pv (.fn 13 [] [])) [.tmp 100]⟩,
         ⟨some 102, some (97, true), .rd (.bin .eql) [.tmp 99, .tmp 101]⟩,
         ⟨some 103, none, .rd .pick [.tmp 97, .tmp 102, .pv (.bool false)]⟩,
         ⟨some 104, none, .rd .mov [.tmp 103]⟩]
        (.alt [⟨some 105, some (104, true), .rd (.load (some 1)) [.tmp 11]⟩]
         (.alt [⟨some 106, some (104, true), .call (.pv (.fn 18 [] [])) [.tmp 105]⟩,
           ⟨some 107, some (104, true), .rd (.load (some 1)) [.tmp 16]⟩,
           ⟨some 108, some (104, true), .call (.pv (.fn 18 [] [])) [.tmp 107]⟩,
           ⟨some 109, some (104, true), .call (.pv (.fn 15 [] [])) [.tmp 106, .tmp 108]⟩,
           ⟨some 110, none, .rd .pick [.tmp 104, .tmp 109, .pv (.bool false)]⟩,
           ⟨some 6, none, .rd .mov [.tmp 110]⟩]
          .done
          (.alt [⟨some 107, some (104, true), .rd (.load (some 1)) [.tmp 16]⟩,
            ⟨some 106, some (104, true), .call (.pv (.fn 18 [] [])) [.tmp 105]⟩,
            ⟨some 108, some (104, true), .call (.pv (.fn 18 [] [])) [.tmp 107]⟩,
            ⟨some 109, some (104, true), .call (.pv (.fn 15 [] [])) [.tmp 106, .tmp 108]⟩,
            ⟨some 110, none, .rd .pick [.tmp 104, .tmp 109, .pv (.bool false)]⟩,
            ⟨some 6, none, .rd .mov [.tmp 110]⟩]
           .done
           .stop))
         (.alt [⟨some 107, some (104, true), .rd (.load (some 1)) [.tmp 16]⟩,
           ⟨some 105, some (104, true), .rd (.load (some 1)) [.tmp 11]⟩,
           ⟨some 106, some (104, true), .call (.pv (.fn 18 [] [])) [.tmp 105]⟩,
           ⟨some 108, some (104, true), .call (.pv (.fn 18 [] [])) [.tmp 107]⟩,
           ⟨some 109, some (104, true), .call (.pv (.fn 15 [] [])) [.tmp 106, .tmp 108]⟩,
           ⟨some 110, none, .rd .pick [.tmp 104, .tmp 109, .pv (.bool false)]⟩,
           ⟨some 6, none, .rd .mov [.tmp 110]⟩]
          .done
          .stop))
        .stop))
      (.alt [⟨some 100, some (97, true), .rd (.load (some 1)) [.tmp 11]⟩,
        ⟨some 98, some (97, true), .rd (.load (some 1)) [.tmp 16]⟩,
        ⟨some 99, some (97, true), .call (.pv (.fn 13 [] [])) [.tmp 98]⟩,
        ⟨some 101, some (97, true), .call (.pv (.fn 13 [] [])) [.tmp 100]⟩,
        ⟨some 102, some (97, true), .rd (.bin .eql) [.tmp 99, .tmp 101]⟩,
        ⟨some 103, none, .rd .pick [.tmp 97, .tmp 102, .pv (.bool false)]⟩,
        ⟨some 104, none, .rd .mov [.tmp 103]⟩]
       (.alt [⟨some 105, some (104, true), .rd (.load (some 1)) [.tmp 11]⟩]
        (.alt [⟨some 106, some (104, true), .call (.pv (.fn 18 [] [])) [.tmp 105]⟩,
          ⟨some 107, some (104, true), .rd (.load (some 1)) [.tmp 16]⟩,
          ⟨some 108, some (104, true), .call (.pv (.fn 18 [] [])) [.tmp 107]⟩,
          ⟨some 109, some (104, true), .call (.pv (.fn 15 [] [])) [.tmp 106, .tmp 108]⟩,
          ⟨some 110, none, .rd .pick [.tmp 104, .tmp 109, .pv (.bool false)]⟩,
          ⟨some 6, none, .rd .mov [.tmp 110]⟩]
         .done
         (.alt [⟨some 107, some (104, true), .rd (.load (some 1)) [.tmp 16]⟩,
           ⟨some 106, some (104, true), .call (.pv (.fn 18 [] [])) [.tmp 105]⟩,
           ⟨some 108, some (104, true), .call (.pv (.fn 18 [] [])) [.tmp 107]⟩,
           ⟨some 109, some (104, true), .call (.pv (.fn 15 [] [])) [.tmp 106, .tmp 108]⟩,
           ⟨some 110, none, .rd .pick [.tmp 104, .tmp 109, .pv (.bool false)]⟩,
           ⟨some 6, none, .rd .mov [.tmp 110]⟩]
          .done
          .stop))
        (.alt [⟨some 107, some (104, true), .rd (.load (some 1)) [.tmp 16]⟩,
          ⟨some 105, some (104, true), .rd (.load (some 1)) [.tmp 11]⟩,
          ⟨some 106, some (104, true), .call (.pv (.fn 18 [] [])) [.tmp 105]⟩,
          ⟨some 108, some (104, true), .call (.pv (.fn 18 [] [])) [.tmp 107]⟩,
          ⟨some 109, some (104, true), .call (.pv (.fn 15 [] [])) [.tmp 106, .tmp 108]⟩,
          ⟨some 110, none, .rd .pick [.tmp 104, .tmp 109, .pv (.bool false)]⟩,
          ⟨some 6, none, .rd .mov [.tmp 110]⟩]
         .done
         .stop))
       .stop))
     .stop) L5d)
  (.ret))))))))))),
  [.tmp 6]⟩

-- wagebook/wagebooktop.TopTold
theorem k5d : compileF Tryz.prog [999999] L5d Tryz.f5 = some c5d := by kernel_rfl
theorem v27 (f : Fc) : VCalls Tryz.prog G0 27 [fcV f, fcV f] (.bool true) := by
  refine VCalls.of_PW Tryz.func27 k27 mix (by simp [c27]) ?_
  simp only [c27, L27, argE]
  have e1 : ∀ x : Int, decide (x = x) = true := fun x => by simp
  have e2 : ∀ x : St, decide (x = x) = true := fun x => by simp
  repeat' (first | exact True.intro | exact Or.inr ⟨rfl, by omega⟩ | (refine PW.seqK ?_; intro K hK) | refine PW.block ?_ | refine PW.scope ?_ | refine PW.label ?_ | refine PW.exit ?_ | refine PW.ret ?_ | refine PW.skip ?_ | refine seqK_n (by assumption) ?_ | refine seqK_r (by assumption) ?_ | refine seqK_e (by assumption) ?_ | refine PW.regionA ?_ | exact schedW_stop_i | refine schK_n (by assumption) ?_ | (refine schedW_alt_k ?_ ?_; focus (intro K hK; simp only [GC, pp0, cut88, e1, e2, SS, SS2, SS3, SS4, SS5, Option.map_some, Nat.reduceAdd, reduceIte, Nat.reduceEqDiff, Nat.reduceBEq, eq_self, implies_true, ne_eq, beq_self_eq_true, id_eq, reduceCtorEq]; (try go_unwrap; try simp only [GC, pp0, cut88, e1, e2, RR, reduceCtorEq]))) | (refine PW.cond rfl ?_ ?_ <;> intro hcond <;> (try contradiction) <;> try simp only [decide_eq_true_eq, decide_eq_false_iff_not] at hcond) | (refine gd_i ?_; intro hg; try simp only [hg]) | ((first | show @LE.le Nat _ _ _ | show @LT.lt Nat _ _ _ | show @LE.le Int _ _ _ | show @LT.lt Int _ _ _ | show @Eq Nat _ _ | show @Eq Int _ _ | show @Eq Bool _ _ | show _ ∨ _ | show ¬ _); first | omega | (simp only [decide_eq_true_eq, decide_eq_false_iff_not, List.length_cons, List.length_nil, List.length_append, List.length_map, Sh.size] <;> omega) | (go_unwrap; omega)) | ((first | refine PW.region ?_ | refine PW.regionQ ?_ | refine schedW_done_i ?_ | show (_ : Post) _ _ _ | show @Eq (List PV) _ _ | show @Eq Bool _ _ | show opsW _ _ _ _ _ _ _ _ | show okAll _ | show @Eq Bool _ _ ∨ _); focus (simp only [GC, pp0, cut88, e1, e2, SS, SS2, SS3, SS4, SS5, Option.map_some, Nat.reduceAdd, reduceIte, Nat.reduceEqDiff, Nat.reduceBEq, eq_self, implies_true, ne_eq, beq_self_eq_true, id_eq, reduceCtorEq]; (try go_unwrap; try simp only [GC, pp0, cut88, e1, e2, RR, reduceCtorEq]))) | refine And.intro ?_ ?_ | exact Or.inr ⟨rfl, Nat.le_refl _⟩ | exact (fun h => Bool.noConfusion h))
  all_goals skip
theorem idxF_some {α : Type} {p : α → Bool} {xs : List α} (h : 0 ≤ idxF p xs) : ∃ i, ∃ h : i < xs.length, idxF p xs = i ∧ p xs[i] = true := by
  unfold idxF at h ⊢
  cases hf : xs.findIdx? p with
  | none => rw [hf] at h; simp at h
  | some i =>
    obtain ⟨h1, h2, -⟩ := List.findIdx?_eq_some_iff_getElem.1 hf
    exact ⟨i, h1, rfl, h2⟩
/-- Import, step by step. -/
def impM (s fs : List Fc) : Nat → List Fc × Int
  | 0 => (s, 0)
  | i + 1 => match fs[i]? with
    | some f => if 0 ≤ plcM (impM s fs i).1 f.id then ((impM s fs i).1, (impM s fs i).2 + 1) else ((impM s fs i).1 ++ [f], (impM s fs i).2)
    | none => impM s fs i
theorem imp_step (s fs : List Fc) {i : Nat} (h : i < fs.length) : impM s fs (i + 1) = if 0 ≤ plcM (impM s fs i).1 fs[i].id then ((impM s fs i).1, (impM s fs i).2 + 1) else ((impM s fs i).1 ++ [fs[i]], (impM s fs i).2) := by
  conv => lhs; unfold impM
  rw [List.getElem?_eq_getElem h]
theorem imp_pas (s fs : List Fc) : ∀ i, 0 ≤ (impM s fs i).2 ∧ (impM s fs i).2 ≤ i
  | 0 => by simp [impM]
  | i + 1 => by
    have := imp_pas s fs i
    unfold impM
    split
    · split
      · simp only; omega
      · simp only; omega
    · omega
/-- Each is there already, alike, or can be added. -/
def ImpOk (s fs : List Fc) : Prop := ∀ i (h : i < fs.length),
  (0 ≤ plcM (impM s fs i).1 fs[i].id → (impM s fs i).1[(plcM (impM s fs i).1 fs[i].id).toNat]? = some fs[i]) ∧
  (plcM (impM s fs i).1 fs[i].id < 0 → (impM s fs i).1.length < 4096 ∧ fs[i].kind ≠ 18 ∧ VCalls Tryz.prog G0 24 [fcV fs[i]] (.int .i64 0))
theorem v17 (s fs : List Fc) (hs : s.length ≤ 5000) (hfs : fs.length ≤ 5000) (hok : ImpOk s fs) (hlen' : ∀ i, i ≤ fs.length → (impM s fs i).1.length ≤ 100000) :
    VCalls Tryz.prog G0 17 [stP s, fcL fs] (.tup [stP (impM s fs fs.length).1, .int .i64 (impM s fs fs.length).2, .int .i64 0]) := by
  refine VCalls.of_PW Tryz.func17 k17 mix (by simp [c17]) ?_
  simp only [c17, L17, argE]
  have hlen := fc_len fs
  repeat' (first | exact True.intro | (refine PW.seqK ?_; intro K hK) | refine PW.block ?_ | refine PW.scope ?_ | refine PW.label ?_ | refine PW.exit ?_ | refine PW.ret ?_ | refine PW.skip ?_ | refine seqK_n (by assumption) ?_ | refine seqK_r (by assumption) ?_ | refine seqK_e (by assumption) ?_ | refine PW.regionA ?_ | exact schedW_stop_i | refine schK_n (by assumption) ?_ | (refine schedW_alt_k ?_ ?_; focus (intro K hK; simp only [hlen, cut11, SS, SS2, SS3, SS4, SS5, Option.map_some, Nat.reduceAdd, reduceIte, Nat.reduceEqDiff, Nat.reduceBEq, eq_self, implies_true, ne_eq, beq_self_eq_true, id_eq, reduceCtorEq]; (try go_unwrap; try simp only [hlen, cut11, RR, reduceCtorEq]))) | (refine PW.cond rfl ?_ ?_ <;> intro hcond <;> (try contradiction) <;> try simp only [decide_eq_true_eq, decide_eq_false_iff_not] at hcond) | (refine gd_i ?_; intro hg; try simp only [hg]) | ((first | show @LE.le Nat _ _ _ | show @LT.lt Nat _ _ _ | show @LE.le Int _ _ _ | show @LT.lt Int _ _ _ | show @Eq Nat _ _ | show @Eq Int _ _ | show @Eq Bool _ _ | show _ ∨ _ | show ¬ _); first | omega | (simp only [decide_eq_true_eq, decide_eq_false_iff_not, List.length_cons, List.length_nil, List.length_append, List.length_map, Sh.size] <;> omega) | (go_unwrap; omega)) | ((first | refine PW.region ?_ | refine PW.regionQ ?_ | refine schedW_done_i ?_ | show (_ : Post) _ _ _ | show @Eq (List PV) _ _ | show @Eq Bool _ _ | show opsW _ _ _ _ _ _ _ _ | show okAll _ | show @Eq Bool _ _ ∨ _); focus (simp only [hlen, cut11, SS, SS2, SS3, SS4, SS5, Option.map_some, Nat.reduceAdd, reduceIte, Nat.reduceEqDiff, Nat.reduceBEq, eq_self, implies_true, ne_eq, beq_self_eq_true, id_eq, reduceCtorEq]; (try go_unwrap; try simp only [hlen, cut11, RR, reduceCtorEq]))) | refine And.intro ?_ ?_ | exact Or.inr ⟨rfl, Nat.le_refl _⟩ | exact (fun h => Bool.noConfusion h))
  refine PW.loopG (σ := Nat) 3 (fun _ _ => rfl) [2, 4, 5, 6, 7, 8, 15, 16, 17] (fun i => [.ref 0 0, .ref 1 0, .int .i64 0, .int .i64 0, .ref 2 0, .int .i64 (impM s fs i).2, fcL fs, .int .i64 fs.length, .int .i64 i]) (fun i => [some (.var (some 1) (stP s)), some (.var (some 1) (.agg [.nilSl])), some (.var (some 1) (stP (impM s fs i).1))]) (fun i => i ≤ fs.length) (fun i => fs.length - i) 0 ?_ (by first | rfl | simp [impM]) (by omega) ?_
  · simp only [SS, SS2, SS3, SS4, SS5, Option.map_some, Nat.reduceAdd, reduceIte, Nat.reduceEqDiff, Nat.reduceBEq, eq_self, implies_true, ne_eq, beq_self_eq_true, id_eq, reduceCtorEq]; rfl
  rintro i hi
  simp only [List.zip_cons_cons, List.zip_nil_left]
  rcases Nat.lt_or_ge i fs.length with h | h
  · have hd : decide ((i : Int) < fs.length) = true := by simp only [decide_eq_true_eq]; omega
    have hg := fc_getD fs i h
    have hst := imp_step s fs h
    obtain ⟨ho1, ho2⟩ := hok i h
    have hol := hlen' i (by omega)
    obtain ⟨hp0, hp1⟩ := imp_pas s fs i
    generalize fs[i] = f at hg hst ho1 ho2
    generalize impM s fs i = q at hst ho1 ho2 hol hp0 hp1
    obtain ⟨O, p⟩ := q
    simp only at hst ho1 ho2 hol hp0 hp1 ⊢
    have h25 := v25 O (by omega) f.id
    have hwp : IntKind.i64.wrap (p + 1) = p + 1 := IntWalk.i64_in _ (by omega)
    by_cases hp : 0 ≤ plcM O f.id
    · rw [if_pos hp] at hst
      obtain ⟨m, hm⟩ : ∃ m : Nat, plcM O f.id = m := ⟨(plcM O f.id).toNat, by omega⟩
      have ho := ho1 hp
      rw [hm, Int.toNat_natCast] at ho
      obtain ⟨hml, hmo⟩ := List.getElem?_eq_some_iff.1 ho
      have hgo := fc_getD O m hml
      rw [hmo] at hgo
      rw [hm] at h25
      have d1 : decide ((0 : Int) ≤ (m : Int)) = true := by simp only [decide_eq_true_eq]; omega
      have h27 := v27 f
      have hOl := fc_len O
      repeat' (first | exact True.intro | (refine PW.seqK ?_; intro K hK) | refine PW.block ?_ | refine PW.scope ?_ | refine PW.label ?_ | refine PW.exit ?_ | refine PW.ret ?_ | refine PW.skip ?_ | refine seqK_n (by assumption) ?_ | refine seqK_r (by assumption) ?_ | refine seqK_e (by assumption) ?_ | refine PW.regionA ?_ | exact schedW_stop_i | refine schK_n (by assumption) ?_ | (refine schedW_alt_k ?_ ?_; focus (intro K hK; simp only [GC, hlen, hOl, hd, hg, hgo, d1, hwp, cut11, cut88, SS, SS2, SS3, SS4, SS5, Option.map_some, Nat.reduceAdd, reduceIte, Nat.reduceEqDiff, Nat.reduceBEq, eq_self, implies_true, ne_eq, beq_self_eq_true, id_eq, reduceCtorEq]; (try go_unwrap; try simp only [GC, hlen, hOl, hd, hg, hgo, d1, hwp, cut11, cut88, RR, reduceCtorEq]))) | (refine PW.cond rfl ?_ ?_ <;> intro hcond <;> (try contradiction) <;> try simp only [decide_eq_true_eq, decide_eq_false_iff_not] at hcond) | (refine gd_i ?_; intro hg; try simp only [hg]) | refine goCall_W e25 (h25) ?_ ?_ ?_ ?_ | refine goCallG_W e27 (h27) ?_ ?_ ?_ ?_ ?_ | ((first | show @LE.le Nat _ _ _ | show @LT.lt Nat _ _ _ | show @LE.le Int _ _ _ | show @LT.lt Int _ _ _ | show @Eq Nat _ _ | show @Eq Int _ _ | show @Eq Bool _ _ | show _ ∨ _ | show ¬ _); first | omega | (simp only [decide_eq_true_eq, decide_eq_false_iff_not, List.length_cons, List.length_nil, List.length_append, List.length_map, Sh.size] <;> omega) | (go_unwrap; omega)) | ((first | refine PW.region ?_ | refine PW.regionQ ?_ | refine schedW_done_i ?_ | show (_ : Post) _ _ _ | show @Eq (List PV) _ _ | show @Eq Bool _ _ | show opsW _ _ _ _ _ _ _ _ | show okAll _ | show @Eq Bool _ _ ∨ _); focus (simp only [GC, hlen, hOl, hd, hg, hgo, d1, hwp, cut11, cut88, SS, SS2, SS3, SS4, SS5, Option.map_some, Nat.reduceAdd, reduceIte, Nat.reduceEqDiff, Nat.reduceBEq, eq_self, implies_true, ne_eq, beq_self_eq_true, id_eq, reduceCtorEq]; (try go_unwrap; try simp only [GC, hlen, hOl, hd, hg, hgo, d1, hwp, cut11, cut88, RR, reduceCtorEq]))) | refine And.intro ?_ ?_ | exact Or.inr ⟨rfl, Nat.le_refl _⟩ | exact (fun h => Bool.noConfusion h))
      all_goals exact ⟨i + 1, (by rw [hst]; exact (by first | rfl | (simp only [trimE, trimM, List.take_succ_cons, List.take_zero, List.take_nil, List.map_cons, List.map_nil, Option.map_some, Option.map_none, MObj.kill, PV.kill, Nat.reduceLeDiff, decide_true, decide_false, dec_true, dec_false, Bool.false_eq_true, if_false, if_true, reduceIte, List.zip_cons_cons, List.zip_nil_left, Nat.le_refl, Nat.zero_le, Nat.not_le, Nat.lt_irrefl]; done) | (simp [trimE, trimM, MObj.kill, PV.kill]; done))), (by rw [hst]; exact (by first | rfl | (simp only [trimE, trimM, List.take_succ_cons, List.take_zero, List.take_nil, List.map_cons, List.map_nil, Option.map_some, Option.map_none, MObj.kill, PV.kill, Nat.reduceLeDiff, decide_true, decide_false, dec_true, dec_false, Bool.false_eq_true, if_false, if_true, reduceIte, List.zip_cons_cons, List.zip_nil_left, Nat.le_refl, Nat.zero_le, Nat.not_le, Nat.lt_irrefl]; done) | (simp [trimE, trimM, MObj.kill, PV.kill]; done))), by omega, by omega⟩
    · rw [if_neg hp] at hst
      obtain ⟨g1, g2, g3⟩ := ho2 (by omega)
      have d1 : decide (0 ≤ plcM O f.id) = false := by simpa using hp
      have h14 := v14g O g1 f g3 (by omega) (v26s O f g2)
      generalize plcM O f.id = pl at h25 d1
      have d0 : decide ((0 : Int) = 0) = true := rfl
      repeat' (first | exact True.intro | (refine PW.seqK ?_; intro K hK) | refine PW.block ?_ | refine PW.scope ?_ | refine PW.label ?_ | refine PW.exit ?_ | refine PW.ret ?_ | refine PW.skip ?_ | refine seqK_n (by assumption) ?_ | refine seqK_r (by assumption) ?_ | refine seqK_e (by assumption) ?_ | refine PW.regionA ?_ | exact schedW_stop_i | refine schK_n (by assumption) ?_ | (refine schedW_alt_k ?_ ?_; focus (intro K hK; simp only [GC, hlen, hd, hg, d0, d1, cut11, cut88, SS, SS2, SS3, SS4, SS5, Option.map_some, Nat.reduceAdd, reduceIte, Nat.reduceEqDiff, Nat.reduceBEq, eq_self, implies_true, ne_eq, beq_self_eq_true, id_eq, reduceCtorEq]; (try go_unwrap; try simp only [GC, hlen, hd, hg, d0, d1, cut11, cut88, RR, reduceCtorEq]))) | (refine PW.cond rfl ?_ ?_ <;> intro hcond <;> (try contradiction) <;> try simp only [decide_eq_true_eq, decide_eq_false_iff_not] at hcond) | (refine goCallG_skip rfl ?_; simp only [GC, hlen, hd, hg, d0, d1, cut11, cut88, SS, SS2, SS3, SS4, SS5, Option.map_some, Nat.reduceAdd, reduceIte, Nat.reduceEqDiff, Nat.reduceBEq, eq_self, implies_true, ne_eq, beq_self_eq_true, id_eq, reduceCtorEq]; (try go_unwrap; try simp only [GC, hlen, hd, hg, d0, d1, cut11, cut88, RR, reduceCtorEq])) | (refine gd_i ?_; intro hg; try simp only [hg]) | refine goCall_W e25 (h25) ?_ ?_ ?_ ?_ | refine goCall_W e14 (h14) ?_ ?_ ?_ ?_ | ((first | show @LE.le Nat _ _ _ | show @LT.lt Nat _ _ _ | show @LE.le Int _ _ _ | show @LT.lt Int _ _ _ | show @Eq Nat _ _ | show @Eq Int _ _ | show @Eq Bool _ _ | show _ ∨ _ | show ¬ _); first | omega | (simp only [decide_eq_true_eq, decide_eq_false_iff_not, List.length_cons, List.length_nil, List.length_append, List.length_map, Sh.size] <;> omega) | (go_unwrap; omega)) | ((first | refine PW.region ?_ | refine PW.regionQ ?_ | refine schedW_done_i ?_ | show (_ : Post) _ _ _ | show @Eq (List PV) _ _ | show @Eq Bool _ _ | show opsW _ _ _ _ _ _ _ _ | show okAll _ | show @Eq Bool _ _ ∨ _); focus (simp only [GC, hlen, hd, hg, d0, d1, cut11, cut88, SS, SS2, SS3, SS4, SS5, Option.map_some, Nat.reduceAdd, reduceIte, Nat.reduceEqDiff, Nat.reduceBEq, eq_self, implies_true, ne_eq, beq_self_eq_true, id_eq, reduceCtorEq]; (try go_unwrap; try simp only [GC, hlen, hd, hg, d0, d1, cut11, cut88, RR, reduceCtorEq]))) | refine And.intro ?_ ?_ | exact Or.inr ⟨rfl, Nat.le_refl _⟩ | exact (fun h => Bool.noConfusion h))
      all_goals exact ⟨i + 1, (by rw [hst]; exact (by first | rfl | (simp only [trimE, trimM, List.take_succ_cons, List.take_zero, List.take_nil, List.map_cons, List.map_nil, Option.map_some, Option.map_none, MObj.kill, PV.kill, Nat.reduceLeDiff, decide_true, decide_false, dec_true, dec_false, Bool.false_eq_true, if_false, if_true, reduceIte, List.zip_cons_cons, List.zip_nil_left, Nat.le_refl, Nat.zero_le, Nat.not_le, Nat.lt_irrefl]; done) | (simp [trimE, trimM, MObj.kill, PV.kill]; done))), (by rw [hst]; exact (by first | rfl | (simp only [trimE, trimM, List.take_succ_cons, List.take_zero, List.take_nil, List.map_cons, List.map_nil, Option.map_some, Option.map_none, MObj.kill, PV.kill, Nat.reduceLeDiff, decide_true, decide_false, dec_true, dec_false, Bool.false_eq_true, if_false, if_true, reduceIte, List.zip_cons_cons, List.zip_nil_left, Nat.le_refl, Nat.zero_le, Nat.not_le, Nat.lt_irrefl]; done) | (simp [trimE, trimM, MObj.kill, PV.kill]; done))), by omega, by omega⟩
  · have hd : decide ((i : Int) < fs.length) = false := by simp only [decide_eq_false_iff_not]; omega
    have hi' : i = fs.length := by omega
    subst hi'
    repeat' (first | exact True.intro | (refine PW.seqK ?_; intro K hK) | refine PW.block ?_ | refine PW.scope ?_ | refine PW.label ?_ | refine PW.exit ?_ | refine PW.ret ?_ | refine PW.skip ?_ | refine seqK_n (by assumption) ?_ | refine seqK_r (by assumption) ?_ | refine seqK_e (by assumption) ?_ | refine PW.regionA ?_ | exact schedW_stop_i | refine schK_n (by assumption) ?_ | (refine schedW_alt_k ?_ ?_; focus (intro K hK; simp only [hlen, hd, cut11, SS, SS2, SS3, SS4, SS5, Option.map_some, Nat.reduceAdd, reduceIte, Nat.reduceEqDiff, Nat.reduceBEq, eq_self, implies_true, ne_eq, beq_self_eq_true, id_eq, reduceCtorEq]; (try go_unwrap; try simp only [hlen, hd, cut11, RR, reduceCtorEq]))) | (refine PW.cond rfl ?_ ?_ <;> intro hcond <;> (try contradiction) <;> try simp only [decide_eq_true_eq, decide_eq_false_iff_not] at hcond) | (refine gd_i ?_; intro hg; try simp only [hg]) | ((first | show @LE.le Nat _ _ _ | show @LT.lt Nat _ _ _ | show @LE.le Int _ _ _ | show @LT.lt Int _ _ _ | show @Eq Nat _ _ | show @Eq Int _ _ | show @Eq Bool _ _ | show _ ∨ _ | show ¬ _); first | omega | (simp only [decide_eq_true_eq, decide_eq_false_iff_not, List.length_cons, List.length_nil, List.length_append, List.length_map, Sh.size] <;> omega) | (go_unwrap; omega)) | ((first | refine PW.region ?_ | refine PW.regionQ ?_ | refine schedW_done_i ?_ | show (_ : Post) _ _ _ | show @Eq (List PV) _ _ | show @Eq Bool _ _ | show opsW _ _ _ _ _ _ _ _ | show okAll _ | show @Eq Bool _ _ ∨ _); focus (simp only [hlen, hd, cut11, SS, SS2, SS3, SS4, SS5, Option.map_some, Nat.reduceAdd, reduceIte, Nat.reduceEqDiff, Nat.reduceBEq, eq_self, implies_true, ne_eq, beq_self_eq_true, id_eq, reduceCtorEq]; (try go_unwrap; try simp only [hlen, hd, cut11, RR, reduceCtorEq]))) | refine And.intro ?_ ?_ | exact Or.inr ⟨rfl, Nat.le_refl _⟩ | exact (fun h => Bool.noConfusion h))
    all_goals skip
def allK (l : List Fc) : List Kn := thoseN (fun _ => true) l l.length
theorem v18 (l : List Fc) (hl : l.length ≤ 100000) : VCalls Tryz.prog G0 18 [stP l] (knL (allK l)) := by
  refine VCalls.of_PW Tryz.func18 k18 mix (by simp [c18]) ?_
  simp only [c18, L18, argE]
  have hlen := fc_len l
  repeat' (first | exact True.intro | (refine PW.seqK ?_; intro K hK) | refine PW.block ?_ | refine PW.scope ?_ | refine PW.label ?_ | refine PW.exit ?_ | refine PW.ret ?_ | refine PW.skip ?_ | refine seqK_n (by assumption) ?_ | refine seqK_r (by assumption) ?_ | refine seqK_e (by assumption) ?_ | refine PW.regionA ?_ | exact schedW_stop_i | refine schK_n (by assumption) ?_ | (refine schedW_alt_k ?_ ?_; focus (intro K hK; simp only [hlen, SS, SS2, SS3, SS4, SS5, Option.map_some, Nat.reduceAdd, reduceIte, Nat.reduceEqDiff, Nat.reduceBEq, eq_self, implies_true, ne_eq, beq_self_eq_true, id_eq, reduceCtorEq]; (try go_unwrap; try simp only [hlen, RR, reduceCtorEq]))) | (refine PW.cond rfl ?_ ?_ <;> intro hcond <;> (try contradiction) <;> try simp only [decide_eq_true_eq, decide_eq_false_iff_not] at hcond) | (refine gd_i ?_; intro hg; try simp only [hg]) | ((first | show @LE.le Nat _ _ _ | show @LT.lt Nat _ _ _ | show @LE.le Int _ _ _ | show @LT.lt Int _ _ _ | show @Eq Nat _ _ | show @Eq Int _ _ | show @Eq Bool _ _ | show _ ∨ _ | show ¬ _); first | omega | (simp only [decide_eq_true_eq, decide_eq_false_iff_not, List.length_cons, List.length_nil, List.length_append, List.length_map, Sh.size] <;> omega) | (go_unwrap; omega)) | ((first | refine PW.region ?_ | refine PW.regionQ ?_ | refine schedW_done_i ?_ | show (_ : Post) _ _ _ | show @Eq (List PV) _ _ | show @Eq Bool _ _ | show opsW _ _ _ _ _ _ _ _ | show okAll _ | show @Eq Bool _ _ ∨ _); focus (simp only [hlen, SS, SS2, SS3, SS4, SS5, Option.map_some, Nat.reduceAdd, reduceIte, Nat.reduceEqDiff, Nat.reduceBEq, eq_self, implies_true, ne_eq, beq_self_eq_true, id_eq, reduceCtorEq]; (try go_unwrap; try simp only [hlen, RR, reduceCtorEq]))) | refine And.intro ?_ ?_ | exact Or.inr ⟨rfl, Nat.le_refl _⟩ | exact (fun h => Bool.noConfusion h))
  refine PW.own (some 9) 3 rfl ?_
  refine PW.loopG (σ := Nat) 2 (fun _ _ => rfl) [3, 7, 8, 9] (fun i => [.sl (some 9) 1 (thoseN (fun _ => true) l i).length, fcL l, .int .i64 l.length, .int .i64 i]) (fun i => [some (.var (some 1) (stP l)), some (.row (some 9) ((thoseN (fun _ => true) l i).map knP))]) (fun i => i ≤ l.length) (fun i => l.length - i) 0 ?_ (by first | rfl | simp [thoseN]) (by omega) ?_
  · simp only [SS, SS2, SS3, SS4, SS5, Option.map_some, Nat.reduceAdd, reduceIte, Nat.reduceEqDiff, Nat.reduceBEq, eq_self, implies_true, ne_eq, beq_self_eq_true, id_eq, reduceCtorEq]; rfl
  rintro i hi
  simp only [List.zip_cons_cons, List.zip_nil_left]
  have hTl := those_len (fun _ => true) l i
  rcases Nat.lt_or_ge i l.length with h | h
  · have hd : decide ((i : Int) < l.length) = true := by simp only [decide_eq_true_eq]; omega
    have hgt := fc_getD l i h
    have hst := those_step (fun _ => true) l h
    simp only [if_true] at hst
    generalize l[i] = f at hgt hst
    generalize thoseN (fun _ => true) l i = T at hst hTl
    have hKl : ((T.map knP).length : Nat) = T.length := by simp
    have htk : (T.map knP).take T.length = T.map knP := List.take_of_length_le (by simp)
    have b1 : (T.length + 1) * 80 ≤ 140737488355328 := by omega
    repeat' (first | exact True.intro | (refine PW.seqK ?_; intro K hK) | refine PW.block ?_ | refine PW.scope ?_ | refine PW.label ?_ | refine PW.exit ?_ | refine PW.ret ?_ | refine PW.skip ?_ | refine seqK_n (by assumption) ?_ | refine seqK_r (by assumption) ?_ | refine seqK_e (by assumption) ?_ | refine PW.regionA ?_ | exact schedW_stop_i | refine schK_n (by assumption) ?_ | (refine schedW_alt_k ?_ ?_; focus (intro K hK; simp only [GC, CF8, hlen, hd, hgt, cut88, hKl, htk, part_8, setA9, SS, SS2, SS3, SS4, SS5, Option.map_some, Nat.reduceAdd, reduceIte, Nat.reduceEqDiff, Nat.reduceBEq, eq_self, implies_true, ne_eq, beq_self_eq_true, id_eq, reduceCtorEq]; (try go_unwrap; try simp only [GC, CF8, hlen, hd, hgt, cut88, hKl, htk, part_8, setA9, RR, reduceCtorEq]))) | (refine PW.cond rfl ?_ ?_ <;> intro hcond <;> (try contradiction) <;> try simp only [decide_eq_true_eq, decide_eq_false_iff_not] at hcond) | (refine gd_i ?_; intro hg; try simp only [hg]) | ((first | show @LE.le Nat _ _ _ | show @LT.lt Nat _ _ _ | show @LE.le Int _ _ _ | show @LT.lt Int _ _ _ | show @Eq Nat _ _ | show @Eq Int _ _ | show @Eq Bool _ _ | show _ ∨ _ | show ¬ _); first | omega | (simp only [decide_eq_true_eq, decide_eq_false_iff_not, List.length_cons, List.length_nil, List.length_append, List.length_map, Sh.size] <;> omega) | (go_unwrap; omega)) | ((first | refine PW.region ?_ | refine PW.regionQ ?_ | refine schedW_done_i ?_ | show (_ : Post) _ _ _ | show @Eq (List PV) _ _ | show @Eq Bool _ _ | show opsW _ _ _ _ _ _ _ _ | show okAll _ | show @Eq Bool _ _ ∨ _); focus (simp only [GC, CF8, hlen, hd, hgt, cut88, hKl, htk, part_8, setA9, SS, SS2, SS3, SS4, SS5, Option.map_some, Nat.reduceAdd, reduceIte, Nat.reduceEqDiff, Nat.reduceBEq, eq_self, implies_true, ne_eq, beq_self_eq_true, id_eq, reduceCtorEq]; (try go_unwrap; try simp only [GC, CF8, hlen, hd, hgt, cut88, hKl, htk, part_8, setA9, RR, reduceCtorEq]))) | refine And.intro ?_ ?_ | exact Or.inr ⟨rfl, Nat.le_refl _⟩ | exact (fun h => Bool.noConfusion h))
    all_goals exact ⟨i + 1, (by rw [hst]; simp only [List.length_append, List.length_cons, List.length_nil]; exact (by first | rfl | (simp only [trimE, trimM, List.take_succ_cons, List.take_zero, List.take_nil, List.map_cons, List.map_nil, Option.map_some, Option.map_none, MObj.kill, PV.kill, Nat.reduceLeDiff, decide_true, decide_false, dec_true, dec_false, Bool.false_eq_true, if_false, if_true, reduceIte, List.zip_cons_cons, List.zip_nil_left, Nat.le_refl, Nat.zero_le, Nat.not_le, Nat.lt_irrefl]; done) | (simp [trimE, trimM, MObj.kill, PV.kill]; done))), (by rw [hst]; simp [trimM, MObj.kill, PV.kill, knP]), by omega, by omega⟩
  · have hd : decide ((i : Int) < l.length) = false := by simp only [decide_eq_false_iff_not]; omega
    have hi' : i = l.length := by omega
    subst hi'
    have hbt : ((thoseN (fun _ => true) l l.length).map knP).take (thoseN (fun _ => true) l l.length).length = (thoseN (fun _ => true) l l.length).map knP := List.take_of_length_le (by simp)
    have hbl : ((thoseN (fun _ => true) l l.length).map knP).length = (thoseN (fun _ => true) l l.length).length := by simp
    repeat' (first | exact True.intro | (refine PW.seqK ?_; intro K hK) | refine PW.block ?_ | refine PW.scope ?_ | refine PW.label ?_ | refine PW.exit ?_ | refine PW.ret ?_ | refine PW.skip ?_ | refine seqK_n (by assumption) ?_ | refine seqK_r (by assumption) ?_ | refine seqK_e (by assumption) ?_ | refine PW.regionA ?_ | exact schedW_stop_i | refine schK_n (by assumption) ?_ | (refine schedW_alt_k ?_ ?_; focus (intro K hK; simp only [hlen, hd, hbt, hbl, Nat.le_refl, SS, SS2, SS3, SS4, SS5, Option.map_some, Nat.reduceAdd, reduceIte, Nat.reduceEqDiff, Nat.reduceBEq, eq_self, implies_true, ne_eq, beq_self_eq_true, id_eq, reduceCtorEq]; (try go_unwrap; try simp only [hlen, hd, hbt, hbl, Nat.le_refl, RR, reduceCtorEq]))) | (refine PW.cond rfl ?_ ?_ <;> intro hcond <;> (try contradiction) <;> try simp only [decide_eq_true_eq, decide_eq_false_iff_not] at hcond) | (refine gd_i ?_; intro hg; try simp only [hg]) | ((first | show @LE.le Nat _ _ _ | show @LT.lt Nat _ _ _ | show @LE.le Int _ _ _ | show @LT.lt Int _ _ _ | show @Eq Nat _ _ | show @Eq Int _ _ | show @Eq Bool _ _ | show _ ∨ _ | show ¬ _); first | omega | (simp only [decide_eq_true_eq, decide_eq_false_iff_not, List.length_cons, List.length_nil, List.length_append, List.length_map, Sh.size] <;> omega) | (go_unwrap; omega)) | ((first | refine PW.region ?_ | refine PW.regionQ ?_ | refine schedW_done_i ?_ | show (_ : Post) _ _ _ | show @Eq (List PV) _ _ | show @Eq Bool _ _ | show opsW _ _ _ _ _ _ _ _ | show okAll _ | show @Eq Bool _ _ ∨ _); focus (simp only [hlen, hd, hbt, hbl, Nat.le_refl, SS, SS2, SS3, SS4, SS5, Option.map_some, Nat.reduceAdd, reduceIte, Nat.reduceEqDiff, Nat.reduceBEq, eq_self, implies_true, ne_eq, beq_self_eq_true, id_eq, reduceCtorEq]; (try go_unwrap; try simp only [hlen, hd, hbt, hbl, Nat.le_refl, RR, reduceCtorEq]))) | refine And.intro ?_ ?_ | exact Or.inr ⟨rfl, Nat.le_refl _⟩ | exact (fun h => Bool.noConfusion h))
    all_goals rfl
/-- Facts with numbers of their teller's. -/
def idsN (l : List Td) : Nat → List Fc
  | 0 => []
  | i + 1 => match l[i]? with
    | some x => idsN l i ++ [factT ((i : Int) + 1) x]
    | none => idsN l i
theorem ids_step (l : List Td) {i : Nat} (h : i < l.length) : idsN l (i + 1) = idsN l i ++ [factT ((i : Int) + 1) l[i]] := by
  conv => lhs; unfold idsN
  rw [List.getElem?_eq_getElem h]
theorem ids_len (l : List Td) : ∀ i, i ≤ l.length → (idsN l i).length = i
  | 0, _ => rfl
  | i + 1, h => by rw [ids_step l (by omega), List.length_append, ids_len l i (by omega)]; rfl
theorem ids_get (l : List Td) : ∀ i, i ≤ l.length → ∀ j (h : j < l.length), j < i → (idsN l i)[j]? = some (factT ((j : Int) + 1) l[j])
  | 0, _, j, _, h => by omega
  | i + 1, hi, j, hj, h => by
    rw [ids_step l (by omega)]
    rcases Nat.lt_or_ge j i with h1 | h1
    · rw [List.getElem?_append_left (by rw [ids_len l i (by omega)]; exact h1)]
      exact ids_get l i (by omega) j hj h1
    · obtain rfl : j = i := by omega
      rw [List.getElem?_append_right (by rw [ids_len l j (by omega)]; exact Nat.le_refl _), ids_len l j (by omega)]
      simp
section
variable {l : List Td} {F : List Fc} (hF : F = idsN l l.length)
include hF
theorem idF_len : F.length = l.length := by rw [hF]; exact ids_len l _ (Nat.le_refl _)
theorem idF_at {j : Nat} (h : j < F.length) : F[j] = factT ((j : Int) + 1) (l[j]'(by rw [← idF_len hF]; exact h)) := by
  have hj : j < l.length := by rw [← idF_len hF]; exact h
  have := ids_get l l.length (Nat.le_refl _) j hj hj
  rw [← hF, List.getElem?_eq_getElem h] at this
  exact Option.some.inj this
theorem idF_id {j : Nat} (h : j < F.length) : F[j].id = (j : Int) + 1 := by rw [idF_at hF h]; rfl
theorem idF_plc {i : Nat} (h : i < F.length) : plcM F ((i : Int) + 1) = i := by
  unfold plcM
  rw [if_neg (by omega)]
  refine idxF_at h (by rw [decide_eq_true_eq, idF_id hF h]) fun j hj hji => ?_
  rw [decide_eq_false_iff_not, idF_id hF hj]; omega
theorem idF_new {i : Nat} (h : i < F.length) : plcM (F.take i) ((i : Int) + 1) < 0 := by
  unfold plcM
  rw [if_neg (by omega), idxF_none]
  · omega
  · intro j hj
    rw [List.length_take] at hj
    rw [decide_eq_false_iff_not, List.getElem_take, idF_id hF (by omega)]; omega
theorem imp1 : ∀ i, i ≤ F.length → impM [] F i = (F.take i, 0)
  | 0, _ => rfl
  | i + 1, h => by
    rw [imp_step [] F (by omega), imp1 i (by omega)]
    rw [idF_id hF (by omega)]
    have := idF_new hF (i := i) (by omega)
    rw [if_neg (by show ¬ 0 ≤ plcM (F.take i) ((i : Int) + 1); omega), List.take_succ_eq_append_getElem (by omega)]
theorem imp1_ok (hl : l.length ≤ 40) (hok : ∀ x ∈ l, TdOk x) : ImpOk [] F := by
  intro i h
  have hlen := idF_len hF
  rw [imp1 hF i (by omega), idF_id hF h]
  have := idF_new hF (i := i) h
  refine ⟨fun h0 => by simp only at h0; omega, fun _ => ⟨by simp; omega, ?_, ?_⟩⟩
  · rw [idF_at hF h]; show (2 : Int) ≠ 18; omega
  · rw [idF_at hF h]; exact fact_ok _ _ (hok _ (List.getElem_mem _))
omit hF in
theorem part_get {a b i : Nat} (h : i < ((F.take b).drop a).length) : ∃ h' : a + i < F.length, ((F.take b).drop a)[i] = F[a + i] := by
  have h2 : i < b - a ∧ a + i < F.length := by simp at h; omega
  exact ⟨h2.2, by rw [List.getElem_drop, List.getElem_take]⟩
theorem imp2 {a b : Nat} : ∀ i, i ≤ ((F.take b).drop a).length → impM F ((F.take b).drop a) i = (F, (i : Int))
  | 0, _ => rfl
  | i + 1, h => by
    rw [imp_step F _ (by omega), imp2 i (by omega)]
    obtain ⟨h', e⟩ := part_get (F := F) (a := a) (b := b) (i := i) (by omega)
    rw [e, idF_id hF h']
    have := idF_plc hF h'
    rw [this, if_pos (by omega)]
    rfl
theorem imp2_ok {a b : Nat} : ImpOk F ((F.take b).drop a) := by
  intro i h
  obtain ⟨h', e⟩ := part_get (F := F) (a := a) (b := b) (i := i) h
  rw [imp2 hF i (by omega), e, idF_id hF h']
  have := idF_plc hF h'
  refine ⟨fun _ => ?_, fun h0 => ?_⟩
  · simp only
    rw [this, Int.toNat_natCast]
    exact List.getElem?_eq_getElem h'
  · simp only at h0; rw [this] at h0; omega
end
theorem v5 (l : List Td) (hl : l.length ≤ 9223372036854775807) (hok : ∀ x ∈ l, TdOk x) (n m : Nat) (hn : n ≤ 255) (hm : m ≤ 255) : VCalls Tryz.prog G0 5 [tdL l, .int .u8 n, .int .u8 m] (.bool true) := by
  refine VCalls.of_PW Tryz.func5 k5d mix (by simp [c5d]) ?_
  simp only [c5d, L5d, argE]
  have h6 := v6
  have hlen := td_len l
  by_cases h40 : l.length ≤ 40
  case neg =>
    have d1 : decide ((40 : Int) < l.length) = true := by simp only [decide_eq_true_eq]; omega
    repeat' (first | exact True.intro | (refine PW.seqK ?_; intro K hK) | refine PW.block ?_ | refine PW.scope ?_ | refine PW.label ?_ | refine PW.exit ?_ | refine PW.ret ?_ | refine PW.skip ?_ | refine seqK_n (by assumption) ?_ | refine seqK_r (by assumption) ?_ | refine seqK_e (by assumption) ?_ | refine PW.regionA ?_ | exact schedW_stop_i | refine schK_n (by assumption) ?_ | (refine schedW_alt_k ?_ ?_; focus (intro K hK; simp only [hlen, d1, SS, SS2, SS3, SS4, SS5, Option.map_some, Nat.reduceAdd, reduceIte, Nat.reduceEqDiff, Nat.reduceBEq, eq_self, implies_true, ne_eq, beq_self_eq_true, id_eq, reduceCtorEq]; (try go_unwrap; try simp only [hlen, d1, RR, reduceCtorEq]))) | (refine PW.cond rfl ?_ ?_ <;> intro hcond <;> (try contradiction) <;> try simp only [decide_eq_true_eq, decide_eq_false_iff_not] at hcond) | (refine gd_i ?_; intro hg; try simp only [hg]) | refine goCall_W e6 (h6) ?_ ?_ ?_ ?_ | ((first | show @LE.le Nat _ _ _ | show @LT.lt Nat _ _ _ | show @LE.le Int _ _ _ | show @LT.lt Int _ _ _ | show @Eq Nat _ _ | show @Eq Int _ _ | show @Eq Bool _ _ | show _ ∨ _ | show ¬ _); first | omega | (simp only [decide_eq_true_eq, decide_eq_false_iff_not, List.length_cons, List.length_nil, List.length_append, List.length_map, Sh.size] <;> omega) | (go_unwrap; omega)) | ((first | refine PW.region ?_ | refine PW.regionQ ?_ | refine schedW_done_i ?_ | show (_ : Post) _ _ _ | show @Eq (List PV) _ _ | show @Eq Bool _ _ | show opsW _ _ _ _ _ _ _ _ | show okAll _ | show @Eq Bool _ _ ∨ _); focus (simp only [hlen, d1, SS, SS2, SS3, SS4, SS5, Option.map_some, Nat.reduceAdd, reduceIte, Nat.reduceEqDiff, Nat.reduceBEq, eq_self, implies_true, ne_eq, beq_self_eq_true, id_eq, reduceCtorEq]; (try go_unwrap; try simp only [hlen, d1, RR, reduceCtorEq]))) | refine And.intro ?_ ?_ | exact Or.inr ⟨rfl, Nat.le_refl _⟩ | exact (fun h => Bool.noConfusion h))
  have d1 : decide ((40 : Int) < l.length) = false := by simp only [decide_eq_false_iff_not]; omega
  repeat' (first | exact True.intro | (refine PW.seqK ?_; intro K hK) | refine PW.block ?_ | refine PW.scope ?_ | refine PW.label ?_ | refine PW.exit ?_ | refine PW.ret ?_ | refine PW.skip ?_ | refine seqK_n (by assumption) ?_ | refine seqK_r (by assumption) ?_ | refine seqK_e (by assumption) ?_ | refine PW.regionA ?_ | exact schedW_stop_i | refine schK_n (by assumption) ?_ | (refine schedW_alt_k ?_ ?_; focus (intro K hK; simp only [hlen, d1, SS, SS2, SS3, SS4, SS5, Option.map_some, Nat.reduceAdd, reduceIte, Nat.reduceEqDiff, Nat.reduceBEq, eq_self, implies_true, ne_eq, beq_self_eq_true, id_eq, reduceCtorEq]; (try go_unwrap; try simp only [hlen, d1, RR, reduceCtorEq]))) | (refine PW.cond rfl ?_ ?_ <;> intro hcond <;> (try contradiction) <;> try simp only [decide_eq_true_eq, decide_eq_false_iff_not] at hcond) | (refine gd_i ?_; intro hg; try simp only [hg]) | refine goCall_W e6 (h6) ?_ ?_ ?_ ?_ | ((first | show @LE.le Nat _ _ _ | show @LT.lt Nat _ _ _ | show @LE.le Int _ _ _ | show @LT.lt Int _ _ _ | show @Eq Nat _ _ | show @Eq Int _ _ | show @Eq Bool _ _ | show _ ∨ _ | show ¬ _); first | omega | (simp only [decide_eq_true_eq, decide_eq_false_iff_not, List.length_cons, List.length_nil, List.length_append, List.length_map, Sh.size] <;> omega) | (go_unwrap; omega)) | ((first | refine PW.region ?_ | refine PW.regionQ ?_ | refine schedW_done_i ?_ | show (_ : Post) _ _ _ | show @Eq (List PV) _ _ | show @Eq Bool _ _ | show opsW _ _ _ _ _ _ _ _ | show okAll _ | show @Eq Bool _ _ ∨ _); focus (simp only [hlen, d1, SS, SS2, SS3, SS4, SS5, Option.map_some, Nat.reduceAdd, reduceIte, Nat.reduceEqDiff, Nat.reduceBEq, eq_self, implies_true, ne_eq, beq_self_eq_true, id_eq, reduceCtorEq]; (try go_unwrap; try simp only [hlen, d1, RR, reduceCtorEq]))) | refine And.intro ?_ ?_ | exact Or.inr ⟨rfl, Nat.le_refl _⟩ | exact (fun h => Bool.noConfusion h))
  refine PW.own (some 8) 7 rfl ?_
  refine PW.loopG (σ := Nat) 1 (fun _ _ => rfl) [0, 1, 2, 6, 7, 24, 25, 26] (fun i => [tdL l, .int .u8 n, .int .u8 m, .bool false, .sl (some 8) 0 i, tdL l, .int .i64 l.length, .int .i64 i]) (fun i => [some (.row (some 8) ((idsN l i).map fcP))]) (fun i => i ≤ l.length) (fun i => l.length - i) 0 ?_ (by first | rfl | simp [idsN]) (by omega) ?_
  · simp only [SS, SS2, SS3, SS4, SS5, Option.map_some, Nat.reduceAdd, reduceIte, Nat.reduceEqDiff, Nat.reduceBEq, eq_self, implies_true, ne_eq, beq_self_eq_true, id_eq, reduceCtorEq]; rfl
  rintro i hi
  simp only [List.zip_cons_cons, List.zip_nil_left]
  rcases Nat.lt_or_ge i l.length with h | h
  · have hd : decide ((i : Int) < l.length) = true := by simp only [decide_eq_true_eq]; omega
    have hg := td_getD l i h
    have hst := ids_step l h
    have hTl := ids_len l i (by omega)
    have hxo := hok l[i] (List.getElem_mem h)
    generalize l[i] = x at hg hst hxo
    have h7 := v7 x hxo
    simp only [factT, salF] at h7
    have htd : tdP x = .agg [.int .u8 x.p, .int .u32 x.c, .int .u16 x.f, .int .u16 x.d, .int .u16 x.i] := rfl
    rw [htd] at h7
    generalize idsN l i = T at hst hTl
    have w1 : IntKind.u32.wrap (i : Int) = i := IntWalk.u32_in _ (by omega)
    have w2 : IntKind.u32.wrap ((i : Int) + 1) = (i : Int) + 1 := IntWalk.u32_in _ (by omega)
    have hTml : ((T.map fcP).length : Nat) = i := by simp [hTl]
    have htk : (T.map fcP).take i = T.map fcP := List.take_of_length_le (by omega)
    have b1 : (i + 1) * 72 ≤ 140737488355328 := by omega
    repeat' (first | exact True.intro | exact Or.inr ⟨rfl, by omega⟩ | (refine PW.seqK ?_; intro K hK) | refine PW.block ?_ | refine PW.scope ?_ | refine PW.label ?_ | refine PW.exit ?_ | refine PW.ret ?_ | refine PW.skip ?_ | refine seqK_n (by assumption) ?_ | refine seqK_r (by assumption) ?_ | refine seqK_e (by assumption) ?_ | refine PW.regionA ?_ | exact schedW_stop_i | refine schK_n (by assumption) ?_ | (refine schedW_alt_k ?_ ?_; focus (intro K hK; simp only [GC, hlen, hd, hg, w1, w2, pp0, hTml, htk, cut88, SS, SS2, SS3, SS4, SS5, Option.map_some, Nat.reduceAdd, reduceIte, Nat.reduceEqDiff, Nat.reduceBEq, eq_self, implies_true, ne_eq, beq_self_eq_true, id_eq, reduceCtorEq]; (try go_unwrap; try simp only [GC, hlen, hd, hg, w1, w2, pp0, hTml, htk, cut88, RR, reduceCtorEq]))) | (refine PW.cond rfl ?_ ?_ <;> intro hcond <;> (try contradiction) <;> try simp only [decide_eq_true_eq, decide_eq_false_iff_not] at hcond) | (refine gd_i ?_; intro hg; try simp only [hg]) | refine goCall_W e7 (h7) ?_ ?_ ?_ ?_ | ((first | show @LE.le Nat _ _ _ | show @LT.lt Nat _ _ _ | show @LE.le Int _ _ _ | show @LT.lt Int _ _ _ | show @Eq Nat _ _ | show @Eq Int _ _ | show @Eq Bool _ _ | show _ ∨ _ | show ¬ _); first | omega | (simp only [decide_eq_true_eq, decide_eq_false_iff_not, List.length_cons, List.length_nil, List.length_append, List.length_map, Sh.size] <;> omega) | (go_unwrap; omega)) | ((first | refine PW.region ?_ | refine PW.regionQ ?_ | refine schedW_done_i ?_ | show (_ : Post) _ _ _ | show @Eq (List PV) _ _ | show @Eq Bool _ _ | show opsW _ _ _ _ _ _ _ _ | show okAll _ | show @Eq Bool _ _ ∨ _); focus (simp only [GC, hlen, hd, hg, w1, w2, pp0, hTml, htk, cut88, SS, SS2, SS3, SS4, SS5, Option.map_some, Nat.reduceAdd, reduceIte, Nat.reduceEqDiff, Nat.reduceBEq, eq_self, implies_true, ne_eq, beq_self_eq_true, id_eq, reduceCtorEq]; (try go_unwrap; try simp only [GC, hlen, hd, hg, w1, w2, pp0, hTml, htk, cut88, RR, reduceCtorEq]))) | refine And.intro ?_ ?_ | exact Or.inr ⟨rfl, Nat.le_refl _⟩ | exact (fun h => Bool.noConfusion h))
    all_goals exact ⟨i + 1, (by first | rfl | (simp only [trimE, trimM, List.take_succ_cons, List.take_zero, List.take_nil, List.map_cons, List.map_nil, Option.map_some, Option.map_none, MObj.kill, PV.kill, Nat.reduceLeDiff, decide_true, decide_false, dec_true, dec_false, Bool.false_eq_true, if_false, if_true, reduceIte, List.zip_cons_cons, List.zip_nil_left, Nat.le_refl, Nat.zero_le, Nat.not_le, Nat.lt_irrefl]; done) | (simp [trimE, trimM, MObj.kill, PV.kill]; done)), (by rw [hst]; simp [trimM, MObj.kill, PV.kill, factT, salF, fcP]), by omega, by omega⟩
  have hd : decide ((i : Int) < l.length) = false := by simp only [decide_eq_false_iff_not]; omega
  have hi' : i = l.length := by omega
  subst hi'
  obtain ⟨F, hF⟩ : ∃ F, F = idsN l l.length := ⟨_, rfl⟩
  have hFl := idF_len hF
  rw [← hF]
  repeat' (first | exact True.intro | (refine PW.stop (x := .seq (.region false (⟨some 43, none, .rd (.build [.nilSl] []) []⟩ :: _) _) _) ?_) | (refine PW.seqK ?_; intro K hK) | refine PW.block ?_ | refine PW.scope ?_ | refine PW.label ?_ | refine PW.exit ?_ | refine PW.ret ?_ | refine PW.skip ?_ | refine seqK_n (by assumption) ?_ | refine seqK_r (by assumption) ?_ | refine seqK_e (by assumption) ?_ | refine PW.regionA ?_ | exact schedW_stop_i | refine schK_n (by assumption) ?_ | (refine schedW_alt_k ?_ ?_; focus (intro K hK; simp only [hlen, hd, SS, SS2, SS3, SS4, SS5, Option.map_some, Nat.reduceAdd, reduceIte, Nat.reduceEqDiff, Nat.reduceBEq, eq_self, implies_true, ne_eq, beq_self_eq_true, id_eq, reduceCtorEq]; (try go_unwrap; try simp only [hlen, hd, RR, reduceCtorEq]))) | (refine PW.cond rfl ?_ ?_ <;> intro hcond <;> (try contradiction) <;> try simp only [decide_eq_true_eq, decide_eq_false_iff_not] at hcond) | (refine gd_i ?_; intro hg; try simp only [hg]) | ((first | show @LE.le Nat _ _ _ | show @LT.lt Nat _ _ _ | show @LE.le Int _ _ _ | show @LT.lt Int _ _ _ | show @Eq Nat _ _ | show @Eq Int _ _ | show @Eq Bool _ _ | show _ ∨ _ | show ¬ _); first | omega | (simp only [decide_eq_true_eq, decide_eq_false_iff_not, List.length_cons, List.length_nil, List.length_append, List.length_map, Sh.size] <;> omega) | (go_unwrap; omega)) | ((first | refine PW.region ?_ | refine PW.regionQ ?_ | refine schedW_done_i ?_ | show (_ : Post) _ _ _ | show @Eq (List PV) _ _ | show @Eq Bool _ _ | show opsW _ _ _ _ _ _ _ _ | show okAll _ | show @Eq Bool _ _ ∨ _); focus (simp only [hlen, hd, SS, SS2, SS3, SS4, SS5, Option.map_some, Nat.reduceAdd, reduceIte, Nat.reduceEqDiff, Nat.reduceBEq, eq_self, implies_true, ne_eq, beq_self_eq_true, id_eq, reduceCtorEq]; (try go_unwrap; try simp only [hlen, hd, RR, reduceCtorEq]))) | refine And.intro ?_ ?_ | exact Or.inr ⟨rfl, Nat.le_refl _⟩ | exact (fun h => Bool.noConfusion h))
  refine ⟨?_⟩
  refine PW.frz 0 (.row (some 8) (F.map fcP)) ?_ ?_ ?_
  · rfl
  · rfl
  have hFml : ((F.map fcP).length : Nat) = l.length := by simp [hFl]
  have hFt : (F.map fcP).take l.length = F.map fcP := List.take_of_length_le (by omega)
  simp only [SS, SS2, SS3, SS4, SS5, Option.map_some, Nat.reduceAdd, reduceIte, Nat.reduceEqDiff, Nat.reduceBEq, eq_self, implies_true, ne_eq, beq_self_eq_true, id_eq, reduceCtorEq, PV.frz, MObj.frz, frzM, frzSl, hFml, hFt, Nat.le_refl, and_self, if_true]
  have h17a := v17 [] F (by simp) (by omega) (imp1_ok hF h40 hok) (fun j hj => by rw [imp1 hF j hj]; simp; omega)
  rw [imp1 hF F.length (Nat.le_refl _), List.take_length] at h17a
  have h17a := VCalls.sub h17a (SubL.cons (p := .agg [.nilSl]) (.agg (.cons (.nil (some 8)) .nil)) (SubL.refl _))
  have h13 := v13 F
  rw [hFl] at h13
  have dl : decide ((l.length : Int) = l.length) = true := by simp
  have d0 : decide ((0 : Int) = 0) = true := rfl
  have wn : IntKind.i64.wrap (n : Int) = n := IntWalk.i64_in _ (by omega)
  have wm : IntKind.i64.wrap (m : Int) = m := IntWalk.i64_in _ (by omega)
  obtain ⟨N, hN⟩ : ∃ N, l.length + 1 = N := ⟨_, rfl⟩
  have w1 : IntKind.i64.wrap ((l.length : Int) + 1) = (N : Int) := by rw [IntWalk.i64_in _ (by omega)]; omega
  have hN0 : ¬ ((N : Int) = 0) := by omega
  have htm : (n : Int).tmod (N : Int) = ((n % N : Nat) : Int) := by rw [Int.tmod_eq_emod_of_nonneg (by omega)]; simp
  have ha : n % N < N := Nat.mod_lt _ (by omega)
  obtain ⟨a, haa⟩ : ∃ a, n % N = a := ⟨_, rfl⟩
  rw [haa] at htm ha
  obtain ⟨M, hM⟩ : ∃ M, l.length - a + 1 = M := ⟨_, rfl⟩
  have w2 : IntKind.i64.wrap ((l.length : Int) - a) = ((l.length - a : Nat) : Int) := by rw [IntWalk.i64_in _ (by omega)]; omega
  have w3 : IntKind.i64.wrap (((l.length - a : Nat) : Int) + 1) = (M : Int) := by rw [IntWalk.i64_in _ (by omega)]; omega
  have hM0 : ¬ ((M : Int) = 0) := by omega
  have htm2 : (m : Int).tmod (M : Int) = ((m % M : Nat) : Int) := by rw [Int.tmod_eq_emod_of_nonneg (by omega)]; simp
  have hbm : m % M < M := Nat.mod_lt _ (by omega)
  obtain ⟨q, hq⟩ : ∃ q, m % M = q := ⟨_, rfl⟩
  rw [hq] at htm2 hbm
  obtain ⟨b, hb⟩ : ∃ b, a + q = b := ⟨_, rfl⟩
  have w4 : IntKind.i64.wrap ((a : Int) + (q : Int)) = (b : Int) := by rw [IntWalk.i64_in _ (by omega)]; omega
  have hsl : ((F.map fcP).take b).drop a = ((F.take b).drop a).map fcP := by rw [List.map_drop, List.map_take]
  have hpl : ((F.take b).drop a).length = b - a := by simp; omega
  have h17b := v17 F ((F.take b).drop a) (by omega) (by omega) (imp2_ok hF) (fun j hj => by rw [imp2 hF j hj]; simp; omega)
  rw [imp2 hF _ (Nat.le_refl _), hpl] at h17b
  have w5 : IntKind.i64.wrap ((b : Int) - (a : Int)) = ((b - a : Nat) : Int) := by rw [IntWalk.i64_in _ (by omega)]; omega
  have dq : decide (((b - a : Nat) : Int) = ((b - a : Nat) : Int)) = true := by simp
  have h18 := v18 F (by omega)
  have h15 := v15 (allK F) (by have := those_len (fun _ => true) F F.length; unfold allK; omega)
  generalize allK F = KK at h18 h15
  repeat' (first | exact True.intro | (refine PW.stop (x := .seq (.region false (⟨some 62, none, .rd .mov [.tmp 1]⟩ :: _) _) _) ?_) | (refine PW.seqK ?_; intro K hK) | refine PW.block ?_ | refine PW.scope ?_ | refine PW.label ?_ | refine PW.exit ?_ | refine PW.ret ?_ | refine PW.skip ?_ | refine seqK_n (by assumption) ?_ | refine seqK_r (by assumption) ?_ | refine seqK_e (by assumption) ?_ | refine PW.regionA ?_ | exact schedW_stop_i | refine schK_n (by assumption) ?_ | (refine schedW_alt_k ?_ ?_; focus (intro K hK; simp only [hlen, d0, dl, cut11, SS, SS2, SS3, SS4, SS5, Option.map_some, Nat.reduceAdd, reduceIte, Nat.reduceEqDiff, Nat.reduceBEq, eq_self, implies_true, ne_eq, beq_self_eq_true, id_eq, reduceCtorEq]; (try go_unwrap; try simp only [hlen, d0, dl, cut11, RR, reduceCtorEq]))) | (refine PW.cond rfl ?_ ?_ <;> intro hcond <;> (try contradiction) <;> try simp only [decide_eq_true_eq, decide_eq_false_iff_not] at hcond) | (refine gd_i ?_; intro hg; try simp only [hg]) | refine goCall_W e17 (h17a) ?_ ?_ ?_ ?_ | refine goCallG_W e13 (h13) ?_ ?_ ?_ ?_ ?_ | ((first | show @LE.le Nat _ _ _ | show @LT.lt Nat _ _ _ | show @LE.le Int _ _ _ | show @LT.lt Int _ _ _ | show @Eq Nat _ _ | show @Eq Int _ _ | show @Eq Bool _ _ | show _ ∨ _ | show ¬ _); first | omega | (simp only [decide_eq_true_eq, decide_eq_false_iff_not, List.length_cons, List.length_nil, List.length_append, List.length_map, Sh.size] <;> omega) | (go_unwrap; omega)) | ((first | refine PW.region ?_ | refine PW.regionQ ?_ | refine schedW_done_i ?_ | show (_ : Post) _ _ _ | show @Eq (List PV) _ _ | show @Eq Bool _ _ | show opsW _ _ _ _ _ _ _ _ | show okAll _ | show @Eq Bool _ _ ∨ _); focus (simp only [hlen, d0, dl, cut11, SS, SS2, SS3, SS4, SS5, Option.map_some, Nat.reduceAdd, reduceIte, Nat.reduceEqDiff, Nat.reduceBEq, eq_self, implies_true, ne_eq, beq_self_eq_true, id_eq, reduceCtorEq]; (try go_unwrap; try simp only [hlen, d0, dl, cut11, RR, reduceCtorEq]))) | refine And.intro ?_ ?_ | exact Or.inr ⟨rfl, Nat.le_refl _⟩ | exact (fun h => Bool.noConfusion h))
  refine ⟨?_⟩
  refine PW.frzV 11 1 (some 1) _ rfl rfl (fitsS _ rfl) (noS _ (by simp [PV.noOwn])) rfl ?_
  simp only [frzE, frzMem, List.map_cons, List.map_nil, PV.frz, MObj.frz, frzM, frzSl, SS, SS2, SS3, SS4, SS5, Option.map_some, Nat.reduceAdd, reduceIte, Nat.reduceEqDiff, Nat.reduceBEq, eq_self, implies_true, ne_eq, beq_self_eq_true, id_eq, reduceCtorEq]
  clear h17a h6
  repeat' (first | exact True.intro | (refine PW.seqA (E := ?_) (M := ?_) ?_ ?_; rotate_left 2) | exact mergeQ_mk _ _ | (refine PW.seqK ?_; intro K hK) | refine PW.block ?_ | refine PW.scope ?_ | refine PW.label ?_ | refine PW.exit ?_ | refine PW.ret ?_ | refine PW.skip ?_ | refine seqK_n (by assumption) ?_ | refine seqK_r (by assumption) ?_ | refine seqK_e (by assumption) ?_ | refine PW.regionA ?_ | exact schedW_stop_i | refine schK_n (by assumption) ?_ | (refine schedW_alt_k ?_ ?_; focus (intro K hK; simp only [hlen, d0, dl, cut11, wn, wm, w1, w2, w3, w4, w5, hN0, hM0, htm, htm2, hsl, hFml, dq, SS, SS2, SS3, SS4, SS5, Option.map_some, Nat.reduceAdd, reduceIte, Nat.reduceEqDiff, Nat.reduceBEq, eq_self, implies_true, ne_eq, beq_self_eq_true, id_eq, reduceCtorEq]; (try go_unwrap; try simp only [hlen, d0, dl, cut11, wn, wm, w1, w2, w3, w4, w5, hN0, hM0, htm, htm2, hsl, hFml, dq, RR, reduceCtorEq]))) | (refine PW.cond rfl ?_ ?_ <;> intro hcond <;> (try contradiction) <;> try simp only [decide_eq_true_eq, decide_eq_false_iff_not] at hcond) | (apply goCallG_N e18; (case hV => (intro hg; simp only [hg, hlen, d0, dl, cut11, wn, wm, w1, w2, w3, w4, w5, hN0, hM0, htm, htm2, hsl, hFml, dq, SS, SS2, SS3, SS4, SS5, Option.map_some, Nat.reduceAdd, reduceIte, Nat.reduceEqDiff, Nat.reduceBEq, eq_self, implies_true, ne_eq, beq_self_eq_true, id_eq, reduceCtorEq]; (try go_unwrap; try simp only [hlen, d0, dl, cut11, wn, wm, w1, w2, w3, w4, w5, hN0, hM0, htm, htm2, hsl, hFml, dq, RR, reduceCtorEq]); exact h18)); (case hok => (intro hg; first | (simp only [hg, hlen, d0, dl, cut11, wn, wm, w1, w2, w3, w4, w5, hN0, hM0, htm, htm2, hsl, hFml, dq, SS, SS2, SS3, SS4, SS5, Option.map_some, Nat.reduceAdd, reduceIte, Nat.reduceEqDiff, Nat.reduceBEq, eq_self, implies_true, ne_eq, beq_self_eq_true, id_eq, reduceCtorEq]; done) | (simp_all [okAll, PV.okUnder]; done))); (case hs => (intro hg; simp only [hg, hlen, d0, dl, cut11, wn, wm, w1, w2, w3, w4, w5, hN0, hM0, htm, htm2, hsl, hFml, dq, SS, SS2, SS3, SS4, SS5, Option.map_some, Nat.reduceAdd, reduceIte, Nat.reduceEqDiff, Nat.reduceBEq, eq_self, implies_true, ne_eq, beq_self_eq_true, id_eq, reduceCtorEq])); (case hn => (intro hg; simp only [hg, hlen, d0, dl, cut11, wn, wm, w1, w2, w3, w4, w5, hN0, hM0, htm, htm2, hsl, hFml, dq, SS, SS2, SS3, SS4, SS5, Option.map_some, Nat.reduceAdd, reduceIte, Nat.reduceEqDiff, Nat.reduceBEq, eq_self, implies_true, ne_eq, beq_self_eq_true, id_eq, reduceCtorEq])); (case hq => rfl); (simp only [hlen, d0, dl, cut11, wn, wm, w1, w2, w3, w4, w5, hN0, hM0, htm, htm2, hsl, hFml, dq, SS, SS2, SS3, SS4, SS5, Option.map_some, Nat.reduceAdd, reduceIte, Nat.reduceEqDiff, Nat.reduceBEq, eq_self, implies_true, ne_eq, beq_self_eq_true, id_eq, reduceCtorEq]; (try go_unwrap; try simp only [hlen, d0, dl, cut11, wn, wm, w1, w2, w3, w4, w5, hN0, hM0, htm, htm2, hsl, hFml, dq, RR, reduceCtorEq]))) | (refine gd_i ?_; intro hg; try simp only [hg]) | refine goCall_W e17 (h17b) ?_ ?_ ?_ ?_ | refine goCallG_W e13 (h13) ?_ ?_ ?_ ?_ ?_ | refine goCallG_W e15 (h15) ?_ ?_ ?_ ?_ ?_ | ((first | show @LE.le Nat _ _ _ | show @LT.lt Nat _ _ _ | show @LE.le Int _ _ _ | show @LT.lt Int _ _ _ | show @Eq Nat _ _ | show @Eq Int _ _ | show @Eq Bool _ _ | show _ ∨ _ | show ¬ _); first | omega | (simp only [decide_eq_true_eq, decide_eq_false_iff_not, List.length_cons, List.length_nil, List.length_append, List.length_map, Sh.size] <;> omega) | (go_unwrap; omega)) | ((first | refine PW.region ?_ | refine PW.regionQ ?_ | refine schedW_done_i ?_ | show (_ : Post) _ _ _ | show @Eq (List PV) _ _ | show @Eq Bool _ _ | show opsW _ _ _ _ _ _ _ _ | show okAll _ | show @Eq Bool _ _ ∨ _); focus (simp only [hlen, d0, dl, cut11, wn, wm, w1, w2, w3, w4, w5, hN0, hM0, htm, htm2, hsl, hFml, dq, SS, SS2, SS3, SS4, SS5, Option.map_some, Nat.reduceAdd, reduceIte, Nat.reduceEqDiff, Nat.reduceBEq, eq_self, implies_true, ne_eq, beq_self_eq_true, id_eq, reduceCtorEq]; (try go_unwrap; try simp only [hlen, d0, dl, cut11, wn, wm, w1, w2, w3, w4, w5, hN0, hM0, htm, htm2, hsl, hFml, dq, RR, reduceCtorEq]))) | refine And.intro ?_ ?_ | exact Or.inr ⟨rfl, Nat.le_refl _⟩ | exact (fun h => Bool.noConfusion h))
  all_goals exact fun h => h
end Go.Proofs.YtcdfmdngnidpaaaGreatDoor
