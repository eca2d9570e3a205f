import Derived.Test.YthekpjhffciakaaDoorProg
import Derived.Test.YthekpjhffciakaaDoorPure19
import Derived.KernelRfl
namespace Go.Proofs.YthekpjhffciakaaDoor
open PG Go.Proofs
-- math/bits.Len
def L93 : List Nat := [0, 2]
def c93 : CF := ⟨8,
  .seq (.region false [⟨some 2, none, .rd .mov [.pv (.int .i64 0)]⟩] L93)
  (.seq (.cond (.pv (.bool false))
    (.seq (.region false [⟨some 3, none, .rd .mov [.tmp 0]⟩,
        ⟨some 4, none, .rd (.conv .u32) [.tmp 3]⟩,
        ⟨some 5, none, .call (.pv (.fn 116 [] [])) [.tmp 4]⟩,
        ⟨some 2, none, .rd .mov [.tmp 5]⟩] L93)
     (.ret))
    (.skip))
  (.seq (.region false [⟨some 6, none, .rd .mov [.tmp 0]⟩,
     ⟨some 7, none, .call (.pv (.fn 117 [] [])) [.tmp 6]⟩,
     ⟨some 2, none, .rd .mov [.tmp 7]⟩] L93)
  (.ret))),
  [.tmp 2]⟩

-- math/bits.Len32
def L116 : List Nat := [0, 2, 4, 8]
def c116 : CF := ⟨19,
  .seq (.region false [⟨some 2, none, .rd .mov [.pv (.int .i64 0)]⟩] L116)
  (.seq (.seq (.region false [⟨some 3, none, .rd .mov [.tmp 0]⟩,
      ⟨some 4, none, .rd (.bin .geq) [.tmp 3, .pv (.int .u32 65536)]⟩] L116)
   (.cond (.tmp 4)
    (.seq (.region false [⟨some 5, none, .rd .mov [.tmp 0]⟩,
        ⟨some 6, none, .rd (.bin .shr) [.tmp 5, .pv (.int .u64 16)]⟩,
        ⟨some 0, none, .rd .mov [.tmp 6]⟩] L116)
     (.region false [⟨some 2, none, .rd .mov [.pv (.int .i64 16)]⟩] L116))
    (.skip)))
  (.seq (.seq (.region false [⟨some 7, none, .rd .mov [.tmp 0]⟩,
      ⟨some 8, none, .rd (.bin .geq) [.tmp 7, .pv (.int .u32 256)]⟩] L116)
   (.cond (.tmp 8)
    (.seq (.region false [⟨some 9, none, .rd .mov [.tmp 0]⟩,
        ⟨some 10, none, .rd (.bin .shr) [.tmp 9, .pv (.int .u64 8)]⟩,
        ⟨some 0, none, .rd .mov [.tmp 10]⟩] L116)
     (.region false [⟨some 11, none, .rd .mov [.tmp 2]⟩,
       ⟨some 12, none, .rd (.bin .add) [.tmp 11, .pv (.int .i64 8)]⟩,
       ⟨some 2, none, .rd .mov [.tmp 12]⟩] L116))
    (.skip)))
  (.seq (.region false [⟨some 13, none, .rd .mov [.tmp 2]⟩,
     ⟨some 14, none, .rd .mov [.tmp 0]⟩,
     ⟨some 15, none, .rd (.conv .u8) [.tmp 14]⟩,
     ⟨some 16, none, .rd .idxS [.pv (.str [0, 1, 2, 2, 3, 3, 3, 3, 4, 4, 4, 4, 4, 4, 4, 4, 5, 5, 5, 5, 5, 5, 5, 5, 5, 5, 5, 5, 5, 5, 5, 5, 6, 6, 6, 6, 6, 6, 6, 6, 6, 6, 6, 6, 6, 6, 6, 6, 6, 6, 6, 6, 6, 6, 6, 6, 6, 6, 6, 6, 6, 6, 6, 6, 7, 7, 7, 7, 7, 7, 7, 7, 7, 7, 7, 7, 7, 7, 7, 7, 7, 7, 7, 7, 7, 7, 7, 7, 7, 7, 7, 7, 7, 7, 7, 7, 7, 7, 7, 7, 7, 7, 7, 7, 7, 7, 7, 7, 7, 7, 7, 7, 7, 7, 7, 7, 7, 7, 7, 7, 7, 7, 7, 7, 7, 7, 7, 7, 8, 8, 8, 8, 8, 8, 8, 8, 8, 8, 8, 8, 8, 8, 8, 8, 8, 8, 8, 8, 8, 8, 8, 8, 8, 8, 8, 8, 8, 8, 8, 8, 8, 8, 8, 8, 8, 8, 8, 8, 8, 8, 8, 8, 8, 8, 8, 8, 8, 8, 8, 8, 8, 8, 8, 8, 8, 8, 8, 8, 8, 8, 8, 8, 8, 8, 8, 8, 8, 8, 8, 8, 8, 8, 8, 8, 8, 8, 8, 8, 8, 8, 8, 8, 8, 8, 8, 8, 8, 8, 8, 8, 8, 8, 8, 8, 8, 8, 8, 8, 8, 8, 8, 8, 8, 8, 8, 8, 8, 8, 8, 8, 8, 8, 8, 8, 8, 8, 8, 8, 8, 8, 8, 8, 8, 8, 8, 8]), .tmp 15]⟩,
     ⟨some 17, none, .rd (.conv .i64) [.tmp 16]⟩,
     ⟨some 18, none, .rd (.bin .add) [.tmp 13, .tmp 17]⟩,
     ⟨some 2, none, .rd .mov [.tmp 18]⟩] L116)
  (.ret)))),
  [.tmp 2]⟩

-- math/bits.Len64
def L117 : List Nat := [0, 2, 4, 8, 14]
def c117 : CF := ⟨25,
  .seq (.region false [⟨some 2, none, .rd .mov [.pv (.int .i64 0)]⟩] L117)
  (.seq (.seq (.region false [⟨some 3, none, .rd .mov [.tmp 0]⟩,
      ⟨some 4, none, .rd (.bin .geq) [.tmp 3, .pv (.int .u64 4294967296)]⟩] L117)
   (.cond (.tmp 4)
    (.seq (.region false [⟨some 5, none, .rd .mov [.tmp 0]⟩,
        ⟨some 6, none, .rd (.bin .shr) [.tmp 5, .pv (.int .u64 32)]⟩,
        ⟨some 0, none, .rd .mov [.tmp 6]⟩] L117)
     (.region false [⟨some 2, none, .rd .mov [.pv (.int .i64 32)]⟩] L117))
    (.skip)))
  (.seq (.seq (.region false [⟨some 7, none, .rd .mov [.tmp 0]⟩,
      ⟨some 8, none, .rd (.bin .geq) [.tmp 7, .pv (.int .u64 65536)]⟩] L117)
   (.cond (.tmp 8)
    (.seq (.region false [⟨some 9, none, .rd .mov [.tmp 0]⟩,
        ⟨some 10, none, .rd (.bin .shr) [.tmp 9, .pv (.int .u64 16)]⟩,
        ⟨some 0, none, .rd .mov [.tmp 10]⟩] L117)
     (.region false [⟨some 11, none, .rd .mov [.tmp 2]⟩,
       ⟨some 12, none, .rd (.bin .add) [.tmp 11, .pv (.int .i64 16)]⟩,
       ⟨some 2, none, .rd .mov [.tmp 12]⟩] L117))
    (.skip)))
  (.seq (.seq (.region false [⟨some 13, none, .rd .mov [.tmp 0]⟩,
      ⟨some 14, none, .rd (.bin .geq) [.tmp 13, .pv (.int .u64 256)]⟩] L117)
   (.cond (.tmp 14)
    (.seq (.region false [⟨some 15, none, .rd .mov [.tmp 0]⟩,
        ⟨some 16, none, .rd (.bin .shr) [.tmp 15, .pv (.int .u64 8)]⟩,
        ⟨some 0, none, .rd .mov [.tmp 16]⟩] L117)
     (.region false [⟨some 17, none, .rd .mov [.tmp 2]⟩,
       ⟨some 18, none, .rd (.bin .add) [.tmp 17, .pv (.int .i64 8)]⟩,
       ⟨some 2, none, .rd .mov [.tmp 18]⟩] L117))
    (.skip)))
  (.seq (.region false [⟨some 19, none, .rd .mov [.tmp 2]⟩,
     ⟨some 20, none, .rd .mov [.tmp 0]⟩,
     ⟨some 21, none, .rd (.conv .u8) [.tmp 20]⟩,
     ⟨some 22, none, .rd .idxS [.pv (.str [0, 1, 2, 2, 3, 3, 3, 3, 4, 4, 4, 4, 4, 4, 4, 4, 5, 5, 5, 5, 5, 5, 5, 5, 5, 5, 5, 5, 5, 5, 5, 5, 6, 6, 6, 6, 6, 6, 6, 6, 6, 6, 6, 6, 6, 6, 6, 6, 6, 6, 6, 6, 6, 6, 6, 6, 6, 6, 6, 6, 6, 6, 6, 6, 7, 7, 7, 7, 7, 7, 7, 7, 7, 7, 7, 7, 7, 7, 7, 7, 7, 7, 7, 7, 7, 7, 7, 7, 7, 7, 7, 7, 7, 7, 7, 7, 7, 7, 7, 7, 7, 7, 7, 7, 7, 7, 7, 7, 7, 7, 7, 7, 7, 7, 7, 7, 7, 7, 7, 7, 7, 7, 7, 7, 7, 7, 7, 7, 8, 8, 8, 8, 8, 8, 8, 8, 8, 8, 8, 8, 8, 8, 8, 8, 8, 8, 8, 8, 8, 8, 8, 8, 8, 8, 8, 8, 8, 8, 8, 8, 8, 8, 8, 8, 8, 8, 8, 8, 8, 8, 8, 8, 8, 8, 8, 8, 8, 8, 8, 8, 8, 8, 8, 8, 8, 8, 8, 8, 8, 8, 8, 8, 8, 8, 8, 8, 8, 8, 8, 8, 8, 8, 8, 8, 8, 8, 8, 8, 8, 8, 8, 8, 8, 8, 8, 8, 8, 8, 8, 8, 8, 8, 8, 8, 8, 8, 8, 8, 8, 8, 8, 8, 8, 8, 8, 8, 8, 8, 8, 8, 8, 8, 8, 8, 8, 8, 8, 8, 8, 8, 8, 8, 8, 8, 8, 8]), .tmp 21]⟩,
     ⟨some 23, none, .rd (.conv .i64) [.tmp 22]⟩,
     ⟨some 24, none, .rd (.bin .add) [.tmp 19, .tmp 23]⟩,
     ⟨some 2, none, .rd .mov [.tmp 24]⟩] L117)
  (.ret))))),
  [.tmp 2]⟩

-- math/bits.LeadingZeros64
def L125 : List Nat := [0, 2]
def c125 : CF := ⟨6,
  .seq (.region false [⟨some 2, none, .rd .mov [.pv (.int .i64 0)]⟩] L125)
  (.seq (.region false [⟨some 3, none, .rd .mov [.tmp 0]⟩,
     ⟨some 4, none, .call (.pv (.fn 117 [] [])) [.tmp 3]⟩,
     ⟨some 5, none, .rd (.bin .sub) [.pv (.int .i64 64), .tmp 4]⟩,
     ⟨some 2, none, .rd .mov [.tmp 5]⟩] L125)
  (.ret)),
  [.tmp 2]⟩
theorem k93 : compileF Tryd.prog [] L93 Tryd.f93 = some c93 := by kernel_rfl
theorem k116 : compileF Tryd.prog [] L116 Tryd.f116 = some c116 := by kernel_rfl
theorem k117 : compileF Tryd.prog [] L117 Tryd.f117 = some c117 := by kernel_rfl
theorem k125 : compileF Tryd.prog [] L125 Tryd.f125 = some c125 := by kernel_rfl
end Go.Proofs.YthekpjhffciakaaDoor
