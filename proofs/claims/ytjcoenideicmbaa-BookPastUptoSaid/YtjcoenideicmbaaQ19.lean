import Derived.Test.YtjcoenideicmbaaProg
import Derived.KernelRfl
import Derived.Test.YtjcoenideicmbaaP3
import Derived.Test.YtjcoenideicmbaaQ18
import Derived.Test.YtjcoenideicmbaaQ17
namespace Go.Proofs.Ytjcoenideicmbaa
open PG Go.Proofs
-- wagebook/wagebooklaw11.BookRight
end Go.Proofs.Ytjcoenideicmbaa

namespace Go.Proofs.Ytjcoenideicmbaa
open Go PG Go.Proofs
set_option linter.unusedSimpArgs false
set_option linter.unusedVariables false
set_option maxHeartbeats 4000000
set_option maxRecDepth 100000
theorem sh_codes {l : List Kn} (h : shM l = true) : l.length ≤ 40 ∧ ∀ k ∈ l, k.code.length ≤ 300 ∧ k.text.length ≤ 300 := by
  unfold shM at h
  simp only [Bool.and_eq_true, decide_eq_true_eq] at h
  refine ⟨h.2, fun k hk => ?_⟩
  rw [List.take_of_length_le h.2] at h
  have := List.all_eq_true.1 h.1 k hk
  simp only [shrB, Bool.and_eq_true, decide_eq_true_eq] at this
  exact this
end Go.Proofs.Ytjcoenideicmbaa

namespace Go.Proofs.Ytjcoenideicmbaa
open Go PG Go.Proofs
set_option linter.unusedSimpArgs false
set_option linter.unusedVariables false
/-! What two books tell alike -/
theorem nms_same {l l' : List Kn} {d : Int} (h : ∀ nm, bestK d (fil nm l) = bestK d (fil nm l')) : nmsM l d = nmsM l' d := by
  refine str_uniq (nms_spec l d).1 (nms_spec l' d).1 fun x => ?_
  rw [(nms_spec l d).2 x, (nms_spec l' d).2 x]
  unfold inF; rw [h]
theorem und_same {l l' : List Kn} {d : Int} (h : ∀ nm, bestK d (fil nm l) = bestK d (fil nm l')) (p : List UInt8) : undM l p d = undM l' p d := by
  unfold undM; rw [nms_same h]
/-- The rules that cover a day. -/
def ownF (l : List Kn) (d : Int) : List Kn := l.filter fun k => decide (k.kind = 14) && covB k d
theorem bestK_cov (d : Int) (L : List Kn) : bestK d (L.filter fun k => covB k d) = bestK d L := by
  unfold bestK
  rw [List.foldl_filter]
  congr 1
  funext acc k
  by_cases h : covB k d = true
  · rw [if_pos h]
  · rw [if_neg h, if_neg (by simp [h])]
theorem own_best (l : List Kn) (d : Int) (nm : List UInt8) : bestK d (fil nm (ownF l d)) = bestK d (fil nm l) := by
  have : fil nm (ownF l d) = (fil nm l).filter fun k => covB k d := by
    unfold fil ownF
    rw [List.filter_filter, List.filter_filter]
    refine List.filter_congr fun k _ => ?_
    unfold isR
    cases decide (k.kind = 14) <;> cases decide (k.code = nm) <;> cases covB k d <;> rfl
  rw [this, bestK_cov]
end Go.Proofs.Ytjcoenideicmbaa

namespace Go.Proofs.Ytjcoenideicmbaa
open PG Go.Proofs
-- wagebook/wagebooklaw11.BookPast
def L15 : List Nat := [0, 1, 2, 6, 7, 8, 9, 10, 11, 12, 13, 14, 15, 16, 18, 21, 30, 34, 61]
def c15 : CF := ⟨132,
  .seq (.region false [⟨some 6, none, .rd .mov [.pv (.bool false)]⟩] L15)
  (.seq (.seq (.region false [⟨some 20, none, .call (.pv (.fn 32 [] [])) []⟩,
      ⟨some 21, none, .rd (.un .not) [.tmp 20]⟩] L15)
   (.cond (.tmp 21)
    (.seq (.region false [⟨some 6, none, .rd .mov [.pv (.bool false)]⟩] L15)
     (.ret))
    (.skip)))
  (.seq (.seq (.region false [⟨some 22, none, .rd .mov [.tmp 0]⟩,
      ⟨some 23, none, .call (.pv (.fn 34 [] [])) [.tmp 22]⟩,
      ⟨some 24, none, .call (.pv (.fn 33 [] [])) [.tmp 23]⟩,
      ⟨some 25, none, .rd (.un .not) [.tmp 24]⟩,
      ⟨some 26, none, .rd .mov [.tmp 25]⟩,
      ⟨some 27, some (26, false), .rd .mov [.tmp 1]⟩,
      ⟨some 28, some (26, false), .rd .lenS [.tmp 27]⟩,
      ⟨some 29, some (26, false), .rd (.bin .gtr) [.tmp 28, .pv (.int .i64 300)]⟩,
      ⟨some 30, none, .rd .pick [.tmp 26, .pv (.bool true), .tmp 29]⟩] L15)
   (.cond (.tmp 30)
    (.seq (.region false [⟨some 6, none, .rd .mov [.pv (.bool true)]⟩] L15)
     (.ret))
    (.skip)))
  (.seq (.region false [⟨some 7, none, .rd .mov [.pv .nilSl]⟩] L15)
  (.seq (.seq (.region false [⟨some 8, none, .rd .mov [.pv (.int .i64 0)]⟩] L15)
   (.block 0
    (.loop
      (.seq (.seq (.region false [⟨some 31, none, .rd .mov [.tmp 8]⟩,
           ⟨some 32, none, .rd .mov [.tmp 0]⟩,
           ⟨some 33, none, .rd .lenL [.tmp 32]⟩,
           ⟨some 34, none, .rd (.bin .lss) [.tmp 31, .tmp 33]⟩] L15)
        (.cond (.tmp 34)
         (.skip)
         (.exit 0)))
       (.seq (.block 1
         (.seq (.region false [⟨some 37, none, .rd .mov [.tmp 0]⟩,
             ⟨some 38, none, .rd .mov [.tmp 8]⟩,
             ⟨some 39, none, .rd (.idxAddr (some 9)) [.tmp 37, .tmp 38]⟩,
             ⟨some 40, none, .rd (.fldAddr 1) [.tmp 39]⟩,
             ⟨some 41, none, .rd (.load (some 8)) [.tmp 40]⟩,
             ⟨some 9, none, .eff (.alloc (some 8) (.agg [(.int .u32 0), (.int .u32 0), (.int .i64 0), (.int .i64 0), (.int .i64 0), (.str []), (.int .i64 0), (.str [])])) []⟩,
             ⟨none, none, .eff (.store (some 8)) [.tmp 9, .tmp 41]⟩] L15)
          (.seq (.region false [⟨some 42, none, .rd (.fldAddr 2) [.tmp 9]⟩,
             ⟨some 43, none, .rd (.load none) [.tmp 42]⟩,
             ⟨some 44, none, .rd (.bin .eql) [.tmp 43, .pv (.int .i64 14)]⟩,
             ⟨some 45, none, .rd .mov [.tmp 44]⟩,
             ⟨some 46, some (45, true), .rd (.fldAddr 3) [.tmp 9]⟩,
             ⟨some 47, some (45, true), .rd (.load none) [.tmp 46]⟩,
             ⟨some 48, some (45, true), .rd .mov [.tmp 2]⟩,
             ⟨some 49, some (45, true), .rd (.bin .leq) [.tmp 47, .tmp 48]⟩,
             ⟨some 50, none, .rd .pick [.tmp 45, .tmp 49, .pv (.bool false)]⟩,
             ⟨some 51, none, .rd .mov [.tmp 50]⟩,
             ⟨some 52, some (51, true), .rd (.fldAddr 4) [.tmp 9]⟩,
             ⟨some 53, some (51, true), .rd (.load none) [.tmp 52]⟩,
             ⟨some 54, some (51, true), .rd (.bin .eql) [.tmp 53, .pv (.int .i64 0)]⟩,
             ⟨some 55, some (51, true), .rd .mov [.tmp 54]⟩,
             ⟨some 56, some (55, false), .rd (.fldAddr 4) [.tmp 9]⟩,
             ⟨some 57, some (55, false), .rd (.load none) [.tmp 56]⟩,
             ⟨some 58, some (55, false), .rd .mov [.tmp 2]⟩,
             ⟨some 59, some (55, false), .rd (.bin .gtr) [.tmp 57, .tmp 58]⟩,
             ⟨some 60, some (51, true), .rd .pick [.tmp 55, .pv (.bool true), .tmp 59]⟩,
             ⟨some 61, none, .rd .pick [.tmp 51, .tmp 60, .pv (.bool false)]⟩] L15)
          (.cond (.tmp 61)
           (.region false [⟨some 62, none, .rd .mov [.tmp 7]⟩,
              ⟨some 63, none, .rd .mov [.tmp 0]⟩,
              ⟨some 64, none, .rd .mov [.tmp 8]⟩,
              ⟨some 65, none, .rd (.idxAddr (some 9)) [.tmp 63, .tmp 64]⟩,
              ⟨some 66, none, .rd (.load (some 9)) [.tmp 65]⟩,
              ⟨some 67, none, .eff (.lit (some 9) false) [.tmp 66]⟩,
              ⟨some 68, none, .eff (.append (some 9) 80) [.tmp 62, .tmp 67]⟩,
              ⟨some 7, none, .rd .mov [.tmp 68]⟩] L15)
           (.skip)))))
       (.region false [⟨some 35, none, .rd .mov [.tmp 8]⟩,
         ⟨some 36, none, .rd (.bin .add) [.tmp 35, .pv (.int .i64 1)]⟩,
         ⟨some 8, none, .rd .mov [.tmp 36]⟩] L15))))))
  (.seq (.region false [⟨some 69, none, .rd .mov [.tmp 0]⟩,
     ⟨some 70, none, .call (.pv (.fn 35 [] [])) [.tmp 69]⟩,
     ⟨some 71, none, .rd .mov [.tmp 7]⟩,
     ⟨some 72, none, .call (.pv (.fn 35 [] [])) [.tmp 71]⟩,
     ⟨some 10, none, .eff (.alloc (some 1) (.agg [.nilMap])) []⟩,
     ⟨some 11, none, .eff (.alloc (some 1) (.agg [.nilMap])) []⟩,
     ⟨none, none, .eff (.store (some 1)) [.tmp 10, .tmp 70]⟩,
     ⟨none, none, .eff (.store (some 1)) [.tmp 11, .tmp 72]⟩] L15)
  (.seq (.region false [⟨some 74, none, .rd (.load (some 1)) [.tmp 10]⟩,
     ⟨some 75, none, .rd .mov [.tmp 1]⟩,
     ⟨some 76, none, .rd .mov [.tmp 2]⟩,
     ⟨some 77, none, .call (.pv (.fn 37 [] [])) [.tmp 74, .tmp 75, .tmp 76]⟩,
     ⟨some 73, none, .rd .mov [.tmp 77]⟩,
     ⟨some 78, none, .rd (.ext 0) [.tmp 73]⟩,
     ⟨some 79, none, .rd (.ext 1) [.tmp 73]⟩,
     ⟨some 12, none, .rd .mov [.tmp 78]⟩,
     ⟨some 13, none, .rd .mov [.tmp 79]⟩] L15)
  (.seq (.region false [⟨some 81, none, .rd (.load (some 1)) [.tmp 11]⟩,
     ⟨some 82, none, .rd .mov [.tmp 1]⟩,
     ⟨some 83, none, .rd .mov [.tmp 2]⟩,
     ⟨some 84, none, .call (.pv (.fn 37 [] [])) [.tmp 81, .tmp 82, .tmp 83]⟩,
     ⟨some 80, none, .rd .mov [.tmp 84]⟩,
     ⟨some 85, none, .rd (.ext 0) [.tmp 80]⟩,
     ⟨some 86, none, .rd (.ext 1) [.tmp 80]⟩,
     ⟨some 14, none, .rd .mov [.tmp 85]⟩,
     ⟨some 15, none, .rd .mov [.tmp 86]⟩] L15)
  (.seq (.region false [⟨some 88, none, .rd (.load (some 1)) [.tmp 10]⟩,
     ⟨some 89, none, .rd .mov [.tmp 1]⟩,
     ⟨some 90, none, .rd .mov [.tmp 2]⟩,
     ⟨some 91, none, .call (.pv (.fn 40 [] [])) [.tmp 88, .tmp 89, .tmp 90]⟩,
     ⟨some 87, none, .rd .mov [.tmp 91]⟩,
     ⟨some 92, none, .rd (.ext 0) [.tmp 87]⟩,
     ⟨some 93, none, .rd (.ext 1) [.tmp 87]⟩,
     ⟨some 16, none, .rd .mov [.tmp 92]⟩,
     ⟨some 17, none, .rd .mov [.tmp 93]⟩] L15)
  (.seq (.region false [⟨some 95, none, .rd (.load (some 1)) [.tmp 11]⟩,
     ⟨some 96, none, .rd .mov [.tmp 1]⟩,
     ⟨some 97, none, .rd .mov [.tmp 2]⟩,
     ⟨some 98, none, .call (.pv (.fn 40 [] [])) [.tmp 95, .tmp 96, .tmp 97]⟩,
     ⟨some 94, none, .rd .mov [.tmp 98]⟩,
     ⟨some 99, none, .rd (.ext 0) [.tmp 94]⟩,
     ⟨some 100, none, .rd (.ext 1) [.tmp 94]⟩,
     ⟨some 18, none, .rd .mov [.tmp 99]⟩,
     ⟨some 19, none, .rd .mov [.tmp 100]⟩] L15)
  (.seq (.regionA (.alt [⟨some 101, none, .rd .mov [.tmp 12]⟩,
      ⟨some 102, none, .rd .mov [.tmp 14]⟩,
      ⟨some 103, none, .rd (.bin .eql) [.tmp 101, .tmp 102]⟩,
      ⟨some 104, none, .rd .mov [.tmp 103]⟩,
      ⟨some 105, some (104, true), .rd .mov [.tmp 13]⟩,
      ⟨some 106, some (104, true), .rd .mov [.tmp 15]⟩,
      ⟨some 107, some (104, true), .rd (.eqB false) [.tmp 105, .tmp 106]⟩,
      ⟨some 108, none, .rd .pick [.tmp 104, .tmp 107, .pv (.bool false)]⟩,
      ⟨some 109, none, .rd .mov [.tmp 108]⟩,
      ⟨some 110, some (109, true), .rd .mov [.tmp 16]⟩,
      ⟨some 111, some (109, true), .rd .mov [.tmp 18]⟩,
      ⟨some 112, some (109, true), .rd (.bin .eql) [.tmp 110, .tmp 111]⟩,
      ⟨some 113, none, .rd .pick [.tmp 109, .tmp 112, .pv (.bool false)]⟩,
      ⟨some 114, none, .rd .mov [.tmp 113]⟩,
      ⟨some 116, some (114, true), .rd .mov [.tmp 2]⟩,
      ⟨some 119, some (114, true), .rd .mov [.tmp 2]⟩]
     (.alt [⟨some 115, some (114, true), .rd (.load (some 1)) [.tmp 10]⟩]
      (.alt [⟨some 117, some (114, true), .call (.pv (.fn 36 [] [])) [.tmp 115, .tmp 116]⟩,
        ⟨some 118, some (114, true), .rd (.load (some 1)) [.tmp 11]⟩,
        ⟨some 120, some (114, true), .call (.pv (.fn 36 [] [])) [.tmp 118, .tmp 119]⟩,
        ⟨some 121, some (114, true), .call (.pv (.fn 39 [] [])) [.tmp 117, .tmp 120]⟩,
        ⟨some 122, none, .rd .pick [.tmp 114, .tmp 121, .pv (.bool false)]⟩,
        ⟨some 123, none, .rd .mov [.tmp 122]⟩,
        ⟨some 125, some (123, true), .rd .mov [.tmp 2]⟩,
        ⟨some 128, some (123, true), .rd .mov [.tmp 2]⟩]
       (.alt [⟨some 124, some (123, true), .rd (.load (some 1)) [.tmp 10]⟩]
        (.alt [⟨some 126, some (123, true), .call (.pv (.fn 38 [] [])) [.tmp 124, .pv (.str []), .tmp 125]⟩,
          ⟨some 127, some (123, true), .rd (.load (some 1)) [.tmp 11]⟩,
          ⟨some 129, some (123, true), .call (.pv (.fn 38 [] [])) [.tmp 127, .pv (.str []), .tmp 128]⟩,
          ⟨some 130, some (123, true), .call (.pv (.fn 39 [] [])) [.tmp 126, .tmp 129]⟩,
          ⟨some 131, none, .rd .pick [.tmp 123, .tmp 130, .pv (.bool false)]⟩,
          ⟨some 6, none, .rd .mov [.tmp 131]⟩]
         .done
         (.alt [⟨some 127, some (123, true), .rd (.load (some 1)) [.tmp 11]⟩,
           ⟨some 126, some (123, true), .call (.pv (.fn 38 [] [])) [.tmp 124, .pv (.str []), .tmp 125]⟩,
           ⟨some 129, some (123, true), .call (.pv (.fn 38 [] [])) [.tmp 127, .pv (.str []), .tmp 128]⟩,
           ⟨some 130, some (123, true), .call (.pv (.fn 39 [] [])) [.tmp 126, .tmp 129]⟩,
           ⟨some 131, none, .rd .pick [.tmp 123, .tmp 130, .pv (.bool false)]⟩,
           ⟨some 6, none, .rd .mov [.tmp 131]⟩]
          .done
          .stop))
        (.alt [⟨some 127, some (123, true), .rd (.load (some 1)) [.tmp 11]⟩,
          ⟨some 124, some (123, true), .rd (.load (some 1)) [.tmp 10]⟩,
          ⟨some 126, some (123, true), .call (.pv (.fn 38 [] [])) [.tmp 124, .pv (.str []), .tmp 125]⟩,
          ⟨some 129, some (123, true), .call (.pv (.fn 38 [] [])) [.tmp 127, .pv (.str []), .tmp 128]⟩,
          ⟨some 130, some (123, true), .call (.pv (.fn 39 [] [])) [.tmp 126, .tmp 129]⟩,
          ⟨some 131, none, .rd .pick [.tmp 123, .tmp 130, .pv (.bool false)]⟩,
          ⟨some 6, none, .rd .mov [.tmp 131]⟩]
         .done
         .stop))
       (.alt [⟨some 118, some (114, true), .rd (.load (some 1)) [.tmp 11]⟩,
         ⟨some 117, some (114, true), .call (.pv (.fn 36 [] [])) [.tmp 115, .tmp 116]⟩,
         ⟨some 120, some (114, true), .call (.pv (.fn 36 [] [])) [.tmp 118, .tmp 119]⟩,
         ⟨some 121, some (114, true), .call (.pv (.fn 39 [] [])) [.tmp 117, .tmp 120]⟩,
         ⟨some 122, none, .rd .pick [.tmp 114, .tmp 121, .pv (.bool false)]⟩,
         ⟨some 123, none, .rd .mov [.tmp 122]⟩,
         ⟨some 125, some (123, true), .rd .mov [.tmp 2]⟩,
         ⟨some 128, some (123, true), .rd .mov [.tmp 2]⟩]
        (.alt [⟨some 124, some (123, true), .rd (.load (some 1)) [.tmp 10]⟩]
         (.alt [⟨some 126, some (123, true), .call (.pv (.fn 38 [] [])) [.tmp 124, .pv (.str []), .tmp 125]⟩,
           ⟨some 127, some (123, true), .rd (.load (some 1)) [.tmp 11]⟩,
           ⟨some 129, some (123, true), .call (.pv (.fn 38 [] [])) [.tmp 127, .pv (.str []), .tmp 128]⟩,
           ⟨some 130, some (123, true), .call (.pv (.fn 39 [] [])) [.tmp 126, .tmp 129]⟩,
           ⟨some 131, none, .rd .pick [.tmp 123, .tmp 130, .pv (.bool false)]⟩,
           ⟨some 6, none, .rd .mov [.tmp 131]⟩]
          .done
          (.alt [⟨some 127, some (123, true), .rd (.load (some 1)) [.tmp 11]⟩,
            ⟨some 126, some (123, true), .call (.pv (.fn 38 [] [])) [.tmp 124, .pv (.str []), .tmp 125]⟩,
            ⟨some 129, some (123, true), .call (.pv (.fn 38 [] [])) [.tmp 127, .pv (.str []), .tmp 128]⟩,
            ⟨some 130, some (123, true), .call (.pv (.fn 39 [] [])) [.tmp 126, .tmp 129]⟩,
            ⟨some 131, none, .rd .pick [.tmp 123, .tmp 130, .pv (.bool false)]⟩,
            ⟨some 6, none, .rd .mov [.tmp 131]⟩]
           .done
           .stop))
         (.alt [⟨some 127, some (123, true), .rd (.load (some 1)) [.tmp 11]⟩,
           ⟨some 124, some (123, true), .rd (.load (some 1)) [.tmp 10]⟩,
           ⟨some 126, some (123, true), .call (.pv (.fn 38 [] [])) [.tmp 124, .pv (.str []), .tmp 125]⟩,
           ⟨some 129, some (123, true), .call (.pv (.fn 38 [] [])) [.tmp 127, .pv (.str []), .tmp 128]⟩,
           ⟨some 130, some (123, true), .call (.pv (.fn 39 [] [])) [.tmp 126, .tmp 129]⟩,
           ⟨some 131, none, .rd .pick [.tmp 123, .tmp 130, .pv (.bool false)]⟩,
           ⟨some 6, none, .rd .mov [.tmp 131]⟩]
          .done
          .stop))
        .stop))
      (.alt [⟨some 118, some (114, true), .rd (.load (some 1)) [.tmp 11]⟩,
        ⟨some 115, some (114, true), .rd (.load (some 1)) [.tmp 10]⟩,
        ⟨some 117, some (114, true), .call (.pv (.fn 36 [] [])) [.tmp 115, .tmp 116]⟩,
        ⟨some 120, some (114, true), .call (.pv (.fn 36 [] [])) [.tmp 118, .tmp 119]⟩,
        ⟨some 121, some (114, true), .call (.pv (.fn 39 [] [])) [.tmp 117, .tmp 120]⟩,
        ⟨some 122, none, .rd .pick [.tmp 114, .tmp 121, .pv (.bool false)]⟩,
        ⟨some 123, none, .rd .mov [.tmp 122]⟩,
        ⟨some 125, some (123, true), .rd .mov [.tmp 2]⟩,
        ⟨some 128, some (123, true), .rd .mov [.tmp 2]⟩]
       (.alt [⟨some 124, some (123, true), .rd (.load (some 1)) [.tmp 10]⟩]
        (.alt [⟨some 126, some (123, true), .call (.pv (.fn 38 [] [])) [.tmp 124, .pv (.str []), .tmp 125]⟩,
          ⟨some 127, some (123, true), .rd (.load (some 1)) [.tmp 11]⟩,
          ⟨some 129, some (123, true), .call (.pv (.fn 38 [] [])) [.tmp 127, .pv (.str []), .tmp 128]⟩,
          ⟨some 130, some (123, true), .call (.pv (.fn 39 [] [])) [.tmp 126, .tmp 129]⟩,
          ⟨some 131, none, .rd .pick [.tmp 123, .tmp 130, .pv (.bool false)]⟩,
          ⟨some 6, none, .rd .mov [.tmp 131]⟩]
         .done
         (.alt [⟨some 127, some (123, true), .rd (.load (some 1)) [.tmp 11]⟩,
           ⟨some 126, some (123, true), .call (.pv (.fn 38 [] [])) [.tmp 124, .pv (.str []), .tmp 125]⟩,
           ⟨some 129, some (123, true), .call (.pv (.fn 38 [] [])) [.tmp 127, .pv (.str []), .tmp 128]⟩,
           ⟨some 130, some (123, true), .call (.pv (.fn 39 [] [])) [.tmp 126, .tmp 129]⟩,
           ⟨some 131, none, .rd .pick [.tmp 123, .tmp 130, .pv (.bool false)]⟩,
           ⟨some 6, none, .rd .mov [.tmp 131]⟩]
          .done
          .stop))
        (.alt [⟨some 127, some (123, true), .rd (.load (some 1)) [.tmp 11]⟩,
          ⟨some 124, some (123, true), .rd (.load (some 1)) [.tmp 10]⟩,
          ⟨some 126, some (123, true), .call (.pv (.fn 38 [] [])) [.tmp 124, .pv (.str []), .tmp 125]⟩,
          ⟨some 129, some (123, true), .call (.pv (.fn 38 [] [])) [.tmp 127, .pv (.str []), .tmp 128]⟩,
          ⟨some 130, some (123, true), .call (.pv (.fn 39 [] [])) [.tmp 126, .tmp 129]⟩,
          ⟨some 131, none, .rd .pick [.tmp 123, .tmp 130, .pv (.bool false)]⟩,
          ⟨some 6, none, .rd .mov [.tmp 131]⟩]
         .done
         .stop))
       .stop))
     .stop) L15)
  (.ret))))))))))),
  [.tmp 6]⟩
theorem k15 : compileF Try.prog [999999, 888888] L15 Try.f15 = some c15 := by kernel_rfl
end Go.Proofs.Ytjcoenideicmbaa

