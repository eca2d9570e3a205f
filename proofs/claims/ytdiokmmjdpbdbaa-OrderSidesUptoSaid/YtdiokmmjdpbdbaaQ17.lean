import Derived.Test.YtdiokmmjdpbdbaaProg
import Derived.KernelRfl
import Derived.Test.YtdiokmmjdpbdbaaP3
import Derived.Test.YtdiokmmjdpbdbaaQ6
namespace Go.Proofs.Ytdiokmmjdpbdbaa
open PG Go.Proofs
-- wagebook/wagebooklaw14.awake
def L10 : List Nat := [0, 1, 2, 3]
def c10 : CF := ⟨50,
 .seq (.region false [⟨some 0, none, .rd .mov [.pv (.bool false)]⟩] L10)
 (.seq (.region false [⟨some 5, none, .call (.pv (.fn 25 [] [])) []⟩,
 ⟨some 6, none, .call (.pv (.fn 20 [] [])) [.tmp 5]⟩,
 ⟨some 4, none, .rd .mov [.tmp 6]⟩,
 ⟨some 7, none, .rd (.ext 0) [.tmp 4]⟩,
 ⟨some 8, none, .rd (.ext 1) [.tmp 4]⟩,
 ⟨some 1, none, .rd .mov [.tmp 7]⟩,
 ⟨some 2, none, .rd .mov [.tmp 8]⟩] L10)
 (.seq (.region false [⟨some 9, none, .eff (.lit none false) [.pv (.str [97])]⟩,
 ⟨some 10, none, .rd (.build [(.str []), .nilSl] [(0, 1), (1, 1)]) [.pv (.str [98]), .tmp 9]⟩,
 ⟨some 11, none, .eff (.lit none false) [.pv (.str [98])]⟩,
 ⟨some 12, none, .rd (.build [(.str []), .nilSl] [(0, 1), (1, 1)]) [.pv (.str [97]), .tmp 11]⟩,
 ⟨some 13, none, .eff (.lit (some 2) false) [.tmp 10, .tmp 12]⟩,
 ⟨some 14, none, .call (.pv (.fn 13 [] [])) [.tmp 13]⟩,
 ⟨some 3, none, .rd .mov [.tmp 14]⟩] L10)
 (.seq (.region false [⟨some 15, none, .rd .mov [.tmp 2]⟩,
 ⟨some 16, none, .rd (.bin .eql) [.tmp 15, .pv (.int .i64 0)]⟩,
 ⟨some 17, none, .rd .mov [.tmp 16]⟩,
 ⟨some 18, some (17, true), .rd .mov [.tmp 1]⟩,
 ⟨some 19, some (17, true), .eff (.lit none false) [.pv (.str [103, 114, 111, 115, 115]), .pv (.str [116, 97, 120]), .pv (.str [110, 101, 116])]⟩,
 ⟨some 20, some (17, true), .call (.pv (.fn 12 [] [])) [.tmp 18, .tmp 19]⟩,
 ⟨some 21, none, .rd .pick [.tmp 17, .tmp 20, .pv (.bool false)]⟩,
 ⟨some 22, none, .rd .mov [.tmp 21]⟩,
 ⟨some 23, some (22, true), .call (.pv (.fn 25 [] [])) []⟩,
 ⟨some 24, some (22, true), .call (.pv (.fn 13 [] [])) [.tmp 23]⟩,
 ⟨some 25, some (22, true), .rd .lenL [.tmp 24]⟩,
 ⟨some 26, some (22, true), .rd (.bin .eql) [.tmp 25, .pv (.int .i64 0)]⟩,
 ⟨some 27, none, .rd .pick [.tmp 22, .tmp 26, .pv (.bool false)]⟩,
 ⟨some 28, none, .rd .mov [.tmp 27]⟩,
 ⟨some 29, some (28, true), .rd .mov [.tmp 3]⟩,
 ⟨some 30, some (28, true), .eff (.lit none false) [.pv (.str [97]), .pv (.str [98])]⟩,
 ⟨some 31, some (28, true), .call (.pv (.fn 12 [] [])) [.tmp 29, .tmp 30]⟩,
 ⟨some 32, none, .rd .pick [.tmp 28, .tmp 31, .pv (.bool false)]⟩,
 ⟨some 33, none, .rd .mov [.tmp 32]⟩,
 ⟨some 34, some (33, true), .call (.pv (.fn 25 [] [])) []⟩,
 ⟨some 35, some (33, true), .call (.pv (.fn 16 [] [])) [.pv (.str [110, 101, 116]), .tmp 34]⟩,
 ⟨some 36, some (33, true), .eff (.lit none false) [.pv (.str [98, 97, 115, 101]), .pv (.str [102, 114, 101, 101]), .pv (.str [103, 114, 111, 115, 115]), .pv (.str [116, 97, 120])]⟩,
 ⟨some 37, some (33, true), .call (.pv (.fn 12 [] [])) [.tmp 35, .tmp 36]⟩,
 ⟨some 38, none, .rd .pick [.tmp 33, .tmp 37, .pv (.bool false)]⟩,
 ⟨some 39, none, .rd .mov [.tmp 38]⟩,
 ⟨some 40, some (39, true), .call (.pv (.fn 25 [] [])) []⟩,
 ⟨some 41, some (39, true), .call (.pv (.fn 18 [] [])) [.pv (.str [98, 97, 115, 101]), .tmp 40]⟩,
 ⟨some 42, some (39, true), .eff (.lit none false) [.pv (.str [103, 114, 111, 115, 115]), .pv (.str [110, 101, 116]), .pv (.str [116, 97, 120])]⟩,
 ⟨some 43, some (39, true), .call (.pv (.fn 12 [] [])) [.tmp 41, .tmp 42]⟩,
 ⟨some 44, none, .rd .pick [.tmp 39, .tmp 43, .pv (.bool false)]⟩,
 ⟨some 45, none, .rd .mov [.tmp 44]⟩,
 ⟨some 46, some (45, true), .rd .mov [.tmp 1]⟩,
 ⟨some 47, some (45, true), .call (.pv (.fn 25 [] [])) []⟩,
 ⟨some 48, some (45, true), .call (.pv (.fn 21 [] [])) [.tmp 46, .tmp 47]⟩,
 ⟨some 49, none, .rd .pick [.tmp 45, .tmp 48, .pv (.bool false)]⟩,
 ⟨some 0, none, .rd .mov [.tmp 49]⟩] L10)
 (.ret)))),
 [.tmp 0]⟩

-- wagebook/wagebooklaw14.isRing
def L5 : List Nat := [0, 2, 3, 4, 5, 7, 10, 18, 19, 29]
def c5 : CF := ⟨57,
 .seq (.region false [⟨some 2, none, .rd .mov [.pv (.bool false)]⟩] L5)
 (.seq (.seq (.region false [⟨some 6, none, .call (.pv (.fn 10 [] [])) []⟩,
 ⟨some 7, none, .rd (.un .not) [.tmp 6]⟩] L5)
 (.cond (.tmp 7)
 (.seq (.region false [⟨some 2, none, .rd .mov [.pv (.bool false)]⟩] L5)
 (.ret))
 (.skip)))
 (.seq (.seq (.region false [⟨some 8, none, .rd .mov [.tmp 0]⟩,
 ⟨some 9, none, .call (.pv (.fn 11 [] [])) [.tmp 8, .pv (.int .i64 24)]⟩,
 ⟨some 10, none, .rd (.un .not) [.tmp 9]⟩] L5)
 (.cond (.tmp 10)
 (.seq (.region false [⟨some 2, none, .rd .mov [.pv (.bool true)]⟩] L5)
 (.ret))
 (.skip)))
 (.seq (.region false [⟨some 12, none, .rd .mov [.tmp 0]⟩,
 ⟨some 13, none, .call (.pv (.fn 20 [] [])) [.tmp 12]⟩,
 ⟨some 11, none, .rd .mov [.tmp 13]⟩,
 ⟨some 14, none, .rd (.ext 0) [.tmp 11]⟩,
 ⟨some 15, none, .rd (.ext 1) [.tmp 11]⟩,
 ⟨some 3, none, .rd .mov [.tmp 14]⟩,
 ⟨some 4, none, .rd .mov [.tmp 15]⟩] L5)
 (.seq (.region false [⟨some 16, none, .rd .mov [.tmp 0]⟩,
 ⟨some 17, none, .call (.pv (.fn 13 [] [])) [.tmp 16]⟩,
 ⟨some 5, none, .rd .mov [.tmp 17]⟩] L5)
 (.seq (.seq (.region false [⟨some 18, none, .rd .mov [.tmp 4]⟩] L5)
 (.block 0
 (.seq (.region false [⟨some 20, none, .rd (.bin .eql) [.tmp 18, .pv (.int .i64 0)]⟩,
 ⟨some 19, none, .rd .mov [.tmp 20]⟩] L5)
 (.cond (.tmp 19)
 (.seq (.region false [⟨some 21, none, .rd .mov [.tmp 5]⟩,
 ⟨some 22, none, .rd .lenL [.tmp 21]⟩,
 ⟨some 23, none, .rd (.bin .eql) [.tmp 22, .pv (.int .i64 0)]⟩,
 ⟨some 24, none, .rd .mov [.tmp 23]⟩,
 ⟨some 25, some (24, true), .rd .mov [.tmp 3]⟩,
 ⟨some 26, some (24, true), .rd .mov [.tmp 0]⟩,
 ⟨some 27, some (24, true), .call (.pv (.fn 21 [] [])) [.tmp 25, .tmp 26]⟩,
 ⟨some 28, none, .rd .pick [.tmp 24, .tmp 27, .pv (.bool false)]⟩,
 ⟨some 2, none, .rd .mov [.tmp 28]⟩] L5)
 (.ret))
 (.seq (.region false [⟨some 30, none, .rd (.bin .eql) [.tmp 18, .pv (.int .i64 13)]⟩,
 ⟨some 29, none, .rd .mov [.tmp 30]⟩] L5)
 (.cond (.tmp 29)
 (.seq (.region false [⟨some 31, none, .rd .mov [.tmp 3]⟩,
 ⟨some 32, none, .rd .lenL [.tmp 31]⟩,
 ⟨some 33, none, .rd (.bin .eql) [.tmp 32, .pv (.int .i64 0)]⟩,
 ⟨some 34, none, .rd .mov [.tmp 33]⟩,
 ⟨some 35, some (34, true), .rd .mov [.tmp 5]⟩,
 ⟨some 36, some (34, true), .rd .lenL [.tmp 35]⟩,
 ⟨some 37, some (34, true), .rd (.bin .gtr) [.tmp 36, .pv (.int .i64 0)]⟩,
 ⟨some 38, none, .rd .pick [.tmp 34, .tmp 37, .pv (.bool false)]⟩,
 ⟨some 39, none, .rd .mov [.tmp 38]⟩,
 ⟨some 40, some (39, true), .rd .mov [.tmp 5]⟩,
 ⟨some 41, some (39, true), .rd .mov [.tmp 0]⟩,
 ⟨some 42, some (39, true), .call (.pv (.fn 22 [] [])) [.tmp 40, .tmp 41]⟩,
 ⟨some 43, none, .rd .pick [.tmp 39, .tmp 42, .pv (.bool false)]⟩,
 ⟨some 2, none, .rd .mov [.tmp 43]⟩] L5)
 (.ret))
 (.skip)))))))
 (.seq (.region false [⟨some 44, none, .rd .mov [.tmp 3]⟩,
 ⟨some 45, none, .rd .lenL [.tmp 44]⟩,
 ⟨some 46, none, .rd (.bin .eql) [.tmp 45, .pv (.int .i64 0)]⟩,
 ⟨some 47, none, .rd .mov [.tmp 46]⟩,
 ⟨some 48, some (47, true), .rd .mov [.tmp 5]⟩,
 ⟨some 49, some (47, true), .rd .lenL [.tmp 48]⟩,
 ⟨some 50, some (47, true), .rd (.bin .eql) [.tmp 49, .pv (.int .i64 0)]⟩,
 ⟨some 51, none, .rd .pick [.tmp 47, .tmp 50, .pv (.bool false)]⟩,
 ⟨some 52, none, .rd .mov [.tmp 51]⟩,
 ⟨some 53, some (52, true), .rd .mov [.tmp 0]⟩,
 ⟨some 54, some (52, true), .call (.pv (.fn 21 [] [])) [.pv .nilSl, .tmp 53]⟩,
 ⟨some 55, some (52, true), .rd (.un .not) [.tmp 54]⟩,
 ⟨some 56, none, .rd .pick [.tmp 52, .tmp 55, .pv (.bool false)]⟩,
 ⟨some 2, none, .rd .mov [.tmp 56]⟩] L5)
 (.ret))))))),
 [.tmp 2]⟩

-- wagebook/wagebooklaw14.OrderTurned
def L6 : List Nat := [0, 1, 4, 5, 6, 7, 8, 9, 10, 12, 20, 25, 34, 78]
def L9 : List Nat := [0, 1, 4, 5, 6, 7, 8, 10, 13, 25]
def c9 : CF := ⟨72,
 .seq (.region false [⟨some 4, none, .rd .mov [.pv (.bool false)]⟩] L9)
 (.seq (.seq (.region false [⟨some 9, none, .call (.pv (.fn 10 [] [])) []⟩,
 ⟨some 10, none, .rd (.un .not) [.tmp 9]⟩] L9)
 (.cond (.tmp 10)
 (.seq (.region false [⟨some 4, none, .rd .mov [.pv (.bool false)]⟩] L9)
 (.ret))
 (.skip)))
 (.seq (.seq (.region false [⟨some 11, none, .rd .mov [.tmp 0]⟩,
 ⟨some 12, none, .call (.pv (.fn 11 [] [])) [.tmp 11, .pv (.int .i64 20)]⟩,
 ⟨some 13, none, .rd (.un .not) [.tmp 12]⟩] L9)
 (.cond (.tmp 13)
 (.seq (.region false [⟨some 4, none, .rd .mov [.pv (.bool true)]⟩] L9)
 (.ret))
 (.skip)))
 (.seq (.region false [⟨some 15, none, .rd .mov [.tmp 0]⟩,
 ⟨some 16, none, .call (.pv (.fn 20 [] [])) [.tmp 15]⟩,
 ⟨some 14, none, .rd .mov [.tmp 16]⟩,
 ⟨some 17, none, .rd (.ext 0) [.tmp 14]⟩,
 ⟨some 18, none, .rd (.ext 1) [.tmp 14]⟩,
 ⟨some 5, none, .rd .mov [.tmp 17]⟩,
 ⟨some 6, none, .rd .mov [.tmp 18]⟩] L9)
 (.seq (.seq (.region false [⟨some 19, none, .rd .mov [.tmp 6]⟩,
 ⟨some 20, none, .rd (.bin .neq) [.tmp 19, .pv (.int .i64 0)]⟩,
 ⟨some 21, none, .rd .mov [.tmp 20]⟩,
 ⟨some 22, some (21, false), .rd .mov [.tmp 5]⟩,
 ⟨some 23, some (21, false), .rd .lenL [.tmp 22]⟩,
 ⟨some 24, some (21, false), .rd (.bin .lss) [.tmp 23, .pv (.int .i64 2)]⟩,
 ⟨some 25, none, .rd .pick [.tmp 21, .pv (.bool true), .tmp 24]⟩] L9)
 (.cond (.tmp 25)
 (.seq (.region false [⟨some 4, none, .rd .mov [.pv (.bool true)]⟩] L9)
 (.ret))
 (.skip)))
 (.seq (.region false [⟨some 26, none, .rd .mov [.tmp 1]⟩,
 ⟨some 27, none, .rd (.conv .i64) [.tmp 26]⟩,
 ⟨some 28, none, .rd .mov [.tmp 5]⟩,
 ⟨some 29, none, .rd .lenL [.tmp 28]⟩,
 ⟨some 30, none, .rd (.bin .sub) [.tmp 29, .pv (.int .i64 1)]⟩,
 ⟨some 31, none, .rd (.bin .rem) [.tmp 27, .tmp 30]⟩,
 ⟨some 7, none, .rd .mov [.tmp 31]⟩] L9)
 (.seq (.region false [⟨some 32, none, .eff (.lit none true) []⟩,
 ⟨some 33, none, .rd .mov [.tmp 5]⟩,
 ⟨some 34, none, .eff (.append none 16) [.tmp 32, .tmp 33]⟩,
 ⟨some 8, none, .rd .mov [.tmp 34]⟩] L9)
 (.seq (.regionA (.alt [⟨some 35, none, .rd .mov [.tmp 8]⟩,
 ⟨some 36, none, .rd .mov [.tmp 7]⟩,
 ⟨some 37, none, .rd .mov [.tmp 8]⟩,
 ⟨some 38, none, .rd .mov [.tmp 7]⟩,
 ⟨some 39, none, .rd (.bin .add) [.tmp 38, .pv (.int .i64 1)]⟩,
 ⟨some 40, none, .rd .mov [.tmp 5]⟩,
 ⟨some 41, none, .rd .mov [.tmp 7]⟩,
 ⟨some 42, none, .rd (.bin .add) [.tmp 41, .pv (.int .i64 1)]⟩,
 ⟨some 43, none, .rd (.idxAddr none) [.tmp 40, .tmp 42]⟩,
 ⟨some 45, none, .rd .mov [.tmp 5]⟩,
 ⟨some 46, none, .rd .mov [.tmp 7]⟩,
 ⟨some 47, none, .rd (.idxAddr none) [.tmp 45, .tmp 46]⟩]
 (.alt [⟨some 44, none, .rd (.load none) [.tmp 43]⟩,
 ⟨some 48, none, .rd (.load none) [.tmp 47]⟩,
 ⟨some 49, none, .rd (.idxAddr none) [.tmp 35, .tmp 36]⟩,
 ⟨none, none, .eff (.store none) [.tmp 49, .tmp 44]⟩,
 ⟨some 50, none, .rd (.idxAddr none) [.tmp 37, .tmp 39]⟩,
 ⟨none, none, .eff (.store none) [.tmp 50, .tmp 48]⟩]
 .done
 (.alt [⟨some 48, none, .rd (.load none) [.tmp 47]⟩,
 ⟨some 44, none, .rd (.load none) [.tmp 43]⟩,
 ⟨some 49, none, .rd (.idxAddr none) [.tmp 35, .tmp 36]⟩,
 ⟨none, none, .eff (.store none) [.tmp 49, .tmp 44]⟩,
 ⟨some 50, none, .rd (.idxAddr none) [.tmp 37, .tmp 39]⟩,
 ⟨none, none, .eff (.store none) [.tmp 50, .tmp 48]⟩]
 .done
 .stop))
 .stop) L9)
 (.seq (.region true [⟨some 51, none, .rd .mov [.tmp 5]⟩,
 ⟨some 52, none, .rd .mov [.tmp 0]⟩,
 ⟨some 53, none, .call (.pv (.fn 21 [] [])) [.tmp 51, .tmp 52]⟩,
 ⟨some 54, none, .rd .mov [.tmp 53]⟩,
 ⟨some 55, some (54, true), .rd .mov [.tmp 8]⟩,
 ⟨some 56, some (54, true), .rd .mov [.tmp 0]⟩,
 ⟨some 57, some (54, true), .call (.pv (.fn 21 [] [])) [.tmp 55, .tmp 56]⟩,
 ⟨some 58, some (54, true), .rd .mov [.tmp 5]⟩,
 ⟨some 59, some (54, true), .rd .mov [.tmp 7]⟩,
 ⟨some 60, some (54, true), .rd (.bin .add) [.tmp 59, .pv (.int .i64 1)]⟩,
 ⟨some 61, some (54, true), .rd (.idxAddr none) [.tmp 58, .tmp 60]⟩,
 ⟨some 62, some (54, true), .rd (.load none) [.tmp 61]⟩,
 ⟨some 63, some (54, true), .rd .mov [.tmp 5]⟩,
 ⟨some 64, some (54, true), .rd .mov [.tmp 7]⟩,
 ⟨some 65, some (54, true), .rd (.idxAddr none) [.tmp 63, .tmp 64]⟩,
 ⟨some 66, some (54, true), .rd (.load none) [.tmp 65]⟩,
 ⟨some 67, some (54, true), .rd .mov [.tmp 0]⟩,
 ⟨some 68, some (54, true), .call (.pv (.fn 24 [] [])) [.tmp 62, .tmp 66, .tmp 67]⟩,
 ⟨some 69, some (54, true), .rd (.un .not) [.tmp 68]⟩,
 ⟨some 70, some (54, true), .rd (.eqB false) [.tmp 57, .tmp 69]⟩,
 ⟨some 71, none, .rd .pick [.tmp 54, .tmp 70, .pv (.bool false)]⟩,
 ⟨some 4, none, .rd .mov [.tmp 71]⟩] L9)
 (.ret))))))))),
 [.tmp 4]⟩
theorem k10 : compileF Try.prog [999999] L10 Try.f10 = some c10 := by kernel_rfl
end Go.Proofs.Ytdiokmmjdpbdbaa

namespace Go.Proofs.Ytdiokmmjdpbdbaa
open Go PG
set_option linter.unusedSimpArgs false
set_option maxRecDepth 100000
/-! The document's example -/
abbrev sNet : St := [110, 101, 116]
abbrev sTax : St := [116, 97, 120]
abbrev sGross : St := [103, 114, 111, 115, 115]
abbrev sFree : St := [102, 114, 101, 101]
abbrev sBase : St := [98, 97, 115, 101]
def payL : List Ed := [⟨sNet, [sGross, sTax]⟩, ⟨sTax, [sGross, sFree]⟩, ⟨sGross, [sBase]⟩]
def twoL : List Ed := [⟨[98], [[97]]⟩, ⟨[97], [[98]]⟩]
theorem sort_eq {L M : List St} (hM : Rise M) (h : L.Perm M) : sortT L = M :=
  rise_uniq (sort_rise (h.nodup_iff.2 hM.nodup)) hM (fun x => by rw [sort_mem]; exact h.mem_iff)
theorem pay_w : wrongM payL = 0 := by decide +kernel
theorem two_w : wrongM twoL = 0 := by decide +kernel
theorem pay_N : nsM payL = [sGross, sNet, sTax] := sort_eq (by decide +kernel) (by decide +kernel)
theorem two_N : nsM twoL = [[97], [98]] := sort_eq (by decide +kernel) (by decide +kernel)
theorem aw1 : sortM payL = ([sGross, sTax, sNet], 0) := by
  unfold sortM
  rw [if_neg (by rw [pay_w]; decide), pay_N]
  have : sortG [sGross, sNet, sTax] (ndM payL) 3 [] = some [sGross, sTax, sNet] := by decide +kernel
  rw [show sortG [sGross, sNet, sTax] (ndM payL) [sGross, sNet, sTax].length [] = some [sGross, sTax, sNet] from this]
theorem aw2 : ringM payL = [] := by
  unfold ringM
  rw [if_neg (by rw [pay_w]; decide), pay_N]
  have h1 : farD [sGross, sNet, sTax] (ndM payL) sGross 3 sGross = 0 := by decide +kernel
  have h2 : farD [sGross, sNet, sTax] (ndM payL) sNet 3 sNet = 0 := by decide +kernel
  have h3 : farD [sGross, sNet, sTax] (ndM payL) sTax 3 sTax = 0 := by decide +kernel
  simp only [bestG, List.length_cons, List.length_nil, Nat.zero_add, Nat.reduceAdd, h1, h2, h3, Nat.lt_irrefl, false_and, if_false]
theorem aw3 : ringM twoL = [[97], [98]] := by
  unfold ringM
  rw [if_neg (by rw [two_w]; decide), two_N]
  have h1 : farD [[97], [98]] (ndM twoL) [97] 2 [97] = 2 := by decide +kernel
  have h2 : farD [[97], [98]] (ndM twoL) [98] 2 [98] = 0 := by decide +kernel
  have h3 : farD [[97], [98]] (ndM twoL) [97] 2 [98] = 1 := by decide +kernel
  have h4 : ndM twoL [97] = [[98]] := by decide +kernel
  have h5 : sortT [[98]] = [[98]] := sort_eq (by decide +kernel) (List.Perm.refl _)
  have h6 : ringT (ndM twoL) [97] (farD [[97], [98]] (ndM twoL) [97] 2) 2 [97] = [[98]] := by
    unfold ringT
    rw [h4, h5]
    have : (decide (([97] : St) < [98]) && decide (farD [[97], [98]] (ndM twoL) [97] 2 [98] = 0 + 1)) = true := by rw [h3]; decide +kernel
    simp only [List.find?_cons, this]
    unfold ringT; rfl
  simp only [bestG, List.length_cons, List.length_nil, Nat.zero_add, Nat.reduceAdd, h1, h2, h6, Nat.lt_irrefl, false_and, if_false]
  rw [if_pos (by simp)]
theorem aw4 : belowM payL sNet = [sBase, sFree, sGross, sTax] := by
  unfold belowM
  rw [if_neg (by rw [pay_N, pay_w]; decide +kernel)]
  have n1 : ndM payL sNet = [sGross, sTax] := by decide +kernel
  have n2 : ndM payL sTax = [sGross, sFree] := by decide +kernel
  have n3 : ndM payL sGross = [sBase] := by decide +kernel
  have n4 : ndM payL sBase = [] := by decide +kernel
  have n5 : ndM payL sFree = [] := by decide +kernel
  have : dfs (ndM payL) ((allN payL).length + 1) sNet [] = [sGross, sBase, sTax, sFree] := by
    show dfs (ndM payL) 6 sNet [] = _
    simp [dfs, dfsL, n1, n2, n3, n4, n5]
  rw [this]
  exact sort_eq (by decide +kernel) (by decide +kernel)
theorem aw5 : aboveM payL sBase = [sGross, sNet, sTax] := by
  have n1 : ndM payL sNet = [sGross, sTax] := by decide +kernel
  have n2 : ndM payL sTax = [sGross, sFree] := by decide +kernel
  have n3 : ndM payL sGross = [sBase] := by decide +kernel
  have h1 : Rch (ndM payL) sGross sBase := .one _ _ (by rw [n3]; simp)
  have h2 : Rch (ndM payL) sTax sBase := .more _ sGross _ (by rw [n2]; simp) h1
  have h3 : Rch (ndM payL) sNet sBase := .more _ sGross _ (by rw [n1]; simp) h1
  refine rise_uniq (above_rise _) (by decide +kernel) fun y => ?_
  rw [above_iff pay_w]
  constructor
  · intro h
    have := rch_in h
    rwa [pay_N] at this
  · intro h
    simp only [List.mem_cons, List.not_mem_nil, or_false] at h
    rcases h with rfl | rfl | rfl
    · exact h1
    · exact h3
    · exact h2
theorem aw6 : rightM payL [sGross, sTax, sNet] = true := by
  have := (sorts_ok (l := payL) (by rw [aw1])).2
  rw [aw1] at this; exact this
end Go.Proofs.Ytdiokmmjdpbdbaa

