import Derived.Test.YtdiokmmjdpbdbaaProg
import Derived.KernelRfl
import Derived.Test.YtdiokmmjdpbdbaaP3
import Derived.Test.YtdiokmmjdpbdbaaQ6
import Derived.Test.YtdiokmmjdpbdbaaQ15
namespace Go.Proofs.Ytdiokmmjdpbdbaa
open PG Go.Proofs
-- wagebook/wagebooklaw14.awake
def L10 : List Nat := [0, 1, 2, 3]
def c10 : CF := ⟨50,
 .seq (.region false [⟨some 0, none, .rd .mov [.pv (.bool false)]⟩] L10)
 (.seq (.region false [⟨some 5, none, .call (.pv (.fn 25 [] [])) []⟩,
 ⟨some 6, none, .call (.pv (.fn 20 [] [])) [.tmp 5]⟩,
 ⟨some 4, none, .rd .mov [.tmp 6]⟩,
 ⟨some 7, none, .rd (.ext 0) [.tmp 4]⟩,
 ⟨some 8, none, .rd (.ext 1) [.tmp 4]⟩,
 ⟨some 1, none, .rd .mov [.tmp 7]⟩,
 ⟨some 2, none, .rd .mov [.tmp 8]⟩] L10)
 (.seq (.region false [⟨some 9, none, .eff (.lit none false) [.pv (.str [97])]⟩,
 ⟨some 10, none, .rd (.build [(.str []), .nilSl] [(0, 1), (1, 1)]) [.pv (.str [98]), .tmp 9]⟩,
 ⟨some 11, none, .eff (.lit none false) [.pv (.str [98])]⟩,
 ⟨some 12, none, .rd (.build [(.str []), .nilSl] [(0, 1), (1, 1)]) [.pv (.str [97]), .tmp 11]⟩,
 ⟨some 13, none, .eff (.lit (some 2) false) [.tmp 10, .tmp 12]⟩,
 ⟨some 14, none, .call (.pv (.fn 13 [] [])) [.tmp 13]⟩,
 ⟨some 3, none, .rd .mov [.tmp 14]⟩] L10)
 (.seq (.region false [⟨some 15, none, .rd .mov [.tmp 2]⟩,
 ⟨some 16, none, .rd (.bin .eql) [.tmp 15, .pv (.int .i64 0)]⟩,
 ⟨some 17, none, .rd .mov [.tmp 16]⟩,
 ⟨some 18, some (17, true), .rd .mov [.tmp 1]⟩,
 ⟨some 19, some (17, true), .eff (.lit none false) [.pv (.str [103, 114, 111, 115, 115]), .pv (.str [116, 97, 120]), .pv (.str [110, 101, 116])]⟩,
 ⟨some 20, some (17, true), .call (.pv (.fn 12 [] [])) [.tmp 18, .tmp 19]⟩,
 ⟨some 21, none, .rd .pick [.tmp 17, .tmp 20, .pv (.bool false)]⟩,
 ⟨some 22, none, .rd .mov [.tmp 21]⟩,
 ⟨some 23, some (22, true), .call (.pv (.fn 25 [] [])) []⟩,
 ⟨some 24, some (22, true), .call (.pv (.fn 13 [] [])) [.tmp 23]⟩,
 ⟨some 25, some (22, true), .rd .lenL [.tmp 24]⟩,
 ⟨some 26, some (22, true), .rd (.bin .eql) [.tmp 25, .pv (.int .i64 0)]⟩,
 ⟨some 27, none, .rd .pick [.tmp 22, .tmp 26, .pv (.bool false)]⟩,
 ⟨some 28, none, .rd .mov [.tmp 27]⟩,
 ⟨some 29, some (28, true), .rd .mov [.tmp 3]⟩,
 ⟨some 30, some (28, true), .eff (.lit none false) [.pv (.str [97]), .pv (.str [98])]⟩,
 ⟨some 31, some (28, true), .call (.pv (.fn 12 [] [])) [.tmp 29, .tmp 30]⟩,
 ⟨some 32, none, .rd .pick [.tmp 28, .tmp 31, .pv (.bool false)]⟩,
 ⟨some 33, none, .rd .mov [.tmp 32]⟩,
 ⟨some 34, some (33, true), .call (.pv (.fn 25 [] [])) []⟩,
 ⟨some 35, some (33, true), .call (.pv (.fn 16 [] [])) [.pv (.str [110, 101, 116]), .tmp 34]⟩,
 ⟨some 36, some (33, true), .eff (.lit none false) [.pv (.str [98, 97, 115, 101]), .pv (.str [102, 114, 101, 101]), .pv (.str [103, 114, 111, 115, 115]), .pv (.str [116, 97, 120])]⟩,
 ⟨some 37, some (33, true), .call (.pv (.fn 12 [] [])) [.tmp 35, .tmp 36]⟩,
 ⟨some 38, none, .rd .pick [.tmp 33, .tmp 37, .pv (.bool false)]⟩,
 ⟨some 39, none, .rd .mov [.tmp 38]⟩,
 ⟨some 40, some (39, true), .call (.pv (.fn 25 [] [])) []⟩,
 ⟨some 41, some (39, true), .call (.pv (.fn 18 [] [])) [.pv (.str [98, 97, 115, 101]), .tmp 40]⟩,
 ⟨some 42, some (39, true), .eff (.lit none false) [.pv (.str [103, 114, 111, 115, 115]), .pv (.str [110, 101, 116]), .pv (.str [116, 97, 120])]⟩,
 ⟨some 43, some (39, true), .call (.pv (.fn 12 [] [])) [.tmp 41, .tmp 42]⟩,
 ⟨some 44, none, .rd .pick [.tmp 39, .tmp 43, .pv (.bool false)]⟩,
 ⟨some 45, none, .rd .mov [.tmp 44]⟩,
 ⟨some 46, some (45, true), .rd .mov [.tmp 1]⟩,
 ⟨some 47, some (45, true), .call (.pv (.fn 25 [] [])) []⟩,
 ⟨some 48, some (45, true), .call (.pv (.fn 21 [] [])) [.tmp 46, .tmp 47]⟩,
 ⟨some 49, none, .rd .pick [.tmp 45, .tmp 48, .pv (.bool false)]⟩,
 ⟨some 0, none, .rd .mov [.tmp 49]⟩] L10)
 (.ret)))),
 [.tmp 0]⟩

-- wagebook/wagebooklaw14.isRing
def L9 : List Nat := [0, 1, 4, 5, 6, 7, 8, 10, 13, 25]
def c9 : CF := ⟨72,
 .seq (.region false [⟨some 4, none, .rd .mov [.pv (.bool false)]⟩] L9)
 (.seq (.seq (.region false [⟨some 9, none, .call (.pv (.fn 10 [] [])) []⟩,
 ⟨some 10, none, .rd (.un .not) [.tmp 9]⟩] L9)
 (.cond (.tmp 10)
 (.seq (.region false [⟨some 4, none, .rd .mov [.pv (.bool false)]⟩] L9)
 (.ret))
 (.skip)))
 (.seq (.seq (.region false [⟨some 11, none, .rd .mov [.tmp 0]⟩,
 ⟨some 12, none, .call (.pv (.fn 11 [] [])) [.tmp 11, .pv (.int .i64 20)]⟩,
 ⟨some 13, none, .rd (.un .not) [.tmp 12]⟩] L9)
 (.cond (.tmp 13)
 (.seq (.region false [⟨some 4, none, .rd .mov [.pv (.bool true)]⟩] L9)
 (.ret))
 (.skip)))
 (.seq (.region false [⟨some 15, none, .rd .mov [.tmp 0]⟩,
 ⟨some 16, none, .call (.pv (.fn 20 [] [])) [.tmp 15]⟩,
 ⟨some 14, none, .rd .mov [.tmp 16]⟩,
 ⟨some 17, none, .rd (.ext 0) [.tmp 14]⟩,
 ⟨some 18, none, .rd (.ext 1) [.tmp 14]⟩,
 ⟨some 5, none, .rd .mov [.tmp 17]⟩,
 ⟨some 6, none, .rd .mov [.tmp 18]⟩] L9)
 (.seq (.seq (.region false [⟨some 19, none, .rd .mov [.tmp 6]⟩,
 ⟨some 20, none, .rd (.bin .neq) [.tmp 19, .pv (.int .i64 0)]⟩,
 ⟨some 21, none, .rd .mov [.tmp 20]⟩,
 ⟨some 22, some (21, false), .rd .mov [.tmp 5]⟩,
 ⟨some 23, some (21, false), .rd .lenL [.tmp 22]⟩,
 ⟨some 24, some (21, false), .rd (.bin .lss) [.tmp 23, .pv (.int .i64 2)]⟩,
 ⟨some 25, none, .rd .pick [.tmp 21, .pv (.bool true), .tmp 24]⟩] L9)
 (.cond (.tmp 25)
 (.seq (.region false [⟨some 4, none, .rd .mov [.pv (.bool true)]⟩] L9)
 (.ret))
 (.skip)))
 (.seq (.region false [⟨some 26, none, .rd .mov [.tmp 1]⟩,
 ⟨some 27, none, .rd (.conv .i64) [.tmp 26]⟩,
 ⟨some 28, none, .rd .mov [.tmp 5]⟩,
 ⟨some 29, none, .rd .lenL [.tmp 28]⟩,
 ⟨some 30, none, .rd (.bin .sub) [.tmp 29, .pv (.int .i64 1)]⟩,
 ⟨some 31, none, .rd (.bin .rem) [.tmp 27, .tmp 30]⟩,
 ⟨some 7, none, .rd .mov [.tmp 31]⟩] L9)
 (.seq (.region false [⟨some 32, none, .eff (.lit none true) []⟩,
 ⟨some 33, none, .rd .mov [.tmp 5]⟩,
 ⟨some 34, none, .eff (.append none 16) [.tmp 32, .tmp 33]⟩,
 ⟨some 8, none, .rd .mov [.tmp 34]⟩] L9)
 (.seq (.regionA (.alt [⟨some 35, none, .rd .mov [.tmp 8]⟩,
 ⟨some 36, none, .rd .mov [.tmp 7]⟩,
 ⟨some 37, none, .rd .mov [.tmp 8]⟩,
 ⟨some 38, none, .rd .mov [.tmp 7]⟩,
 ⟨some 39, none, .rd (.bin .add) [.tmp 38, .pv (.int .i64 1)]⟩,
 ⟨some 40, none, .rd .mov [.tmp 5]⟩,
 ⟨some 41, none, .rd .mov [.tmp 7]⟩,
 ⟨some 42, none, .rd (.bin .add) [.tmp 41, .pv (.int .i64 1)]⟩,
 ⟨some 43, none, .rd (.idxAddr none) [.tmp 40, .tmp 42]⟩,
 ⟨some 45, none, .rd .mov [.tmp 5]⟩,
 ⟨some 46, none, .rd .mov [.tmp 7]⟩,
 ⟨some 47, none, .rd (.idxAddr none) [.tmp 45, .tmp 46]⟩]
 (.alt [⟨some 44, none, .rd (.load none) [.tmp 43]⟩,
 ⟨some 48, none, .rd (.load none) [.tmp 47]⟩,
 ⟨some 49, none, .rd (.idxAddr none) [.tmp 35, .tmp 36]⟩,
 ⟨none, none, .eff (.store none) [.tmp 49, .tmp 44]⟩,
 ⟨some 50, none, .rd (.idxAddr none) [.tmp 37, .tmp 39]⟩,
 ⟨none, none, .eff (.store none) [.tmp 50, .tmp 48]⟩]
 .done
 (.alt [⟨some 48, none, .rd (.load none) [.tmp 47]⟩,
 ⟨some 44, none, .rd (.load none) [.tmp 43]⟩,
 ⟨some 49, none, .rd (.idxAddr none) [.tmp 35, .tmp 36]⟩,
 ⟨none, none, .eff (.store none) [.tmp 49, .tmp 44]⟩,
 ⟨some 50, none, .rd (.idxAddr none) [.tmp 37, .tmp 39]⟩,
 ⟨none, none, .eff (.store none) [.tmp 50, .tmp 48]⟩]
 .done
 .stop))
 .stop) L9)
 (.seq (.region true [⟨some 51, none, .rd .mov [.tmp 5]⟩,
 ⟨some 52, none, .rd .mov [.tmp 0]⟩,
 ⟨some 53, none, .call (.pv (.fn 21 [] [])) [.tmp 51, .tmp 52]⟩,
 ⟨some 54, none, .rd .mov [.tmp 53]⟩,
 ⟨some 55, some (54, true), .rd .mov [.tmp 8]⟩,
 ⟨some 56, some (54, true), .rd .mov [.tmp 0]⟩,
 ⟨some 57, some (54, true), .call (.pv (.fn 21 [] [])) [.tmp 55, .tmp 56]⟩,
 ⟨some 58, some (54, true), .rd .mov [.tmp 5]⟩,
 ⟨some 59, some (54, true), .rd .mov [.tmp 7]⟩,
 ⟨some 60, some (54, true), .rd (.bin .add) [.tmp 59, .pv (.int .i64 1)]⟩,
 ⟨some 61, some (54, true), .rd (.idxAddr none) [.tmp 58, .tmp 60]⟩,
 ⟨some 62, some (54, true), .rd (.load none) [.tmp 61]⟩,
 ⟨some 63, some (54, true), .rd .mov [.tmp 5]⟩,
 ⟨some 64, some (54, true), .rd .mov [.tmp 7]⟩,
 ⟨some 65, some (54, true), .rd (.idxAddr none) [.tmp 63, .tmp 64]⟩,
 ⟨some 66, some (54, true), .rd (.load none) [.tmp 65]⟩,
 ⟨some 67, some (54, true), .rd .mov [.tmp 0]⟩,
 ⟨some 68, some (54, true), .call (.pv (.fn 24 [] [])) [.tmp 62, .tmp 66, .tmp 67]⟩,
 ⟨some 69, some (54, true), .rd (.un .not) [.tmp 68]⟩,
 ⟨some 70, some (54, true), .rd (.eqB false) [.tmp 57, .tmp 69]⟩,
 ⟨some 71, none, .rd .pick [.tmp 54, .tmp 70, .pv (.bool false)]⟩,
 ⟨some 4, none, .rd .mov [.tmp 71]⟩] L9)
 (.ret))))))))),
 [.tmp 4]⟩
theorem k10 : compileF Try.prog [999999] L10 Try.f10 = some c10 := by kernel_rfl
end Go.Proofs.Ytdiokmmjdpbdbaa

namespace Go.Proofs.Ytdiokmmjdpbdbaa
open Go PG
set_option linter.unusedSimpArgs false
set_option maxRecDepth 100000
/-! The document's example -/
abbrev sNet : St := [110, 101, 116]
abbrev sTax : St := [116, 97, 120]
abbrev sGross : St := [103, 114, 111, 115, 115]
abbrev sFree : St := [102, 114, 101, 101]
abbrev sBase : St := [98, 97, 115, 101]
def payL : List Ed := [⟨sNet, [sGross, sTax]⟩, ⟨sTax, [sGross, sFree]⟩, ⟨sGross, [sBase]⟩]
def twoL : List Ed := [⟨[98], [[97]]⟩, ⟨[97], [[98]]⟩]
theorem sort_eq {L M : List St} (hM : Rise M) (h : L.Perm M) : sortT L = M :=
  rise_uniq (sort_rise (h.nodup_iff.2 hM.nodup)) hM (fun x => by rw [sort_mem]; exact h.mem_iff)
theorem pay_w : wrongM payL = 0 := by decide +kernel
theorem two_w : wrongM twoL = 0 := by decide +kernel
theorem pay_N : nsM payL = [sGross, sNet, sTax] := sort_eq (by decide +kernel) (by decide +kernel)
theorem two_N : nsM twoL = [[97], [98]] := sort_eq (by decide +kernel) (by decide +kernel)
theorem aw1 : sortM payL = ([sGross, sTax, sNet], 0) := by
  unfold sortM
  rw [if_neg (by rw [pay_w]; decide), pay_N]
  have : sortG [sGross, sNet, sTax] (ndM payL) 3 [] = some [sGross, sTax, sNet] := by decide +kernel
  rw [show sortG [sGross, sNet, sTax] (ndM payL) [sGross, sNet, sTax].length [] = some [sGross, sTax, sNet] from this]
theorem aw2 : ringM payL = [] := by
  unfold ringM
  rw [if_neg (by rw [pay_w]; decide), pay_N]
  have h1 : farD [sGross, sNet, sTax] (ndM payL) sGross 3 sGross = 0 := by decide +kernel
  have h2 : farD [sGross, sNet, sTax] (ndM payL) sNet 3 sNet = 0 := by decide +kernel
  have h3 : farD [sGross, sNet, sTax] (ndM payL) sTax 3 sTax = 0 := by decide +kernel
  simp only [bestG, List.length_cons, List.length_nil, Nat.zero_add, Nat.reduceAdd, h1, h2, h3, Nat.lt_irrefl, false_and, if_false]
theorem aw3 : ringM twoL = [[97], [98]] := by
  unfold ringM
  rw [if_neg (by rw [two_w]; decide), two_N]
  have h1 : farD [[97], [98]] (ndM twoL) [97] 2 [97] = 2 := by decide +kernel
  have h2 : farD [[97], [98]] (ndM twoL) [98] 2 [98] = 0 := by decide +kernel
  have h3 : farD [[97], [98]] (ndM twoL) [97] 2 [98] = 1 := by decide +kernel
  have h4 : ndM twoL [97] = [[98]] := by decide +kernel
  have h5 : sortT [[98]] = [[98]] := sort_eq (by decide +kernel) (List.Perm.refl _)
  have h6 : ringT (ndM twoL) [97] (farD [[97], [98]] (ndM twoL) [97] 2) 2 [97] = [[98]] := by
    unfold ringT
    rw [h4, h5]
    have : (decide (([97] : St) < [98]) && decide (farD [[97], [98]] (ndM twoL) [97] 2 [98] = 0 + 1)) = true := by rw [h3]; decide +kernel
    simp only [List.find?_cons, this]
    unfold ringT; rfl
  simp only [bestG, List.length_cons, List.length_nil, Nat.zero_add, Nat.reduceAdd, h1, h2, h6, Nat.lt_irrefl, false_and, if_false]
  rw [if_pos (by simp)]
theorem aw4 : belowM payL sNet = [sBase, sFree, sGross, sTax] := by
  unfold belowM
  rw [if_neg (by rw [pay_N, pay_w]; decide +kernel)]
  have n1 : ndM payL sNet = [sGross, sTax] := by decide +kernel
  have n2 : ndM payL sTax = [sGross, sFree] := by decide +kernel
  have n3 : ndM payL sGross = [sBase] := by decide +kernel
  have n4 : ndM payL sBase = [] := by decide +kernel
  have n5 : ndM payL sFree = [] := by decide +kernel
  have : dfs (ndM payL) ((allN payL).length + 1) sNet [] = [sGross, sBase, sTax, sFree] := by
    show dfs (ndM payL) 6 sNet [] = _
    simp [dfs, dfsL, n1, n2, n3, n4, n5]
  rw [this]
  exact sort_eq (by decide +kernel) (by decide +kernel)
theorem aw5 : aboveM payL sBase = [sGross, sNet, sTax] := by
  have n1 : ndM payL sNet = [sGross, sTax] := by decide +kernel
  have n2 : ndM payL sTax = [sGross, sFree] := by decide +kernel
  have n3 : ndM payL sGross = [sBase] := by decide +kernel
  have h1 : Rch (ndM payL) sGross sBase := .one _ _ (by rw [n3]; simp)
  have h2 : Rch (ndM payL) sTax sBase := .more _ sGross _ (by rw [n2]; simp) h1
  have h3 : Rch (ndM payL) sNet sBase := .more _ sGross _ (by rw [n1]; simp) h1
  refine rise_uniq (above_rise _) (by decide +kernel) fun y => ?_
  rw [above_iff pay_w]
  constructor
  · intro h
    have := rch_in h
    rwa [pay_N] at this
  · intro h
    simp only [List.mem_cons, List.not_mem_nil, or_false] at h
    rcases h with rfl | rfl | rfl
    · exact h1
    · exact h3
    · exact h2
theorem aw6 : rightM payL [sGross, sTax, sNet] = true := by
  have := (sorts_ok (l := payL) (by rw [aw1])).2
  rw [aw1] at this; exact this
end Go.Proofs.Ytdiokmmjdpbdbaa

namespace Go.Proofs.Ytdiokmmjdpbdbaa
open Go PG Go.Proofs
set_option linter.unusedSimpArgs false
set_option linter.unusedVariables false
set_option maxHeartbeats 4000000
set_option maxRecDepth 100000
theorem v25 : VCalls Try.prog G0 25 [] (edL payL) := by
  refine VCalls.of_PW Try.func25 k25 mix (by simp [c25]) ?_
  simp only [c25, L25, argE]
  repeat' (first | exact True.intro | (refine PW.seqK ?_; intro K hK) | refine PW.block ?_ | refine PW.scope ?_ | refine PW.label ?_ | refine PW.exit ?_ | refine PW.ret ?_ | refine PW.skip ?_ | refine seqK_n (by assumption) ?_ | refine seqK_r (by assumption) ?_ | refine seqK_e (by assumption) ?_ | refine PW.regionA ?_ | exact schedW_stop_i | refine schK_n (by assumption) ?_ | (refine schedW_alt_k ?_ ?_; focus (intro K hK; simp only [SS, SS2, SS3, SS4, SS5, Option.map_some, Nat.reduceAdd, reduceIte, Nat.reduceEqDiff, Nat.reduceBEq, eq_self, implies_true, ne_eq, beq_self_eq_true, id_eq, reduceCtorEq]; (try go_unwrap; try simp only [RR, reduceCtorEq]))) | (refine PW.cond rfl ?_ ?_ <;> intro hcond <;> (try contradiction) <;> try simp only [decide_eq_true_eq, decide_eq_false_iff_not] at hcond) | (refine gd_i ?_; intro hg; try simp only [hg]) | ((first | show @LE.le Nat _ _ _ | show @LT.lt Nat _ _ _ | show @LE.le Int _ _ _ | show @LT.lt Int _ _ _ | show @Eq Nat _ _ | show @Eq Int _ _ | show @Eq Bool _ _ | show _ ∨ _ | show ¬ _); first | omega | (simp only [decide_eq_true_eq, decide_eq_false_iff_not, List.length_cons, List.length_nil, List.length_append, List.length_map, Sh.size] <;> omega) | (go_unwrap; omega)) | ((first | refine PW.region ?_ | refine PW.regionQ ?_ | refine schedW_done_i ?_ | show (_ : Post) _ _ _ | show @Eq (List PV) _ _ | show @Eq Bool _ _ | show opsW _ _ _ _ _ _ _ _ | show okAll _ | show @Eq Bool _ _ ∨ _); focus (simp only [SS, SS2, SS3, SS4, SS5, Option.map_some, Nat.reduceAdd, reduceIte, Nat.reduceEqDiff, Nat.reduceBEq, eq_self, implies_true, ne_eq, beq_self_eq_true, id_eq, reduceCtorEq]; (try go_unwrap; try simp only [RR, reduceCtorEq]))) | refine And.intro ?_ ?_ | exact Or.inr ⟨rfl, Nat.le_refl _⟩ | exact (fun h => Bool.noConfusion h))
  all_goals first | rfl | (simp [payL, edP]; done)
theorem nd_first {l : List Ed} {a : St} {i : Nat} (h : i < l.length) (ha : l[i].name = a) (hn : ∀ j (h : j < l.length), j < i → l[j].name ≠ a) : ndM l a = l[i].needs := by
  unfold ndM
  have : l.find? (fun e => decide (e.name = a)) = some l[i] := by
    rw [List.find?_eq_some_iff_getElem]
    exact ⟨by simpa using ha, i, h, rfl, fun j hj => by simpa using hn j (by omega) hj⟩
  rw [this]
theorem nd_nofirst {l : List Ed} {a : St} (hn : ∀ j (h : j < l.length), l[j].name ≠ a) : ndM l a = [] :=
  nd_out fun h => by
    obtain ⟨e, he, hh⟩ := ns_mem.1 h
    obtain ⟨j, hj, rfl⟩ := List.getElem_of_mem he
    exact hn j hj hh
theorem v24 (l : List Ed) (hl : l.length ≤ 1000000000) (hnl : ∀ e ∈ l, e.needs.length ≤ 9223372036854775807) (a b : St) : VCalls Try.prog G0 24 [.str a, .str b, edL l] (.bool (decide (b ∈ ndM l a))) := by
  refine VCalls.of_PW Try.func24 k24 mix (by simp [c24]) ?_
  simp only [c24, L24, argE]
  have hlen : ((l.map edP).length : Nat) = l.length := by simp
  repeat' (first | exact True.intro | (refine PW.seqK ?_; intro K hK) | refine PW.block ?_ | refine PW.scope ?_ | refine PW.label ?_ | refine PW.exit ?_ | refine PW.ret ?_ | refine PW.skip ?_ | refine seqK_n (by assumption) ?_ | refine seqK_r (by assumption) ?_ | refine seqK_e (by assumption) ?_ | refine PW.regionA ?_ | exact schedW_stop_i | refine schK_n (by assumption) ?_ | (refine schedW_alt_k ?_ ?_; focus (intro K hK; simp only [hlen, SS, SS2, SS3, SS4, SS5, Option.map_some, Nat.reduceAdd, reduceIte, Nat.reduceEqDiff, Nat.reduceBEq, eq_self, implies_true, ne_eq, beq_self_eq_true, id_eq, reduceCtorEq]; (try go_unwrap; try simp only [hlen, RR, reduceCtorEq]))) | (refine PW.cond rfl ?_ ?_ <;> intro hcond <;> (try contradiction) <;> try simp only [decide_eq_true_eq, decide_eq_false_iff_not] at hcond) | (refine gd_i ?_; intro hg; try simp only [hg]) | ((first | show @LE.le Nat _ _ _ | show @LT.lt Nat _ _ _ | show @LE.le Int _ _ _ | show @LT.lt Int _ _ _ | show @Eq Nat _ _ | show @Eq Int _ _ | show @Eq Bool _ _ | show _ ∨ _ | show ¬ _); first | omega | (simp only [decide_eq_true_eq, decide_eq_false_iff_not, List.length_cons, List.length_nil, List.length_append, List.length_map, Sh.size] <;> omega) | (go_unwrap; omega)) | ((first | refine PW.region ?_ | refine PW.regionQ ?_ | refine schedW_done_i ?_ | show (_ : Post) _ _ _ | show @Eq (List PV) _ _ | show @Eq Bool _ _ | show opsW _ _ _ _ _ _ _ _ | show okAll _ | show @Eq Bool _ _ ∨ _); focus (simp only [hlen, SS, SS2, SS3, SS4, SS5, Option.map_some, Nat.reduceAdd, reduceIte, Nat.reduceEqDiff, Nat.reduceBEq, eq_self, implies_true, ne_eq, beq_self_eq_true, id_eq, reduceCtorEq]; (try go_unwrap; try simp only [hlen, RR, reduceCtorEq]))) | refine And.intro ?_ ?_ | exact Or.inr ⟨rfl, Nat.le_refl _⟩ | exact (fun h => Bool.noConfusion h))
  refine PW.loop (σ := Nat) [0, 1, 2, 6, 7] (fun i => [.str a, .str b, edL l, .bool false, .int .i64 i]) (fun _ => []) (fun i => i ≤ l.length ∧ ∀ j (h : j < l.length), j < i → l[j].name ≠ a) (fun i => l.length - i) 0 ?_ rfl ⟨by omega, fun j _ h => by omega⟩ ?_
  · simp only [SS, SS2, SS3, SS4, SS5, Option.map_some, Nat.reduceAdd, reduceIte, Nat.reduceEqDiff, Nat.reduceBEq, eq_self, implies_true, ne_eq, beq_self_eq_true, id_eq, reduceCtorEq]; rfl
  rintro i ⟨hi, hall⟩
  simp only [List.zip_cons_cons, List.zip_nil_left]
  rcases Nat.lt_or_ge i l.length with h | h
  · have hd : decide ((i : Int) < l.length) = true := by simp only [decide_eq_true_eq]; omega
    have hg := ed_getD l i h
    have hyes : l[i].name = a → ndM l a = l[i].needs := fun e => nd_first h e hall
    have hnx : l[i].name ≠ a → ∀ j (h : j < l.length), j < i + 1 → l[j].name ≠ a := fun hp j hj hji => by
      rcases Nat.lt_or_ge j i with h' | h'
      · exact hall j hj h'
      · obtain rfl : j = i := by omega
        exact hp
    have hnl := hnl l[i] (List.getElem_mem h)
    generalize l[i] = e at hg hyes hnx hnl
    simp only [edP] at hg
    have h23 := v23 e.needs b hnl
    by_cases he : e.name = a
    · have d1 : decide (e.name = a) = true := by simpa using he
      rw [← hyes he] at h23
      rw [hyes he] at h23
      have hy := hyes he
      repeat' (first | exact True.intro | (refine PW.seqK ?_; intro K hK) | refine PW.block ?_ | refine PW.scope ?_ | refine PW.label ?_ | refine PW.exit ?_ | refine PW.ret ?_ | refine PW.skip ?_ | refine seqK_n (by assumption) ?_ | refine seqK_r (by assumption) ?_ | refine seqK_e (by assumption) ?_ | refine PW.regionA ?_ | exact schedW_stop_i | refine schK_n (by assumption) ?_ | (refine schedW_alt_k ?_ ?_; focus (intro K hK; simp only [hd, hg, hlen, d1, SS, SS2, SS3, SS4, SS5, Option.map_some, Nat.reduceAdd, reduceIte, Nat.reduceEqDiff, Nat.reduceBEq, eq_self, implies_true, ne_eq, beq_self_eq_true, id_eq, reduceCtorEq]; (try go_unwrap; try simp only [hd, hg, hlen, d1, RR, reduceCtorEq]))) | (refine PW.cond rfl ?_ ?_ <;> intro hcond <;> (try contradiction) <;> try simp only [decide_eq_true_eq, decide_eq_false_iff_not] at hcond) | (refine gd_i ?_; intro hg; try simp only [hg]) | refine goCall_W e23 (h23) ?_ ?_ ?_ ?_ | ((first | show @LE.le Nat _ _ _ | show @LT.lt Nat _ _ _ | show @LE.le Int _ _ _ | show @LT.lt Int _ _ _ | show @Eq Nat _ _ | show @Eq Int _ _ | show @Eq Bool _ _ | show _ ∨ _ | show ¬ _); first | omega | (simp only [decide_eq_true_eq, decide_eq_false_iff_not, List.length_cons, List.length_nil, List.length_append, List.length_map, Sh.size] <;> omega) | (go_unwrap; omega)) | ((first | refine PW.region ?_ | refine PW.regionQ ?_ | refine schedW_done_i ?_ | show (_ : Post) _ _ _ | show @Eq (List PV) _ _ | show @Eq Bool _ _ | show opsW _ _ _ _ _ _ _ _ | show okAll _ | show @Eq Bool _ _ ∨ _); focus (simp only [hd, hg, hlen, d1, SS, SS2, SS3, SS4, SS5, Option.map_some, Nat.reduceAdd, reduceIte, Nat.reduceEqDiff, Nat.reduceBEq, eq_self, implies_true, ne_eq, beq_self_eq_true, id_eq, reduceCtorEq]; (try go_unwrap; try simp only [hd, hg, hlen, d1, RR, reduceCtorEq]))) | refine And.intro ?_ ?_ | exact Or.inr ⟨rfl, Nat.le_refl _⟩ | exact (fun h => Bool.noConfusion h))
      all_goals (rw [hy])
    · have d1 : decide (e.name = a) = false := by simpa using he
      have hnx := hnx he
      repeat' (first | exact True.intro | (refine PW.seqK ?_; intro K hK) | refine PW.block ?_ | refine PW.scope ?_ | refine PW.label ?_ | refine PW.exit ?_ | refine PW.ret ?_ | refine PW.skip ?_ | refine seqK_n (by assumption) ?_ | refine seqK_r (by assumption) ?_ | refine seqK_e (by assumption) ?_ | refine PW.regionA ?_ | exact schedW_stop_i | refine schK_n (by assumption) ?_ | (refine schedW_alt_k ?_ ?_; focus (intro K hK; simp only [hd, hg, hlen, d1, SS, SS2, SS3, SS4, SS5, Option.map_some, Nat.reduceAdd, reduceIte, Nat.reduceEqDiff, Nat.reduceBEq, eq_self, implies_true, ne_eq, beq_self_eq_true, id_eq, reduceCtorEq]; (try go_unwrap; try simp only [hd, hg, hlen, d1, RR, reduceCtorEq]))) | (refine PW.cond rfl ?_ ?_ <;> intro hcond <;> (try contradiction) <;> try simp only [decide_eq_true_eq, decide_eq_false_iff_not] at hcond) | (refine gd_i ?_; intro hg; try simp only [hg]) | ((first | show @LE.le Nat _ _ _ | show @LT.lt Nat _ _ _ | show @LE.le Int _ _ _ | show @LT.lt Int _ _ _ | show @Eq Nat _ _ | show @Eq Int _ _ | show @Eq Bool _ _ | show _ ∨ _ | show ¬ _); first | omega | (simp only [decide_eq_true_eq, decide_eq_false_iff_not, List.length_cons, List.length_nil, List.length_append, List.length_map, Sh.size] <;> omega) | (go_unwrap; omega)) | ((first | refine PW.region ?_ | refine PW.regionQ ?_ | refine schedW_done_i ?_ | show (_ : Post) _ _ _ | show @Eq (List PV) _ _ | show @Eq Bool _ _ | show opsW _ _ _ _ _ _ _ _ | show okAll _ | show @Eq Bool _ _ ∨ _); focus (simp only [hd, hg, hlen, d1, SS, SS2, SS3, SS4, SS5, Option.map_some, Nat.reduceAdd, reduceIte, Nat.reduceEqDiff, Nat.reduceBEq, eq_self, implies_true, ne_eq, beq_self_eq_true, id_eq, reduceCtorEq]; (try go_unwrap; try simp only [hd, hg, hlen, d1, RR, reduceCtorEq]))) | refine And.intro ?_ ?_ | exact Or.inr ⟨rfl, Nat.le_refl _⟩ | exact (fun h => Bool.noConfusion h))
      all_goals exact ⟨i + 1, rfl, ⟨by omega, hnx⟩, by omega⟩
  · have hd : decide ((i : Int) < l.length) = false := by simp only [decide_eq_false_iff_not]; omega
    have : ndM l a = [] := nd_nofirst fun j hj => hall j hj (by omega)
    repeat' (first | exact True.intro | (refine PW.seqK ?_; intro K hK) | refine PW.block ?_ | refine PW.scope ?_ | refine PW.label ?_ | refine PW.exit ?_ | refine PW.ret ?_ | refine PW.skip ?_ | refine seqK_n (by assumption) ?_ | refine seqK_r (by assumption) ?_ | refine seqK_e (by assumption) ?_ | refine PW.regionA ?_ | exact schedW_stop_i | refine schK_n (by assumption) ?_ | (refine schedW_alt_k ?_ ?_; focus (intro K hK; simp only [hd, hlen, SS, SS2, SS3, SS4, SS5, Option.map_some, Nat.reduceAdd, reduceIte, Nat.reduceEqDiff, Nat.reduceBEq, eq_self, implies_true, ne_eq, beq_self_eq_true, id_eq, reduceCtorEq]; (try go_unwrap; try simp only [hd, hlen, RR, reduceCtorEq]))) | (refine PW.cond rfl ?_ ?_ <;> intro hcond <;> (try contradiction) <;> try simp only [decide_eq_true_eq, decide_eq_false_iff_not] at hcond) | (refine gd_i ?_; intro hg; try simp only [hg]) | ((first | show @LE.le Nat _ _ _ | show @LT.lt Nat _ _ _ | show @LE.le Int _ _ _ | show @LT.lt Int _ _ _ | show @Eq Nat _ _ | show @Eq Int _ _ | show @Eq Bool _ _ | show _ ∨ _ | show ¬ _); first | omega | (simp only [decide_eq_true_eq, decide_eq_false_iff_not, List.length_cons, List.length_nil, List.length_append, List.length_map, Sh.size] <;> omega) | (go_unwrap; omega)) | ((first | refine PW.region ?_ | refine PW.regionQ ?_ | refine schedW_done_i ?_ | show (_ : Post) _ _ _ | show @Eq (List PV) _ _ | show @Eq Bool _ _ | show opsW _ _ _ _ _ _ _ _ | show okAll _ | show @Eq Bool _ _ ∨ _); focus (simp only [hd, hlen, SS, SS2, SS3, SS4, SS5, Option.map_some, Nat.reduceAdd, reduceIte, Nat.reduceEqDiff, Nat.reduceBEq, eq_self, implies_true, ne_eq, beq_self_eq_true, id_eq, reduceCtorEq]; (try go_unwrap; try simp only [hd, hlen, RR, reduceCtorEq]))) | refine And.intro ?_ ?_ | exact Or.inr ⟨rfl, Nat.le_refl _⟩ | exact (fun h => Bool.noConfusion h))
    all_goals (rw [this]; simp)
theorem v10 : VCalls Try.prog G0 10 [] (.bool true) := by
  refine VCalls.of_PW Try.func10 k10 mix (by simp [c10]) ?_
  simp only [c10, L10, argE]
  have hp := v25
  have hnp : ∀ e ∈ payL, e.needs.length ≤ 9223372036854775807 := by intro e he; simp only [payL, List.mem_cons, List.not_mem_nil, or_false] at he; rcases he with rfl | rfl | rfl <;> simp
  have hnt : ∀ e ∈ twoL, e.needs.length ≤ 9223372036854775807 := by intro e he; simp only [twoL, List.mem_cons, List.not_mem_nil, or_false] at he; rcases he with rfl | rfl <;> simp
  have h20 := v20 payL (by simp [payL]) hnp
  have h13a := v13 payL (by simp [payL]) hnp
  have h13b := v13 twoL (by simp [twoL]) hnt
  have h16 := v16 payL (by simp [payL]) hnp sNet
  have h18 := v18 payL (by simp [payL]) hnp sBase
  have h21 := v21 payL (by simp [payL]) hnp [sGross, sTax, sNet] (by simp)
  rw [aw1] at h20
  rw [aw2] at h13a
  rw [aw3] at h13b
  rw [aw4] at h16
  rw [aw5] at h18
  rw [aw6] at h21
  have t1 := v12 [sGross, sTax, sNet] [sGross, sTax, sNet] (by simp)
  have t2 := v12 [[97], [98]] [[97], [98]] (by simp)
  have t3 := v12 [sBase, sFree, sGross, sTax] [sBase, sFree, sGross, sTax] (by simp)
  have t4 := v12 [sGross, sNet, sTax] [sGross, sNet, sTax] (by simp)
  simp only [decide_true, edL, txL, payL, twoL, edP, List.map_cons, List.map_nil] at hp h20 h13a h13b h16 h18 h21 t1 t2 t3 t4
  have hz : decide (((([] : List PV).length : Nat) : Int) = 0) = true := rfl
  repeat' (first | exact True.intro | (refine PW.seqK ?_; intro K hK) | refine PW.block ?_ | refine PW.scope ?_ | refine PW.label ?_ | refine PW.exit ?_ | refine PW.ret ?_ | refine PW.skip ?_ | refine seqK_n (by assumption) ?_ | refine seqK_r (by assumption) ?_ | refine seqK_e (by assumption) ?_ | refine PW.regionA ?_ | exact schedW_stop_i | refine schK_n (by assumption) ?_ | (refine schedW_alt_k ?_ ?_; focus (intro K hK; simp only [hz, SS, SS2, SS3, SS4, SS5, Option.map_some, Nat.reduceAdd, reduceIte, Nat.reduceEqDiff, Nat.reduceBEq, eq_self, implies_true, ne_eq, beq_self_eq_true, id_eq, reduceCtorEq]; (try go_unwrap; try simp only [hz, RR, reduceCtorEq]))) | (refine PW.cond rfl ?_ ?_ <;> intro hcond <;> (try contradiction) <;> try simp only [decide_eq_true_eq, decide_eq_false_iff_not] at hcond) | (apply goCallG_N e13; (case hV => (intro hg; simp only [hg, hz, SS, SS2, SS3, SS4, SS5, Option.map_some, Nat.reduceAdd, reduceIte, Nat.reduceEqDiff, Nat.reduceBEq, eq_self, implies_true, ne_eq, beq_self_eq_true, id_eq, reduceCtorEq]; (try go_unwrap; try simp only [hz, RR, reduceCtorEq]); exact h13a)); (case hok => (intro hg; first | (simp only [hg, hz, SS, SS2, SS3, SS4, SS5, Option.map_some, Nat.reduceAdd, reduceIte, Nat.reduceEqDiff, Nat.reduceBEq, eq_self, implies_true, ne_eq, beq_self_eq_true, id_eq, reduceCtorEq]; done) | (simp_all [okAll, PV.okUnder]; done))); (case hs => (intro hg; simp only [hg, hz, SS, SS2, SS3, SS4, SS5, Option.map_some, Nat.reduceAdd, reduceIte, Nat.reduceEqDiff, Nat.reduceBEq, eq_self, implies_true, ne_eq, beq_self_eq_true, id_eq, reduceCtorEq])); (case hn => (intro hg; simp only [hg, hz, SS, SS2, SS3, SS4, SS5, Option.map_some, Nat.reduceAdd, reduceIte, Nat.reduceEqDiff, Nat.reduceBEq, eq_self, implies_true, ne_eq, beq_self_eq_true, id_eq, reduceCtorEq])); (case hq => rfl); (simp only [hz, SS, SS2, SS3, SS4, SS5, Option.map_some, Nat.reduceAdd, reduceIte, Nat.reduceEqDiff, Nat.reduceBEq, eq_self, implies_true, ne_eq, beq_self_eq_true, id_eq, reduceCtorEq]; (try go_unwrap; try simp only [hz, RR, reduceCtorEq]))) | (apply goCallG_N e16; (case hV => (intro hg; simp only [hg, hz, SS, SS2, SS3, SS4, SS5, Option.map_some, Nat.reduceAdd, reduceIte, Nat.reduceEqDiff, Nat.reduceBEq, eq_self, implies_true, ne_eq, beq_self_eq_true, id_eq, reduceCtorEq]; (try go_unwrap; try simp only [hz, RR, reduceCtorEq]); exact h16)); (case hok => (intro hg; first | (simp only [hg, hz, SS, SS2, SS3, SS4, SS5, Option.map_some, Nat.reduceAdd, reduceIte, Nat.reduceEqDiff, Nat.reduceBEq, eq_self, implies_true, ne_eq, beq_self_eq_true, id_eq, reduceCtorEq]; done) | (simp_all [okAll, PV.okUnder]; done))); (case hs => (intro hg; simp only [hg, hz, SS, SS2, SS3, SS4, SS5, Option.map_some, Nat.reduceAdd, reduceIte, Nat.reduceEqDiff, Nat.reduceBEq, eq_self, implies_true, ne_eq, beq_self_eq_true, id_eq, reduceCtorEq])); (case hn => (intro hg; simp only [hg, hz, SS, SS2, SS3, SS4, SS5, Option.map_some, Nat.reduceAdd, reduceIte, Nat.reduceEqDiff, Nat.reduceBEq, eq_self, implies_true, ne_eq, beq_self_eq_true, id_eq, reduceCtorEq])); (case hq => rfl); (simp only [hz, SS, SS2, SS3, SS4, SS5, Option.map_some, Nat.reduceAdd, reduceIte, Nat.reduceEqDiff, Nat.reduceBEq, eq_self, implies_true, ne_eq, beq_self_eq_true, id_eq, reduceCtorEq]; (try go_unwrap; try simp only [hz, RR, reduceCtorEq]))) | (apply goCallG_N e18; (case hV => (intro hg; simp only [hg, hz, SS, SS2, SS3, SS4, SS5, Option.map_some, Nat.reduceAdd, reduceIte, Nat.reduceEqDiff, Nat.reduceBEq, eq_self, implies_true, ne_eq, beq_self_eq_true, id_eq, reduceCtorEq]; (try go_unwrap; try simp only [hz, RR, reduceCtorEq]); exact h18)); (case hok => (intro hg; first | (simp only [hg, hz, SS, SS2, SS3, SS4, SS5, Option.map_some, Nat.reduceAdd, reduceIte, Nat.reduceEqDiff, Nat.reduceBEq, eq_self, implies_true, ne_eq, beq_self_eq_true, id_eq, reduceCtorEq]; done) | (simp_all [okAll, PV.okUnder]; done))); (case hs => (intro hg; simp only [hg, hz, SS, SS2, SS3, SS4, SS5, Option.map_some, Nat.reduceAdd, reduceIte, Nat.reduceEqDiff, Nat.reduceBEq, eq_self, implies_true, ne_eq, beq_self_eq_true, id_eq, reduceCtorEq])); (case hn => (intro hg; simp only [hg, hz, SS, SS2, SS3, SS4, SS5, Option.map_some, Nat.reduceAdd, reduceIte, Nat.reduceEqDiff, Nat.reduceBEq, eq_self, implies_true, ne_eq, beq_self_eq_true, id_eq, reduceCtorEq])); (case hq => rfl); (simp only [hz, SS, SS2, SS3, SS4, SS5, Option.map_some, Nat.reduceAdd, reduceIte, Nat.reduceEqDiff, Nat.reduceBEq, eq_self, implies_true, ne_eq, beq_self_eq_true, id_eq, reduceCtorEq]; (try go_unwrap; try simp only [hz, RR, reduceCtorEq]))) | (apply goCallG_V e12; (case hV => (intro hg; simp only [hg, hz, SS, SS2, SS3, SS4, SS5, Option.map_some, Nat.reduceAdd, reduceIte, Nat.reduceEqDiff, Nat.reduceBEq, eq_self, implies_true, ne_eq, beq_self_eq_true, id_eq, reduceCtorEq]; (try go_unwrap; try simp only [hz, RR, reduceCtorEq]); exact t1)); (case hok => (intro hg; first | (simp only [hg, hz, SS, SS2, SS3, SS4, SS5, Option.map_some, Nat.reduceAdd, reduceIte, Nat.reduceEqDiff, Nat.reduceBEq, eq_self, implies_true, ne_eq, beq_self_eq_true, id_eq, reduceCtorEq]; done) | (simp_all [okAll, PV.okUnder]; done))); (case hs => (intro hg; simp only [hg, hz, SS, SS2, SS3, SS4, SS5, Option.map_some, Nat.reduceAdd, reduceIte, Nat.reduceEqDiff, Nat.reduceBEq, eq_self, implies_true, ne_eq, beq_self_eq_true, id_eq, reduceCtorEq])); (case hf => first | rfl | simp only [hz, SS, SS2, SS3, SS4, SS5, Option.map_some, Nat.reduceAdd, reduceIte, Nat.reduceEqDiff, Nat.reduceBEq, eq_self, implies_true, ne_eq, beq_self_eq_true, id_eq, reduceCtorEq]); (simp only [hz, SS, SS2, SS3, SS4, SS5, Option.map_some, Nat.reduceAdd, reduceIte, Nat.reduceEqDiff, Nat.reduceBEq, eq_self, implies_true, ne_eq, beq_self_eq_true, id_eq, reduceCtorEq]; (try go_unwrap; try simp only [hz, RR, reduceCtorEq]))) | (apply goCallG_V e12; (case hV => (intro hg; simp only [hg, hz, SS, SS2, SS3, SS4, SS5, Option.map_some, Nat.reduceAdd, reduceIte, Nat.reduceEqDiff, Nat.reduceBEq, eq_self, implies_true, ne_eq, beq_self_eq_true, id_eq, reduceCtorEq]; (try go_unwrap; try simp only [hz, RR, reduceCtorEq]); exact t2)); (case hok => (intro hg; first | (simp only [hg, hz, SS, SS2, SS3, SS4, SS5, Option.map_some, Nat.reduceAdd, reduceIte, Nat.reduceEqDiff, Nat.reduceBEq, eq_self, implies_true, ne_eq, beq_self_eq_true, id_eq, reduceCtorEq]; done) | (simp_all [okAll, PV.okUnder]; done))); (case hs => (intro hg; simp only [hg, hz, SS, SS2, SS3, SS4, SS5, Option.map_some, Nat.reduceAdd, reduceIte, Nat.reduceEqDiff, Nat.reduceBEq, eq_self, implies_true, ne_eq, beq_self_eq_true, id_eq, reduceCtorEq])); (case hf => first | rfl | simp only [hz, SS, SS2, SS3, SS4, SS5, Option.map_some, Nat.reduceAdd, reduceIte, Nat.reduceEqDiff, Nat.reduceBEq, eq_self, implies_true, ne_eq, beq_self_eq_true, id_eq, reduceCtorEq]); (simp only [hz, SS, SS2, SS3, SS4, SS5, Option.map_some, Nat.reduceAdd, reduceIte, Nat.reduceEqDiff, Nat.reduceBEq, eq_self, implies_true, ne_eq, beq_self_eq_true, id_eq, reduceCtorEq]; (try go_unwrap; try simp only [hz, RR, reduceCtorEq]))) | (apply goCallG_V e12; (case hV => (intro hg; simp only [hg, hz, SS, SS2, SS3, SS4, SS5, Option.map_some, Nat.reduceAdd, reduceIte, Nat.reduceEqDiff, Nat.reduceBEq, eq_self, implies_true, ne_eq, beq_self_eq_true, id_eq, reduceCtorEq]; (try go_unwrap; try simp only [hz, RR, reduceCtorEq]); exact t3)); (case hok => (intro hg; first | (simp only [hg, hz, SS, SS2, SS3, SS4, SS5, Option.map_some, Nat.reduceAdd, reduceIte, Nat.reduceEqDiff, Nat.reduceBEq, eq_self, implies_true, ne_eq, beq_self_eq_true, id_eq, reduceCtorEq]; done) | (simp_all [okAll, PV.okUnder]; done))); (case hs => (intro hg; simp only [hg, hz, SS, SS2, SS3, SS4, SS5, Option.map_some, Nat.reduceAdd, reduceIte, Nat.reduceEqDiff, Nat.reduceBEq, eq_self, implies_true, ne_eq, beq_self_eq_true, id_eq, reduceCtorEq])); (case hf => first | rfl | simp only [hz, SS, SS2, SS3, SS4, SS5, Option.map_some, Nat.reduceAdd, reduceIte, Nat.reduceEqDiff, Nat.reduceBEq, eq_self, implies_true, ne_eq, beq_self_eq_true, id_eq, reduceCtorEq]); (simp only [hz, SS, SS2, SS3, SS4, SS5, Option.map_some, Nat.reduceAdd, reduceIte, Nat.reduceEqDiff, Nat.reduceBEq, eq_self, implies_true, ne_eq, beq_self_eq_true, id_eq, reduceCtorEq]; (try go_unwrap; try simp only [hz, RR, reduceCtorEq]))) | (apply goCallG_V e12; (case hV => (intro hg; simp only [hg, hz, SS, SS2, SS3, SS4, SS5, Option.map_some, Nat.reduceAdd, reduceIte, Nat.reduceEqDiff, Nat.reduceBEq, eq_self, implies_true, ne_eq, beq_self_eq_true, id_eq, reduceCtorEq]; (try go_unwrap; try simp only [hz, RR, reduceCtorEq]); exact t4)); (case hok => (intro hg; first | (simp only [hg, hz, SS, SS2, SS3, SS4, SS5, Option.map_some, Nat.reduceAdd, reduceIte, Nat.reduceEqDiff, Nat.reduceBEq, eq_self, implies_true, ne_eq, beq_self_eq_true, id_eq, reduceCtorEq]; done) | (simp_all [okAll, PV.okUnder]; done))); (case hs => (intro hg; simp only [hg, hz, SS, SS2, SS3, SS4, SS5, Option.map_some, Nat.reduceAdd, reduceIte, Nat.reduceEqDiff, Nat.reduceBEq, eq_self, implies_true, ne_eq, beq_self_eq_true, id_eq, reduceCtorEq])); (case hf => first | rfl | simp only [hz, SS, SS2, SS3, SS4, SS5, Option.map_some, Nat.reduceAdd, reduceIte, Nat.reduceEqDiff, Nat.reduceBEq, eq_self, implies_true, ne_eq, beq_self_eq_true, id_eq, reduceCtorEq]); (simp only [hz, SS, SS2, SS3, SS4, SS5, Option.map_some, Nat.reduceAdd, reduceIte, Nat.reduceEqDiff, Nat.reduceBEq, eq_self, implies_true, ne_eq, beq_self_eq_true, id_eq, reduceCtorEq]; (try go_unwrap; try simp only [hz, RR, reduceCtorEq]))) | (apply goCallG_N e25; (case hV => (intro hg; simp only [hg, hz, SS, SS2, SS3, SS4, SS5, Option.map_some, Nat.reduceAdd, reduceIte, Nat.reduceEqDiff, Nat.reduceBEq, eq_self, implies_true, ne_eq, beq_self_eq_true, id_eq, reduceCtorEq]; (try go_unwrap; try simp only [hz, RR, reduceCtorEq]); exact hp)); (case hok => (intro hg; first | (simp only [hg, hz, SS, SS2, SS3, SS4, SS5, Option.map_some, Nat.reduceAdd, reduceIte, Nat.reduceEqDiff, Nat.reduceBEq, eq_self, implies_true, ne_eq, beq_self_eq_true, id_eq, reduceCtorEq]; done) | (simp_all [okAll, PV.okUnder]; done))); (case hs => (intro hg; simp only [hg, hz, SS, SS2, SS3, SS4, SS5, Option.map_some, Nat.reduceAdd, reduceIte, Nat.reduceEqDiff, Nat.reduceBEq, eq_self, implies_true, ne_eq, beq_self_eq_true, id_eq, reduceCtorEq])); (case hn => (intro hg; simp only [hg, hz, SS, SS2, SS3, SS4, SS5, Option.map_some, Nat.reduceAdd, reduceIte, Nat.reduceEqDiff, Nat.reduceBEq, eq_self, implies_true, ne_eq, beq_self_eq_true, id_eq, reduceCtorEq])); (case hq => rfl); (simp only [hz, SS, SS2, SS3, SS4, SS5, Option.map_some, Nat.reduceAdd, reduceIte, Nat.reduceEqDiff, Nat.reduceBEq, eq_self, implies_true, ne_eq, beq_self_eq_true, id_eq, reduceCtorEq]; (try go_unwrap; try simp only [hz, RR, reduceCtorEq]))) | (refine gd_i ?_; intro hg; try simp only [hg]) | refine goCall_W e20 (h20) ?_ ?_ ?_ ?_ | refine goCall_W e13 (h13b) ?_ ?_ ?_ ?_ | refine goCallG_W e21 (h21) ?_ ?_ ?_ ?_ ?_ | refine goCall_W e25 (hp) ?_ ?_ ?_ ?_ | ((first | show @LE.le Nat _ _ _ | show @LT.lt Nat _ _ _ | show @LE.le Int _ _ _ | show @LT.lt Int _ _ _ | show @Eq Nat _ _ | show @Eq Int _ _ | show @Eq Bool _ _ | show _ ∨ _ | show ¬ _); first | omega | (simp only [decide_eq_true_eq, decide_eq_false_iff_not, List.length_cons, List.length_nil, List.length_append, List.length_map, Sh.size] <;> omega) | (go_unwrap; omega)) | ((first | refine PW.region ?_ | refine PW.regionQ ?_ | refine schedW_done_i ?_ | show (_ : Post) _ _ _ | show @Eq (List PV) _ _ | show @Eq Bool _ _ | show opsW _ _ _ _ _ _ _ _ | show okAll _ | show @Eq Bool _ _ ∨ _); focus (simp only [hz, SS, SS2, SS3, SS4, SS5, Option.map_some, Nat.reduceAdd, reduceIte, Nat.reduceEqDiff, Nat.reduceBEq, eq_self, implies_true, ne_eq, beq_self_eq_true, id_eq, reduceCtorEq]; (try go_unwrap; try simp only [hz, RR, reduceCtorEq]))) | refine And.intro ?_ ?_ | exact Or.inr ⟨rfl, Nat.le_refl _⟩ | exact (fun h => Bool.noConfusion h))
  all_goals skip
end Go.Proofs.Ytdiokmmjdpbdbaa

namespace Go.Proofs.Ytdiokmmjdpbdbaa
open PG Go.Proofs
-- wagebook/wagebookref14.Ring
def L17 : List Nat := [0, 1, 4, 5, 6, 7, 8, 9, 10, 13, 19, 39, 53]
def c17 : CF := ⟨62,
 .seq (.region false [⟨some 4, none, .rd .mov [.pv .nilSl]⟩] L17)
 (.seq (.seq (.region false [⟨some 11, none, .rd .mov [.tmp 1]⟩,
 ⟨some 12, none, .call (.pv (.fn 32 [] [])) [.tmp 11]⟩,
 ⟨some 13, none, .rd (.bin .neq) [.tmp 12, .pv (.int .i64 0)]⟩] L17)
 (.cond (.tmp 13)
 (.seq (.region false [⟨some 4, none, .rd .mov [.pv .nilSl]⟩] L17)
 (.ret))
 (.skip)))
 (.seq (.region false [⟨some 5, none, .rd .mov [.pv .nilSl]⟩] L17)
 (.seq (.region false [⟨some 14, none, .rd .mov [.tmp 0]⟩,
 ⟨some 15, none, .eff (.lit none true) [.tmp 14]⟩,
 ⟨some 6, none, .rd .mov [.tmp 15]⟩] L17)
 (.seq (.seq (.region false [⟨some 7, none, .rd .mov [.pv (.int .i64 0)]⟩] L17)
 (.block 0
 (.loop
 (.seq (.seq (.region false [⟨some 16, none, .rd .mov [.tmp 7]⟩,
 ⟨some 17, none, .rd .mov [.tmp 6]⟩,
 ⟨some 18, none, .rd .lenL [.tmp 17]⟩,
 ⟨some 19, none, .rd (.bin .lss) [.tmp 16, .tmp 18]⟩] L17)
 (.cond (.tmp 19)
 (.skip)
 (.exit 0)))
 (.seq (.block 1
 (.seq (.region false [⟨some 22, none, .rd .mov [.tmp 1]⟩,
 ⟨some 23, none, .rd .mov [.tmp 6]⟩,
 ⟨some 24, none, .rd .mov [.tmp 7]⟩,
 ⟨some 25, none, .rd (.idxAddr none) [.tmp 23, .tmp 24]⟩,
 ⟨some 26, none, .rd (.load none) [.tmp 25]⟩,
 ⟨some 27, none, .call (.pv (.fn 37 [] [])) [.tmp 22, .tmp 26]⟩,
 ⟨some 8, none, .rd .mov [.tmp 27]⟩] L17)
 (.seq (.region false [⟨some 9, none, .rd .mov [.pv (.int .i64 0)]⟩] L17)
 (.block 2
 (.loop
 (.seq (.seq (.region false [⟨some 28, none, .rd .mov [.tmp 8]⟩,
 ⟨some 29, none, .rd (.bin .geq) [.tmp 28, .pv (.int .i64 0)]⟩,
 ⟨some 30, none, .rd .mov [.tmp 29]⟩,
 ⟨some 31, some (30, true), .rd .mov [.tmp 9]⟩,
 ⟨some 32, some (30, true), .rd .mov [.tmp 1]⟩,
 ⟨some 33, some (30, true), .rd .mov [.tmp 8]⟩,
 ⟨some 34, some (30, true), .rd (.idxAddr (some 2)) [.tmp 32, .tmp 33]⟩,
 ⟨some 35, some (30, true), .rd (.fldAddr 1) [.tmp 34]⟩,
 ⟨some 36, some (30, true), .rd (.load none) [.tmp 35]⟩,
 ⟨some 37, some (30, true), .rd .lenL [.tmp 36]⟩,
 ⟨some 38, some (30, true), .rd (.bin .lss) [.tmp 31, .tmp 37]⟩,
 ⟨some 39, none, .rd .pick [.tmp 30, .tmp 38, .pv (.bool false)]⟩] L17)
 (.cond (.tmp 39)
 (.skip)
 (.exit 2)))
 (.seq (.block 3
 (.seq (.region false [⟨some 42, none, .rd .mov [.tmp 1]⟩,
 ⟨some 43, none, .rd .mov [.tmp 8]⟩,
 ⟨some 44, none, .rd (.idxAddr (some 2)) [.tmp 42, .tmp 43]⟩,
 ⟨some 45, none, .rd (.fldAddr 1) [.tmp 44]⟩,
 ⟨some 46, none, .rd (.load none) [.tmp 45]⟩,
 ⟨some 47, none, .rd .mov [.tmp 9]⟩,
 ⟨some 48, none, .rd (.idxAddr none) [.tmp 46, .tmp 47]⟩,
 ⟨some 49, none, .rd (.load none) [.tmp 48]⟩,
 ⟨some 10, none, .rd .mov [.tmp 49]⟩] L17)
 (.seq (.region false [⟨some 50, none, .rd .mov [.tmp 5]⟩,
 ⟨some 51, none, .rd .mov [.tmp 10]⟩,
 ⟨some 52, none, .call (.pv (.fn 23 [] [])) [.tmp 50, .tmp 51]⟩,
 ⟨some 53, none, .rd (.un .not) [.tmp 52]⟩] L17)
 (.cond (.tmp 53)
 (.seq (.region false [⟨some 54, none, .rd .mov [.tmp 5]⟩,
 ⟨some 55, none, .rd .mov [.tmp 10]⟩,
 ⟨some 56, none, .call (.pv (.fn 38 [] [])) [.tmp 54, .tmp 55]⟩,
 ⟨some 5, none, .rd .mov [.tmp 56]⟩] L17)
 (.region false [⟨some 57, none, .rd .mov [.tmp 6]⟩,
 ⟨some 58, none, .rd .mov [.tmp 10]⟩,
 ⟨some 59, none, .eff (.lit none false) [.tmp 58]⟩,
 ⟨some 60, none, .eff (.append none 16) [.tmp 57, .tmp 59]⟩,
 ⟨some 6, none, .rd .mov [.tmp 60]⟩] L17))
 (.skip)))))
 (.region false [⟨some 40, none, .rd .mov [.tmp 9]⟩,
 ⟨some 41, none, .rd (.bin .add) [.tmp 40, .pv (.int .i64 1)]⟩,
 ⟨some 9, none, .rd .mov [.tmp 41]⟩] L17))))))))
 (.region false [⟨some 20, none, .rd .mov [.tmp 7]⟩,
 ⟨some 21, none, .rd (.bin .add) [.tmp 20, .pv (.int .i64 1)]⟩,
 ⟨some 7, none, .rd .mov [.tmp 21]⟩] L17))))))
 (.seq (.region false [⟨some 61, none, .rd .mov [.tmp 5]⟩,
 ⟨some 4, none, .rd .mov [.tmp 61]⟩] L17)
 (.ret)))))),
 [.tmp 4]⟩

-- wagebook/wagebookref14.Above
def L19 : List Nat := [0, 1, 4, 5, 6, 9, 13, 24]
def c19 : CF := ⟨33,
 .seq (.region false [⟨some 4, none, .rd .mov [.pv .nilSl]⟩] L19)
 (.seq (.seq (.region false [⟨some 7, none, .rd .mov [.tmp 1]⟩,
 ⟨some 8, none, .call (.pv (.fn 32 [] [])) [.tmp 7]⟩,
 ⟨some 9, none, .rd (.bin .neq) [.tmp 8, .pv (.int .i64 0)]⟩] L19)
 (.cond (.tmp 9)
 (.seq (.region false [⟨some 4, none, .rd .mov [.pv .nilSl]⟩] L19)
 (.ret))
 (.skip)))
 (.seq (.region false [⟨some 5, none, .rd .mov [.pv .nilSl]⟩] L19)
 (.seq (.seq (.region false [⟨some 6, none, .rd .mov [.pv (.int .i64 0)]⟩] L19)
 (.block 0
 (.loop
 (.seq (.seq (.region false [⟨some 10, none, .rd .mov [.tmp 6]⟩,
 ⟨some 11, none, .rd .mov [.tmp 1]⟩,
 ⟨some 12, none, .rd .lenL [.tmp 11]⟩,
 ⟨some 13, none, .rd (.bin .lss) [.tmp 10, .tmp 12]⟩] L19)
 (.cond (.tmp 13)
 (.skip)
 (.exit 0)))
 (.seq (.block 1
 (.seq (.region false [⟨some 16, none, .rd .mov [.tmp 1]⟩,
 ⟨some 17, none, .rd .mov [.tmp 6]⟩,
 ⟨some 18, none, .rd (.idxAddr (some 2)) [.tmp 16, .tmp 17]⟩,
 ⟨some 19, none, .rd (.fldAddr 0) [.tmp 18]⟩,
 ⟨some 20, none, .rd (.load none) [.tmp 19]⟩,
 ⟨some 21, none, .rd .mov [.tmp 1]⟩,
 ⟨some 22, none, .call (.pv (.fn 17 [] [])) [.tmp 20, .tmp 21]⟩,
 ⟨some 23, none, .rd .mov [.tmp 0]⟩,
 ⟨some 24, none, .call (.pv (.fn 23 [] [])) [.tmp 22, .tmp 23]⟩] L19)
 (.cond (.tmp 24)
 (.region false [⟨some 25, none, .rd .mov [.tmp 5]⟩,
 ⟨some 26, none, .rd .mov [.tmp 1]⟩,
 ⟨some 27, none, .rd .mov [.tmp 6]⟩,
 ⟨some 28, none, .rd (.idxAddr (some 2)) [.tmp 26, .tmp 27]⟩,
 ⟨some 29, none, .rd (.fldAddr 0) [.tmp 28]⟩,
 ⟨some 30, none, .rd (.load none) [.tmp 29]⟩,
 ⟨some 31, none, .call (.pv (.fn 38 [] [])) [.tmp 25, .tmp 30]⟩,
 ⟨some 5, none, .rd .mov [.tmp 31]⟩] L19)
 (.skip))))
 (.region false [⟨some 14, none, .rd .mov [.tmp 6]⟩,
 ⟨some 15, none, .rd (.bin .add) [.tmp 14, .pv (.int .i64 1)]⟩,
 ⟨some 6, none, .rd .mov [.tmp 15]⟩] L19))))))
 (.seq (.region false [⟨some 32, none, .rd .mov [.tmp 5]⟩,
 ⟨some 4, none, .rd .mov [.tmp 32]⟩] L19)
 (.ret))))),
 [.tmp 4]⟩

-- wagebook/wagebookref14.Check
def L32 : List Nat := [0, 2, 3, 4, 5, 8, 12, 21, 28, 36, 48, 51, 64]
def c32 : CF := ⟨65,
 .seq (.region false [⟨some 2, none, .rd .mov [.pv (.int .i64 0)]⟩] L32)
 (.seq (.seq (.region false [⟨some 6, none, .rd .mov [.tmp 0]⟩,
 ⟨some 7, none, .rd .lenL [.tmp 6]⟩,
 ⟨some 8, none, .rd (.bin .gtr) [.tmp 7, .pv (.int .i64 64)]⟩] L32)
 (.cond (.tmp 8)
 (.seq (.region false [⟨some 2, none, .rd .mov [.pv (.int .i64 5)]⟩] L32)
 (.ret))
 (.skip)))
 (.seq (.seq (.region false [⟨some 3, none, .rd .mov [.pv (.int .i64 0)]⟩] L32)
 (.block 0
 (.loop
 (.seq (.seq (.region false [⟨some 9, none, .rd .mov [.tmp 3]⟩,
 ⟨some 10, none, .rd .mov [.tmp 0]⟩,
 ⟨some 11, none, .rd .lenL [.tmp 10]⟩,
 ⟨some 12, none, .rd (.bin .lss) [.tmp 9, .tmp 11]⟩] L32)
 (.cond (.tmp 12)
 (.skip)
 (.exit 0)))
 (.seq (.block 1
 (.seq (.seq (.region false [⟨some 15, none, .rd .mov [.tmp 0]⟩,
 ⟨some 16, none, .rd .mov [.tmp 3]⟩,
 ⟨some 17, none, .rd (.idxAddr (some 2)) [.tmp 15, .tmp 16]⟩,
 ⟨some 18, none, .rd (.fldAddr 0) [.tmp 17]⟩,
 ⟨some 19, none, .rd (.load none) [.tmp 18]⟩,
 ⟨some 20, none, .call (.pv (.fn 51 [] [])) [.tmp 19]⟩,
 ⟨some 21, none, .rd (.un .not) [.tmp 20]⟩] L32)
 (.cond (.tmp 21)
 (.seq (.region false [⟨some 2, none, .rd .mov [.pv (.int .i64 12)]⟩] L32)
 (.ret))
 (.skip)))
 (.seq (.seq (.region false [⟨some 22, none, .rd .mov [.tmp 0]⟩,
 ⟨some 23, none, .rd .mov [.tmp 3]⟩,
 ⟨some 24, none, .rd (.idxAddr (some 2)) [.tmp 22, .tmp 23]⟩,
 ⟨some 25, none, .rd (.fldAddr 1) [.tmp 24]⟩,
 ⟨some 26, none, .rd (.load none) [.tmp 25]⟩,
 ⟨some 27, none, .rd .lenL [.tmp 26]⟩,
 ⟨some 28, none, .rd (.bin .gtr) [.tmp 27, .pv (.int .i64 64)]⟩] L32)
 (.cond (.tmp 28)
 (.seq (.region false [⟨some 2, none, .rd .mov [.pv (.int .i64 5)]⟩] L32)
 (.ret))
 (.skip)))
 (.seq (.seq (.region false [⟨some 4, none, .rd .mov [.pv (.int .i64 0)]⟩] L32)
 (.block 2
 (.loop
 (.seq (.seq (.region false [⟨some 29, none, .rd .mov [.tmp 4]⟩,
 ⟨some 30, none, .rd .mov [.tmp 0]⟩,
 ⟨some 31, none, .rd .mov [.tmp 3]⟩,
 ⟨some 32, none, .rd (.idxAddr (some 2)) [.tmp 30, .tmp 31]⟩,
 ⟨some 33, none, .rd (.fldAddr 1) [.tmp 32]⟩,
 ⟨some 34, none, .rd (.load none) [.tmp 33]⟩,
 ⟨some 35, none, .rd .lenL [.tmp 34]⟩,
 ⟨some 36, none, .rd (.bin .lss) [.tmp 29, .tmp 35]⟩] L32)
 (.cond (.tmp 36)
 (.skip)
 (.exit 2)))
 (.seq (.block 3
 (.seq (.region false [⟨some 39, none, .rd .mov [.tmp 0]⟩,
 ⟨some 40, none, .rd .mov [.tmp 3]⟩,
 ⟨some 41, none, .rd (.idxAddr (some 2)) [.tmp 39, .tmp 40]⟩,
 ⟨some 42, none, .rd (.fldAddr 1) [.tmp 41]⟩,
 ⟨some 43, none, .rd (.load none) [.tmp 42]⟩,
 ⟨some 44, none, .rd .mov [.tmp 4]⟩,
 ⟨some 45, none, .rd (.idxAddr none) [.tmp 43, .tmp 44]⟩,
 ⟨some 46, none, .rd (.load none) [.tmp 45]⟩,
 ⟨some 47, none, .call (.pv (.fn 51 [] [])) [.tmp 46]⟩,
 ⟨some 48, none, .rd (.un .not) [.tmp 47]⟩] L32)
 (.cond (.tmp 48)
 (.seq (.region false [⟨some 2, none, .rd .mov [.pv (.int .i64 12)]⟩] L32)
 (.ret))
 (.skip))))
 (.region false [⟨some 37, none, .rd .mov [.tmp 4]⟩,
 ⟨some 38, none, .rd (.bin .add) [.tmp 37, .pv (.int .i64 1)]⟩,
 ⟨some 4, none, .rd .mov [.tmp 38]⟩] L32))))))
 (.seq (.region false [⟨some 5, none, .rd .mov [.pv (.int .i64 0)]⟩] L32)
 (.block 4
 (.loop
 (.seq (.seq (.region false [⟨some 49, none, .rd .mov [.tmp 5]⟩,
 ⟨some 50, none, .rd .mov [.tmp 3]⟩,
 ⟨some 51, none, .rd (.bin .lss) [.tmp 49, .tmp 50]⟩] L32)
 (.cond (.tmp 51)
 (.skip)
 (.exit 4)))
 (.seq (.block 5
 (.seq (.region true [⟨some 54, none, .rd .mov [.tmp 0]⟩,
 ⟨some 55, none, .rd .mov [.tmp 5]⟩,
 ⟨some 56, none, .rd (.idxAddr (some 2)) [.tmp 54, .tmp 55]⟩,
 ⟨some 57, none, .rd (.fldAddr 0) [.tmp 56]⟩,
 ⟨some 58, none, .rd (.load none) [.tmp 57]⟩,
 ⟨some 59, none, .rd .mov [.tmp 0]⟩,
 ⟨some 60, none, .rd .mov [.tmp 3]⟩,
 ⟨some 61, none, .rd (.idxAddr (some 2)) [.tmp 59, .tmp 60]⟩,
 ⟨some 62, none, .rd (.fldAddr 0) [.tmp 61]⟩,
 ⟨some 63, none, .rd (.load none) [.tmp 62]⟩,
 ⟨some 64, none, .rd (.bin .eql) [.tmp 58, .tmp 63]⟩] L32)
 (.cond (.tmp 64)
 (.seq (.region false [⟨some 2, none, .rd .mov [.pv (.int .i64 7)]⟩] L32)
 (.ret))
 (.skip))))
 (.region false [⟨some 52, none, .rd .mov [.tmp 5]⟩,
 ⟨some 53, none, .rd (.bin .add) [.tmp 52, .pv (.int .i64 1)]⟩,
 ⟨some 5, none, .rd .mov [.tmp 53]⟩] L32))))))))))
 (.region false [⟨some 13, none, .rd .mov [.tmp 3]⟩,
 ⟨some 14, none, .rd (.bin .add) [.tmp 13, .pv (.int .i64 1)]⟩,
 ⟨some 3, none, .rd .mov [.tmp 14]⟩] L32))))))
 (.seq (.region false [⟨some 2, none, .rd .mov [.pv (.int .i64 0)]⟩] L32)
 (.ret)))),
 [.tmp 2]⟩

-- wagebook/wagebookref14.ring
def L3 : List Nat := [0, 2, 4, 7]
def c3 : CF := ⟨14,
 .seq (.region false [⟨some 2, none, .rd .mov [.pv (.bool false)]⟩] L3)
 (.seq (.seq (.region false [⟨some 3, none, .call (.pv (.fn 10 [] [])) []⟩,
 ⟨some 4, none, .rd (.un .not) [.tmp 3]⟩] L3)
 (.cond (.tmp 4)
 (.seq (.region false [⟨some 2, none, .rd .mov [.pv (.bool false)]⟩] L3)
 (.ret))
 (.skip)))
 (.seq (.seq (.region false [⟨some 5, none, .rd .mov [.tmp 0]⟩,
 ⟨some 6, none, .call (.pv (.fn 11 [] [])) [.tmp 5, .pv (.int .i64 24)]⟩,
 ⟨some 7, none, .rd (.un .not) [.tmp 6]⟩] L3)
 (.cond (.tmp 7)
 (.seq (.region false [⟨some 2, none, .rd .mov [.pv (.bool true)]⟩] L3)
 (.ret))
 (.skip)))
 (.seq (.region false [⟨some 8, none, .rd .mov [.tmp 0]⟩,
 ⟨some 9, none, .call (.pv (.fn 13 [] [])) [.tmp 8]⟩,
 ⟨some 10, none, .rd .mov [.tmp 0]⟩,
 ⟨some 11, none, .call (.pv (.fn 15 [] [])) [.tmp 10]⟩,
 ⟨some 12, none, .call (.pv (.fn 14 [] [])) [.tmp 11]⟩,
 ⟨some 13, none, .call (.pv (.fn 12 [] [])) [.tmp 9, .tmp 12]⟩,
 ⟨some 2, none, .rd .mov [.tmp 13]⟩] L3)
 (.ret)))),
 [.tmp 2]⟩

-- wagebook/wagebooklaw14.OrderSides
def L4 : List Nat := [0, 1, 4, 6, 14]
def c4 : CF := ⟨33,
 .seq (.region false [⟨some 4, none, .rd .mov [.pv (.bool false)]⟩] L4)
 (.seq (.seq (.region false [⟨some 5, none, .call (.pv (.fn 10 [] [])) []⟩,
 ⟨some 6, none, .rd (.un .not) [.tmp 5]⟩] L4)
 (.cond (.tmp 6)
 (.seq (.region false [⟨some 4, none, .rd .mov [.pv (.bool false)]⟩] L4)
 (.ret))
 (.skip)))
 (.seq (.seq (.region false [⟨some 7, none, .rd .mov [.tmp 0]⟩,
 ⟨some 8, none, .call (.pv (.fn 11 [] [])) [.tmp 7, .pv (.int .i64 24)]⟩,
 ⟨some 9, none, .rd (.un .not) [.tmp 8]⟩,
 ⟨some 10, none, .rd .mov [.tmp 9]⟩,
 ⟨some 11, some (10, false), .rd .mov [.tmp 1]⟩,
 ⟨some 12, some (10, false), .rd .lenS [.tmp 11]⟩,
 ⟨some 13, some (10, false), .rd (.bin .gtr) [.tmp 12, .pv (.int .i64 60)]⟩,
 ⟨some 14, none, .rd .pick [.tmp 10, .pv (.bool true), .tmp 13]⟩] L4)
 (.cond (.tmp 14)
 (.seq (.region false [⟨some 4, none, .rd .mov [.pv (.bool true)]⟩] L4)
 (.ret))
 (.skip)))
 (.seq (.region false [⟨some 15, none, .rd .mov [.tmp 1]⟩,
 ⟨some 16, none, .rd .mov [.tmp 0]⟩,
 ⟨some 17, none, .call (.pv (.fn 16 [] [])) [.tmp 15, .tmp 16]⟩,
 ⟨some 18, none, .rd .mov [.tmp 1]⟩,
 ⟨some 19, none, .rd .mov [.tmp 0]⟩,
 ⟨some 20, none, .call (.pv (.fn 15 [] [])) [.tmp 19]⟩,
 ⟨some 21, none, .call (.pv (.fn 17 [] [])) [.tmp 18, .tmp 20]⟩,
 ⟨some 22, none, .call (.pv (.fn 12 [] [])) [.tmp 17, .tmp 21]⟩,
 ⟨some 23, none, .rd .mov [.tmp 22]⟩,
 ⟨some 24, some (23, true), .rd .mov [.tmp 1]⟩,
 ⟨some 25, some (23, true), .rd .mov [.tmp 0]⟩,
 ⟨some 26, some (23, true), .call (.pv (.fn 18 [] [])) [.tmp 24, .tmp 25]⟩,
 ⟨some 27, some (23, true), .rd .mov [.tmp 1]⟩,
 ⟨some 28, some (23, true), .rd .mov [.tmp 0]⟩,
 ⟨some 29, some (23, true), .call (.pv (.fn 15 [] [])) [.tmp 28]⟩,
 ⟨some 30, some (23, true), .call (.pv (.fn 19 [] [])) [.tmp 27, .tmp 29]⟩,
 ⟨some 31, some (23, true), .call (.pv (.fn 12 [] [])) [.tmp 26, .tmp 30]⟩,
 ⟨some 32, none, .rd .pick [.tmp 23, .tmp 31, .pv (.bool false)]⟩,
 ⟨some 4, none, .rd .mov [.tmp 32]⟩] L4)
 (.ret)))),
 [.tmp 4]⟩
theorem k17 : compileF Try.prog [15] L17 Try.f17 = some c17 := by kernel_rfl
theorem k19 : compileF Try.prog [] L19 Try.f19 = some c19 := by kernel_rfl
theorem k32 : compileF Try.prog [] L32 Try.f32 = some c32 := by kernel_rfl
theorem k3 : compileF Try.prog [] L3 Try.f3 = some c3 := by kernel_rfl
theorem k4 : compileF Try.prog [] L4 Try.f4 = some c4 := by kernel_rfl
end Go.Proofs.Ytdiokmmjdpbdbaa

