import Derived.Test.YthekpjhffciakaaDoorProg
import Derived.KernelRfl
import Derived.Shelf.SortM.Plain
import Derived.Shelf.SortM.SortNone
import Derived.Shelf.SlicesG.CompactS
import Derived.Lib.RowBridge
import Derived.Test.YthekpjhffciakaaDoorQ6
import Derived.Test.YthekpjhffciakaaDoorP4
namespace Go.Proofs.YthekpjhffciakaaDoor
open Go PG Go.Proofs
set_option linter.unusedSimpArgs false
set_option linter.unusedVariables false
set_option maxHeartbeats 4000000
set_option maxRecDepth 100000
/-- A node that is right by itself. -/
structure NdOk (n : Nd) : Prop where
  op0 : 0 ≤ n.op
  op9 : n.op ≤ 9
  num : n.op = 0 → 0 ≤ n.num ∧ n.num ≤ 1000000000000000000
  name : n.name.length ≤ 100
  kids : n.kids.length ≤ 3
  two : 2 ≤ n.op → n.op ≤ 4 → n.kids.length = 2
end Go.Proofs.YthekpjhffciakaaDoor

namespace Go.Proofs.YthekpjhffciakaaDoor
open Go PG Go.Proofs
set_option linter.unusedSimpArgs false
set_option linter.unusedVariables false
set_option maxHeartbeats 4000000
set_option maxRecDepth 100000
abbrev trO (l : List Nd) : MObj := .var (some 1) (.agg [.list (some 4) (l.map ndP)])
abbrev txO : MObj := .var none (.fn 55 [] [.ref 0 0, .ref 1 0])
/-- A text, as a contract: the tree and the closure stay as they are. -/
def TxC (l : List Nd) (i least : Int) (ν : Mem) (r : List UInt8) : Prop :=
  PCalls Tryd.prog G0 55 [.int .i64 i, .int .i64 least, .ref 0 0, .ref 1 0] (some (trO l) :: some txO :: ν) (fun _ => false) (fun p μ' => p = .str r ∧ μ' = some (trO l) :: some txO :: ν)
theorem TxC.frame {l : List Nd} {i least : Int} {r : List UInt8} (h : TxC l i least [] r) (ν : Mem) (hν : ν.map (Option.map (MObj.kill fun _ => false)) = ν) : TxC l i least ν r := by
  have := PCalls.frame h ν (by rintro p μ' ⟨-, rfl⟩; rfl) (by simp [PV.kill]) (by simp [MObj.kill, PV.kill]) hν
  intro w κ vs hS hG hr
  refine (this w κ vs hS hG hr).mono ?_
  rintro e w' ⟨v, p, μ', κ', rfl, ⟨μ1, ⟨rfl, rfl⟩, rfl⟩, hS', hv, hg⟩
  exact ⟨v, _, _, κ', rfl, ⟨rfl, rfl⟩, hS', hv, hg⟩
end Go.Proofs.YthekpjhffciakaaDoor

namespace Go.Proofs.YthekpjhffciakaaDoor
open Go PG Go.Proofs
set_option linter.unusedSimpArgs false
set_option linter.unusedVariables false
set_option maxHeartbeats 4000000
set_option maxRecDepth 100000
end Go.Proofs.YthekpjhffciakaaDoor

namespace Go.Proofs.YthekpjhffciakaaDoor
open Go PG Go.Proofs
/-- The globals that the laws of eval lay: kidsOf alone. -/
abbrev GK : Globs := fun g => if g = 1 then some (some 10, kidsTabP) else none
theorem hasKK : HasKids GK := rfl
end Go.Proofs.YthekpjhffciakaaDoor

namespace Go.Proofs.YthekpjhffciakaaDoor
open PG Go.Proofs
-- (wagebook/expr.Tree).Vars
def L34 : List Nat := [0, 1, 2, 3, 5, 8, 10, 11, 12, 13, 18]
def c34 : CF := ⟨29,
 .seq (.region false [⟨some 1, none, .eff (.box (some 1)) [.tmp 0]⟩,
 ⟨some 2, none, .rd .mov [.pv .nilSl]⟩] L34)
 (.seq (.seq (.region false [⟨some 6, none, .rd (.load (some 1)) [.tmp 1]⟩,
 ⟨some 7, none, .call (.pv (.fn 29 [] [])) [.tmp 6]⟩,
 ⟨some 8, none, .rd (.bin .neq) [.tmp 7, .pv (.int .i64 0)]⟩] L34)
 (.cond (.tmp 8)
 (.seq (.region false [⟨some 2, none, .rd .mov [.pv .nilSl]⟩] L34)
 (.ret))
 (.skip)))
 (.seq (.region false [⟨some 3, none, .rd .mov [.pv .nilSl]⟩] L34)
 (.seq (.seq (.region false [oF 0 9 1,
 oL 10 9,
 ⟨some 11, none, .rd .lenL [.tmp 10]⟩,
 ⟨some 12, none, .rd .mov [.pv (.int .i64 0)]⟩] L34)
 (.block 0
 (.loop
 (.seq (.region false [⟨some 13, none, .rd (.bin .lss) [.tmp 12, .tmp 11]⟩] L34)
 (.seq (.cond (.tmp 13)
 (.skip)
 (.exit 0))
 (.seq (.block 1
 (.seq (.region false [⟨some 14, none, .rd (.idxAddr (some 4)) [.tmp 10, .tmp 12]⟩,
 ⟨some 15, none, .rd (.load (some 4)) [.tmp 14]⟩,
 ⟨some 5, none, .eff (.alloc (some 4) (.agg [(.int .i64 0), (.int .i64 0), (.str []), .nilSl])) []⟩,
 ⟨none, none, .eff (.store (some 4)) [.tmp 5, .tmp 15]⟩] L34)
 (.seq (.region false [oF 0 16 5,
 oL 17 16,
 ⟨some 18, none, .rd (.bin .eql) [.tmp 17, .pv (.int .i64 1)]⟩] L34)
 (.cond (.tmp 18)
 (.region false [oM 19 3,
 oF 2 20 5,
 oL 21 20,
 ⟨some 22, none, .eff (.lit none false) [.tmp 21]⟩,
 ⟨some 23, none, .eff (.append none 16) [.tmp 19, .tmp 22]⟩,
 oM 3 23] L34)
 (.skip)))))
 (.region false [⟨some 24, none, .rd (.bin .add) [.tmp 12, .pv (.int .i64 1)]⟩,
 oM 12 24] L34)))))))
 (.seq (.region false [oM 25 3,
 ⟨some 26, none, .call (.pv (.fn 63 [] [])) [.tmp 25]⟩] L34)
 (.seq (.region false [oM 27 3,
 ⟨some 28, none, .call (.pv (.fn 64 [] [])) [.tmp 27]⟩,
 oM 2 28] L34)
 (.ret)))))),
 [.tmp 2]⟩

-- wagebook/wagebooklaw13.same
def L35 : List Nat := [0, 2]
def c35 : CF := ⟨8,
 .seq (.region false [⟨some 2, none, .rd .mov [.pv (.int .i64 0)]⟩] L35)
 (.seq (.region false [oM 3 0,
 oM 4 0,
 ⟨some 5, none, .rd .lenL [.tmp 4]⟩,
 ⟨some 6, none, .rd (.bin .sub) [.tmp 5, .pv (.int .i64 1)]⟩,
 ⟨some 7, none, .call (.pv (.fn 52 [] [])) [.tmp 3, .tmp 6]⟩,
 oM 2 7] L35)
 (.ret)),
 [.tmp 2]⟩

-- wagebook/wagebooklaw13.great
def L24 : List Nat := [0, 1, 2, 3, 4, 16]
def c24 : CF := ⟨38,
 .seq (.region false [⟨some 1, none, .eff (.box (some 1)) [.tmp 0]⟩,
 ⟨some 2, none, .rd .mov [.pv (.bool false)]⟩] L24)
 (.seq (.region false [oF 0 5 1,
 oL 6 5,
 ⟨some 7, none, .rd .lenL [.tmp 6]⟩,
 oM 3 7] L24)
 (.seq (.seq (.region false [⟨some 4, none, .rd .mov [.pv (.int .i64 0)]⟩] L24)
 (.block 0
 (.loop
 (.seq (.seq (.region false [oM 8 4,
 oF 0 9 1,
 oL 10 9,
 ⟨some 11, none, .rd .lenL [.tmp 10]⟩,
 ⟨some 12, none, .rd (.bin .lss) [.tmp 8, .tmp 11]⟩,
 oM 13 12,
 qM 13 true 14 3,
 ⟨some 15, some (13, true), .rd (.bin .leq) [.tmp 14, .pv (.int .i64 1000)]⟩,
 ⟨some 16, none, .rd .pick [.tmp 13, .tmp 15, .pv (.bool false)]⟩] L24)
 (.cond (.tmp 16)
 (.skip)
 (.exit 0)))
 (.seq (.block 1
 (.region true [oM 19 3,
 oF 0 20 1,
 oL 21 20,
 oM 22 4,
 ⟨some 23, none, .rd (.idxAddr (some 4)) [.tmp 21, .tmp 22]⟩,
 oF 3 24 23,
 oL 25 24,
 ⟨some 26, none, .rd .lenL [.tmp 25]⟩,
 ⟨some 27, none, .rd (.bin .add) [.tmp 19, .tmp 26]⟩,
 oF 0 28 1,
 oL 29 28,
 oM 30 4,
 ⟨some 31, none, .rd (.idxAddr (some 4)) [.tmp 29, .tmp 30]⟩,
 oF 2 32 31,
 oL 33 32,
 ⟨some 34, none, .rd .lenS [.tmp 33]⟩,
 ⟨some 35, none, .rd (.bin .add) [.tmp 27, .tmp 34]⟩,
 oM 3 35] L24))
 (.region false [oM 17 4,
 ⟨some 18, none, .rd (.bin .add) [.tmp 17, .pv (.int .i64 1)]⟩,
 oM 4 18] L24))))))
 (.seq (.region false [oM 36 3,
 ⟨some 37, none, .rd (.bin .gtr) [.tmp 36, .pv (.int .i64 1000)]⟩,
 oM 2 37] L24)
 (.ret)))),
 [.tmp 2]⟩

-- wagebook/wagebooklaw13.check
theorem k34 : compileF Tryd.prog [] L34 Tryd.f34 = some c34 := by kernel_rfl
end Go.Proofs.YthekpjhffciakaaDoor

namespace Go.Proofs.YthekpjhffciakaaDoor
open Go PG Go.Proofs Go.Shelf
set_option linter.unusedSimpArgs false
set_option linter.unusedVariables false
set_option maxHeartbeats 4000000
set_option maxRecDepth 100000
def Tryd.sortS_ren : Go.Shelf.Ren := ⟨fun | 6 => 63 | 8 => 93 | 9 => 92 | 19 => 116 | 20 => 117 | 21 => 107 | 22 => 108 | 23 => 109 | 24 => 110 | 25 => 111 | 26 => 112 | 27 => 113 | 28 => 114 | 29 => 115 | 36 => 132 | 31 => 133 | 32 => 134 | 37 => 135 | 38 => 136 | 39 => 137 | 41 => 141 | n => n, fun | 27 => 76 | 29 => 9 | 3 => 3 | 32 => 140 | 26 => 76 | 0 => 0 | 44 => 160 | 46 => 145 | 4 => 4 | 36 => 153 | 35 => 152 | 41 => 157 | 5 => 5 | 9 => 9 | 53 => 172 | 57 => 176 | 63 => 180 | 64 => 181 | n => n, fun | n => n⟩
theorem Tryd.sortS : Go.Proofs.SlLaysM.n6 Tryd.prog Tryd.sortS_ren := {
  mixed := by kernel_rfl
  f6 := ⟨Tryd.f63.name, by decide, Tryd.func63.trans (congrArg some (by kernel_rfl))⟩
  f8 := Tryd.func93.trans (congrArg some (by kernel_rfl))
  f9 := ⟨Tryd.f92.name, by decide, Tryd.func92.trans (congrArg some (by kernel_rfl))⟩
  f19 := Tryd.func116.trans (congrArg some (by kernel_rfl))
  f20 := Tryd.func117.trans (congrArg some (by kernel_rfl))
  f21 := ⟨Tryd.f107.name, by decide, Tryd.func107.trans (congrArg some (by kernel_rfl))⟩
  f22 := ⟨Tryd.f108.name, by decide, Tryd.func108.trans (congrArg some (by kernel_rfl))⟩
  f23 := ⟨Tryd.f109.name, by decide, Tryd.func109.trans (congrArg some (by kernel_rfl))⟩
  f24 := ⟨Tryd.f110.name, by decide, Tryd.func110.trans (congrArg some (by kernel_rfl))⟩
  f25 := ⟨Tryd.f111.name, by decide, Tryd.func111.trans (congrArg some (by kernel_rfl))⟩
  f26 := ⟨Tryd.f112.name, by decide, Tryd.func112.trans (congrArg some (by kernel_rfl))⟩
  f27 := ⟨Tryd.f113.name, by decide, Tryd.func113.trans (congrArg some (by kernel_rfl))⟩
  f28 := ⟨Tryd.f114.name, by decide, Tryd.func114.trans (congrArg some (by kernel_rfl))⟩
  f29 := ⟨Tryd.f115.name, by decide, Tryd.func115.trans (congrArg some (by kernel_rfl))⟩
  f31 := Tryd.func133.trans (congrArg some (by kernel_rfl))
  f32 := Tryd.func134.trans (congrArg some (by kernel_rfl))
  f36 := ⟨Tryd.f132.name, by decide, Tryd.func132.trans (congrArg some (by kernel_rfl))⟩
  f37 := ⟨Tryd.f135.name, by decide, Tryd.func135.trans (congrArg some (by kernel_rfl))⟩
  f38 := ⟨Tryd.f136.name, by decide, Tryd.func136.trans (congrArg some (by kernel_rfl))⟩
  f39 := ⟨Tryd.f137.name, by decide, Tryd.func137.trans (congrArg some (by kernel_rfl))⟩
  f41 := ⟨Tryd.f141.name, by decide, Tryd.func141.trans (congrArg some (by kernel_rfl))⟩
  t0 := Tryd.underlying0
  a0 := Tryd.isAgg0
  z0 := Tryd.sizeOf0
  v0 := Tryd.zeroValue0
  t3 := Tryd.underlying3
  a3 := Tryd.isAgg3
  z3 := Tryd.sizeOf3
  v3 := Tryd.zeroValue3
  t4 := Tryd.underlying4
  a4 := Tryd.isAgg4
  z4 := Tryd.sizeOf4
  v4 := Tryd.zeroValue4
  t5 := Tryd.underlying5
  a5 := Tryd.isAgg5
  z5 := Tryd.sizeOf5
  v5 := Tryd.zeroValue5
  t9 := Tryd.underlying9
  a9 := Tryd.isAgg9
  z9 := Tryd.sizeOf9
  v9 := Tryd.zeroValue9
  t26 := Tryd.underlying76
  a26 := Tryd.isAgg76
  z26 := Tryd.sizeOf76
  v26 := Tryd.zeroValue76
  t27 := Tryd.underlying76
  a27 := Tryd.isAgg76
  z27 := Tryd.sizeOf76
  v27 := Tryd.zeroValue76
  t29 := Tryd.underlying9
  a29 := Tryd.isAgg9
  z29 := Tryd.sizeOf9
  v29 := Tryd.zeroValue9
  t32 := Tryd.underlying140
  a32 := Tryd.isAgg140
  z32 := Tryd.sizeOf140
  v32 := Tryd.zeroValue140
  t35 := Tryd.underlying152
  a35 := Tryd.isAgg152
  z35 := Tryd.sizeOf152
  v35 := Tryd.zeroValue152
  t36 := Tryd.underlying153
  a36 := Tryd.isAgg153
  z36 := Tryd.sizeOf153
  v36 := Tryd.zeroValue153
  t41 := Tryd.underlying157
  a41 := Tryd.isAgg157
  z41 := Tryd.sizeOf157
  v41 := Tryd.zeroValue157
  t44 := Tryd.underlying160
  a44 := Tryd.isAgg160
  z44 := Tryd.sizeOf160
  v44 := Tryd.zeroValue160
  t46 := Tryd.underlying145
  a46 := Tryd.isAgg145
  z46 := Tryd.sizeOf145
  v46 := Tryd.zeroValue145
  t53 := Tryd.underlying172
  a53 := Tryd.isAgg172
  z53 := Tryd.sizeOf172
  v53 := Tryd.zeroValue172
  t57 := Tryd.underlying176
  a57 := Tryd.isAgg176
  z57 := Tryd.sizeOf176
  v57 := Tryd.zeroValue176
  t63 := Tryd.underlying180
  a63 := Tryd.isAgg180
  z63 := Tryd.sizeOf180
  v63 := Tryd.zeroValue180
  t64 := Tryd.underlying181
  a64 := Tryd.isAgg181
  z64 := Tryd.sizeOf181
  v64 := Tryd.zeroValue181 }
def Tryd.cmpS_ren : Go.Shelf.Ren := ⟨fun | 44 => 64 | n => n, fun | 25 => 76 | 26 => 9 | 3 => 3 | 4 => 4 | 0 => 0 | n => n, fun | n => n⟩
theorem Tryd.cmpS : Go.Proofs.SlLaysN.n44 Tryd.prog Tryd.cmpS_ren := {
  mixed := by kernel_rfl
  f44 := ⟨Tryd.f64.name, by decide, Tryd.func64.trans (congrArg some (by kernel_rfl))⟩
  t0 := Tryd.underlying0
  a0 := Tryd.isAgg0
  z0 := Tryd.sizeOf0
  v0 := Tryd.zeroValue0
  t3 := Tryd.underlying3
  a3 := Tryd.isAgg3
  z3 := Tryd.sizeOf3
  v3 := Tryd.zeroValue3
  t4 := Tryd.underlying4
  a4 := Tryd.isAgg4
  z4 := Tryd.sizeOf4
  v4 := Tryd.zeroValue4
  t25 := Tryd.underlying76
  a25 := Tryd.isAgg76
  z25 := Tryd.sizeOf76
  v25 := Tryd.zeroValue76
  t26 := Tryd.underlying9
  a26 := Tryd.isAgg9
  z26 := Tryd.sizeOf9
  v26 := Tryd.zeroValue9
  i26 := by kernel_rfl }
/-! Sorting, and dropping doubles, of a row of texts of one's own -/
theorem encStr_rep (w : World) (ex : Nat → Prop) (a : List UInt8) : RepC w ex (Value.string ⟨a.toArray⟩) (.str a) := RepC.str (w := w) (ex := ex) ⟨a.toArray⟩
theorem e63 : Ent Tryd.prog 63 := ⟨Tryd.f63, Tryd.func63, by kernel_rfl, by kernel_rfl⟩
theorem e64 : Ent Tryd.prog 64 := ⟨Tryd.f64, Tryd.func64, by kernel_rfl, by kernel_rfl⟩
abbrev sortT (ds : List (List UInt8)) : List (List UInt8) := ds.mergeSort fun x y => decide (x ≤ y)
theorem v63 {μ : Mem} {t : Nat} (ds : List (List UInt8)) (hl : ds.length ≤ 4000000000) (hm : μ.get t = some (.row none (ds.map PV.str))) :
    PCalls Tryd.prog GK 63 [.sl none t ds.length] μ (fun _ => false) (fun p μ' => p = .tup [] ∧ μ' = μ.set t (some (.row none ((sortT ds).map PV.str)))) := by
  refine PCalls.row (enc := fun (l : List UInt8) => Value.string ⟨l.toArray⟩) (pv := PV.str) encStr_rep (fun a => ⟨by simp [PV.flat], rfl⟩) (d := ds) (d' := sortT ds) (List.length_mergeSort _) hm (rv := fun _ _ => .tuple #[]) ?_ ?_ (fun w κ a cap _ => .closed (.tup _ _ rfl (fun i v p a b => by simp at a)))
  · intro blk off cap w hH hblk hcap
    exact AnyM.slices_Sort_string Tryd.sortS blk off cap ds w hH hblk (by omega)
  · intro h w
    exact AnyM.slices_Sort_string_none Tryd.sortS none 0 w
theorem compactT_len (ds : List (List UInt8)) : (Lib.compact ds).length ≤ ds.length := Lib.compact_length_le ds
def cmpT (ds : List (List UInt8)) : List (List UInt8) := Lib.compact ds ++ List.replicate (ds.length - (Lib.compact ds).length) []
theorem cmpT_len (ds : List (List UInt8)) : (cmpT ds).length = ds.length := by
  have := compactT_len ds
  simp [cmpT]; omega
theorem v64 {μ : Mem} {t : Nat} (ds : List (List UInt8)) (hl : ds.length ≤ 4000000000) (hm : μ.get t = some (.row none (ds.map PV.str))) :
    PCalls Tryd.prog GK 64 [.sl none t ds.length] μ (fun _ => false) (fun p μ' => p = .sl none t (Lib.compact ds).length ∧ μ' = μ.set t (some (.row none ((cmpT ds).map PV.str)))) := by
  have hle := compactT_len ds
  refine PCalls.row (enc := fun (l : List UInt8) => Value.string ⟨l.toArray⟩) (pv := PV.str) encStr_rep (fun a => ⟨by simp [PV.flat], rfl⟩) (d := ds) (d' := cmpT ds) (cmpT_len ds) hm (rv := fun a cap => .slice a (Lib.compact ds).length cap) ?_ ?_ ?_
  · intro blk off cap w hH hblk hcap
    refine (AnyG.slices_Compact_string Tryd.cmpS blk off cap ds w hH (by omega) hcap).mono ?_
    rintro e w' ⟨rfl, q, rfl⟩
    refine ⟨rfl, q, #[], ?_⟩
    have hg : ∀ w : World, Sort.grow w #[] = w := fun w => by cases w; simp [Sort.grow]
    rw [hg]; rfl
  · intro h w
    subst h
    exact AnyG.slices_Compact_string_empty Tryd.cmpS none 0 w
  · intro w κ a cap h
    generalize hn : ds.length = n at h hle
    cases h with
    | closed h => cases h
    | sl _ _ _ b _ hb hs hl' hm' => exact .sl _ _ _ _ _ hb hs (by omega) hm'
    | slnil _ _ hb =>
      rw [show (Lib.compact ds).length = 0 by omega]
      exact .slnil _ _ hb
/-! The variables of a tree -/
theorem e34 : Ent Tryd.prog 34 := ⟨Tryd.f34, Tryd.func34, by kernel_rfl, by kernel_rfl⟩
def namesV (l : List Nd) : List (List UInt8) := (l.filter fun n => decide (n.op = 1)).map (·.name)
def varsM (l : List Nd) : List (List UInt8) := Lib.compact (sortT (namesV l))
theorem namesV_snoc (l : List Nd) (n : Nd) : namesV (l ++ [n]) = namesV l ++ (if n.op = 1 then [n.name] else []) := by
  unfold namesV
  rw [List.filter_append, List.map_append]
  by_cases h : n.op = 1
  · simp [h]
  · simp [h]
theorem namesV_len (l : List Nd) : (namesV l).length ≤ l.length := by
  unfold namesV; rw [List.length_map]; exact List.length_filter_le _ _
theorem v34 (l : List Nd) (hs : ∀ n ∈ l, n.name.length ≤ 9223372036854775807 ∧ n.kids.length ≤ 9223372036854775807) (hl : l.length ≤ 256) (hc : checkM l = 0) : VCalls Tryd.prog GK 34 [treeP l] (.list none ((varsM l).map PV.str)) := by
  refine VCalls.of_PW Tryd.func34 k34 mix (by simp [c34]) ?_
  simp only [c34, L34, CC, argE]
  have h29 := v29 hasKK l (by omega) hs
  rw [hc] at h29
  simp only [treeP] at h29 ⊢
  have q0 : decide ((0 : Int) = 0) = true := rfl
  have hll : ((l.map ndP).length : Nat) = l.length := by simp
  repeat' (first | exact True.intro | (exact Or.inr ⟨rfl, by decide⟩) | (refine PW.seqK ?_; intro K hK) | refine stp ?_ | refine seqK_n ‹_› ?_ | refine seqK_r ‹_› ?_ | refine seqK_e ‹_› ?_ | exact schedW_stop_i | refine schK_n ‹_› ?_ | (refine PW.cond rfl ?_ ?_ <;> intro hcond <;> (try contradiction) <;> try simp only [DD] at hcond) | (refine gd_i ?_; intro hg; try simp only [hg]) | refine goCall_W e29 (h29) ?_ ?_ ?_ ?_ | (refine ari ?_; first | omega | (simp only [DD, LL] <;> omega) | (go_unwrap; omega)) | ((first | refine stq ?_ | show (_ : Post) _ _ _ | (refine schedW_alt_k ?_ ?_; intro K hK)); focus (simp only [q0, hll, SA, Nat.reduceAdd, reduceIte, Nat.reduceEqDiff, Nat.reduceBEq, reduceCtorEq]; (try go_unwrap; try simp only [q0, hll, RR, reduceCtorEq]))) | refine And.intro ?_ ?_ | exact Or.inr ⟨rfl, Nat.le_refl _⟩ | exact (fun h => Bool.noConfusion h))
  refine PW.own none 3 rfl ?_
  refine PW.loopG (σ := Nat) 2 (fun _ _ => rfl) [1, 2, 3, 10, 11, 12] (fun i => [.ref 0 0, .nilSl, .sl none 1 (namesV (l.take i)).length, .list (some 4) (l.map ndP), .int .i64 l.length, .int .i64 i])
    (fun i => [some (.var (some 1) (.agg [.list (some 4) (l.map ndP)])), some (.row none ((namesV (l.take i)).map PV.str))]) (fun i => i ≤ l.length) (fun i => l.length - i) 0 ?_ (by simp [namesV]) (by omega) ?_
  · simp only [SA, Nat.reduceAdd, reduceIte, Nat.reduceEqDiff, Nat.reduceBEq, reduceCtorEq]; rfl
  intro i hi
  simp only [List.zip_cons_cons, List.zip_nil_left]
  rcases Nat.lt_or_ge i l.length with h | h
  · have hd : decide ((i : Int) < l.length) = true := by simp only [decide_eq_true_eq]; omega
    obtain ⟨n, -, hn, hg⟩ := drop_at h
    have hgn := ((hg ndP).1).trans (ndP1 n)
    have hst : namesV (l.take (i + 1)) = namesV (l.take i) ++ (if n.op = 1 then [n.name] else []) := by
      rw [List.take_succ_eq_append_getElem h, namesV_snoc]
      have : l[i] = n := by rw [List.getElem?_eq_getElem h] at hn; exact Option.some.inj hn
      rw [this]
    have hrl := namesV_len (l.take i)
    have htl : (l.take i).length ≤ l.length := by simp; omega
    generalize namesV (l.take i) = R at hst hrl
    have hRl : ((R.map PV.str).length : Nat) = R.length := by simp
    have hRt : (R.map PV.str).take R.length = R.map PV.str := List.take_of_length_le (by simp)
    have b1 : (R.length + 1) * 16 ≤ 281474976710656 := by omega
    by_cases ho : n.op = 1
    · rw [if_pos ho] at hst
      have d1 : decide (n.op = 1) = true := decide_eq_true ho
      repeat' (first | exact True.intro | (refine PW.seqK ?_; intro K hK) | refine stp ?_ | refine seqK_n ‹_› ?_ | refine seqK_r ‹_› ?_ | refine seqK_e ‹_› ?_ | exact schedW_stop_i | refine schK_n ‹_› ?_ | (refine PW.cond rfl ?_ ?_ <;> intro hcond <;> (try contradiction) <;> try simp only [DD] at hcond) | (refine gd_i ?_; intro hg; try simp only [hg]) | (refine ari ?_; first | omega | (simp only [DD, LL] <;> omega) | (go_unwrap; omega)) | ((first | refine stq ?_ | show (_ : Post) _ _ _ | (refine schedW_alt_k ?_ ?_; intro K hK)); focus (simp only [hd, hgn, d1, hll, hRl, hRt, SA, Nat.reduceAdd, reduceIte, Nat.reduceEqDiff, Nat.reduceBEq, reduceCtorEq]; (try go_unwrap; try simp only [hd, hgn, d1, hll, hRl, hRt, RR, reduceCtorEq]))) | refine And.intro ?_ ?_ | exact Or.inr ⟨rfl, Nat.le_refl _⟩ | exact (fun h => Bool.noConfusion h))
      all_goals exact ⟨i + 1, (by rw [hst, List.length_append]; exact (by first | rfl | (simp only [TT, MObj.kill, PV.kill, Nat.reduceLeDiff, reduceIte, Nat.le_refl, Nat.zero_le, Nat.not_le, Nat.lt_irrefl]; done) | (simp [trimE, trimM, MObj.kill, PV.kill]; done))), (by rw [hst, List.map_append]; exact (by first | rfl | (simp only [TT, MObj.kill, PV.kill, Nat.reduceLeDiff, reduceIte, Nat.le_refl, Nat.zero_le, Nat.not_le, Nat.lt_irrefl]; done) | (simp [trimE, trimM, MObj.kill, PV.kill]; done))), by omega, by omega⟩
    · rw [if_neg ho, List.append_nil] at hst
      have d1 : decide (n.op = 1) = false := decide_eq_false ho
      repeat' (first | exact True.intro | (refine PW.seqK ?_; intro K hK) | refine stp ?_ | refine seqK_n ‹_› ?_ | refine seqK_r ‹_› ?_ | refine seqK_e ‹_› ?_ | exact schedW_stop_i | refine schK_n ‹_› ?_ | (refine PW.cond rfl ?_ ?_ <;> intro hcond <;> (try contradiction) <;> try simp only [DD] at hcond) | (refine gd_i ?_; intro hg; try simp only [hg]) | (refine ari ?_; first | omega | (simp only [DD, LL] <;> omega) | (go_unwrap; omega)) | ((first | refine stq ?_ | show (_ : Post) _ _ _ | (refine schedW_alt_k ?_ ?_; intro K hK)); focus (simp only [hd, hgn, d1, hll, hRl, SA, Nat.reduceAdd, reduceIte, Nat.reduceEqDiff, Nat.reduceBEq, reduceCtorEq]; (try go_unwrap; try simp only [hd, hgn, d1, hll, hRl, RR, reduceCtorEq]))) | refine And.intro ?_ ?_ | exact Or.inr ⟨rfl, Nat.le_refl _⟩ | exact (fun h => Bool.noConfusion h))
      all_goals exact ⟨i + 1, (by rw [hst]; exact (by first | rfl | (simp only [TT, MObj.kill, PV.kill, Nat.reduceLeDiff, reduceIte, Nat.le_refl, Nat.zero_le, Nat.not_le, Nat.lt_irrefl]; done) | (simp [trimE, trimM, MObj.kill, PV.kill]; done))), (by rw [hst]; exact (by first | rfl | (simp only [TT, MObj.kill, PV.kill, Nat.reduceLeDiff, reduceIte, Nat.le_refl, Nat.zero_le, Nat.not_le, Nat.lt_irrefl]; done) | (simp [trimE, trimM, MObj.kill, PV.kill]; done))), by omega, by omega⟩
  · have hd : decide ((i : Int) < l.length) = false := by simp only [decide_eq_false_iff_not]; omega
    have hi' : i = l.length := by omega
    subst hi'
    simp only [List.take_length]
    have hun : varsM l = Lib.compact (sortT (namesV l)) := rfl
    have hrl := namesV_len l
    generalize namesV l = R at hun hrl
    have hsl : (sortT R).length = R.length := List.length_mergeSort _
    have h64 : ∀ (μ : Mem), μ.get 1 = some (.row none ((sortT R).map PV.str)) → PCalls Tryd.prog GK 64 [.sl none 1 R.length] μ (fun _ => false) (fun p μ' => p = .sl none 1 (Lib.compact (sortT R)).length ∧ μ' = μ.set 1 (some (.row none ((cmpT (sortT R)).map PV.str)))) := fun μ hm => by
      have := v64 (μ := μ) (t := 1) (sortT R) (by omega) hm
      rw [hsl] at this; exact this
    repeat' (first | exact True.intro | (refine PW.seqK ?_; intro K hK) | refine stp ?_ | refine seqK_n ‹_› ?_ | refine seqK_r ‹_› ?_ | refine seqK_e ‹_› ?_ | exact schedW_stop_i | refine schK_n ‹_› ?_ | (refine PW.cond rfl ?_ ?_ <;> intro hcond <;> (try contradiction) <;> try simp only [DD] at hcond) | (refine goCall_P e63 (v63 R (by omega) rfl) ?_; rintro p μ' ⟨rfl, rfl⟩; simp only [hd, hll, SA, Nat.reduceAdd, reduceIte, Nat.reduceEqDiff, Nat.reduceBEq, reduceCtorEq]) | (refine goCall_P e64 (h64 _ rfl) ?_; rintro p μ' ⟨rfl, rfl⟩; simp only [hd, hll, SA, Nat.reduceAdd, reduceIte, Nat.reduceEqDiff, Nat.reduceBEq, reduceCtorEq]) | (refine gd_i ?_; intro hg; try simp only [hg]) | (refine ari ?_; first | omega | (simp only [DD, LL] <;> omega) | (go_unwrap; omega)) | ((first | refine stq ?_ | show (_ : Post) _ _ _ | (refine schedW_alt_k ?_ ?_; intro K hK)); focus (simp only [hd, hll, SA, Nat.reduceAdd, reduceIte, Nat.reduceEqDiff, Nat.reduceBEq, reduceCtorEq]; (try go_unwrap; try simp only [hd, hll, RR, reduceCtorEq]))) | refine And.intro ?_ ?_ | exact Or.inr ⟨rfl, Nat.le_refl _⟩ | exact (fun h => Bool.noConfusion h))
    · simp only [decide_eq_true_eq, List.length_map, cmpT_len]; exact compactT_len _
    · rw [if_pos (by simp only [List.length_map, cmpT_len]; exact compactT_len _), hun]
      congr 1
      rw [← List.map_take]
      congr 1
      simp [cmpT]
end Go.Proofs.YthekpjhffciakaaDoor

namespace Go.Proofs.YthekpjhffciakaaDoor
open Go PG Go.Proofs
set_option linter.unusedSimpArgs false
set_option linter.unusedVariables false
set_option maxRecDepth 100000
theorem tx_tr (a b c : List UInt8) : decide (a ≤ b) = true → decide (b ≤ c) = true → decide (a ≤ c) = true := by
  simp only [decide_eq_true_eq]; exact List.le_trans
theorem tx_tt (a b : List UInt8) : (decide (a ≤ b) || decide (b ≤ a)) = true := by
  simp only [Bool.or_eq_true, decide_eq_true_eq]; exact List.le_total a b
/-! Texts that rise, each once -/
abbrev Str (L : List (List UInt8)) : Prop := L.Pairwise (· < ·)
theorem lt_of {a b : List UInt8} (h : a ≤ b) (hn : a ≠ b) : a < b := by
  by_cases h1 : a < b
  · exact h1
  · exact absurd (List.le_antisymm h h1) hn
theorem Str.nodup {L : List (List UInt8)} (h : Str L) : L.Nodup := h.imp fun h e => by subst e; exact List.lt_irrefl _ h
theorem sort_mem {L : List (List UInt8)} {x : List UInt8} : x ∈ sortT L ↔ x ∈ L := (List.mergeSort_perm L _).mem_iff
theorem cmpT_props (d : Array (List UInt8)) (hs : ∀ i j, i ≤ j → j < d.size → d[i]! ≤ d[j]!) : ∀ m, m ≤ d.size → Str (Lib.compactUpTo d m) ∧ ∀ x, x ∈ Lib.compactUpTo d m ↔ ∃ j, j < m ∧ d[j]! = x
  | 0, _ => by simp [Lib.compactUpTo, Str]
  | m + 1, hm => by
    obtain ⟨h1, h2⟩ := cmpT_props d hs m (by omega)
    rw [Lib.compactUpTo_succ]
    by_cases hk : Lib.keeps d m = true
    · rw [if_pos hk]
      have hlt : ∀ x ∈ Lib.compactUpTo d m, x < d[m]! := by
        intro x hx
        obtain ⟨j, hj, rfl⟩ := (h2 x).1 hx
        have h3 := hs j (m - 1) (by omega) (by omega)
        have h4 := hs (m - 1) m (by omega) (by omega)
        have h5 : d[m]! ≠ d[m - 1]! := by
          unfold Lib.keeps at hk
          simp only [decide_eq_true_eq] at hk
          rcases hk with h | h
          · omega
          · exact h
        refine lt_of (List.le_trans h3 h4) fun e => ?_
        rw [e] at h3
        exact h5 (List.le_antisymm h3 h4)
      refine ⟨?_, fun x => ?_⟩
      · refine List.pairwise_append.2 ⟨h1, by simp, fun x hx y hy => by simp at hy; subst hy; exact hlt x hx⟩
      · rw [List.mem_append, h2 x]
        simp only [List.mem_singleton]
        constructor
        · rintro (⟨j, hj, e⟩ | rfl)
          · exact ⟨j, by omega, e⟩
          · exact ⟨m, by omega, rfl⟩
        · rintro ⟨j, hj, e⟩
          rcases Nat.lt_or_ge j m with h | h
          · exact .inl ⟨j, h, e⟩
          · have : j = m := by omega
            subst this; exact .inr e.symm
    · rw [if_neg hk, List.append_nil]
      have hk' : m ≠ 0 ∧ d[m]! = d[m - 1]! := by
        unfold Lib.keeps at hk
        simp only [decide_eq_true_eq] at hk
        exact ⟨fun h => hk (.inl h), Classical.byContradiction fun h => hk (.inr h)⟩
      refine ⟨h1, fun x => ?_⟩
      rw [h2 x]
      constructor
      · rintro ⟨j, hj, e⟩; exact ⟨j, by omega, e⟩
      · rintro ⟨j, hj, e⟩
        rcases Nat.lt_or_ge j m with h | h
        · exact ⟨j, h, e⟩
        · have : j = m := by omega
          subst this
          exact ⟨j - 1, by omega, by rw [← hk'.2]; exact e⟩
theorem cmpT_sort (R : List (List UInt8)) : Str (Lib.compact (sortT R)) ∧ ∀ x, x ∈ Lib.compact (sortT R) ↔ x ∈ R := by
  have hp := List.pairwise_mergeSort tx_tr tx_tt R
  have hs : ∀ i j, i ≤ j → j < (sortT R).toArray.size → (sortT R).toArray[i]! ≤ (sortT R).toArray[j]! := by
    intro i j hij hj
    have hj' : j < (sortT R).length := by rw [List.size_toArray] at hj; exact hj
    have hi' : i < (sortT R).length := by omega
    rw [getElem!_pos _ i (by rw [List.size_toArray]; exact hi'), getElem!_pos _ j (by rw [List.size_toArray]; exact hj')]
    rcases Nat.lt_or_ge i j with h | h
    · have := List.pairwise_iff_getElem.1 hp i j hi' hj' h
      simpa using this
    · have : i = j := by omega
      subst this; exact List.le_refl _
  obtain ⟨h1, h2⟩ := cmpT_props (sortT R).toArray hs (sortT R).length (by simp)
  refine ⟨h1, fun x => ?_⟩
  rw [← sort_mem (L := R)]
  show x ∈ Lib.compactUpTo (sortT R).toArray (sortT R).length ↔ _
  rw [h2 x]
  constructor
  · rintro ⟨j, hj, rfl⟩
    rw [getElem!_pos _ j (by rw [List.size_toArray]; exact hj)]
    simp
  · intro h
    obtain ⟨j, hj, rfl⟩ := List.getElem_of_mem h
    exact ⟨j, hj, by rw [getElem!_pos _ j (by rw [List.size_toArray]; exact hj)]; simp⟩
/-! The variables of nodes: they rise, each once -/
theorem vars_spec (l : List Nd) : Str (varsM l) ∧ ∀ x, x ∈ varsM l ↔ x ∈ namesV l := cmpT_sort (namesV l)
theorem mem_names {l : List Nd} {x : List UInt8} : x ∈ namesV l ↔ ∃ n ∈ l, n.op = 1 ∧ n.name = x := by
  unfold namesV
  simp [and_assoc]
end Go.Proofs.YthekpjhffciakaaDoor

