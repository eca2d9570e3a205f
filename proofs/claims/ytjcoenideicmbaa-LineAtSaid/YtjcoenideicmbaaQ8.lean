import Derived.Shelf.SortM.Plain
import Derived.Shelf.SortM.SortNone
import Derived.Shelf.SlicesG.CompactI
import Derived.Shelf.SlicesG.CompactS
import Derived.Lib.RowBridge
import Derived.Test.YtjcoenideicmbaaQ7
namespace Go.Proofs.Ytjcoenideicmbaa
open Go PG Go.Proofs Go.Shelf
set_option linter.unusedSimpArgs false
set_option linter.unusedVariables false
set_option maxHeartbeats 4000000
set_option maxRecDepth 100000
def Try.sortI_ren : Go.Shelf.Ren := ⟨fun | 5 => 66 | 8 => 63 | 7 => 81 | 19 => 77 | 20 => 78 | 10 => 92 | 11 => 93 | 12 => 94 | 13 => 95 | 14 => 96 | 15 => 97 | 16 => 98 | 17 => 99 | 18 => 100 | 30 => 104 | 31 => 83 | 32 => 84 | 33 => 105 | 34 => 106 | 35 => 107 | 40 => 108 | n => n, fun | 23 => 63 | 25 => 25 | 3 => 3 | 32 => 120 | 22 => 63 | 0 => 0 | 44 => 80 | 46 => 106 | 4 => 4 | 36 => 125 | 35 => 124 | 41 => 130 | 5 => 5 | 9 => 9 | 53 => 136 | 57 => 140 | 63 => 151 | 64 => 152 | n => n, fun | n => n⟩
theorem Try.sortI : Go.Proofs.SlLaysM.n5 Try.prog Try.sortI_ren := {
  mixed := by kernel_rfl
  f5 := ⟨Try.f66.name, by decide, Try.func66.trans (congrArg some (by kernel_rfl))⟩
  f7 := ⟨Try.f81.name, by decide, Try.func81.trans (congrArg some (by kernel_rfl))⟩
  f8 := Try.func63.trans (congrArg some (by kernel_rfl))
  f10 := ⟨Try.f92.name, by decide, Try.func92.trans (congrArg some (by kernel_rfl))⟩
  f11 := ⟨Try.f93.name, by decide, Try.func93.trans (congrArg some (by kernel_rfl))⟩
  f12 := ⟨Try.f94.name, by decide, Try.func94.trans (congrArg some (by kernel_rfl))⟩
  f13 := ⟨Try.f95.name, by decide, Try.func95.trans (congrArg some (by kernel_rfl))⟩
  f14 := ⟨Try.f96.name, by decide, Try.func96.trans (congrArg some (by kernel_rfl))⟩
  f15 := ⟨Try.f97.name, by decide, Try.func97.trans (congrArg some (by kernel_rfl))⟩
  f16 := ⟨Try.f98.name, by decide, Try.func98.trans (congrArg some (by kernel_rfl))⟩
  f17 := ⟨Try.f99.name, by decide, Try.func99.trans (congrArg some (by kernel_rfl))⟩
  f18 := ⟨Try.f100.name, by decide, Try.func100.trans (congrArg some (by kernel_rfl))⟩
  f19 := Try.func77.trans (congrArg some (by kernel_rfl))
  f20 := Try.func78.trans (congrArg some (by kernel_rfl))
  f30 := ⟨Try.f104.name, by decide, Try.func104.trans (congrArg some (by kernel_rfl))⟩
  f31 := Try.func83.trans (congrArg some (by kernel_rfl))
  f32 := Try.func84.trans (congrArg some (by kernel_rfl))
  f33 := ⟨Try.f105.name, by decide, Try.func105.trans (congrArg some (by kernel_rfl))⟩
  f34 := ⟨Try.f106.name, by decide, Try.func106.trans (congrArg some (by kernel_rfl))⟩
  f35 := ⟨Try.f107.name, by decide, Try.func107.trans (congrArg some (by kernel_rfl))⟩
  f40 := ⟨Try.f108.name, by decide, Try.func108.trans (congrArg some (by kernel_rfl))⟩
  t0 := Try.underlying0
  a0 := Try.isAgg0
  z0 := Try.sizeOf0
  v0 := Try.zeroValue0
  t3 := Try.underlying3
  a3 := Try.isAgg3
  z3 := Try.sizeOf3
  v3 := Try.zeroValue3
  t4 := Try.underlying4
  a4 := Try.isAgg4
  z4 := Try.sizeOf4
  v4 := Try.zeroValue4
  t5 := Try.underlying5
  a5 := Try.isAgg5
  z5 := Try.sizeOf5
  v5 := Try.zeroValue5
  t9 := Try.underlying9
  a9 := Try.isAgg9
  z9 := Try.sizeOf9
  v9 := Try.zeroValue9
  t22 := Try.underlying63
  a22 := Try.isAgg63
  z22 := Try.sizeOf63
  v22 := Try.zeroValue63
  t23 := Try.underlying63
  a23 := Try.isAgg63
  z23 := Try.sizeOf63
  v23 := Try.zeroValue63
  t25 := Try.underlying25
  a25 := Try.isAgg25
  z25 := Try.sizeOf25
  v25 := Try.zeroValue25
  t32 := Try.underlying120
  a32 := Try.isAgg120
  z32 := Try.sizeOf120
  v32 := Try.zeroValue120
  t35 := Try.underlying124
  a35 := Try.isAgg124
  z35 := Try.sizeOf124
  v35 := Try.zeroValue124
  t36 := Try.underlying125
  a36 := Try.isAgg125
  z36 := Try.sizeOf125
  v36 := Try.zeroValue125
  t41 := Try.underlying130
  a41 := Try.isAgg130
  z41 := Try.sizeOf130
  v41 := Try.zeroValue130
  t44 := Try.underlying80
  a44 := Try.isAgg80
  z44 := Try.sizeOf80
  v44 := Try.zeroValue80
  t46 := Try.underlying106
  a46 := Try.isAgg106
  z46 := Try.sizeOf106
  v46 := Try.zeroValue106
  t53 := Try.underlying136
  a53 := Try.isAgg136
  z53 := Try.sizeOf136
  v53 := Try.zeroValue136
  t57 := Try.underlying140
  a57 := Try.isAgg140
  z57 := Try.sizeOf140
  v57 := Try.zeroValue140
  t63 := Try.underlying151
  a63 := Try.isAgg151
  z63 := Try.sizeOf151
  v63 := Try.zeroValue151
  t64 := Try.underlying152
  a64 := Try.isAgg152
  z64 := Try.sizeOf152
  v64 := Try.zeroValue152 }
def Try.cmpI_ren : Go.Shelf.Ren := ⟨fun | 43 => 67 | n => n, fun | 22 => 63 | 23 => 25 | 3 => 3 | 4 => 4 | 0 => 0 | n => n, fun | n => n⟩
theorem Try.cmpI : Go.Proofs.SlLaysN.n43 Try.prog Try.cmpI_ren := {
  mixed := by kernel_rfl
  f43 := ⟨Try.f67.name, by decide, Try.func67.trans (congrArg some (by kernel_rfl))⟩
  t0 := Try.underlying0
  a0 := Try.isAgg0
  z0 := Try.sizeOf0
  v0 := Try.zeroValue0
  t3 := Try.underlying3
  a3 := Try.isAgg3
  z3 := Try.sizeOf3
  v3 := Try.zeroValue3
  t4 := Try.underlying4
  a4 := Try.isAgg4
  z4 := Try.sizeOf4
  v4 := Try.zeroValue4
  t22 := Try.underlying63
  a22 := Try.isAgg63
  z22 := Try.sizeOf63
  v22 := Try.zeroValue63
  t23 := Try.underlying25
  a23 := Try.isAgg25
  z23 := Try.sizeOf25
  v23 := Try.zeroValue25
  i23 := by kernel_rfl }
theorem e66 : Ent Try.prog 66 := ⟨Try.f66, Try.func66, by kernel_rfl, by kernel_rfl⟩
theorem e67 : Ent Try.prog 67 := ⟨Try.f67, Try.func67, by kernel_rfl, by kernel_rfl⟩
abbrev sortL (ds : List Int) : List Int := ds.mergeSort fun x y => decide (x ≤ y)
/-- Sorting a row of one's own. -/
theorem v66 {μ : Mem} {t : Nat} (ds : List Int) (hl : ds.length ≤ 4000000000) (hm : μ.get t = some (.row none (ds.map (PV.int .i64)))) :
    PCalls Try.prog G0 66 [.sl none t ds.length] μ (fun _ => false) (fun p μ' => p = .tup [] ∧ μ' = μ.set t (some (.row none ((sortL ds).map (PV.int .i64))))) := by
  refine PCalls.row (enc := Value.int .i64) (pv := PV.int .i64) (fun w ex a => .int _ _) (fun a => ⟨by simp [PV.flat], rfl⟩) (d := ds) (d' := sortL ds) (List.length_mergeSort _) hm (rv := fun _ _ => .tuple #[]) ?_ ?_ (fun w κ a cap _ => .closed (.tup _ _ rfl (fun i v p a b => by simp at a)))
  · intro blk off cap w hH hblk hcap
    exact AnyM.slices_Sort_int Try.sortI blk off cap ds w hH hblk (by omega)
  · intro h w
    exact AnyM.slices_Sort_int_none Try.sortI none 0 w
theorem compact_len (ds : List Int) : (Lib.compact ds).length ≤ ds.length := Lib.compact_length_le ds
def cmpR (ds : List Int) : List Int := Lib.compact ds ++ List.replicate (ds.length - (Lib.compact ds).length) 0
theorem cmpR_len (ds : List Int) : (cmpR ds).length = ds.length := by
  have := compact_len ds
  simp [cmpR]; omega
theorem v67 {μ : Mem} {t : Nat} (ds : List Int) (hl : ds.length ≤ 4000000000) (hm : μ.get t = some (.row none (ds.map (PV.int .i64)))) :
    PCalls Try.prog G0 67 [.sl none t ds.length] μ (fun _ => false) (fun p μ' => p = .sl none t (Lib.compact ds).length ∧ μ' = μ.set t (some (.row none ((cmpR ds).map (PV.int .i64))))) := by
  have hle := compact_len ds
  refine PCalls.row (enc := Value.int .i64) (pv := PV.int .i64) (fun w ex a => .int _ _) (fun a => ⟨by simp [PV.flat], rfl⟩) (d := ds) (d' := cmpR ds) (cmpR_len ds) hm (rv := fun a cap => .slice a (Lib.compact ds).length cap) ?_ ?_ ?_
  · intro blk off cap w hH hblk hcap
    refine (AnyG.slices_Compact_int Try.cmpI blk off cap ds w hH (by omega) hcap).mono ?_
    rintro e w' ⟨rfl, q, rfl⟩
    refine ⟨rfl, q, #[], ?_⟩
    have hg : ∀ w : World, Sort.grow w #[] = w := fun w => by cases w; simp [Sort.grow]
    rw [hg]; rfl
  · intro h w
    subst h
    exact AnyG.slices_Compact_int_empty Try.cmpI none 0 w
  · intro w κ a cap h
    generalize hn : ds.length = n at h hle
    cases h with
    | closed h => cases h
    | sl _ _ _ b _ hb hs hl' hm' => exact .sl _ _ _ _ _ hb hs (by omega) hm'
    | slnil _ _ hb =>
      rw [show (Lib.compact ds).length = 0 by omega]
      exact .slnil _ _ hb
/-! The days at which a fact begins or ends, within a span -/
def inS (a b : Int) (d : Int) : Bool := decide (a < d) && decide (d < b)
def rawC (l : List Kn) (a b : Int) : List Int := (l.flatMap fun k => [k.fr, k.to]).filter (inS a b)
def cutsM (l : List Kn) (a b : Int) : List Int := Lib.compact (sortL (rawC l a b))
theorem rawC_snoc (l : List Kn) (k : Kn) (a b : Int) : rawC (l ++ [k]) a b = rawC l a b ++ [k.fr, k.to].filter (inS a b) := by simp [rawC]
theorem rawC_len (l : List Kn) (a b : Int) : (rawC l a b).length ≤ 2 * l.length := by
  unfold rawC
  refine Nat.le_trans (List.length_filter_le _ _) ?_
  induction l with
  | nil => simp
  | cons k l ih => simp only [List.flatMap_cons, List.length_append, List.length_cons, List.length_nil]; omega
theorem v61 (l : List Kn) (hl : l.length ≤ 1000000000) (a b : Int) : VCalls Try.prog G0 61 [linP l, .agg [.int .i64 a, .int .i64 b]] (.list none ((cutsM l a b).map (PV.int .i64))) := by
  refine VCalls.of_PW Try.func61 k61 mix (by simp [c61]) ?_
  simp only [c61, L61, argE]
  have hlen : ((l.map knP).length : Nat) = l.length := by simp
  repeat' (first | exact True.intro | (refine PW.seqK ?_; intro K hK) | refine PW.block ?_ | refine PW.exit ?_ | refine PW.ret ?_ | refine PW.skip ?_ | refine seqK_n (by assumption) ?_ | refine seqK_r (by assumption) ?_ | refine seqK_e (by assumption) ?_ | refine PW.regionA ?_ | exact schedW_stop_i | (refine PW.cond rfl ?_ ?_ <;> intro hcond <;> (try contradiction) <;> try simp only [decide_eq_true_eq, decide_eq_false_iff_not] at hcond) | (refine gd_i ?_; intro hg; try simp only [hg]) | ((first | show @LE.le Nat _ _ _ | show @LT.lt Nat _ _ _ | show @LE.le Int _ _ _ | show @LT.lt Int _ _ _ | show @Eq Nat _ _ | show @Eq Int _ _ | show @Eq Bool _ _ | show _ ∨ _ | show ¬ _); first | omega | (simp only [decide_eq_true_eq, decide_eq_false_iff_not, List.length_cons, List.length_nil, List.length_append, List.length_map, Sh.size] <;> omega) | (go_unwrap; omega)) | ((first | refine PW.region ?_ | refine PW.regionQ ?_ | refine schedW_alt_i ?_ ?_ | refine schedW_done_i ?_ | show (_ : Post) _ _ _ | show @Eq (List PV) _ _ | show @Eq Bool _ _ | show opsW _ _ _ _ _ _ _ _ | show okAll _ | show @Eq Bool _ _ ∨ _); focus (simp only [hlen, SS, SS2, SS3, SS4, Option.map_some, Bool.not_false, Bool.not_true, gArgs, gOk, Nat.reduceAdd, PV.shift, MObj.shift, rdV, rdD, reduceIte, Nat.reduceEqDiff, Nat.reduceBEq, PV.bin, PV.binOk, binI, binS, PV.withInt, PV.withIntP, okAll, PV.under, PV.okUnder, eq_self, implies_true, deadOk, ne_eq, allOk, RVar.val, RVar.ok, retV, PV.seen, PV.view, beq_self_eq_true, PV.flat, PV.noOwn, id_eq, behind, PV.kill, MObj.kill, killTag, reduceCtorEq, nilB]; (try go_unwrap; try simp only [hlen, toNat_add2, toNat_add1, Int.toNat_natCast, Bool.false_and, Bool.true_and, true_implies, true_and, Bool.false_eq_true, reduceCtorEq, false_implies, Bool.not_false, Bool.not_true, Bool.true_or, Bool.false_or]))) | refine And.intro ?_ ?_ | exact Or.inr ⟨rfl, Nat.le_refl _⟩ | exact (fun h => Bool.noConfusion h))
  refine PW.own none 5 rfl ?_
  refine PW.loopG (σ := Nat) 3 (fun _ _ => rfl) [2, 3, 4, 5, 11, 12, 13] (fun i => [.ref 0 0, .ref 1 0, .nilSl, .sl none 2 (rawC (l.take i) a b).length, knL l, .int .i64 l.length, .int .i64 i])
    (fun i => [some (.var (some 1) (.agg [knL l])), some (.var (some 2) (.agg [.int .i64 a, .int .i64 b])), some (.row none ((rawC (l.take i) a b).map (PV.int .i64)))]) (fun i => i ≤ l.length) (fun i => l.length - i) 0 ?_ (by simp [rawC]) (by omega) ?_
  · simp only [SS, SS2, SS3, SS4, Option.map_some, Bool.not_false, Bool.not_true, gArgs, gOk, Nat.reduceAdd, PV.shift, MObj.shift, rdV, rdD, reduceIte, Nat.reduceEqDiff, Nat.reduceBEq, PV.bin, PV.binOk, binI, binS, PV.withInt, PV.withIntP, okAll, PV.under, PV.okUnder, eq_self, implies_true, deadOk, ne_eq, allOk, RVar.val, RVar.ok, retV, PV.seen, PV.view, beq_self_eq_true, PV.flat, PV.noOwn, id_eq, behind, PV.kill, MObj.kill, killTag, reduceCtorEq, nilB]; rfl
  rintro i hi
  simp only [List.zip_cons_cons, List.zip_nil_left]
  rcases Nat.lt_or_ge i l.length with h | h
  · have hd : decide ((i : Int) < l.length) = true := by simp only [decide_eq_true_eq]; omega
    have hg := kn_getD l i h
    have hst : rawC (l.take (i + 1)) a b = rawC (l.take i) a b ++ [l[i].fr, l[i].to].filter (inS a b) := by
      rw [List.take_succ_eq_append_getElem h, rawC_snoc]
    have hrl := rawC_len (l.take i) a b
    have htl : (l.take i).length ≤ l.length := by simp; omega
    generalize l[i] = k at hg hst
    generalize rawC (l.take i) a b = R at hst hrl
    simp only [knP] at hg
    repeat' (first | exact True.intro | (refine PW.seqK ?_; intro K hK) | refine PW.block ?_ | refine PW.exit ?_ | refine PW.ret ?_ | refine PW.skip ?_ | refine seqK_n (by assumption) ?_ | refine seqK_r (by assumption) ?_ | refine seqK_e (by assumption) ?_ | refine PW.regionA ?_ | exact schedW_stop_i | (refine PW.cond rfl ?_ ?_ <;> intro hcond <;> (try contradiction) <;> try simp only [decide_eq_true_eq, decide_eq_false_iff_not] at hcond) | (refine gd_i ?_; intro hg; try simp only [hg]) | ((first | show @LE.le Nat _ _ _ | show @LT.lt Nat _ _ _ | show @LE.le Int _ _ _ | show @LT.lt Int _ _ _ | show @Eq Nat _ _ | show @Eq Int _ _ | show @Eq Bool _ _ | show _ ∨ _ | show ¬ _); first | omega | (simp only [decide_eq_true_eq, decide_eq_false_iff_not, List.length_cons, List.length_nil, List.length_append, List.length_map, Sh.size] <;> omega) | (go_unwrap; omega)) | ((first | refine PW.region ?_ | refine PW.regionQ ?_ | refine schedW_alt_i ?_ ?_ | refine schedW_done_i ?_ | show (_ : Post) _ _ _ | show @Eq (List PV) _ _ | show @Eq Bool _ _ | show opsW _ _ _ _ _ _ _ _ | show okAll _ | show @Eq Bool _ _ ∨ _); focus (simp only [hd, hlen, hg, SS, SS2, SS3, SS4, Option.map_some, Bool.not_false, Bool.not_true, gArgs, gOk, Nat.reduceAdd, PV.shift, MObj.shift, rdV, rdD, reduceIte, Nat.reduceEqDiff, Nat.reduceBEq, PV.bin, PV.binOk, binI, binS, PV.withInt, PV.withIntP, okAll, PV.under, PV.okUnder, eq_self, implies_true, deadOk, ne_eq, allOk, RVar.val, RVar.ok, retV, PV.seen, PV.view, beq_self_eq_true, PV.flat, PV.noOwn, id_eq, behind, PV.kill, MObj.kill, killTag, reduceCtorEq, nilB]; (try go_unwrap; try simp only [hd, hlen, hg, toNat_add2, toNat_add1, Int.toNat_natCast, Bool.false_and, Bool.true_and, true_implies, true_and, Bool.false_eq_true, reduceCtorEq, false_implies, Bool.not_false, Bool.not_true, Bool.true_or, Bool.false_or]))) | refine And.intro ?_ ?_ | exact Or.inr ⟨rfl, Nat.le_refl _⟩ | exact (fun h => Bool.noConfusion h))
    obtain ⟨X, hX⟩ : ∃ X, [k.fr, k.to] = X := ⟨_, rfl⟩
    have hXl : X.length = 2 := by rw [← hX]; rfl
    have hXm : [PV.int IntKind.i64 k.fr, PV.int IntKind.i64 k.to] = X.map (PV.int .i64) := by rw [← hX]; rfl
    have hXml : ((X.map (PV.int .i64)).length : Nat) = 2 := by simp [hXl]
    rw [hX] at hst
    simp only [hXm]
    refine PW.loopG (σ := Nat) 4 (fun _ _ => rfl) [2, 3, 4, 5, 11, 12, 13, 23, 24, 25] (fun j => [.ref 0 0, .ref 1 0, .nilSl, .sl none 2 (R ++ (X.take j).filter (inS a b)).length, knL l, .int .i64 l.length, .int .i64 i, .list none (X.map (PV.int .i64)), .int .i64 2, .int .i64 j])
      (fun j => [some (.var (some 1) (.agg [knL l])), some (.var (some 2) (.agg [.int .i64 a, .int .i64 b])), some (.row none ((R ++ (X.take j).filter (inS a b)).map (PV.int .i64))), some (.var (some 9) (.agg [.int .i64 k.n, .int .u32 k.id, .int .u32 k.pers, .int .i64 k.kind, .int .i64 k.fr, .int .i64 k.to, .str k.code, .int .i64 k.num, .str k.text]))]) (fun j => j ≤ 2) (fun j => 2 - j) 0 ?_ (by first | rfl | (simp only [List.take_zero, List.filter_nil, List.append_nil]; done) | (simp only [List.take_zero, List.filter_nil, List.append_nil]; rfl)) (by omega) ?_
    · simp only [hXml, SS, SS2, SS3, SS4, Option.map_some, Bool.not_false, Bool.not_true, gArgs, gOk, Nat.reduceAdd, PV.shift, MObj.shift, rdV, rdD, reduceIte, Nat.reduceEqDiff, Nat.reduceBEq, PV.bin, PV.binOk, binI, binS, PV.withInt, PV.withIntP, okAll, PV.under, PV.okUnder, eq_self, implies_true, deadOk, ne_eq, allOk, RVar.val, RVar.ok, retV, PV.seen, PV.view, beq_self_eq_true, PV.flat, PV.noOwn, id_eq, behind, PV.kill, MObj.kill, killTag, reduceCtorEq, nilB, List.take_zero, List.filter_nil, List.append_nil]; rfl
    rintro j hj
    simp only [List.zip_cons_cons, List.zip_nil_left]
    rcases Nat.lt_or_ge j 2 with h2 | h2
    · have hd2 : decide ((j : Int) < 2) = true := by simp only [decide_eq_true_eq]; omega
      have hgx : (X.map (PV.int .i64)).getD j .junk = .int .i64 X[j] := by simp [List.getD, show j < X.length by omega]
      have hst2 : R ++ (X.take (j + 1)).filter (inS a b) = (R ++ (X.take j).filter (inS a b)) ++ [X[j]].filter (inS a b) := by
        rw [List.take_succ_eq_append_getElem (by omega), List.filter_append, List.append_assoc]
      have hol : (R ++ (X.take j).filter (inS a b)).length ≤ R.length + 2 := by
        rw [List.length_append]
        have h3 := List.length_filter_le (inS a b) (X.take j)
        have h4 : (X.take j).length ≤ 2 := by simp; omega
        omega
      generalize X[j] = d at hgx hst2
      generalize R ++ (X.take j).filter (inS a b) = O at hst2 hol
      have hOl : ((O.map (PV.int .i64)).length : Nat) = O.length := by simp
      have hOt : (O.map (PV.int .i64)).take O.length = O.map (PV.int .i64) := List.take_of_length_le (by simp)
      have b1 : (O.length + 1) * 8 ≤ 281474976710656 := by omega
      by_cases hin : inS a b d = true
      · rw [show [d].filter (inS a b) = [d] by simp [hin]] at hst2
        have hin' := hin
        simp only [inS, Bool.and_eq_true] at hin'
        obtain ⟨d1, d2⟩ := hin'
        repeat' (first | exact True.intro | (refine PW.seqK ?_; intro K hK) | refine PW.block ?_ | refine PW.exit ?_ | refine PW.ret ?_ | refine PW.skip ?_ | refine seqK_n (by assumption) ?_ | refine seqK_r (by assumption) ?_ | refine seqK_e (by assumption) ?_ | refine PW.regionA ?_ | exact schedW_stop_i | (refine PW.cond rfl ?_ ?_ <;> intro hcond <;> (try contradiction) <;> try simp only [decide_eq_true_eq, decide_eq_false_iff_not] at hcond) | (refine gd_i ?_; intro hg; try simp only [hg]) | ((first | show @LE.le Nat _ _ _ | show @LT.lt Nat _ _ _ | show @LE.le Int _ _ _ | show @LT.lt Int _ _ _ | show @Eq Nat _ _ | show @Eq Int _ _ | show @Eq Bool _ _ | show _ ∨ _ | show ¬ _); first | omega | (simp only [decide_eq_true_eq, decide_eq_false_iff_not, List.length_cons, List.length_nil, List.length_append, List.length_map, Sh.size] <;> omega) | (go_unwrap; omega)) | ((first | refine PW.region ?_ | refine PW.regionQ ?_ | refine schedW_alt_i ?_ ?_ | refine schedW_done_i ?_ | show (_ : Post) _ _ _ | show @Eq (List PV) _ _ | show @Eq Bool _ _ | show opsW _ _ _ _ _ _ _ _ | show okAll _ | show @Eq Bool _ _ ∨ _); focus (simp only [hd2, hgx, d1, d2, hOl, hOt, SS, SS2, SS3, SS4, Option.map_some, Bool.not_false, Bool.not_true, gArgs, gOk, Nat.reduceAdd, PV.shift, MObj.shift, rdV, rdD, reduceIte, Nat.reduceEqDiff, Nat.reduceBEq, PV.bin, PV.binOk, binI, binS, PV.withInt, PV.withIntP, okAll, PV.under, PV.okUnder, eq_self, implies_true, deadOk, ne_eq, allOk, RVar.val, RVar.ok, retV, PV.seen, PV.view, beq_self_eq_true, PV.flat, PV.noOwn, id_eq, behind, PV.kill, MObj.kill, killTag, reduceCtorEq, nilB]; (try go_unwrap; try simp only [hd2, hgx, d1, d2, hOl, hOt, toNat_add2, toNat_add1, Int.toNat_natCast, Bool.false_and, Bool.true_and, true_implies, true_and, Bool.false_eq_true, reduceCtorEq, false_implies, Bool.not_false, Bool.not_true, Bool.true_or, Bool.false_or]))) | refine And.intro ?_ ?_ | exact Or.inr ⟨rfl, Nat.le_refl _⟩ | exact (fun h => Bool.noConfusion h))
        refine ⟨j + 1, ?_, ?_, by omega, by omega⟩
        · rw [hst2, List.length_append]; exact (by first | rfl | (simp only [trimE, trimM, List.take_succ_cons, List.take_zero, List.take_nil, List.map_cons, List.map_nil, Option.map_some, Option.map_none, MObj.kill, PV.kill, Nat.reduceLeDiff, decide_true, decide_false, dec_true, dec_false, Bool.false_eq_true, if_false, if_true, reduceIte, List.zip_cons_cons, List.zip_nil_left, Nat.le_refl, Nat.zero_le, Nat.not_le, Nat.lt_irrefl]; done) | (simp [trimE, trimM, MObj.kill, PV.kill]; done))
        · rw [hst2, List.map_append]; exact (by first | rfl | (simp only [trimE, trimM, List.take_succ_cons, List.take_zero, List.take_nil, List.map_cons, List.map_nil, Option.map_some, Option.map_none, MObj.kill, PV.kill, Nat.reduceLeDiff, decide_true, decide_false, dec_true, dec_false, Bool.false_eq_true, if_false, if_true, reduceIte, List.zip_cons_cons, List.zip_nil_left, Nat.le_refl, Nat.zero_le, Nat.not_le, Nat.lt_irrefl]; done) | (simp [trimE, trimM, MObj.kill, PV.kill]; done))
      · rw [show [d].filter (inS a b) = [] by simp [hin], List.append_nil] at hst2
        have hin' : inS a b d = false := by simpa using hin
        simp only [inS, Bool.and_eq_false_iff] at hin'
        by_cases q1 : a < d
        · have d1 : decide (a < d) = true := by simpa using q1
          have d2 : decide (d < b) = false := by
            rcases hin' with h5 | h5
            · rw [d1] at h5; cases h5
            · exact h5
          repeat' (first | exact True.intro | (refine PW.seqK ?_; intro K hK) | refine PW.block ?_ | refine PW.exit ?_ | refine PW.ret ?_ | refine PW.skip ?_ | refine seqK_n (by assumption) ?_ | refine seqK_r (by assumption) ?_ | refine seqK_e (by assumption) ?_ | refine PW.regionA ?_ | exact schedW_stop_i | (refine PW.cond rfl ?_ ?_ <;> intro hcond <;> (try contradiction) <;> try simp only [decide_eq_true_eq, decide_eq_false_iff_not] at hcond) | (refine gd_i ?_; intro hg; try simp only [hg]) | ((first | show @LE.le Nat _ _ _ | show @LT.lt Nat _ _ _ | show @LE.le Int _ _ _ | show @LT.lt Int _ _ _ | show @Eq Nat _ _ | show @Eq Int _ _ | show @Eq Bool _ _ | show _ ∨ _ | show ¬ _); first | omega | (simp only [decide_eq_true_eq, decide_eq_false_iff_not, List.length_cons, List.length_nil, List.length_append, List.length_map, Sh.size] <;> omega) | (go_unwrap; omega)) | ((first | refine PW.region ?_ | refine PW.regionQ ?_ | refine schedW_alt_i ?_ ?_ | refine schedW_done_i ?_ | show (_ : Post) _ _ _ | show @Eq (List PV) _ _ | show @Eq Bool _ _ | show opsW _ _ _ _ _ _ _ _ | show okAll _ | show @Eq Bool _ _ ∨ _); focus (simp only [hd2, hgx, d1, d2, hOl, SS, SS2, SS3, SS4, Option.map_some, Bool.not_false, Bool.not_true, gArgs, gOk, Nat.reduceAdd, PV.shift, MObj.shift, rdV, rdD, reduceIte, Nat.reduceEqDiff, Nat.reduceBEq, PV.bin, PV.binOk, binI, binS, PV.withInt, PV.withIntP, okAll, PV.under, PV.okUnder, eq_self, implies_true, deadOk, ne_eq, allOk, RVar.val, RVar.ok, retV, PV.seen, PV.view, beq_self_eq_true, PV.flat, PV.noOwn, id_eq, behind, PV.kill, MObj.kill, killTag, reduceCtorEq, nilB]; (try go_unwrap; try simp only [hd2, hgx, d1, d2, hOl, toNat_add2, toNat_add1, Int.toNat_natCast, Bool.false_and, Bool.true_and, true_implies, true_and, Bool.false_eq_true, reduceCtorEq, false_implies, Bool.not_false, Bool.not_true, Bool.true_or, Bool.false_or]))) | refine And.intro ?_ ?_ | exact Or.inr ⟨rfl, Nat.le_refl _⟩ | exact (fun h => Bool.noConfusion h))
          exact ⟨j + 1, (by rw [hst2]; exact (by first | rfl | (simp only [trimE, trimM, List.take_succ_cons, List.take_zero, List.take_nil, List.map_cons, List.map_nil, Option.map_some, Option.map_none, MObj.kill, PV.kill, Nat.reduceLeDiff, decide_true, decide_false, dec_true, dec_false, Bool.false_eq_true, if_false, if_true, reduceIte, List.zip_cons_cons, List.zip_nil_left, Nat.le_refl, Nat.zero_le, Nat.not_le, Nat.lt_irrefl]; done) | (simp [trimE, trimM, MObj.kill, PV.kill]; done))), (by rw [hst2]; exact (by first | rfl | (simp only [trimE, trimM, List.take_succ_cons, List.take_zero, List.take_nil, List.map_cons, List.map_nil, Option.map_some, Option.map_none, MObj.kill, PV.kill, Nat.reduceLeDiff, decide_true, decide_false, dec_true, dec_false, Bool.false_eq_true, if_false, if_true, reduceIte, List.zip_cons_cons, List.zip_nil_left, Nat.le_refl, Nat.zero_le, Nat.not_le, Nat.lt_irrefl]; done) | (simp [trimE, trimM, MObj.kill, PV.kill]; done))), by omega, by omega⟩
        · have d1 : decide (a < d) = false := by simpa using q1
          repeat' (first | exact True.intro | (refine PW.seqK ?_; intro K hK) | refine PW.block ?_ | refine PW.exit ?_ | refine PW.ret ?_ | refine PW.skip ?_ | refine seqK_n (by assumption) ?_ | refine seqK_r (by assumption) ?_ | refine seqK_e (by assumption) ?_ | refine PW.regionA ?_ | exact schedW_stop_i | (refine PW.cond rfl ?_ ?_ <;> intro hcond <;> (try contradiction) <;> try simp only [decide_eq_true_eq, decide_eq_false_iff_not] at hcond) | (refine gd_i ?_; intro hg; try simp only [hg]) | ((first | show @LE.le Nat _ _ _ | show @LT.lt Nat _ _ _ | show @LE.le Int _ _ _ | show @LT.lt Int _ _ _ | show @Eq Nat _ _ | show @Eq Int _ _ | show @Eq Bool _ _ | show _ ∨ _ | show ¬ _); first | omega | (simp only [decide_eq_true_eq, decide_eq_false_iff_not, List.length_cons, List.length_nil, List.length_append, List.length_map, Sh.size] <;> omega) | (go_unwrap; omega)) | ((first | refine PW.region ?_ | refine PW.regionQ ?_ | refine schedW_alt_i ?_ ?_ | refine schedW_done_i ?_ | show (_ : Post) _ _ _ | show @Eq (List PV) _ _ | show @Eq Bool _ _ | show opsW _ _ _ _ _ _ _ _ | show okAll _ | show @Eq Bool _ _ ∨ _); focus (simp only [hd2, hgx, d1, hOl, SS, SS2, SS3, SS4, Option.map_some, Bool.not_false, Bool.not_true, gArgs, gOk, Nat.reduceAdd, PV.shift, MObj.shift, rdV, rdD, reduceIte, Nat.reduceEqDiff, Nat.reduceBEq, PV.bin, PV.binOk, binI, binS, PV.withInt, PV.withIntP, okAll, PV.under, PV.okUnder, eq_self, implies_true, deadOk, ne_eq, allOk, RVar.val, RVar.ok, retV, PV.seen, PV.view, beq_self_eq_true, PV.flat, PV.noOwn, id_eq, behind, PV.kill, MObj.kill, killTag, reduceCtorEq, nilB]; (try go_unwrap; try simp only [hd2, hgx, d1, hOl, toNat_add2, toNat_add1, Int.toNat_natCast, Bool.false_and, Bool.true_and, true_implies, true_and, Bool.false_eq_true, reduceCtorEq, false_implies, Bool.not_false, Bool.not_true, Bool.true_or, Bool.false_or]))) | refine And.intro ?_ ?_ | exact Or.inr ⟨rfl, Nat.le_refl _⟩ | exact (fun h => Bool.noConfusion h))
          exact ⟨j + 1, (by rw [hst2]; exact (by first | rfl | (simp only [trimE, trimM, List.take_succ_cons, List.take_zero, List.take_nil, List.map_cons, List.map_nil, Option.map_some, Option.map_none, MObj.kill, PV.kill, Nat.reduceLeDiff, decide_true, decide_false, dec_true, dec_false, Bool.false_eq_true, if_false, if_true, reduceIte, List.zip_cons_cons, List.zip_nil_left, Nat.le_refl, Nat.zero_le, Nat.not_le, Nat.lt_irrefl]; done) | (simp [trimE, trimM, MObj.kill, PV.kill]; done))), (by rw [hst2]; exact (by first | rfl | (simp only [trimE, trimM, List.take_succ_cons, List.take_zero, List.take_nil, List.map_cons, List.map_nil, Option.map_some, Option.map_none, MObj.kill, PV.kill, Nat.reduceLeDiff, decide_true, decide_false, dec_true, dec_false, Bool.false_eq_true, if_false, if_true, reduceIte, List.zip_cons_cons, List.zip_nil_left, Nat.le_refl, Nat.zero_le, Nat.not_le, Nat.lt_irrefl]; done) | (simp [trimE, trimM, MObj.kill, PV.kill]; done))), by omega, by omega⟩
    · have hd2 : decide ((j : Int) < 2) = false := by simp only [decide_eq_false_iff_not]; omega
      have hXt : X.take j = X := List.take_of_length_le (by omega)
      rw [hXt, ← hst]
      repeat' (first | exact True.intro | (refine PW.seqK ?_; intro K hK) | refine PW.block ?_ | refine PW.exit ?_ | refine PW.ret ?_ | refine PW.skip ?_ | refine seqK_n (by assumption) ?_ | refine seqK_r (by assumption) ?_ | refine seqK_e (by assumption) ?_ | refine PW.regionA ?_ | exact schedW_stop_i | (refine PW.cond rfl ?_ ?_ <;> intro hcond <;> (try contradiction) <;> try simp only [decide_eq_true_eq, decide_eq_false_iff_not] at hcond) | (refine gd_i ?_; intro hg; try simp only [hg]) | ((first | show @LE.le Nat _ _ _ | show @LT.lt Nat _ _ _ | show @LE.le Int _ _ _ | show @LT.lt Int _ _ _ | show @Eq Nat _ _ | show @Eq Int _ _ | show @Eq Bool _ _ | show _ ∨ _ | show ¬ _); first | omega | (simp only [decide_eq_true_eq, decide_eq_false_iff_not, List.length_cons, List.length_nil, List.length_append, List.length_map, Sh.size] <;> omega) | (go_unwrap; omega)) | ((first | refine PW.region ?_ | refine PW.regionQ ?_ | refine schedW_alt_i ?_ ?_ | refine schedW_done_i ?_ | show (_ : Post) _ _ _ | show @Eq (List PV) _ _ | show @Eq Bool _ _ | show opsW _ _ _ _ _ _ _ _ | show okAll _ | show @Eq Bool _ _ ∨ _); focus (simp only [hd2, SS, SS2, SS3, SS4, Option.map_some, Bool.not_false, Bool.not_true, gArgs, gOk, Nat.reduceAdd, PV.shift, MObj.shift, rdV, rdD, reduceIte, Nat.reduceEqDiff, Nat.reduceBEq, PV.bin, PV.binOk, binI, binS, PV.withInt, PV.withIntP, okAll, PV.under, PV.okUnder, eq_self, implies_true, deadOk, ne_eq, allOk, RVar.val, RVar.ok, retV, PV.seen, PV.view, beq_self_eq_true, PV.flat, PV.noOwn, id_eq, behind, PV.kill, MObj.kill, killTag, reduceCtorEq, nilB]; (try go_unwrap; try simp only [hd2, toNat_add2, toNat_add1, Int.toNat_natCast, Bool.false_and, Bool.true_and, true_implies, true_and, Bool.false_eq_true, reduceCtorEq, false_implies, Bool.not_false, Bool.not_true, Bool.true_or, Bool.false_or]))) | refine And.intro ?_ ?_ | exact Or.inr ⟨rfl, Nat.le_refl _⟩ | exact (fun h => Bool.noConfusion h))
      exact ⟨i + 1, (by first | rfl | (simp only [trimE, trimM, List.take_succ_cons, List.take_zero, List.take_nil, List.map_cons, List.map_nil, Option.map_some, Option.map_none, MObj.kill, PV.kill, Nat.reduceLeDiff, decide_true, decide_false, dec_true, dec_false, Bool.false_eq_true, if_false, if_true, reduceIte, List.zip_cons_cons, List.zip_nil_left, Nat.le_refl, Nat.zero_le, Nat.not_le, Nat.lt_irrefl]; done) | (simp [trimE, trimM, MObj.kill, PV.kill]; done)), (by first | rfl | (simp only [trimE, trimM, List.take_succ_cons, List.take_zero, List.take_nil, List.map_cons, List.map_nil, Option.map_some, Option.map_none, MObj.kill, PV.kill, Nat.reduceLeDiff, decide_true, decide_false, dec_true, dec_false, Bool.false_eq_true, if_false, if_true, reduceIte, List.zip_cons_cons, List.zip_nil_left, Nat.le_refl, Nat.zero_le, Nat.not_le, Nat.lt_irrefl]; done) | (simp [trimE, trimM, MObj.kill, PV.kill]; done)), by omega, by omega⟩
  · have hd : decide ((i : Int) < l.length) = false := by simp only [decide_eq_false_iff_not]; omega
    have hi' : i = l.length := by omega
    subst hi'
    simp only [List.take_length]
    have hrl := rawC_len l a b
    have hcut : cutsM l a b = Lib.compact (sortL (rawC l a b)) := rfl
    generalize rawC l a b = R at hrl hcut
    have hsl : (sortL R).length = R.length := List.length_mergeSort _
    have h67 : ∀ (μ : Mem), μ.get 2 = some (.row none ((sortL R).map (PV.int .i64))) → PCalls Try.prog G0 67 [.sl none 2 R.length] μ (fun _ => false) (fun p μ' => p = .sl none 2 (Lib.compact (sortL R)).length ∧ μ' = μ.set 2 (some (.row none ((cmpR (sortL R)).map (PV.int .i64))))) := fun μ hm => by
      have := v67 (μ := μ) (t := 2) (sortL R) (by omega) hm
      rw [hsl] at this; exact this
    repeat' (first | exact True.intro | (refine PW.seqK ?_; intro K hK) | refine PW.block ?_ | refine PW.exit ?_ | refine PW.ret ?_ | refine PW.skip ?_ | refine seqK_n (by assumption) ?_ | refine seqK_r (by assumption) ?_ | refine seqK_e (by assumption) ?_ | refine PW.regionA ?_ | exact schedW_stop_i | (refine PW.cond rfl ?_ ?_ <;> intro hcond <;> (try contradiction) <;> try simp only [decide_eq_true_eq, decide_eq_false_iff_not] at hcond) | (refine goCall_P e66 (v66 R (by omega) rfl) ?_; rintro p μ' ⟨rfl, rfl⟩; simp only [hd, hlen, SS, SS2, SS3, SS4, Option.map_some, Bool.not_false, Bool.not_true, gArgs, gOk, Nat.reduceAdd, PV.shift, MObj.shift, rdV, rdD, reduceIte, Nat.reduceEqDiff, Nat.reduceBEq, PV.bin, PV.binOk, binI, binS, PV.withInt, PV.withIntP, okAll, PV.under, PV.okUnder, eq_self, implies_true, deadOk, ne_eq, allOk, RVar.val, RVar.ok, retV, PV.seen, PV.view, beq_self_eq_true, PV.flat, PV.noOwn, id_eq, behind, PV.kill, MObj.kill, killTag, reduceCtorEq, nilB]) | (refine goCall_P e67 (h67 _ rfl) ?_; rintro p μ' ⟨rfl, rfl⟩; simp only [hd, hlen, SS, SS2, SS3, SS4, Option.map_some, Bool.not_false, Bool.not_true, gArgs, gOk, Nat.reduceAdd, PV.shift, MObj.shift, rdV, rdD, reduceIte, Nat.reduceEqDiff, Nat.reduceBEq, PV.bin, PV.binOk, binI, binS, PV.withInt, PV.withIntP, okAll, PV.under, PV.okUnder, eq_self, implies_true, deadOk, ne_eq, allOk, RVar.val, RVar.ok, retV, PV.seen, PV.view, beq_self_eq_true, PV.flat, PV.noOwn, id_eq, behind, PV.kill, MObj.kill, killTag, reduceCtorEq, nilB]) | (refine gd_i ?_; intro hg; try simp only [hg]) | ((first | show @LE.le Nat _ _ _ | show @LT.lt Nat _ _ _ | show @LE.le Int _ _ _ | show @LT.lt Int _ _ _ | show @Eq Nat _ _ | show @Eq Int _ _ | show @Eq Bool _ _ | show _ ∨ _ | show ¬ _); first | omega | (simp only [decide_eq_true_eq, decide_eq_false_iff_not, List.length_cons, List.length_nil, List.length_append, List.length_map, Sh.size] <;> omega) | (go_unwrap; omega)) | ((first | refine PW.region ?_ | refine PW.regionQ ?_ | refine schedW_alt_i ?_ ?_ | refine schedW_done_i ?_ | show (_ : Post) _ _ _ | show @Eq (List PV) _ _ | show @Eq Bool _ _ | show opsW _ _ _ _ _ _ _ _ | show okAll _ | show @Eq Bool _ _ ∨ _); focus (simp only [hd, hlen, SS, SS2, SS3, SS4, Option.map_some, Bool.not_false, Bool.not_true, gArgs, gOk, Nat.reduceAdd, PV.shift, MObj.shift, rdV, rdD, reduceIte, Nat.reduceEqDiff, Nat.reduceBEq, PV.bin, PV.binOk, binI, binS, PV.withInt, PV.withIntP, okAll, PV.under, PV.okUnder, eq_self, implies_true, deadOk, ne_eq, allOk, RVar.val, RVar.ok, retV, PV.seen, PV.view, beq_self_eq_true, PV.flat, PV.noOwn, id_eq, behind, PV.kill, MObj.kill, killTag, reduceCtorEq, nilB]; (try go_unwrap; try simp only [hd, hlen, toNat_add2, toNat_add1, Int.toNat_natCast, Bool.false_and, Bool.true_and, true_implies, true_and, Bool.false_eq_true, reduceCtorEq, false_implies, Bool.not_false, Bool.not_true, Bool.true_or, Bool.false_or]))) | refine And.intro ?_ ?_ | exact Or.inr ⟨rfl, Nat.le_refl _⟩ | exact (fun h => Bool.noConfusion h))
    · simp only [decide_eq_true_eq, List.length_map, cmpR_len]; exact compact_len _
    · rw [if_pos (by simp only [List.length_map, cmpR_len]; exact compact_len _), hcut]
      congr 1
      rw [← List.map_take]
      congr 1
      simp [cmpR]
end Go.Proofs.Ytjcoenideicmbaa

namespace PG
/-- From a on, up to b: each stretch is as long as it can be. -/
inductive IsRuns (f : Int → Int) (b : Int) : Int → List (Int × Int × Int) → Prop
  | one (a : Int) (h : a < b) (hf : ∀ d, a ≤ d → d < b → f d = f a) : IsRuns f b a [(a, b, f a)]
  | cons (a c : Int) (l : List (Int × Int × Int)) (h : a < c) (hf : ∀ d, a ≤ d → d < c → f d = f a) (hn : f c ≠ f a) (ht : IsRuns f b c l) : IsRuns f b a ((a, c, f a) :: l)

theorem IsRuns.lt {f : Int → Int} {b a : Int} {l : List (Int × Int × Int)} (h : IsRuns f b a l) : a < b := by
  induction h with
  | one a h hf => exact h
  | cons a c l h hf hn ht ih => omega

theorem IsRuns.uniq {f : Int → Int} {b a : Int} {l : List (Int × Int × Int)} (h : IsRuns f b a l) : ∀ {l' : List (Int × Int × Int)}, IsRuns f b a l' → l = l' := by
  induction h with
  | one a h hf =>
    intro l' h'
    cases h' with
    | one _ _ _ => rfl
    | cons _ c l2 h1 hf1 hn ht => exact absurd (hf c (by omega) ht.lt) hn
  | cons a c l h hf hn ht ih =>
    intro l' h'
    cases h' with
    | one _ h1 hf1 => exact absurd (hf1 c (by omega) ht.lt) hn
    | cons _ c2 l2 h1 hf1 hn1 ht1 =>
      have : c = c2 := by
        rcases Int.lt_trichotomy c c2 with hc | hc | hc
        · exact absurd (hf1 c (by omega) hc) hn
        · exact hc
        · exact absurd (hf c2 (by omega) hc) hn1
      subst this
      rw [ih ht1]

/-- They hang on the function's values there alone. -/
theorem IsRuns.congr {f g : Int → Int} {b a : Int} {l : List (Int × Int × Int)} (h : IsRuns f b a l) : (∀ d, a ≤ d → d < b → f d = g d) → IsRuns g b a l := by
  induction h with
  | one a h hf =>
    intro hg
    rw [hg a (by omega) h]
    exact .one a h fun d h1 h2 => by rw [← hg d h1 h2, hf d h1 h2, hg a (by omega) h]
  | cons a c l h hf hn ht ih =>
    intro hg
    have hc := ht.lt
    have ha := hg a (by omega) (by omega)
    rw [ha]
    refine .cons a c l h (fun d h1 h2 => ?_) ?_ (ih fun d h1 h2 => hg d (by omega) h2)
    · rw [← hg d h1 (by omega), hf d h1 h2, ha]
    · rw [← hg c (by omega) hc, ← ha]; exact hn

/-- The stretches, by the days at which the function may change. -/
def cutR (f : Int → Int) (b : Int) : Int → Int → List Int → List (Int × Int × Int)
  | a, v, [] => [(a, b, v)]
  | a, v, d :: ds => if f d = v then cutR f b a v ds else (a, d, v) :: cutR f b d (f d) ds

theorem cutR_runs {f : Int → Int} {b : Int} : ∀ (ds : List Int) (a m : Int), a ≤ m → m < b → (∀ d, a ≤ d → d ≤ m → f d = f a) → ds.Pairwise (· < ·) → (∀ d ∈ ds, m < d ∧ d < b) →
    (∀ d, m < d → d < b → d ∉ ds → f d = f (d - 1)) → IsRuns f b a (cutR f b a (f a) ds)
  | [], a, m, h1, h2, h3, _, _, h6 => by
    refine .one a (by omega) fun d hd1 hd2 => ?_
    rcases Int.lt_or_le m d with hm | hm
    · obtain ⟨k, rfl⟩ : ∃ k : Nat, d = m + k := ⟨(d - m).toNat, by omega⟩
      clear hm hd1
      induction k with
      | zero => exact h3 _ (by simpa using h1) (by simp)
      | succ k ih =>
        rw [h6 (m + (k + 1 : Nat)) (by omega) hd2 (by simp)]
        rw [show m + ((k + 1 : Nat) : Int) - 1 = m + (k : Nat) by omega]
        exact ih (by omega)
    · exact h3 d hd1 hm
  | x :: ds, a, m, h1, h2, h3, h4, h5, h6 => by
    obtain ⟨hx1, hx2⟩ := h5 x (by simp)
    rw [List.pairwise_cons] at h4
    have hk : ∀ k : Nat, m + k < x → f (m + k) = f a := by
      intro k
      induction k with
      | zero => intro _; exact h3 _ (by simpa using h1) (by simp)
      | succ k ih =>
        intro hk
        rw [h6 (m + (k + 1 : Nat)) (by omega) (by omega) (by
          intro hm
          rcases List.mem_cons.1 hm with e | e
          · omega
          · have := h4.1 _ e; omega)]
        rw [show m + ((k + 1 : Nat) : Int) - 1 = m + (k : Nat) by omega]
        exact ih (by omega)
    have hc : ∀ d, a ≤ d → d < x → f d = f a := by
      intro d hd1 hd2
      rcases Int.lt_or_le m d with hm | hm
      · have := hk (d - m).toNat (by omega)
        rw [show m + (((d - m).toNat : Nat) : Int) = d by omega] at this
        exact this
      · exact h3 d hd1 hm
    have hr : ∀ d, x < d → d < b → d ∉ ds → f d = f (d - 1) := fun d e1 e2 e3 => h6 d (by omega) e2 (by simp; exact ⟨by omega, e3⟩)
    have hd : ∀ d ∈ ds, x < d ∧ d < b := fun d e => ⟨h4.1 d e, (h5 d (by simp [e])).2⟩
    unfold cutR
    split
    · rename_i he
      refine cutR_runs ds a x (by omega) hx2 (fun d e1 e2 => ?_) h4.2 hd hr
      rcases Int.lt_or_le d x with e | e
      · exact hc d e1 e
      · have : d = x := by omega
        subst this; exact he
    · rename_i he
      exact .cons a x _ (by omega) hc he (cutR_runs ds x x (by omega) hx2 (fun d e1 e2 => by rw [show d = x by omega]) h4.2 hd hr)

/-- Cut at a day. -/
theorem IsRuns.append {f : Int → Int} {b c a : Int} {l : List (Int × Int × Int)} (h : IsRuns f b a l) : ∀ {r : List (Int × Int × Int)}, IsRuns f c b r → f b ≠ f (b - 1) → IsRuns f c a (l ++ r) := by
  induction h with
  | one a h hf =>
    intro r hr hn
    refine .cons a b _ h hf ?_ hr
    rw [hf (b - 1) (by omega) (by omega)] at hn; exact hn
  | cons a c1 l h hf hn ht ih =>
    intro r hr hne
    exact .cons a c1 _ h hf hn (ih hr hne)

end PG

namespace Go.Proofs.Ytjcoenideicmbaa
open Go PG Go.Proofs
/-- A place hangs on what covers the day alone. -/
theorem placeN_congr (l : List Kn) (d d' : Int) : ∀ i : Nat, (∀ j < i, covB (l.getD j default) d = covB (l.getD j default) d') → placeN l d i = placeN l d' i
  | 0, _ => rfl
  | i + 1, h => by
    simp only [placeN]
    rw [placeN_congr l d d' i (fun j hj => h j (by omega)), h i (by omega)]
theorem placeM_step {l : List Kn} {a b d : Int} (h1 : a < d) (h2 : d < b) (h : d ∉ rawC l a b) : placeM l d = placeM l (d - 1) := by
  unfold placeM
  apply placeN_congr
  intro j hj
  have hm : l.getD j default ∈ l := by simp [List.getD, hj]
  generalize l.getD j default = k at hm
  have h3 : ∀ e, e = k.fr ∨ e = k.to → d ≠ e := by
    intro e he hde
    refine h ?_
    unfold rawC
    rw [List.mem_filter]
    refine ⟨List.mem_flatMap.2 ⟨k, hm, by rcases he with rfl | rfl <;> simp [hde]⟩, ?_⟩
    simp [inS, h1, h2]
  have e1 := h3 k.fr (.inl rfl)
  have e2 := h3 k.to (.inr rfl)
  have q1 : decide (k.fr ≤ d) = decide (k.fr ≤ d - 1) := by rw [decide_eq_decide]; omega
  have q2 : decide (d < k.to) = decide (d - 1 < k.to) := by rw [decide_eq_decide]; omega
  simp only [covB, q1, q2]
theorem cmp_props (d : Array Int) (hs : ∀ i j, i ≤ j → j < d.size → d[i]! ≤ d[j]!) : ∀ m, m ≤ d.size → (Lib.compactUpTo d m).Pairwise (· < ·) ∧ ∀ x, x ∈ Lib.compactUpTo d m ↔ ∃ j, j < m ∧ d[j]! = x
  | 0, _ => by simp [Lib.compactUpTo]
  | m + 1, hm => by
    obtain ⟨h1, h2⟩ := cmp_props d hs m (by omega)
    rw [Lib.compactUpTo_succ]
    by_cases hk : Lib.keeps d m = true
    · rw [if_pos hk]
      have hlt : ∀ x ∈ Lib.compactUpTo d m, x < d[m]! := by
        intro x hx
        obtain ⟨j, hj, rfl⟩ := (h2 x).1 hx
        have h3 := hs j (m - 1) (by omega) (by omega)
        have h4 := hs (m - 1) m (by omega) (by omega)
        have h5 : d[m]! ≠ d[m - 1]! := by
          unfold Lib.keeps at hk
          simp only [decide_eq_true_eq] at hk
          rcases hk with h | h
          · omega
          · exact h
        omega
      refine ⟨?_, fun x => ?_⟩
      · rw [List.pairwise_append]
        exact ⟨h1, by simp, fun x hx y hy => by simp at hy; subst hy; exact hlt x hx⟩
      · rw [List.mem_append, h2 x]
        simp only [List.mem_singleton]
        constructor
        · rintro (⟨j, hj, e⟩ | rfl)
          · exact ⟨j, by omega, e⟩
          · exact ⟨m, by omega, rfl⟩
        · rintro ⟨j, hj, e⟩
          rcases Nat.lt_or_ge j m with h | h
          · exact .inl ⟨j, h, e⟩
          · have : j = m := by omega
            subst this; exact .inr e.symm
    · rw [if_neg hk, List.append_nil]
      have hk' : m ≠ 0 ∧ d[m]! = d[m - 1]! := by
        unfold Lib.keeps at hk
        simp only [decide_eq_true_eq] at hk
        exact ⟨fun h => hk (.inl h), Classical.byContradiction fun h => hk (.inr h)⟩
      refine ⟨h1, fun x => ?_⟩
      rw [h2 x]
      constructor
      · rintro ⟨j, hj, e⟩; exact ⟨j, by omega, e⟩
      · rintro ⟨j, hj, e⟩
        rcases Nat.lt_or_ge j m with h | h
        · exact ⟨j, h, e⟩
        · have : j = m := by omega
          subst this
          exact ⟨j - 1, by omega, by rw [← hk'.2]; exact e⟩
theorem le_tr (a b c : Int) : decide (a ≤ b) = true → decide (b ≤ c) = true → decide (a ≤ c) = true := by simp only [decide_eq_true_eq]; omega
theorem le_tt (a b : Int) : (decide (a ≤ b) || decide (b ≤ a)) = true := by simp only [Bool.or_eq_true, decide_eq_true_eq]; omega
theorem cmp_sort (R : List Int) : (Lib.compact (sortL R)).Pairwise (· < ·) ∧ ∀ x, x ∈ Lib.compact (sortL R) ↔ x ∈ R := by
  have hp := List.pairwise_mergeSort (le := fun x y : Int => decide (x ≤ y)) le_tr le_tt R
  have hm : ∀ x, x ∈ sortL R ↔ x ∈ R := fun x => (List.mergeSort_perm R _).mem_iff
  have hs : ∀ i j, i ≤ j → j < (sortL R).toArray.size → (sortL R).toArray[i]! ≤ (sortL R).toArray[j]! := by
    intro i j hij hj
    have hj' : j < (sortL R).length := by rw [List.size_toArray] at hj; exact hj
    have hi' : i < (sortL R).length := by omega
    rw [getElem!_pos _ i (by rw [List.size_toArray]; exact hi'), getElem!_pos _ j (by rw [List.size_toArray]; exact hj')]
    rcases Nat.lt_or_ge i j with h | h
    · have := List.pairwise_iff_getElem.1 hp i j hi' hj' h
      simpa using this
    · have : i = j := by omega
      subst this; omega
  obtain ⟨h1, h2⟩ := cmp_props (sortL R).toArray hs (sortL R).length (by simp)
  refine ⟨h1, fun x => ?_⟩
  rw [← hm x]
  show x ∈ Lib.compactUpTo (sortL R).toArray (sortL R).length ↔ _
  rw [h2 x]
  constructor
  · rintro ⟨j, hj, rfl⟩
    rw [getElem!_pos _ j (by rw [List.size_toArray]; exact hj)]
    simp
  · intro h
    obtain ⟨j, hj, rfl⟩ := List.getElem_of_mem h
    exact ⟨j, hj, by rw [getElem!_pos _ j (by rw [List.size_toArray]; exact hj)]; simp⟩
theorem cut_mem {l : List Kn} {a b d : Int} : d ∈ cutsM l a b ↔ d ∈ rawC l a b := (cmp_sort _).2 d
theorem raw_in {l : List Kn} {a b d : Int} (h : d ∈ rawC l a b) : a < d ∧ d < b := by
  unfold rawC at h
  have := (List.mem_filter.1 h).2
  simpa [inS] using this
/-- The stretches of a span. -/
def fullM (l : List Kn) (a b : Int) : List (Int × Int × Int) := if b ≤ a then [] else cutR (placeM l) b a (placeM l a) (cutsM l a b)
theorem full_runs (l : List Kn) {a b : Int} (h : a < b) : IsRuns (placeM l) b a (fullM l a b) := by
  unfold fullM
  rw [if_neg (by omega)]
  exact cutR_runs (cutsM l a b) a a (by omega) h (fun d h1 h2 => by rw [show d = a by omega]) (cmp_sort _).1 (fun d hd => raw_in (cut_mem.1 hd))
    (fun d h1 h2 h3 => placeM_step h1 h2 fun hr => h3 (cut_mem.2 hr))
theorem cutR_length (f : Int → Int) (b : Int) : ∀ (ds : List Int) (a v : Int), (cutR f b a v ds).length ≤ ds.length + 1
  | [], a, v => by simp [cutR]
  | d :: ds, a, v => by
    unfold cutR; split
    · have := cutR_length f b ds a v; simp; omega
    · have := cutR_length f b ds d (f d); simp; omega
theorem cuts_len (l : List Kn) (a b : Int) : (cutsM l a b).length ≤ 2 * l.length := by
  unfold cutsM
  have h1 := compact_len (sortL (rawC l a b))
  have h2 : (sortL (rawC l a b)).length = (rawC l a b).length := List.length_mergeSort _
  have h3 := rawC_len l a b
  omega
theorem full_len (l : List Kn) (a b : Int) : (fullM l a b).length ≤ 2 * l.length + 1 := by
  unfold fullM
  split
  · simp
  · have h1 := cutR_length (placeM l) b (cutsM l a b) a (placeM l a)
    have h2 := cuts_len l a b
    omega
end Go.Proofs.Ytjcoenideicmbaa

