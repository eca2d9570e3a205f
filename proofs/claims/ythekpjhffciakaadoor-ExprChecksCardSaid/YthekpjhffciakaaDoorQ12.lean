import Derived.Shelf.SortM.Plain
import Derived.Shelf.SortM.SortNone
import Derived.Shelf.SlicesG.CompactS
import Derived.Lib.RowBridge
import Derived.Test.YthekpjhffciakaaDoorQ7
import Derived.Test.YthekpjhffciakaaDoorQ10
import Derived.Test.YthekpjhffciakaaDoorQ11
import Derived.Test.YthekpjhffciakaaDoorQ9
import Derived.Test.YthekpjhffciakaaDoorP4
namespace Go.Proofs.YthekpjhffciakaaDoor
open Go PG Go.Proofs Go.Shelf
set_option linter.unusedSimpArgs false
set_option linter.unusedVariables false
set_option maxHeartbeats 4000000
set_option maxRecDepth 100000
def Tryd.sortS_ren : Go.Shelf.Ren := ⟨fun | 6 => 63 | 8 => 93 | 9 => 92 | 19 => 116 | 20 => 117 | 21 => 107 | 22 => 108 | 23 => 109 | 24 => 110 | 25 => 111 | 26 => 112 | 27 => 113 | 28 => 114 | 29 => 115 | 36 => 132 | 31 => 133 | 32 => 134 | 37 => 135 | 38 => 136 | 39 => 137 | 41 => 141 | n => n, fun | 27 => 76 | 29 => 9 | 3 => 3 | 32 => 140 | 26 => 76 | 0 => 0 | 44 => 160 | 46 => 145 | 4 => 4 | 36 => 153 | 35 => 152 | 41 => 157 | 5 => 5 | 9 => 9 | 53 => 172 | 57 => 176 | 63 => 180 | 64 => 181 | n => n, fun | n => n⟩
theorem Tryd.sortS : Go.Proofs.SlLaysM.n6 Tryd.prog Tryd.sortS_ren := {
  mixed := by kernel_rfl
  f6 := ⟨Tryd.f63.name, by decide, Tryd.func63.trans (congrArg some (by kernel_rfl))⟩
  f8 := Tryd.func93.trans (congrArg some (by kernel_rfl))
  f9 := ⟨Tryd.f92.name, by decide, Tryd.func92.trans (congrArg some (by kernel_rfl))⟩
  f19 := Tryd.func116.trans (congrArg some (by kernel_rfl))
  f20 := Tryd.func117.trans (congrArg some (by kernel_rfl))
  f21 := ⟨Tryd.f107.name, by decide, Tryd.func107.trans (congrArg some (by kernel_rfl))⟩
  f22 := ⟨Tryd.f108.name, by decide, Tryd.func108.trans (congrArg some (by kernel_rfl))⟩
  f23 := ⟨Tryd.f109.name, by decide, Tryd.func109.trans (congrArg some (by kernel_rfl))⟩
  f24 := ⟨Tryd.f110.name, by decide, Tryd.func110.trans (congrArg some (by kernel_rfl))⟩
  f25 := ⟨Tryd.f111.name, by decide, Tryd.func111.trans (congrArg some (by kernel_rfl))⟩
  f26 := ⟨Tryd.f112.name, by decide, Tryd.func112.trans (congrArg some (by kernel_rfl))⟩
  f27 := ⟨Tryd.f113.name, by decide, Tryd.func113.trans (congrArg some (by kernel_rfl))⟩
  f28 := ⟨Tryd.f114.name, by decide, Tryd.func114.trans (congrArg some (by kernel_rfl))⟩
  f29 := ⟨Tryd.f115.name, by decide, Tryd.func115.trans (congrArg some (by kernel_rfl))⟩
  f31 := Tryd.func133.trans (congrArg some (by kernel_rfl))
  f32 := Tryd.func134.trans (congrArg some (by kernel_rfl))
  f36 := ⟨Tryd.f132.name, by decide, Tryd.func132.trans (congrArg some (by kernel_rfl))⟩
  f37 := ⟨Tryd.f135.name, by decide, Tryd.func135.trans (congrArg some (by kernel_rfl))⟩
  f38 := ⟨Tryd.f136.name, by decide, Tryd.func136.trans (congrArg some (by kernel_rfl))⟩
  f39 := ⟨Tryd.f137.name, by decide, Tryd.func137.trans (congrArg some (by kernel_rfl))⟩
  f41 := ⟨Tryd.f141.name, by decide, Tryd.func141.trans (congrArg some (by kernel_rfl))⟩
  t0 := Tryd.underlying0
  a0 := Tryd.isAgg0
  z0 := Tryd.sizeOf0
  v0 := Tryd.zeroValue0
  t3 := Tryd.underlying3
  a3 := Tryd.isAgg3
  z3 := Tryd.sizeOf3
  v3 := Tryd.zeroValue3
  t4 := Tryd.underlying4
  a4 := Tryd.isAgg4
  z4 := Tryd.sizeOf4
  v4 := Tryd.zeroValue4
  t5 := Tryd.underlying5
  a5 := Tryd.isAgg5
  z5 := Tryd.sizeOf5
  v5 := Tryd.zeroValue5
  t9 := Tryd.underlying9
  a9 := Tryd.isAgg9
  z9 := Tryd.sizeOf9
  v9 := Tryd.zeroValue9
  t26 := Tryd.underlying76
  a26 := Tryd.isAgg76
  z26 := Tryd.sizeOf76
  v26 := Tryd.zeroValue76
  t27 := Tryd.underlying76
  a27 := Tryd.isAgg76
  z27 := Tryd.sizeOf76
  v27 := Tryd.zeroValue76
  t29 := Tryd.underlying9
  a29 := Tryd.isAgg9
  z29 := Tryd.sizeOf9
  v29 := Tryd.zeroValue9
  t32 := Tryd.underlying140
  a32 := Tryd.isAgg140
  z32 := Tryd.sizeOf140
  v32 := Tryd.zeroValue140
  t35 := Tryd.underlying152
  a35 := Tryd.isAgg152
  z35 := Tryd.sizeOf152
  v35 := Tryd.zeroValue152
  t36 := Tryd.underlying153
  a36 := Tryd.isAgg153
  z36 := Tryd.sizeOf153
  v36 := Tryd.zeroValue153
  t41 := Tryd.underlying157
  a41 := Tryd.isAgg157
  z41 := Tryd.sizeOf157
  v41 := Tryd.zeroValue157
  t44 := Tryd.underlying160
  a44 := Tryd.isAgg160
  z44 := Tryd.sizeOf160
  v44 := Tryd.zeroValue160
  t46 := Tryd.underlying145
  a46 := Tryd.isAgg145
  z46 := Tryd.sizeOf145
  v46 := Tryd.zeroValue145
  t53 := Tryd.underlying172
  a53 := Tryd.isAgg172
  z53 := Tryd.sizeOf172
  v53 := Tryd.zeroValue172
  t57 := Tryd.underlying176
  a57 := Tryd.isAgg176
  z57 := Tryd.sizeOf176
  v57 := Tryd.zeroValue176
  t63 := Tryd.underlying180
  a63 := Tryd.isAgg180
  z63 := Tryd.sizeOf180
  v63 := Tryd.zeroValue180
  t64 := Tryd.underlying181
  a64 := Tryd.isAgg181
  z64 := Tryd.sizeOf181
  v64 := Tryd.zeroValue181 }
def Tryd.cmpS_ren : Go.Shelf.Ren := ⟨fun | 44 => 64 | n => n, fun | 25 => 76 | 26 => 9 | 3 => 3 | 4 => 4 | 0 => 0 | n => n, fun | n => n⟩
theorem Tryd.cmpS : Go.Proofs.SlLaysN.n44 Tryd.prog Tryd.cmpS_ren := {
  mixed := by kernel_rfl
  f44 := ⟨Tryd.f64.name, by decide, Tryd.func64.trans (congrArg some (by kernel_rfl))⟩
  t0 := Tryd.underlying0
  a0 := Tryd.isAgg0
  z0 := Tryd.sizeOf0
  v0 := Tryd.zeroValue0
  t3 := Tryd.underlying3
  a3 := Tryd.isAgg3
  z3 := Tryd.sizeOf3
  v3 := Tryd.zeroValue3
  t4 := Tryd.underlying4
  a4 := Tryd.isAgg4
  z4 := Tryd.sizeOf4
  v4 := Tryd.zeroValue4
  t25 := Tryd.underlying76
  a25 := Tryd.isAgg76
  z25 := Tryd.sizeOf76
  v25 := Tryd.zeroValue76
  t26 := Tryd.underlying9
  a26 := Tryd.isAgg9
  z26 := Tryd.sizeOf9
  v26 := Tryd.zeroValue9
  i26 := by kernel_rfl }
/-! Sorting, and dropping doubles, of a row of texts of one's own -/
theorem encStr_rep (w : World) (ex : Nat → Prop) (a : List UInt8) : RepC w ex (Value.string ⟨a.toArray⟩) (.str a) := RepC.str (w := w) (ex := ex) ⟨a.toArray⟩
theorem e63 : Ent Tryd.prog 63 := ⟨Tryd.f63, Tryd.func63, by kernel_rfl, by kernel_rfl⟩
theorem e64 : Ent Tryd.prog 64 := ⟨Tryd.f64, Tryd.func64, by kernel_rfl, by kernel_rfl⟩
abbrev sortT (ds : List (List UInt8)) : List (List UInt8) := ds.mergeSort fun x y => decide (x ≤ y)
theorem v63 {μ : Mem} {t : Nat} (ds : List (List UInt8)) (hl : ds.length ≤ 4000000000) (hm : μ.get t = some (.row none (ds.map PV.str))) :
    PCalls Tryd.prog G0 63 [.sl none t ds.length] μ (fun _ => false) (fun p μ' => p = .tup [] ∧ μ' = μ.set t (some (.row none ((sortT ds).map PV.str)))) := by
  refine PCalls.row (enc := fun (l : List UInt8) => Value.string ⟨l.toArray⟩) (pv := PV.str) encStr_rep (fun a => ⟨by simp [PV.flat], rfl⟩) (d := ds) (d' := sortT ds) (List.length_mergeSort _) hm (rv := fun _ _ => .tuple #[]) ?_ ?_ (fun w κ a cap _ => .closed (.tup _ _ rfl (fun i v p a b => by simp at a)))
  · intro blk off cap w hH hblk hcap
    exact AnyM.slices_Sort_string Tryd.sortS blk off cap ds w hH hblk (by omega)
  · intro h w
    exact AnyM.slices_Sort_string_none Tryd.sortS none 0 w
theorem compactT_len (ds : List (List UInt8)) : (Lib.compact ds).length ≤ ds.length := Lib.compact_length_le ds
def cmpT (ds : List (List UInt8)) : List (List UInt8) := Lib.compact ds ++ List.replicate (ds.length - (Lib.compact ds).length) []
theorem cmpT_len (ds : List (List UInt8)) : (cmpT ds).length = ds.length := by
  have := compactT_len ds
  simp [cmpT]; omega
theorem v64 {μ : Mem} {t : Nat} (ds : List (List UInt8)) (hl : ds.length ≤ 4000000000) (hm : μ.get t = some (.row none (ds.map PV.str))) :
    PCalls Tryd.prog G0 64 [.sl none t ds.length] μ (fun _ => false) (fun p μ' => p = .sl none t (Lib.compact ds).length ∧ μ' = μ.set t (some (.row none ((cmpT ds).map PV.str)))) := by
  have hle := compactT_len ds
  refine PCalls.row (enc := fun (l : List UInt8) => Value.string ⟨l.toArray⟩) (pv := PV.str) encStr_rep (fun a => ⟨by simp [PV.flat], rfl⟩) (d := ds) (d' := cmpT ds) (cmpT_len ds) hm (rv := fun a cap => .slice a (Lib.compact ds).length cap) ?_ ?_ ?_
  · intro blk off cap w hH hblk hcap
    refine (AnyG.slices_Compact_string Tryd.cmpS blk off cap ds w hH (by omega) hcap).mono ?_
    rintro e w' ⟨rfl, q, rfl⟩
    refine ⟨rfl, q, #[], ?_⟩
    have hg : ∀ w : World, Sort.grow w #[] = w := fun w => by cases w; simp [Sort.grow]
    rw [hg]; rfl
  · intro h w
    subst h
    exact AnyG.slices_Compact_string_empty Tryd.cmpS none 0 w
  · intro w κ a cap h
    generalize hn : ds.length = n at h hle
    cases h with
    | closed h => cases h
    | sl _ _ _ b _ hb hs hl' hm' => exact .sl _ _ _ _ _ hb hs (by omega) hm'
    | slnil _ _ hb =>
      rw [show (Lib.compact ds).length = 0 by omega]
      exact .slnil _ _ hb
/-! The variables of a tree -/
theorem e34 : Ent Tryd.prog 34 := ⟨Tryd.f34, Tryd.func34, by kernel_rfl, by kernel_rfl⟩
def namesV (l : List Nd) : List (List UInt8) := (l.filter fun n => decide (n.op = 1)).map (·.name)
def varsM (l : List Nd) : List (List UInt8) := Lib.compact (sortT (namesV l))
theorem namesV_snoc (l : List Nd) (n : Nd) : namesV (l ++ [n]) = namesV l ++ (if n.op = 1 then [n.name] else []) := by
  unfold namesV
  rw [List.filter_append, List.map_append]
  by_cases h : n.op = 1
  · simp [h]
  · simp [h]
theorem namesV_len (l : List Nd) : (namesV l).length ≤ l.length := by
  unfold namesV; rw [List.length_map]; exact List.length_filter_le _ _
theorem v34n (l : List Nd) (hl : l.length ≤ 9223372036854775807) (hs : ∀ n ∈ l, n.name.length ≤ 9223372036854775807 ∧ n.kids.length ≤ 9223372036854775807) (hc : checkM l ≠ 0) : VCalls Tryd.prog G0 34 [treeP l] .nilSl := by
  refine VCalls.of_PW Tryd.func34 k34 mix (by simp [c34]) ?_
  simp only [c34, L34, CC, argE]
  have h29 := v29 hasK0 l hl hs
  simp only [treeP] at h29 ⊢
  repeat' (first | exact True.intro | (exact Or.inr ⟨rfl, by decide⟩) | (refine PW.seqK ?_; intro K hK) | refine pwB ?_ | refine pwS ?_ | refine pwL ?_ | refine pwE ?_ | refine pwR ?_ | refine pwK ?_ | refine seqK_n ‹_› ?_ | refine seqK_r ‹_› ?_ | refine seqK_e ‹_› ?_ | refine PW.regionA ?_ | exact schedW_stop_i | refine schK_n ‹_› ?_ | (refine schedW_alt_k ?_ ?_; focus (intro K hK; simp only [decide_eq_false hc, SA, Nat.reduceAdd, reduceIte, Nat.reduceEqDiff, Nat.reduceBEq, reduceCtorEq]; (try go_unwrap; try simp only [decide_eq_false hc, RR, reduceCtorEq]))) | (refine PW.cond rfl ?_ ?_ <;> intro hcond <;> (try contradiction) <;> try simp only [DD] at hcond) | (refine gd_i ?_; intro hg; try simp only [hg]) | refine goCall_W e29 (h29) ?_ ?_ ?_ ?_ | ((first | show (_ : Nat) ≤ _ | show (_ : Nat) < _ | show (_ : Int) ≤ _ | show (_ : Int) < _ | show (_ : Nat) = _ | show (_ : Int) = _ | show (_ : Bool) = _ | show _ ∨ _ | show ¬ _); first | omega | (simp only [DD, LL] <;> omega) | (go_unwrap; omega)) | ((first | refine PW.region ?_ | refine PW.regionQ ?_ | refine schedW_done_i ?_ | show (_ : Post) _ _ _ | show @Eq (List PV) _ _ | show @Eq Bool _ _ | show opsW _ _ _ _ _ _ _ _ | show okAll _ | show @Eq Bool _ _ ∨ _); focus (simp only [decide_eq_false hc, SA, Nat.reduceAdd, reduceIte, Nat.reduceEqDiff, Nat.reduceBEq, reduceCtorEq]; (try go_unwrap; try simp only [decide_eq_false hc, RR, reduceCtorEq]))) | refine And.intro ?_ ?_ | exact Or.inr ⟨rfl, Nat.le_refl _⟩ | exact (fun h => Bool.noConfusion h))
theorem v34 (l : List Nd) (hs : ∀ n ∈ l, n.name.length ≤ 9223372036854775807 ∧ n.kids.length ≤ 9223372036854775807) (hl : l.length ≤ 256) (hc : checkM l = 0) : VCalls Tryd.prog G0 34 [treeP l] (.list none ((varsM l).map PV.str)) := by
  refine VCalls.of_PW Tryd.func34 k34 mix (by simp [c34]) ?_
  simp only [c34, L34, CC, argE]
  have h29 := v29 hasK0 l (by omega) hs
  rw [hc] at h29
  simp only [treeP] at h29 ⊢
  have q0 : decide ((0 : Int) = 0) = true := rfl
  have hll : ((l.map ndP).length : Nat) = l.length := by simp
  repeat' (first | exact True.intro | (exact Or.inr ⟨rfl, by decide⟩) | (refine PW.seqK ?_; intro K hK) | refine pwB ?_ | refine pwS ?_ | refine pwL ?_ | refine pwE ?_ | refine pwR ?_ | refine pwK ?_ | refine seqK_n ‹_› ?_ | refine seqK_r ‹_› ?_ | refine seqK_e ‹_› ?_ | refine PW.regionA ?_ | exact schedW_stop_i | refine schK_n ‹_› ?_ | (refine schedW_alt_k ?_ ?_; focus (intro K hK; simp only [q0, hll, SA, Nat.reduceAdd, reduceIte, Nat.reduceEqDiff, Nat.reduceBEq, reduceCtorEq]; (try go_unwrap; try simp only [q0, hll, RR, reduceCtorEq]))) | (refine PW.cond rfl ?_ ?_ <;> intro hcond <;> (try contradiction) <;> try simp only [DD] at hcond) | (refine gd_i ?_; intro hg; try simp only [hg]) | refine goCall_W e29 (h29) ?_ ?_ ?_ ?_ | ((first | show (_ : Nat) ≤ _ | show (_ : Nat) < _ | show (_ : Int) ≤ _ | show (_ : Int) < _ | show (_ : Nat) = _ | show (_ : Int) = _ | show (_ : Bool) = _ | show _ ∨ _ | show ¬ _); first | omega | (simp only [DD, LL] <;> omega) | (go_unwrap; omega)) | ((first | refine PW.region ?_ | refine PW.regionQ ?_ | refine schedW_done_i ?_ | show (_ : Post) _ _ _ | show @Eq (List PV) _ _ | show @Eq Bool _ _ | show opsW _ _ _ _ _ _ _ _ | show okAll _ | show @Eq Bool _ _ ∨ _); focus (simp only [q0, hll, SA, Nat.reduceAdd, reduceIte, Nat.reduceEqDiff, Nat.reduceBEq, reduceCtorEq]; (try go_unwrap; try simp only [q0, hll, RR, reduceCtorEq]))) | refine And.intro ?_ ?_ | exact Or.inr ⟨rfl, Nat.le_refl _⟩ | exact (fun h => Bool.noConfusion h))
  refine PW.own none 3 rfl ?_
  refine PW.loopG (σ := Nat) 2 (fun _ _ => rfl) [1, 2, 3, 10, 11, 12] (fun i => [.ref 0 0, .nilSl, .sl none 1 (namesV (l.take i)).length, .list (some 4) (l.map ndP), .int .i64 l.length, .int .i64 i])
    (fun i => [some (.var (some 1) (.agg [.list (some 4) (l.map ndP)])), some (.row none ((namesV (l.take i)).map PV.str))]) (fun i => i ≤ l.length) (fun i => l.length - i) 0 ?_ (by simp [namesV]) (by omega) ?_
  · simp only [SA, Nat.reduceAdd, reduceIte, Nat.reduceEqDiff, Nat.reduceBEq, reduceCtorEq]; rfl
  intro i hi
  simp only [List.zip_cons_cons, List.zip_nil_left]
  rcases Nat.lt_or_ge i l.length with h | h
  · have hd : decide ((i : Int) < l.length) = true := by simp only [decide_eq_true_eq]; omega
    obtain ⟨n, -, hn, hg⟩ := drop_at h
    have hgn := ((hg ndP).1).trans (ndP1 n)
    have hst : namesV (l.take (i + 1)) = namesV (l.take i) ++ (if n.op = 1 then [n.name] else []) := by
      rw [List.take_succ_eq_append_getElem h, namesV_snoc]
      have : l[i] = n := by rw [List.getElem?_eq_getElem h] at hn; exact Option.some.inj hn
      rw [this]
    have hrl := namesV_len (l.take i)
    have htl : (l.take i).length ≤ l.length := by simp; omega
    generalize namesV (l.take i) = R at hst hrl
    have hRl : ((R.map PV.str).length : Nat) = R.length := by simp
    have hRt : (R.map PV.str).take R.length = R.map PV.str := List.take_of_length_le (by simp)
    have b1 : (R.length + 1) * 16 ≤ 281474976710656 := by omega
    by_cases ho : n.op = 1
    · rw [if_pos ho] at hst
      have d1 : decide (n.op = 1) = true := decide_eq_true ho
      repeat' (first | exact True.intro | (refine PW.seqK ?_; intro K hK) | refine pwB ?_ | refine pwS ?_ | refine pwL ?_ | refine pwE ?_ | refine pwR ?_ | refine pwK ?_ | refine seqK_n ‹_› ?_ | refine seqK_r ‹_› ?_ | refine seqK_e ‹_› ?_ | refine PW.regionA ?_ | exact schedW_stop_i | refine schK_n ‹_› ?_ | (refine schedW_alt_k ?_ ?_; focus (intro K hK; simp only [hd, hgn, d1, hll, hRl, hRt, SA, Nat.reduceAdd, reduceIte, Nat.reduceEqDiff, Nat.reduceBEq, reduceCtorEq]; (try go_unwrap; try simp only [hd, hgn, d1, hll, hRl, hRt, RR, reduceCtorEq]))) | (refine PW.cond rfl ?_ ?_ <;> intro hcond <;> (try contradiction) <;> try simp only [DD] at hcond) | (refine gd_i ?_; intro hg; try simp only [hg]) | ((first | show (_ : Nat) ≤ _ | show (_ : Nat) < _ | show (_ : Int) ≤ _ | show (_ : Int) < _ | show (_ : Nat) = _ | show (_ : Int) = _ | show (_ : Bool) = _ | show _ ∨ _ | show ¬ _); first | omega | (simp only [DD, LL] <;> omega) | (go_unwrap; omega)) | ((first | refine PW.region ?_ | refine PW.regionQ ?_ | refine schedW_done_i ?_ | show (_ : Post) _ _ _ | show @Eq (List PV) _ _ | show @Eq Bool _ _ | show opsW _ _ _ _ _ _ _ _ | show okAll _ | show @Eq Bool _ _ ∨ _); focus (simp only [hd, hgn, d1, hll, hRl, hRt, SA, Nat.reduceAdd, reduceIte, Nat.reduceEqDiff, Nat.reduceBEq, reduceCtorEq]; (try go_unwrap; try simp only [hd, hgn, d1, hll, hRl, hRt, RR, reduceCtorEq]))) | refine And.intro ?_ ?_ | exact Or.inr ⟨rfl, Nat.le_refl _⟩ | exact (fun h => Bool.noConfusion h))
      all_goals exact ⟨i + 1, (by rw [hst, List.length_append]; exact (by first | rfl | (simp only [trimE, trimM, List.take_succ_cons, List.take_zero, List.take_nil, List.map_cons, List.map_nil, Option.map_some, Option.map_none, MObj.kill, PV.kill, Nat.reduceLeDiff, decide_true, decide_false, dec_true, dec_false, Bool.false_eq_true, if_false, if_true, reduceIte, List.zip_cons_cons, List.zip_nil_left, Nat.le_refl, Nat.zero_le, Nat.not_le, Nat.lt_irrefl]; done) | (simp [trimE, trimM, MObj.kill, PV.kill]; done))), (by rw [hst, List.map_append]; exact (by first | rfl | (simp only [trimE, trimM, List.take_succ_cons, List.take_zero, List.take_nil, List.map_cons, List.map_nil, Option.map_some, Option.map_none, MObj.kill, PV.kill, Nat.reduceLeDiff, decide_true, decide_false, dec_true, dec_false, Bool.false_eq_true, if_false, if_true, reduceIte, List.zip_cons_cons, List.zip_nil_left, Nat.le_refl, Nat.zero_le, Nat.not_le, Nat.lt_irrefl]; done) | (simp [trimE, trimM, MObj.kill, PV.kill]; done))), by omega, by omega⟩
    · rw [if_neg ho, List.append_nil] at hst
      have d1 : decide (n.op = 1) = false := decide_eq_false ho
      repeat' (first | exact True.intro | (refine PW.seqK ?_; intro K hK) | refine pwB ?_ | refine pwS ?_ | refine pwL ?_ | refine pwE ?_ | refine pwR ?_ | refine pwK ?_ | refine seqK_n ‹_› ?_ | refine seqK_r ‹_› ?_ | refine seqK_e ‹_› ?_ | refine PW.regionA ?_ | exact schedW_stop_i | refine schK_n ‹_› ?_ | (refine schedW_alt_k ?_ ?_; focus (intro K hK; simp only [hd, hgn, d1, hll, hRl, SA, Nat.reduceAdd, reduceIte, Nat.reduceEqDiff, Nat.reduceBEq, reduceCtorEq]; (try go_unwrap; try simp only [hd, hgn, d1, hll, hRl, RR, reduceCtorEq]))) | (refine PW.cond rfl ?_ ?_ <;> intro hcond <;> (try contradiction) <;> try simp only [DD] at hcond) | (refine gd_i ?_; intro hg; try simp only [hg]) | ((first | show (_ : Nat) ≤ _ | show (_ : Nat) < _ | show (_ : Int) ≤ _ | show (_ : Int) < _ | show (_ : Nat) = _ | show (_ : Int) = _ | show (_ : Bool) = _ | show _ ∨ _ | show ¬ _); first | omega | (simp only [DD, LL] <;> omega) | (go_unwrap; omega)) | ((first | refine PW.region ?_ | refine PW.regionQ ?_ | refine schedW_done_i ?_ | show (_ : Post) _ _ _ | show @Eq (List PV) _ _ | show @Eq Bool _ _ | show opsW _ _ _ _ _ _ _ _ | show okAll _ | show @Eq Bool _ _ ∨ _); focus (simp only [hd, hgn, d1, hll, hRl, SA, Nat.reduceAdd, reduceIte, Nat.reduceEqDiff, Nat.reduceBEq, reduceCtorEq]; (try go_unwrap; try simp only [hd, hgn, d1, hll, hRl, RR, reduceCtorEq]))) | refine And.intro ?_ ?_ | exact Or.inr ⟨rfl, Nat.le_refl _⟩ | exact (fun h => Bool.noConfusion h))
      all_goals exact ⟨i + 1, (by rw [hst]; exact (by first | rfl | (simp only [trimE, trimM, List.take_succ_cons, List.take_zero, List.take_nil, List.map_cons, List.map_nil, Option.map_some, Option.map_none, MObj.kill, PV.kill, Nat.reduceLeDiff, decide_true, decide_false, dec_true, dec_false, Bool.false_eq_true, if_false, if_true, reduceIte, List.zip_cons_cons, List.zip_nil_left, Nat.le_refl, Nat.zero_le, Nat.not_le, Nat.lt_irrefl]; done) | (simp [trimE, trimM, MObj.kill, PV.kill]; done))), (by rw [hst]; exact (by first | rfl | (simp only [trimE, trimM, List.take_succ_cons, List.take_zero, List.take_nil, List.map_cons, List.map_nil, Option.map_some, Option.map_none, MObj.kill, PV.kill, Nat.reduceLeDiff, decide_true, decide_false, dec_true, dec_false, Bool.false_eq_true, if_false, if_true, reduceIte, List.zip_cons_cons, List.zip_nil_left, Nat.le_refl, Nat.zero_le, Nat.not_le, Nat.lt_irrefl]; done) | (simp [trimE, trimM, MObj.kill, PV.kill]; done))), by omega, by omega⟩
  · have hd : decide ((i : Int) < l.length) = false := by simp only [decide_eq_false_iff_not]; omega
    have hi' : i = l.length := by omega
    subst hi'
    simp only [List.take_length]
    have hun : varsM l = Lib.compact (sortT (namesV l)) := rfl
    have hrl := namesV_len l
    generalize namesV l = R at hun hrl
    have hsl : (sortT R).length = R.length := List.length_mergeSort _
    have h64 : ∀ (μ : Mem), μ.get 1 = some (.row none ((sortT R).map PV.str)) → PCalls Tryd.prog G0 64 [.sl none 1 R.length] μ (fun _ => false) (fun p μ' => p = .sl none 1 (Lib.compact (sortT R)).length ∧ μ' = μ.set 1 (some (.row none ((cmpT (sortT R)).map PV.str)))) := fun μ hm => by
      have := v64 (μ := μ) (t := 1) (sortT R) (by omega) hm
      rw [hsl] at this; exact this
    repeat' (first | exact True.intro | (refine PW.seqK ?_; intro K hK) | refine pwB ?_ | refine pwS ?_ | refine pwL ?_ | refine pwE ?_ | refine pwR ?_ | refine pwK ?_ | refine seqK_n ‹_› ?_ | refine seqK_r ‹_› ?_ | refine seqK_e ‹_› ?_ | refine PW.regionA ?_ | exact schedW_stop_i | refine schK_n ‹_› ?_ | (refine schedW_alt_k ?_ ?_; focus (intro K hK; simp only [hd, hll, SA, Nat.reduceAdd, reduceIte, Nat.reduceEqDiff, Nat.reduceBEq, reduceCtorEq]; (try go_unwrap; try simp only [hd, hll, RR, reduceCtorEq]))) | (refine PW.cond rfl ?_ ?_ <;> intro hcond <;> (try contradiction) <;> try simp only [DD] at hcond) | (refine goCall_P e63 (v63 R (by omega) rfl) ?_; rintro p μ' ⟨rfl, rfl⟩; simp only [hd, hll, SA, Nat.reduceAdd, reduceIte, Nat.reduceEqDiff, Nat.reduceBEq, reduceCtorEq]) | (refine goCall_P e64 (h64 _ rfl) ?_; rintro p μ' ⟨rfl, rfl⟩; simp only [hd, hll, SA, Nat.reduceAdd, reduceIte, Nat.reduceEqDiff, Nat.reduceBEq, reduceCtorEq]) | (refine gd_i ?_; intro hg; try simp only [hg]) | ((first | show (_ : Nat) ≤ _ | show (_ : Nat) < _ | show (_ : Int) ≤ _ | show (_ : Int) < _ | show (_ : Nat) = _ | show (_ : Int) = _ | show (_ : Bool) = _ | show _ ∨ _ | show ¬ _); first | omega | (simp only [DD, LL] <;> omega) | (go_unwrap; omega)) | ((first | refine PW.region ?_ | refine PW.regionQ ?_ | refine schedW_done_i ?_ | show (_ : Post) _ _ _ | show @Eq (List PV) _ _ | show @Eq Bool _ _ | show opsW _ _ _ _ _ _ _ _ | show okAll _ | show @Eq Bool _ _ ∨ _); focus (simp only [hd, hll, SA, Nat.reduceAdd, reduceIte, Nat.reduceEqDiff, Nat.reduceBEq, reduceCtorEq]; (try go_unwrap; try simp only [hd, hll, RR, reduceCtorEq]))) | refine And.intro ?_ ?_ | exact Or.inr ⟨rfl, Nat.le_refl _⟩ | exact (fun h => Bool.noConfusion h))
    · simp only [decide_eq_true_eq, List.length_map, cmpT_len]; exact compactT_len _
    · rw [if_pos (by simp only [List.length_map, cmpT_len]; exact compactT_len _), hun]
      congr 1
      rw [← List.map_take]
      congr 1
      simp [cmpT]
end Go.Proofs.YthekpjhffciakaaDoor

namespace Go.Proofs.YthekpjhffciakaaDoor
open Go PG Go.Proofs
set_option linter.unusedSimpArgs false
set_option linter.unusedVariables false
set_option maxRecDepth 100000
theorem tx_tr (a b c : List UInt8) : decide (a ≤ b) = true → decide (b ≤ c) = true → decide (a ≤ c) = true := by
  simp only [decide_eq_true_eq]; exact List.le_trans
theorem tx_tt (a b : List UInt8) : (decide (a ≤ b) || decide (b ≤ a)) = true := by
  simp only [Bool.or_eq_true, decide_eq_true_eq]; exact List.le_total a b
/-! Texts that rise, each once -/
abbrev Str (L : List (List UInt8)) : Prop := L.Pairwise (· < ·)
theorem not_lt {a b : List UInt8} (h : ¬ a < b) : b ≤ a := h
theorem lt_of {a b : List UInt8} (h : a ≤ b) (hn : a ≠ b) : a < b := by
  by_cases h1 : a < b
  · exact h1
  · exact absurd (List.le_antisymm h h1) hn
theorem lt_tr {a b c : List UInt8} (h : a < b) (k : b < c) : a < c := List.lt_trans h k
theorem bl_iff (a b : List UInt8) : Op.bytesLess a b = true ↔ a < b := by rw [bytesLess_eq]; simp
theorem bl_not (a b : List UInt8) : Op.bytesLess a b = false ↔ ¬ a < b := by rw [bytesLess_eq]; simp
theorem sort_mem {L : List (List UInt8)} {x : List UInt8} : x ∈ sortT L ↔ x ∈ L := (List.mergeSort_perm L _).mem_iff
theorem cmpT_props (d : Array (List UInt8)) (hs : ∀ i j, i ≤ j → j < d.size → d[i]! ≤ d[j]!) : ∀ m, m ≤ d.size → Str (Lib.compactUpTo d m) ∧ ∀ x, x ∈ Lib.compactUpTo d m ↔ ∃ j, j < m ∧ d[j]! = x
  | 0, _ => by simp [Lib.compactUpTo, Str]
  | m + 1, hm => by
    obtain ⟨h1, h2⟩ := cmpT_props d hs m (by omega)
    rw [Lib.compactUpTo_succ]
    by_cases hk : Lib.keeps d m = true
    · rw [if_pos hk]
      have hlt : ∀ x ∈ Lib.compactUpTo d m, x < d[m]! := by
        intro x hx
        obtain ⟨j, hj, rfl⟩ := (h2 x).1 hx
        have h3 := hs j (m - 1) (by omega) (by omega)
        have h4 := hs (m - 1) m (by omega) (by omega)
        have h5 : d[m]! ≠ d[m - 1]! := by
          unfold Lib.keeps at hk
          simp only [decide_eq_true_eq] at hk
          rcases hk with h | h
          · omega
          · exact h
        refine lt_of (List.le_trans h3 h4) fun e => ?_
        rw [e] at h3
        exact h5 (List.le_antisymm h3 h4)
      refine ⟨?_, fun x => ?_⟩
      · refine List.pairwise_append.2 ⟨h1, by simp, fun x hx y hy => by simp at hy; subst hy; exact hlt x hx⟩
      · rw [List.mem_append, h2 x]
        simp only [List.mem_singleton]
        constructor
        · rintro (⟨j, hj, e⟩ | rfl)
          · exact ⟨j, by omega, e⟩
          · exact ⟨m, by omega, rfl⟩
        · rintro ⟨j, hj, e⟩
          rcases Nat.lt_or_ge j m with h | h
          · exact .inl ⟨j, h, e⟩
          · have : j = m := by omega
            subst this; exact .inr e.symm
    · rw [if_neg hk, List.append_nil]
      have hk' : m ≠ 0 ∧ d[m]! = d[m - 1]! := by
        unfold Lib.keeps at hk
        simp only [decide_eq_true_eq] at hk
        exact ⟨fun h => hk (.inl h), Classical.byContradiction fun h => hk (.inr h)⟩
      refine ⟨h1, fun x => ?_⟩
      rw [h2 x]
      constructor
      · rintro ⟨j, hj, e⟩; exact ⟨j, by omega, e⟩
      · rintro ⟨j, hj, e⟩
        rcases Nat.lt_or_ge j m with h | h
        · exact ⟨j, h, e⟩
        · have : j = m := by omega
          subst this
          exact ⟨j - 1, by omega, by rw [← hk'.2]; exact e⟩
theorem cmpT_sort (R : List (List UInt8)) : Str (Lib.compact (sortT R)) ∧ ∀ x, x ∈ Lib.compact (sortT R) ↔ x ∈ R := by
  have hp := List.pairwise_mergeSort tx_tr tx_tt R
  have hs : ∀ i j, i ≤ j → j < (sortT R).toArray.size → (sortT R).toArray[i]! ≤ (sortT R).toArray[j]! := by
    intro i j hij hj
    have hj' : j < (sortT R).length := by rw [List.size_toArray] at hj; exact hj
    have hi' : i < (sortT R).length := by omega
    rw [getElem!_pos _ i (by rw [List.size_toArray]; exact hi'), getElem!_pos _ j (by rw [List.size_toArray]; exact hj')]
    rcases Nat.lt_or_ge i j with h | h
    · have := List.pairwise_iff_getElem.1 hp i j hi' hj' h
      simpa using this
    · have : i = j := by omega
      subst this; exact List.le_refl _
  obtain ⟨h1, h2⟩ := cmpT_props (sortT R).toArray hs (sortT R).length (by simp)
  refine ⟨h1, fun x => ?_⟩
  rw [← sort_mem (L := R)]
  show x ∈ Lib.compactUpTo (sortT R).toArray (sortT R).length ↔ _
  rw [h2 x]
  constructor
  · rintro ⟨j, hj, rfl⟩
    rw [getElem!_pos _ j (by rw [List.size_toArray]; exact hj)]
    simp
  · intro h
    obtain ⟨j, hj, rfl⟩ := List.getElem_of_mem h
    exact ⟨j, hj, by rw [getElem!_pos _ j (by rw [List.size_toArray]; exact hj)]; simp⟩
/-! The variables of nodes: they rise, each once -/
theorem vars_spec (l : List Nd) : Str (varsM l) ∧ ∀ x, x ∈ varsM l ↔ x ∈ namesV l := cmpT_sort (namesV l)
/-- Does a name stand behind the last one that was found? -/
def pastB (out : List (List UInt8)) (x : List UInt8) : Bool := decide (out.length = 0) || !(Op.bytesLess x (out.getD (out.length - 1) []) || decide (x = out.getD (out.length - 1) []))
theorem past_iff {L : List (List UInt8)} (hL : Str L) {k : Nat} (hk : k ≤ L.length) {x : List UInt8} (hx : x ∈ L) : pastB (L.take k) x = true ↔ ∀ y ∈ L.take k, y < x := by
  unfold pastB
  have hlen : (L.take k).length = k := by simp; omega
  rw [hlen]
  by_cases h0 : k = 0
  · subst h0; simp
  · have hlast : (L.take k).getD (k - 1) [] = L[k - 1] := by simp [List.getD, show k - 1 < k by omega, show k - 1 < L.length by omega]
    rw [hlast]
    simp only [h0, decide_false, Bool.false_or, Bool.not_eq_true', Bool.or_eq_false_iff, decide_eq_false_iff_not, bl_not]
    constructor
    · rintro ⟨h1, h2⟩ y hy
      have h3 : L[k - 1] < x := lt_of (not_lt h1) (fun e => h2 e.symm)
      obtain ⟨i, hi, rfl⟩ := List.getElem_of_mem hy
      rw [hlen] at hi
      rw [List.getElem_take]
      rcases Nat.lt_or_ge i (k - 1) with h | h
      · exact lt_tr (List.pairwise_iff_getElem.1 hL i (k - 1) (by omega) (by omega) h) h3
      · have : i = k - 1 := by omega
        subst this; exact h3
    · intro h
      have := h L[k - 1] (by rw [List.mem_take_iff_getElem]; exact ⟨k - 1, by omega, rfl⟩)
      exact ⟨fun h2 => List.lt_irrefl _ (lt_tr this h2), fun e => by rw [e] at this; exact List.lt_irrefl _ this⟩
/-- The least one behind: the next of the list. -/
theorem next_is {L : List (List UInt8)} (hL : Str L) {k : Nat} (hk : k ≤ L.length) {x : List UInt8} (hx : x ∈ L) (hp : pastB (L.take k) x = true) (hl : ∀ y ∈ L, pastB (L.take k) y = true → ¬ y < x) : ∃ h : k < L.length, L[k] = x := by
  have h1 := (past_iff hL hk hx).1 hp
  obtain ⟨i, hi, rfl⟩ := List.getElem_of_mem hx
  have hki : k ≤ i := by
    rcases Nat.lt_or_ge i k with h | h
    · exact absurd (h1 L[i] (by rw [List.mem_take_iff_getElem]; exact ⟨i, by omega, rfl⟩)) (List.lt_irrefl _)
    · exact h
  refine ⟨by omega, ?_⟩
  rcases Nat.lt_or_ge k i with h | h
  · exfalso
    refine hl L[k] (List.getElem_mem _) ((past_iff hL hk (List.getElem_mem _)).2 (fun y hy => ?_)) (List.pairwise_iff_getElem.1 hL k i (by omega) hi h)
    obtain ⟨j, hj, rfl⟩ := List.getElem_of_mem hy
    simp only [List.length_take] at hj
    rw [List.getElem_take]
    exact List.pairwise_iff_getElem.1 hL j k (by omega) (by omega) (by omega)
  · have : i = k := by omega
    subst this; rfl
theorem none_past {L : List (List UInt8)} (hL : Str L) {k : Nat} (hk : k ≤ L.length) (h : ∀ y ∈ L, pastB (L.take k) y = false) : L.take k = L := by
  rcases Nat.lt_or_ge k L.length with h' | h'
  · have := h L[k] (List.getElem_mem _)
    have h2 : pastB (L.take k) L[k] = true := (past_iff hL hk (List.getElem_mem _)).2 (fun y hy => by
      obtain ⟨j, hj, rfl⟩ := List.getElem_of_mem hy
      simp only [List.length_take] at hj
      rw [List.getElem_take]
      exact List.pairwise_iff_getElem.1 hL j k (by omega) (by omega) (by omega))
    rw [h2] at this; cases this
  · exact List.take_of_length_le h'
end Go.Proofs.YthekpjhffciakaaDoor

namespace Go.Proofs.YthekpjhffciakaaDoor
open Go PG Go.Proofs
set_option linter.unusedSimpArgs false
set_option linter.unusedVariables false
set_option maxHeartbeats 4000000
set_option maxRecDepth 100000
variable {G : Globs}
theorem v52 (l : List Nd) (hl : l.length ≤ 256) (hne : l ≠ []) (hw : wfK l 0) (hkl : ∀ n ∈ l, n.kids.length ≤ 256) : VCalls Tryd.prog G 52 [.list (some 4) (l.map ndP), .int .i64 ((l.length : Int) - 1)] (.int .i64 (depthM l)) := by
  refine VCalls.of_PW Tryd.func52 k52 mix (by simp [c52]) ?_
  simp only [c52, L52, CC, argE]
  have hl0 : 0 < l.length := List.length_pos_iff.2 hne
  have hm1 : ((8 : Nat) : Int) * (l.length : Int) ≤ 281474976710656 := by omega
  have hm2 : (l.length : Int) ≤ 9223372036854775807 := by omega
  have hm3 : 0 ≤ (l.length : Int) := by omega
  have wn : IntKind.i64.wrap ((l.length : Int) - 1 + 1) = l.length := by rw [IntWalk.i64_in _ (by omega)]; omega
  repeat' (first | exact True.intro | (refine PW.seqK ?_; intro K hK) | refine pwB ?_ | refine pwS ?_ | refine pwL ?_ | refine pwE ?_ | refine pwR ?_ | refine pwK ?_ | refine seqK_n ‹_› ?_ | refine seqK_r ‹_› ?_ | refine seqK_e ‹_› ?_ | refine PW.regionA ?_ | exact schedW_stop_i | refine schK_n ‹_› ?_ | (refine schedW_alt_k ?_ ?_; focus (intro K hK; simp only [List.length_map, wn, hm1, hm2, hm3, Int.le_refl, SA, Nat.reduceAdd, reduceIte, Nat.reduceEqDiff, Nat.reduceBEq, reduceCtorEq]; (try go_unwrap; try simp only [List.length_map, wn, hm1, hm2, hm3, Int.le_refl, RR, reduceCtorEq]))) | (refine PW.cond rfl ?_ ?_ <;> intro hcond <;> (try contradiction) <;> try simp only [DD] at hcond) | (refine gd_i ?_; intro hg; try simp only [hg]) | ((first | show (_ : Nat) ≤ _ | show (_ : Nat) < _ | show (_ : Int) ≤ _ | show (_ : Int) < _ | show (_ : Nat) = _ | show (_ : Int) = _ | show (_ : Bool) = _ | show _ ∨ _ | show ¬ _); first | omega | (simp only [DD, LL] <;> omega) | (go_unwrap; omega)) | ((first | refine PW.region ?_ | refine PW.regionQ ?_ | refine schedW_done_i ?_ | show (_ : Post) _ _ _ | show @Eq (List PV) _ _ | show @Eq Bool _ _ | show opsW _ _ _ _ _ _ _ _ | show okAll _ | show @Eq Bool _ _ ∨ _); focus (simp only [List.length_map, wn, hm1, hm2, hm3, Int.le_refl, SA, Nat.reduceAdd, reduceIte, Nat.reduceEqDiff, Nat.reduceBEq, reduceCtorEq]; (try go_unwrap; try simp only [List.length_map, wn, hm1, hm2, hm3, Int.le_refl, RR, reduceCtorEq]))) | refine And.intro ?_ ?_ | exact Or.inr ⟨rfl, Nat.le_refl _⟩ | exact (fun h => Bool.noConfusion h))
  refine PW.loop (σ := Nat × List Int) [0, 1, 5, 6] (fun s => [.list (some 4) (l.map ndP), .int .i64 ((l.length : Int) - 1), .sl none 0 l.length, .int .i64 s.1])
    (fun s => [some (.row none (rowV s.2 l.length))])
    (fun s => s.1 ≤ l.length ∧ s.2.length = s.1 ∧ (∀ x ∈ s.2, 0 ≤ x ∧ x ≤ s.1) ∧ wfK (l.drop s.1) s.1 ∧ depthsM l [] = depthsM (l.drop s.1) s.2) (fun s => l.length - s.1) (0, []) ?_ ?_ ⟨by simp, by simp, by simp, by simpa using hw, by simp⟩ ?_
  · simp only [SA, Nat.reduceAdd, reduceIte, Nat.reduceEqDiff, Nat.reduceBEq, reduceCtorEq, List.length_map, Int.toNat_natCast]; rfl
  · simp [rowV]
  rintro ⟨i, acc⟩ ⟨hi, hal, hb, hwf, hr⟩
  simp only at hi hal hb hwf hr
  simp only [List.zip_cons_cons, List.zip_nil_left]
  rcases Nat.lt_or_ge i l.length with h | h
  · obtain ⟨n, hd, hn, hg⟩ := drop_at h
    rw [hd] at hr hwf
    rw [depthsM] at hr
    obtain ⟨hwk, hwf⟩ := hwf
    have hd' : decide ((i : Int) ≤ (l.length : Int) - 1) = true := by simp only [decide_eq_true_eq]; omega
    rw [rowV_M (by omega)]
    have hgn := ((hg ndP).1).trans (ndP1 n)
    have hkn := hkl n (List.mem_of_getElem? hn)
    have ha := rowM_at acc 0 l.length
    rw [hal] at ha
    have hlen := rowM_len (m := 0) (show acc.length < l.length by omega)
    have hset := rowM_set acc 0 1 l.length
    rw [hal] at hset
    repeat' (first | exact True.intro | (refine PW.seqK ?_; intro K hK) | refine pwB ?_ | refine pwS ?_ | refine pwL ?_ | refine pwE ?_ | refine pwR ?_ | refine pwK ?_ | refine seqK_n ‹_› ?_ | refine seqK_r ‹_› ?_ | refine seqK_e ‹_› ?_ | refine PW.regionA ?_ | exact schedW_stop_i | refine schK_n ‹_› ?_ | (refine schedW_alt_k ?_ ?_; focus (intro K hK; simp only [hd', hgn, ha, hlen, hset, List.length_map, SA, Nat.reduceAdd, reduceIte, Nat.reduceEqDiff, Nat.reduceBEq, reduceCtorEq]; (try go_unwrap; try simp only [hd', hgn, ha, hlen, hset, List.length_map, RR, reduceCtorEq]))) | (refine PW.cond rfl ?_ ?_ <;> intro hcond <;> (try contradiction) <;> try simp only [DD] at hcond) | (refine gd_i ?_; intro hg; try simp only [hg]) | ((first | show (_ : Nat) ≤ _ | show (_ : Nat) < _ | show (_ : Int) ≤ _ | show (_ : Int) < _ | show (_ : Nat) = _ | show (_ : Int) = _ | show (_ : Bool) = _ | show _ ∨ _ | show ¬ _); first | omega | (simp only [DD, LL] <;> omega) | (go_unwrap; omega)) | ((first | refine PW.region ?_ | refine PW.regionQ ?_ | refine schedW_done_i ?_ | show (_ : Post) _ _ _ | show @Eq (List PV) _ _ | show @Eq Bool _ _ | show opsW _ _ _ _ _ _ _ _ | show okAll _ | show @Eq Bool _ _ ∨ _); focus (simp only [hd', hgn, ha, hlen, hset, List.length_map, SA, Nat.reduceAdd, reduceIte, Nat.reduceEqDiff, Nat.reduceBEq, reduceCtorEq]; (try go_unwrap; try simp only [hd', hgn, ha, hlen, hset, List.length_map, RR, reduceCtorEq]))) | refine And.intro ?_ ?_ | exact Or.inr ⟨rfl, Nat.le_refl _⟩ | exact (fun h => Bool.noConfusion h))
    refine PW.loop (σ := Nat × Int) [0, 1, 5, 6, 7] (fun s => [.list (some 4) (l.map ndP), .int .i64 ((l.length : Int) - 1), .sl none 0 l.length, .int .i64 i, .int .i64 s.1])
      (fun s => [some (.row none (rowM acc (s.2 + 1) l.length))])
      (fun s => s.1 ≤ n.kids.length ∧ 0 ≤ s.2 ∧ s.2 ≤ i ∧ kidsMax acc n.kids 0 = kidsMax acc (n.kids.drop s.1) s.2) (fun s => n.kids.length - s.1) (0, 0) ?_ (by simp) ⟨by simp, by simp, by simp, by simp⟩ ?_
    · simp only [SA, Nat.reduceAdd, reduceIte, Nat.reduceEqDiff, Nat.reduceBEq, reduceCtorEq, List.length_map]; rfl
    rintro ⟨j, m⟩ ⟨hj, hm0, hmi, hk⟩
    simp only at hj hm0 hmi hk
    simp only [List.zip_cons_cons, List.zip_nil_left]
    clear ha hlen hset
    rcases Nat.lt_or_ge j n.kids.length with h' | h'
    · obtain ⟨k, hkd, hkn', hkg⟩ := drop_at h'
      rw [hkd, kidsMax] at hk
      have hd2 : decide ((j : Int) < n.kids.length) = true := by simp only [decide_eq_true_eq]; omega
      obtain ⟨hk0, hki⟩ := hwk k (List.mem_of_getElem? hkn')
      have hkt : k.toNat < acc.length := by omega
      have ha := rowM_at acc (m + 1) l.length
      rw [hal] at ha
      have hb' := rowM_lt (m + 1) l.length hkt
      have hlen := rowM_len (m := m + 1) (show acc.length < l.length by omega)
      have hmx : max (m + 1) (1 + acc.getD k.toNat 0) = max m (acc.getD k.toNat 0) + 1 := by omega
      have hset := rowM_set acc (m + 1) (max (m + 1) (1 + acc.getD k.toNat 0)) l.length
      rw [hal, hmx] at hset
      have hgb := getD_bnd hb (by omega) k.toNat
      have wk : IntKind.i64.wrap (1 + acc.getD k.toNat 0) = 1 + acc.getD k.toNat 0 := IntWalk.i64_in _ (by omega)
      repeat' (first | exact True.intro | (refine PW.seqA (E := ?_) (M := ?_) ?_ ?_; rotate_left 2) | exact mergeQ_mk _ _ | (refine PW.seqK ?_; intro K hK) | refine pwB ?_ | refine pwS ?_ | refine pwL ?_ | refine pwE ?_ | refine pwR ?_ | refine pwK ?_ | refine seqK_n ‹_› ?_ | refine seqK_r ‹_› ?_ | refine seqK_e ‹_› ?_ | refine PW.regionA ?_ | exact schedW_stop_i | refine schK_n ‹_› ?_ | (refine schedW_alt_k ?_ ?_; focus (intro K hK; simp only [hd2, hgn, wk, hmx, (hkg (PV.int .i64)).1, List.length_map, ha, hb', hlen, hset, SA, Nat.reduceAdd, reduceIte, Nat.reduceEqDiff, Nat.reduceBEq, reduceCtorEq]; (try go_unwrap; try simp only [hd2, hgn, wk, hmx, (hkg (PV.int .i64)).1, List.length_map, ha, hb', hlen, hset, RR, reduceCtorEq]))) | (refine PW.cond rfl ?_ ?_ <;> intro hcond <;> (try contradiction) <;> try simp only [DD] at hcond) | (refine gd_i ?_; intro hg; try simp only [hg]) | ((first | show (_ : Nat) ≤ _ | show (_ : Nat) < _ | show (_ : Int) ≤ _ | show (_ : Int) < _ | show (_ : Nat) = _ | show (_ : Int) = _ | show (_ : Bool) = _ | show _ ∨ _ | show ¬ _); first | omega | (simp only [DD, LL] <;> omega) | (go_unwrap; omega)) | ((first | refine PW.region ?_ | refine PW.regionQ ?_ | refine schedW_done_i ?_ | show (_ : Post) _ _ _ | show @Eq (List PV) _ _ | show @Eq Bool _ _ | show opsW _ _ _ _ _ _ _ _ | show okAll _ | show @Eq Bool _ _ ∨ _); focus (simp only [hd2, hgn, wk, hmx, (hkg (PV.int .i64)).1, List.length_map, ha, hb', hlen, hset, SA, Nat.reduceAdd, reduceIte, Nat.reduceEqDiff, Nat.reduceBEq, reduceCtorEq]; (try go_unwrap; try simp only [hd2, hgn, wk, hmx, (hkg (PV.int .i64)).1, List.length_map, ha, hb', hlen, hset, RR, reduceCtorEq]))) | refine And.intro ?_ ?_ | exact Or.inr ⟨rfl, Nat.le_refl _⟩ | exact (fun h => Bool.noConfusion h))
      all_goals exact ⟨(j + 1, max m (acc.getD k.toNat 0)), rfl, rfl, ⟨h', by simp only; omega, by simp only; omega, hk⟩, by simp only; omega⟩
    · have hd2 : decide ((j : Int) < n.kids.length) = false := by simp only [decide_eq_false_iff_not]; omega
      rw [List.drop_eq_nil_of_le h', kidsMax] at hk
      repeat' (first | exact True.intro | (refine PW.seqK ?_; intro K hK) | refine pwB ?_ | refine pwS ?_ | refine pwL ?_ | refine pwE ?_ | refine pwR ?_ | refine pwK ?_ | refine seqK_n ‹_› ?_ | refine seqK_r ‹_› ?_ | refine seqK_e ‹_› ?_ | refine PW.regionA ?_ | exact schedW_stop_i | refine schK_n ‹_› ?_ | (refine schedW_alt_k ?_ ?_; focus (intro K hK; simp only [hd2, hgn, List.length_map, SA, Nat.reduceAdd, reduceIte, Nat.reduceEqDiff, Nat.reduceBEq, reduceCtorEq]; (try go_unwrap; try simp only [hd2, hgn, List.length_map, RR, reduceCtorEq]))) | (refine PW.cond rfl ?_ ?_ <;> intro hcond <;> (try contradiction) <;> try simp only [DD] at hcond) | (refine gd_i ?_; intro hg; try simp only [hg]) | ((first | show (_ : Nat) ≤ _ | show (_ : Nat) < _ | show (_ : Int) ≤ _ | show (_ : Int) < _ | show (_ : Nat) = _ | show (_ : Int) = _ | show (_ : Bool) = _ | show _ ∨ _ | show ¬ _); first | omega | (simp only [DD, LL] <;> omega) | (go_unwrap; omega)) | ((first | refine PW.region ?_ | refine PW.regionQ ?_ | refine schedW_done_i ?_ | show (_ : Post) _ _ _ | show @Eq (List PV) _ _ | show @Eq Bool _ _ | show opsW _ _ _ _ _ _ _ _ | show okAll _ | show @Eq Bool _ _ ∨ _); focus (simp only [hd2, hgn, List.length_map, SA, Nat.reduceAdd, reduceIte, Nat.reduceEqDiff, Nat.reduceBEq, reduceCtorEq]; (try go_unwrap; try simp only [hd2, hgn, List.length_map, RR, reduceCtorEq]))) | refine And.intro ?_ ?_ | exact Or.inr ⟨rfl, Nat.le_refl _⟩ | exact (fun h => Bool.noConfusion h))
      all_goals exact ⟨(i + 1, acc ++ [m + 1]), rfl, by simp only [rowM_V], ⟨h, by simp [hal], fun x hx => by
        rcases List.mem_append.1 hx with hx | hx
        · have := hb x hx; simp only; omega
        · simp at hx; subst hx; simp only; omega, hwf, by rw [hr, hk]⟩, by simp only; omega⟩
  · have hd' : decide ((i : Int) ≤ (l.length : Int) - 1) = false := by simp only [decide_eq_false_iff_not]; omega
    rw [List.drop_eq_nil_of_le h, depthsM] at hr
    have hlast : (rowV acc l.length)[l.length - 1]? = some (.int .i64 (acc.getD (l.length - 1) 0)) := rowV_lt _ (by omega)
    have hti : ((l.length : Int) - 1).toNat = l.length - 1 := by omega
    have hvl := rowV_len (acc := acc) (N := l.length) (by omega)
    repeat' (first | exact True.intro | (refine PW.seqK ?_; intro K hK) | refine pwB ?_ | refine pwS ?_ | refine pwL ?_ | refine pwE ?_ | refine pwR ?_ | refine pwK ?_ | refine seqK_n ‹_› ?_ | refine seqK_r ‹_› ?_ | refine seqK_e ‹_› ?_ | refine PW.regionA ?_ | exact schedW_stop_i | refine schK_n ‹_› ?_ | (refine schedW_alt_k ?_ ?_; focus (intro K hK; simp only [hd', hti, hlast, hvl, List.length_map, SA, Nat.reduceAdd, reduceIte, Nat.reduceEqDiff, Nat.reduceBEq, reduceCtorEq]; (try go_unwrap; try simp only [hd', hti, hlast, hvl, List.length_map, RR, reduceCtorEq]))) | (refine PW.cond rfl ?_ ?_ <;> intro hcond <;> (try contradiction) <;> try simp only [DD] at hcond) | (refine gd_i ?_; intro hg; try simp only [hg]) | ((first | show (_ : Nat) ≤ _ | show (_ : Nat) < _ | show (_ : Int) ≤ _ | show (_ : Int) < _ | show (_ : Nat) = _ | show (_ : Int) = _ | show (_ : Bool) = _ | show _ ∨ _ | show ¬ _); first | omega | (simp only [DD, LL] <;> omega) | (go_unwrap; omega)) | ((first | refine PW.region ?_ | refine PW.regionQ ?_ | refine schedW_done_i ?_ | show (_ : Post) _ _ _ | show @Eq (List PV) _ _ | show @Eq Bool _ _ | show opsW _ _ _ _ _ _ _ _ | show okAll _ | show @Eq Bool _ _ ∨ _); focus (simp only [hd', hti, hlast, hvl, List.length_map, SA, Nat.reduceAdd, reduceIte, Nat.reduceEqDiff, Nat.reduceBEq, reduceCtorEq]; (try go_unwrap; try simp only [hd', hti, hlast, hvl, List.length_map, RR, reduceCtorEq]))) | refine And.intro ?_ ?_ | exact Or.inr ⟨rfl, Nat.le_refl _⟩ | exact (fun h => Bool.noConfusion h))
    all_goals first | exact .inl ⟨rfl, rfl⟩ | (rw [depthM, hr])
end Go.Proofs.YthekpjhffciakaaDoor

namespace PG
open Go
set_option linter.unusedSimpArgs false
set_option linter.unusedVariables false
section
variable {P : Program} {G : Globs} {N : Nat} {w : World} {κ : Kap} {env : Env} {μ : Mem} {mv : Nat → Bool} {Q : Post}
/-- A nil slice in a slot, taken over as a row of its own. -/
theorem PW.ownE {x : PCode} (i : Nat) (sh : Sh) (hi : env.get i = .nilSl) (h : PW P G N mv x ((i, .sl sh μ.length 0) :: env) (μ ++ [some (MObj.row sh [])]) Q) : PW P G N mv x env μ Q := by
  intro ow L code hc hmix C a w κ hmv hR
  obtain ⟨hG, hS'⟩ := hR.sim.nilrow sh
  refine h ow L code hc hmix C a w _ hmv ⟨hR.size, hR.defers, fun j => ?_, hS', globs_goes hR.globs hG, hR.goes.trans (hG.weak fun _ h => h.elim)⟩
  have hj := hR.regs j
  by_cases e : i = j
  · subst e
    rw [hi] at hj
    rw [get_cons, if_pos rfl, rep_nilSl hj]
    exact .slnil sh μ.length (by simp)
  · rw [get_cons, if_neg e]
    exact hj.still hG
/-- A nil slice in a field of a variable of the call's own, taken over as a row of its own. -/
theorem PW.ownF {x : PCode} (t i : Nat) (sh : Sh) (n : Nat) (cs : List PV) (hm : μ.get t = some (.var (some n) (.agg cs))) (hi : cs[i]? = some .nilSl)
    (h : PW P G N mv x env ((μ ++ [some (MObj.row sh [])]).set t (some (MObj.var (some n) (.agg (cs.set i (.sl sh μ.length 0)))))) Q) : PW P G N mv x env μ Q := by
  intro ow L code hc hmix C a w κ hmv hR
  obtain ⟨hG, hS'⟩ := hR.sim.nilrow sh
  have hlt : t < μ.length := by
    rcases Nat.lt_or_ge t μ.length with h | h
    · exact h
    · simp [Mem.get, List.getElem?_eq_none h] at hm
  have hm' : Mem.get (μ ++ [some (MObj.row sh [])]) t = some (MObj.var (some n) (.agg cs)) := by
    unfold Mem.get at hm ⊢
    rw [List.getElem?_append_left hlt]; exact hm
  have hS'' := hS'.swap hm' (o' := MObj.var (some n) (.agg (cs.set i (.sl sh μ.length 0)))) (fun c hO => by
    cases hO with
    | var b arr E _ _ hb hs hsh hr =>
      obtain ⟨cs', e, hl⟩ := hsh
      cases e
      refine .var b arr E (some n) _ hb hs ⟨_, rfl, by simpa using hl⟩ (fun j p v hj hv => ?_)
      simp only [PV.cells] at hj hr
      by_cases e : i = j
      · subst e
        have hil : i < cs.length := (List.getElem?_eq_some_iff.1 hi).1
        rw [List.getElem?_set_self hil] at hj
        cases hj
        have := hr i .nilSl v hi hv
        rw [rep_nilSl this]
        exact .slnil sh μ.length (by simp)
      · rw [List.getElem?_set_ne e] at hj
        exact hr j p v hj hv)
  exact h ow L code hc hmix C a w _ hmv ⟨hR.size, hR.defers, fun j => (hR.regs j).still hG, hS'', globs_goes hR.globs hG, hR.goes.trans (hG.weak fun _ h => h.elim)⟩
end
end PG

