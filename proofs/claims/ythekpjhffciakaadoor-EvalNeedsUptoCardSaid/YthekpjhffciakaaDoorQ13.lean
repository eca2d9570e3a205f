import Derived.Test.YthekpjhffciakaaDoorProg
import Derived.KernelRfl
import Derived.Test.YthekpjhffciakaaDoorRows
import Derived.LaidMore
import Derived.Stop.Joined
import Derived.Test.YthekpjhffciakaaDoorP4
import Derived.Test.YthekpjhffciakaaDoorQ9
import Derived.Test.YthekpjhffciakaaDoorQ10
import Derived.Test.YthekpjhffciakaaDoorQ12
import Derived.Test.YthekpjhffciakaaDoorQ7
namespace Go.Proofs.YthekpjhffciakaaDoor
open PG Go.Proofs
-- wagebook/wagebooklaw15.EvalNeeds
def L9 : List Nat := [0, 2, 3, 5, 6, 7, 9, 11, 12, 13, 14, 17, 20, 21, 22, 23, 29, 37, 38, 39, 40, 49, 55, 56, 57, 58, 71, 72, 73, 74, 75, 95]
def c9 : CF := ⟨98,
 .seq (.region false [⟨some 2, none, .rd .mov [.pv (.bool false)]⟩] L9)
 (.seq (.seq (.region false [oM 15 0,
 ⟨some 16, none, .rd .lenL [.tmp 15]⟩,
 ⟨some 17, none, .rd (.bin .gtr) [.tmp 16, .pv (.int .i64 70)]⟩] L9)
 (.cond (.tmp 17)
 (.seq (.region false [⟨some 18, none, .call (.pv (.fn 15 [] [])) []⟩,
 oM 2 18] L9)
 (.ret))
 (.skip)))
 (.seq (.region false [⟨some 19, none, .eff (.mmk .str) []⟩,
 oM 3 19] L9)
 (.seq (.seq (.region false [oM 20 0,
 ⟨some 21, none, .rd .lenL [.tmp 20]⟩,
 ⟨some 22, none, .rd .mov [.pv (.int .i64 0)]⟩] L9)
 (.block 0
 (.loop
 (.seq (.region false [⟨some 23, none, .rd (.bin .lss) [.tmp 22, .tmp 21]⟩] L9)
 (.seq (.cond (.tmp 23)
 (.skip)
 (.exit 0))
 (.seq (.block 1
 (.seq (.region false [⟨some 24, none, .rd (.idxAddr (some 2)) [.tmp 20, .tmp 22]⟩,
 ⟨some 25, none, .rd (.load (some 2)) [.tmp 24]⟩,
 ⟨some 5, none, .eff (.alloc (some 2) (.agg [(.str []), .nilSl])) []⟩,
 ⟨none, none, .eff (.store (some 2)) [.tmp 5, .tmp 25]⟩] L9)
 (.seq (.seq (.region false [oF 1 26 5,
 ⟨some 27, none, .rd (.load (some 1)) [.tmp 26]⟩,
 ⟨some 28, none, .call (.pv (.fn 14 [] [])) [.tmp 27]⟩,
 ⟨some 29, none, .rd (.un .not) [.tmp 28]⟩] L9)
 (.cond (.tmp 29)
 (.seq (.region false [⟨some 30, none, .call (.pv (.fn 15 [] [])) []⟩,
 oM 2 30] L9)
 (.ret))
 (.skip)))
 (.seq (.region false [oF 1 32 5,
 ⟨some 33, none, .rd (.load (some 1)) [.tmp 32]⟩,
 ⟨some 34, none, .call (.pv (.fn 31 [] [])) [.tmp 33]⟩,
 oM 31 34,
 ⟨some 35, none, .rd (.ext 0) [.tmp 31]⟩,
 ⟨some 36, none, .rd (.ext 1) [.tmp 31]⟩,
 oM 6 35,
 oM 7 36] L9)
 (.seq (.region false [oM 37 6,
 ⟨some 38, none, .rd .lenL [.tmp 37]⟩,
 ⟨some 39, none, .rd .mov [.pv (.int .i64 0)]⟩] L9)
 (.block 2
 (.loop
 (.seq (.region false [⟨some 40, none, .rd (.bin .lss) [.tmp 39, .tmp 38]⟩] L9)
 (.seq (.cond (.tmp 40)
 (.skip)
 (.exit 2))
 (.seq (.block 3
 (.seq (.region false [⟨some 41, none, .rd (.idxAddr (some 4)) [.tmp 37, .tmp 39]⟩,
 ⟨some 42, none, .rd (.load (some 4)) [.tmp 41]⟩,
 ⟨some 9, none, .eff (.alloc (some 4) (.agg [(.int .i64 0), (.int .i64 0), (.str []), .nilSl])) []⟩,
 ⟨none, none, .eff (.store (some 4)) [.tmp 9, .tmp 42]⟩] L9)
 (.seq (.region false [oM 43 7,
 ⟨some 44, none, .rd (.bin .eql) [.tmp 43, .pv (.int .i64 0)]⟩,
 oM 45 44,
 qF 0 45 true 46 9,
 qL 45 true 47 46,
 ⟨some 48, some (45, true), .rd (.bin .eql) [.tmp 47, .pv (.int .i64 1)]⟩,
 ⟨some 49, none, .rd .pick [.tmp 45, .tmp 48, .pv (.bool false)]⟩] L9)
 (.cond (.tmp 49)
 (.region false [oM 50 3,
 oF 2 51 9,
 oL 52 51,
 ⟨none, none, .eff (.mupd .str) [.tmp 50, .tmp 52, .pv (.bool true)]⟩] L9)
 (.skip)))))
 (.region false [⟨some 53, none, .rd (.bin .add) [.tmp 39, .pv (.int .i64 1)]⟩,
 oM 39 53] L9)))))))))))
 (.region false [⟨some 54, none, .rd (.bin .add) [.tmp 22, .pv (.int .i64 1)]⟩,
 oM 22 54] L9)))))))
 (.seq (.seq (.region false [oM 55 0,
 ⟨some 56, none, .rd .lenL [.tmp 55]⟩,
 ⟨some 57, none, .rd .mov [.pv (.int .i64 0)]⟩] L9)
 (.block 4
 (.loop
 (.seq (.region false [⟨some 58, none, .rd (.bin .lss) [.tmp 57, .tmp 56]⟩] L9)
 (.seq (.cond (.tmp 58)
 (.skip)
 (.exit 4))
 (.seq (.block 5
 (.seq (.region false [⟨some 59, none, .rd (.idxAddr (some 2)) [.tmp 55, .tmp 57]⟩,
 ⟨some 60, none, .rd (.load (some 2)) [.tmp 59]⟩,
 ⟨some 11, none, .eff (.alloc (some 2) (.agg [(.str []), .nilSl])) []⟩,
 ⟨none, none, .eff (.store (some 2)) [.tmp 11, .tmp 60]⟩] L9)
 (.region false [oM 61 3,
 oF 0 62 11,
 oL 63 62,
 ⟨none, none, .eff (.mdel .str) [.tmp 61, .tmp 63]⟩] L9)))
 (.region false [⟨some 64, none, .rd (.bin .add) [.tmp 57, .pv (.int .i64 1)]⟩,
 oM 57 64] L9)))))))
 (.seq (.region false [oM 65 0,
 ⟨some 66, none, .call (.pv (.fn 32 [] [])) [.tmp 65]⟩,
 oM 12 66] L9)
 (.seq (.seq (.region false [oM 67 12,
 ⟨some 68, none, .rd .lenL [.tmp 67]⟩,
 oM 69 3,
 ⟨some 70, none, .rd .lenM [.tmp 69]⟩,
 ⟨some 71, none, .rd (.bin .neq) [.tmp 68, .tmp 70]⟩] L9)
 (.cond (.tmp 71)
 (.seq (.region false [⟨some 2, none, .rd .mov [.pv (.bool false)]⟩] L9)
 (.ret))
 (.skip)))
 (.seq (.seq (.region false [oM 72 12,
 ⟨some 73, none, .rd .lenL [.tmp 72]⟩,
 ⟨some 74, none, .rd .mov [.pv (.int .i64 0)]⟩] L9)
 (.block 6
 (.loop
 (.seq (.region false [⟨some 75, none, .rd (.bin .lss) [.tmp 74, .tmp 73]⟩] L9)
 (.seq (.cond (.tmp 75)
 (.skip)
 (.exit 6))
 (.seq (.block 7
 (.seq (.region false [oM 76 74,
 ⟨some 77, none, .rd (.idxAddr none) [.tmp 72, .tmp 74]⟩,
 oL 78 77,
 oM 13 76,
 oM 14 78] L9)
 (.seq (.region false [oM 79 3,
 oM 80 14,
 ⟨some 81, none, .rd (.look .str false (.bool false)) [.tmp 79, .tmp 80]⟩,
 ⟨some 82, none, .rd (.un .not) [.tmp 81]⟩,
 oM 83 82,
 qM 83 false 84 13,
 ⟨some 85, some (83, false), .rd (.bin .gtr) [.tmp 84, .pv (.int .i64 0)]⟩,
 qM 83 false 86 85,
 qM 86 true 87 14,
 qM 86 true 88 12,
 qM 86 true 89 13,
 ⟨some 90, some (86, true), .rd (.bin .sub) [.tmp 89, .pv (.int .i64 1)]⟩,
 ⟨some 91, some (86, true), .rd (.idxAddr none) [.tmp 88, .tmp 90]⟩,
 qL 86 true 92 91,
 ⟨some 93, some (86, true), .rd (.bin .leq) [.tmp 87, .tmp 92]⟩,
 ⟨some 94, some (83, false), .rd .pick [.tmp 86, .tmp 93, .pv (.bool false)]⟩,
 ⟨some 95, none, .rd .pick [.tmp 83, .pv (.bool true), .tmp 94]⟩] L9)
 (.cond (.tmp 95)
 (.seq (.region false [⟨some 2, none, .rd .mov [.pv (.bool false)]⟩] L9)
 (.ret))
 (.skip)))))
 (.region false [⟨some 96, none, .rd (.bin .add) [.tmp 74, .pv (.int .i64 1)]⟩,
 oM 74 96] L9)))))))
 (.seq (.region false [⟨some 97, none, .call (.pv (.fn 15 [] [])) []⟩,
 oM 2 97] L9)
 (.ret))))))))),
 [.tmp 2]⟩
theorem k9 : compileF Tryd.prog [] L9 Tryd.f9 = some c9 := by kernel_rfl
end Go.Proofs.YthekpjhffciakaaDoor

namespace Go.Proofs.YthekpjhffciakaaDoor
open Go PG Go.Proofs
set_option linter.unusedSimpArgs false
set_option linter.unusedVariables false
set_option maxHeartbeats 4000000
set_option maxRecDepth 100000
/-! What the document wants -/
abbrev Wm := List (List UInt8 × Bool)
def wantN (e : Int) (l : List Nd) (es : Wm) : Wm := l.foldl (fun es n => if e = 0 ∧ n.op = 1 then aset es n.name true else es) es
def wantR (rs : List Rl) : Wm := rs.foldl (fun es r => wantN (checkM r.tree) r.tree es) []
theorem wantN_snoc (e : Int) (l : List Nd) (n : Nd) (es : Wm) : wantN e (l ++ [n]) es = if e = 0 ∧ n.op = 1 then aset (wantN e l es) n.name true else wantN e l es := by
  unfold wantN; rw [List.foldl_append]; rfl
theorem wantR_snoc (rs : List Rl) (r : Rl) : wantR (rs ++ [r]) = wantN (checkM r.tree) r.tree (wantR rs) := by
  unfold wantR; rw [List.foldl_append]; rfl
theorem aset_mem {es : Wm} {k s : List UInt8} : s ∈ (aset es k true).map (·.1) ↔ s ∈ es.map (·.1) ∨ s = k := by
  rw [aset_keys]
  split
  · rename_i h
    exact ⟨.inl, fun hh => hh.elim id fun e => by rw [e]; exact h⟩
  · simp
theorem aset_true {es : Wm} (h : ∀ q ∈ es, q.2 = true) (k : List UInt8) : ∀ q ∈ aset es k true, q.2 = true := by
  induction es with
  | nil => intro q hq; simp [aset] at hq; rw [hq]
  | cons x es ih =>
    intro q hq
    unfold aset at hq
    split at hq
    · rcases List.mem_cons.1 hq with rfl | hq
      · rfl
      · exact h q (by simp [hq])
    · rcases List.mem_cons.1 hq with rfl | hq
      · exact h q (by simp)
      · exact ih (fun q hq => h q (by simp [hq])) q hq
structure WOk (es : Wm) : Prop where
  nd : (es.map (·.1)).Nodup
  tr : ∀ q ∈ es, q.2 = true
theorem WOk.set {es : Wm} (h : WOk es) (k : List UInt8) : WOk (aset es k true) := ⟨aset_nodup h.nd k true, aset_true h.tr k⟩
theorem wantN_spec (e : Int) : ∀ (l : List Nd) (es : Wm), WOk es → WOk (wantN e l es) ∧ ∀ s, s ∈ (wantN e l es).map (·.1) ↔ s ∈ es.map (·.1) ∨ (e = 0 ∧ s ∈ namesV l)
  | [], es, h => ⟨h, fun s => by simp [wantN, namesV]⟩
  | n :: l, es, h => by
    have hc : wantN e (n :: l) es = wantN e l (if e = 0 ∧ n.op = 1 then aset es n.name true else es) := rfl
    have hnv : namesV (n :: l) = (if n.op = 1 then [n.name] else []) ++ namesV l := by
      unfold namesV
      by_cases ho : n.op = 1 <;> simp [ho]
    rw [hc, hnv]
    by_cases hh : e = 0 ∧ n.op = 1
    · rw [if_pos hh, if_pos hh.2]
      obtain ⟨h1, h2⟩ := wantN_spec e l _ (h.set n.name)
      refine ⟨h1, fun s => ?_⟩
      rw [h2, aset_mem]
      simp [hh.1, or_assoc]
    · rw [if_neg hh]
      obtain ⟨h1, h2⟩ := wantN_spec e l es h
      refine ⟨h1, fun s => ?_⟩
      rw [h2]
      by_cases he : e = 0
      · rw [if_neg (fun ho => hh ⟨he, ho⟩)]; simp
      · simp [he]
theorem wantR_spec : ∀ (k : Nat) (rs : List Rl), rs.length = k → WOk (wantR rs) ∧ ∀ s, s ∈ (wantR rs).map (·.1) ↔ ∃ r ∈ rs, checkM r.tree = 0 ∧ s ∈ namesV r.tree
  | 0, rs, h => by
    have : rs = [] := List.length_eq_zero_iff.1 h
    subst this
    exact ⟨⟨by simp [wantR], by simp [wantR]⟩, fun s => by simp [wantR]⟩
  | k + 1, rs, h => by
    rcases List.eq_nil_or_concat rs with rfl | ⟨rs', r, rfl⟩
    · simp at h
    · rw [List.concat_eq_append] at *
      obtain ⟨h1, h2⟩ := wantR_spec k rs' (by simpa using h)
      rw [wantR_snoc]
      obtain ⟨h3, h4⟩ := wantN_spec (checkM r.tree) r.tree _ h1
      refine ⟨h3, fun s => ?_⟩
      rw [h4, h2]
      constructor
      · rintro (⟨q, hq, a⟩ | a)
        · exact ⟨q, by simp [hq], a⟩
        · exact ⟨r, by simp, a⟩
      · rintro ⟨q, hq, a⟩
        rcases List.mem_append.1 hq with hq | hq
        · exact .inl ⟨q, hq, a⟩
        · rw [List.mem_singleton.1 hq] at a; exact .inr a
/-- Without a key. -/
def adel (es : Wm) (k : List UInt8) : Wm := es.filter fun q => !decide (q.1 = k)
theorem mdel_str : ∀ (es : Wm) (k : List UInt8), (es.map (·.1)).Nodup → mdel (strM PV.bool es) (.str k) = strM PV.bool (adel es k)
  | [], k, _ => rfl
  | q :: es, k, h => by
    simp only [List.map_cons, List.nodup_cons] at h
    have ih := mdel_str es k h.2
    unfold mdel at ih ⊢
    simp only [strM, mapP, List.map_cons, mfind, keyEq] at ih ⊢
    by_cases hq : q.1 = k
    · subst hq
      simp only [decide_true, if_true, List.eraseIdx_cons_zero]
      have : adel (q :: es) q.1 = es := by
        unfold adel
        rw [List.filter_cons_of_neg (by simp)]
        exact List.filter_eq_self.2 (fun x hx => by simp; intro e; exact h.1 (by rw [← e]; exact List.mem_map_of_mem hx))
      rw [this]
    · simp only [hq, decide_false, Bool.false_eq_true, if_false]
      have : adel (q :: es) k = q :: adel es k := by unfold adel; rw [List.filter_cons_of_pos (by simp [hq])]
      rw [this]
      cases hf : mfind (es.map fun q => (PV.str q.1, PV.bool q.2)) (.str k) with
      | none =>
        rw [hf] at ih
        simp only [Option.map_none, List.map_cons] at ih ⊢
        rw [ih]
      | some x =>
        rw [hf] at ih
        simp only [Option.map_some, List.map_cons, List.eraseIdx_cons_succ] at ih ⊢
        rw [ih]
theorem WOk.del {es : Wm} (h : WOk es) (k : List UInt8) : WOk (adel es k) := ⟨((List.filter_sublist (l := es)).map _).nodup h.nd, fun q hq => h.tr q (List.mem_filter.1 hq).1⟩
def delR (es : Wm) (rs : List Rl) : Wm := rs.foldl (fun es r => adel es r.name) es
theorem delR_snoc (es : Wm) (rs : List Rl) (r : Rl) : delR es (rs ++ [r]) = adel (delR es rs) r.name := by
  unfold delR; rw [List.foldl_append]; rfl
theorem delR_spec : ∀ (rs : List Rl) (es : Wm), WOk es → WOk (delR es rs) ∧ ∀ s, s ∈ (delR es rs).map (·.1) ↔ s ∈ es.map (·.1) ∧ s ∉ rs.map (·.name)
  | [], es, h => ⟨h, fun s => by simp [delR]⟩
  | r :: rs, es, h => by
    obtain ⟨h1, h2⟩ := delR_spec rs _ (h.del r.name)
    refine ⟨h1, fun s => ?_⟩
    have : delR es (r :: rs) = delR (adel es r.name) rs := rfl
    rw [this, h2]
    have hm : s ∈ (adel es r.name).map (·.1) ↔ s ∈ es.map (·.1) ∧ s ≠ r.name := by
      unfold adel
      simp only [List.mem_map, List.mem_filter, Bool.not_eq_true', decide_eq_false_iff_not]
      constructor
      · rintro ⟨q, ⟨a, b⟩, rfl⟩; exact ⟨⟨q, a, rfl⟩, b⟩
      · rintro ⟨⟨q, a, rfl⟩, b⟩; exact ⟨q, ⟨a, b⟩, rfl⟩
    rw [hm]
    simp [and_assoc]
theorem reads_spec (rs : List Rl) : Str (readsM rs) ∧ ∀ s, s ∈ readsM rs ↔ s ∈ (delR (wantR rs) rs).map (·.1) := by
  obtain ⟨h1, h2⟩ := cmpT_sort (readsR rs rs)
  refine ⟨h1, fun s => ?_⟩
  have hw := wantR_spec _ rs rfl
  rw [(delR_spec rs _ hw.1).2, hw.2]
  show s ∈ Lib.compact (sortT (readsR rs rs)) ↔ _
  rw [h2]
  unfold readsR
  simp only [List.mem_flatMap, List.mem_filter]
  have hf : freeN rs s = true ↔ s ∉ rs.map (·.name) := by
    unfold freeN; rw [decide_eq_true_eq]; exact (madeE_get _ rs rfl s).2.2
  have hv : ∀ l : List Nd, s ∈ varsT l ↔ checkM l = 0 ∧ s ∈ namesV l := fun l => by
    unfold varsT
    by_cases hc : checkM l = 0
    · rw [if_pos hc, (vars_spec l).2]; simp [hc]
    · rw [if_neg hc]; simp [hc]
  constructor
  · rintro ⟨r, hr, a, b⟩; exact ⟨⟨r, hr, (hv _).1 a⟩, hf.1 b⟩
  · rintro ⟨⟨r, hr, a⟩, b⟩; exact ⟨r, hr, (hv _).2 a, hf.2 b⟩
theorem reads_len (rs : List Rl) : (readsM rs).length = (delR (wantR rs) rs).length := by
  obtain ⟨h1, h2⟩ := reads_spec rs
  have hw := (delR_spec rs _ (wantR_spec _ rs rfl).1).1
  have := ((List.perm_ext_iff_of_nodup h1.nodup hw.nd).2 h2).length_eq
  simpa using this
end Go.Proofs.YthekpjhffciakaaDoor

namespace Go.Proofs.YthekpjhffciakaaDoor
open Go PG Go.Proofs
set_option linter.unusedSimpArgs false
set_option linter.unusedVariables false
set_option maxHeartbeats 4000000
set_option maxRecDepth 100000
theorem v9 (rs : List Rl) (hr : ∀ r ∈ rs, RlOk r) (hl : rs.length ≤ 9223372036854775807) : VCalls Tryd.prog GK 9 [rlsP rs] (.bool true) := by
  refine VCalls.of_PW Tryd.func9 k9 mix (by simp [c9]) ?_
  simp only [c9, L9, CC, argE, rlsP]
  have h15 := v15 (G := GK) hasKK
  have hll : ((rs.map rlP).length : Nat) = rs.length := by simp
  have hrp : ∀ r : Rl, rlP r = .agg [.str r.name, .list (some 4) (r.tree.map ndP)] := fun _ => rfl
  have hsc : ∀ (a b : Int) (t : List UInt8) (ks : List PV), ∀ x ∈ [PV.int IntKind.i64 a, PV.int IntKind.i64 b, PV.str t, PV.list none ks], x.scalar = true := by
    intro a b t ks x hc; simp at hc; rcases hc with rfl | rfl | rfl | rfl <;> rfl
  by_cases h70 : 70 < rs.length
  · have d1 : decide ((70 : Int) < rs.length) = true := by simp only [decide_eq_true_eq]; omega
    repeat' (first | exact True.intro | (refine PW.seqK ?_; intro K hK) | refine stp ?_ | refine seqK_n ‹_› ?_ | refine seqK_r ‹_› ?_ | refine seqK_e ‹_› ?_ | exact schedW_stop_i | refine schK_n ‹_› ?_ | (refine PW.cond rfl ?_ ?_ <;> intro hcond <;> (try contradiction) <;> try simp only [DD] at hcond) | (refine gd_i ?_; intro hg; try simp only [hg]) | refine goCall_W e15 (h15) ?_ ?_ ?_ ?_ | (refine ari ?_; first | omega | (simp only [DD, LL] <;> omega) | (go_unwrap; omega)) | ((first | refine stq ?_ | show (_ : Post) _ _ _ | (refine schedW_alt_k ?_ ?_; intro K hK)); focus (simp only [hll, d1, SA, Nat.reduceAdd, reduceIte, Nat.reduceEqDiff, Nat.reduceBEq, reduceCtorEq]; (try go_unwrap; try simp only [hll, d1, RR, reduceCtorEq]))) | refine And.intro ?_ ?_ | exact Or.inr ⟨rfl, Nat.le_refl _⟩ | exact (fun h => Bool.noConfusion h))
  have d1 : decide ((70 : Int) < rs.length) = false := by simp only [decide_eq_false_iff_not]; omega
  repeat' (first | exact True.intro | (refine PW.seqK ?_; intro K hK) | refine stp ?_ | refine seqK_n ‹_› ?_ | refine seqK_r ‹_› ?_ | refine seqK_e ‹_› ?_ | exact schedW_stop_i | refine schK_n ‹_› ?_ | (refine PW.cond rfl ?_ ?_ <;> intro hcond <;> (try contradiction) <;> try simp only [DD] at hcond) | (refine gd_i ?_; intro hg; try simp only [hg]) | (refine ari ?_; first | omega | (simp only [DD, LL] <;> omega) | (go_unwrap; omega)) | ((first | refine stq ?_ | show (_ : Post) _ _ _ | (refine schedW_alt_k ?_ ?_; intro K hK)); focus (simp only [hll, d1, SA, Nat.reduceAdd, reduceIte, Nat.reduceEqDiff, Nat.reduceBEq, reduceCtorEq]; (try go_unwrap; try simp only [hll, d1, RR, reduceCtorEq]))) | refine And.intro ?_ ?_ | exact Or.inr ⟨rfl, Nat.le_refl _⟩ | exact (fun h => Bool.noConfusion h))
  refine PW.loopG (σ := Nat) 1 (fun _ _ => rfl) [0, 3, 20, 21, 22] (fun i => [.list (some 2) (rs.map rlP), .mref 0, .list (some 2) (rs.map rlP), .int .i64 rs.length, .int .i64 i])
    (fun i => [some (.mp .str (strM PV.bool (wantR (rs.take i))))]) (fun i => i ≤ rs.length) (fun i => rs.length - i) 0 ?_ rfl (by omega) ?_
  · simp only [SA, Nat.reduceAdd, reduceIte, Nat.reduceEqDiff, Nat.reduceBEq, reduceCtorEq]; rfl
  intro i hi
  simp only [List.zip_cons_cons, List.zip_nil_left]
  rcases Nat.lt_or_ge i rs.length with h | h
  · have hd : decide ((i : Int) < rs.length) = true := by simp only [decide_eq_true_eq]; omega
    obtain ⟨r, -, hn, hg⟩ := drop_at h
    have hgn := ((hg rlP).1).trans (hrp r)
    have hni : rs[i] = r := by rw [List.getElem?_eq_getElem h] at hn; exact Option.some.inj hn
    have hst : wantR (rs.take (i + 1)) = wantN (checkM r.tree) r.tree (wantR (rs.take i)) := by
      rw [List.take_succ_eq_append_getElem h, hni, wantR_snoc]
    have hok := hr r (List.mem_of_getElem? hn)
    have h14 := v14 (G := GK) r.tree (by have := hok.len; omega)
    have h31 := v31 r.tree hok.len hok.sz
    have hnl := hok.len
    generalize wantR (rs.take i) = W at *
    have hml : ((r.tree.map ndP).length : Nat) = r.tree.length := by simp
    simp only [treeP] at h14 h31
    cases hsm : smallM r.tree with
    | false =>
      rw [hsm] at h14
      repeat' (first | exact True.intro | (exact Or.inr ⟨rfl, by decide⟩) | (refine PW.seqK ?_; intro K hK) | refine stp ?_ | refine seqK_n ‹_› ?_ | refine seqK_r ‹_› ?_ | refine seqK_e ‹_› ?_ | exact schedW_stop_i | refine schK_n ‹_› ?_ | (refine PW.cond rfl ?_ ?_ <;> intro hcond <;> (try contradiction) <;> try simp only [DD] at hcond) | (refine gd_i ?_; intro hg; try simp only [hg]) | refine goCall_W e14 (h14) ?_ ?_ ?_ ?_ | refine goCall_W e15 (h15) ?_ ?_ ?_ ?_ | (refine ari ?_; first | omega | (simp only [DD, LL] <;> omega) | (go_unwrap; omega)) | ((first | refine stq ?_ | show (_ : Post) _ _ _ | (refine schedW_alt_k ?_ ?_; intro K hK)); focus (simp only [hll, hd, hgn, cutR, SA, Nat.reduceAdd, reduceIte, Nat.reduceEqDiff, Nat.reduceBEq, reduceCtorEq]; (try go_unwrap; try simp only [hll, hd, hgn, cutR, RR, reduceCtorEq]))) | refine And.intro ?_ ?_ | exact Or.inr ⟨rfl, Nat.le_refl _⟩ | exact (fun h => Bool.noConfusion h))
    | true =>
      rw [hsm] at h14
      generalize checkM r.tree = e at *
      repeat' (first | exact True.intro | (exact Or.inr ⟨rfl, by decide⟩) | (refine PW.seqK ?_; intro K hK) | refine stp ?_ | refine seqK_n ‹_› ?_ | refine seqK_r ‹_› ?_ | refine seqK_e ‹_› ?_ | exact schedW_stop_i | refine schK_n ‹_› ?_ | (refine PW.cond rfl ?_ ?_ <;> intro hcond <;> (try contradiction) <;> try simp only [DD] at hcond) | (refine gd_i ?_; intro hg; try simp only [hg]) | refine goCall_W e14 (h14) ?_ ?_ ?_ ?_ | refine goCall_W e31 (h31) ?_ ?_ ?_ ?_ | (refine ari ?_; first | omega | (simp only [DD, LL] <;> omega) | (go_unwrap; omega)) | ((first | refine stq ?_ | show (_ : Post) _ _ _ | (refine schedW_alt_k ?_ ?_; intro K hK)); focus (simp only [hll, hd, hgn, cutR, hml, SA, Nat.reduceAdd, reduceIte, Nat.reduceEqDiff, Nat.reduceBEq, reduceCtorEq]; (try go_unwrap; try simp only [hll, hd, hgn, cutR, hml, RR, reduceCtorEq]))) | refine And.intro ?_ ?_ | exact Or.inr ⟨rfl, Nat.le_refl _⟩ | exact (fun h => Bool.noConfusion h))
      refine PW.loopG (σ := Nat) 2 (fun _ _ => rfl) [0, 3, 7, 20, 21, 22, 37, 38, 39] (fun j => [.list (some 2) (rs.map rlP), .mref 0, .int .i64 e, .list (some 2) (rs.map rlP), .int .i64 rs.length, .int .i64 i, .list (some 4) (r.tree.map ndP), .int .i64 r.tree.length, .int .i64 j])
        (fun j => [some (.mp .str (strM PV.bool (wantN e (r.tree.take j) W))), some (.var (some 2) (.agg [.str r.name, .list (some 4) (r.tree.map ndP)]))]) (fun j => j ≤ r.tree.length) (fun j => r.tree.length - j) 0 ?_ (by first | rfl | simp [wantN]) (by omega) ?_
      · simp only [SA, Nat.reduceAdd, reduceIte, Nat.reduceEqDiff, Nat.reduceBEq, reduceCtorEq]; rfl
      intro j hj
      simp only [List.zip_cons_cons, List.zip_nil_left]
      rcases Nat.lt_or_ge j r.tree.length with h' | h'
      · have hd2 : decide ((j : Int) < r.tree.length) = true := by simp only [decide_eq_true_eq]; omega
        obtain ⟨n, -, hn', hg'⟩ := drop_at h'
        have hgn' := ((hg' ndP).1).trans (ndP1 n)
        have hni' : r.tree[j] = n := by rw [List.getElem?_eq_getElem h'] at hn'; exact Option.some.inj hn'
        have hst2 : wantN e (r.tree.take (j + 1)) W = if e = 0 ∧ n.op = 1 then aset (wantN e (r.tree.take j) W) n.name true else wantN e (r.tree.take j) W := by
          rw [List.take_succ_eq_append_getElem h', hni', wantN_snoc]
        generalize wantN e (r.tree.take j) W = V at *
        have hms := mset_str PV.bool V n.name true
        by_cases hh : e = 0 ∧ n.op = 1
        · rw [if_pos hh] at hst2
          have q1 : decide (e = 0) = true := decide_eq_true hh.1
          have q2 : decide (n.op = 1) = true := decide_eq_true hh.2
          repeat' (first | exact True.intro | exact (rfl : KK.str = KK.str) | (exact Or.inr ⟨rfl, by decide⟩) | (refine PW.seqK ?_; intro K hK) | refine stp ?_ | refine seqK_n ‹_› ?_ | refine seqK_r ‹_› ?_ | refine seqK_e ‹_› ?_ | exact schedW_stop_i | refine schK_n ‹_› ?_ | (refine PW.cond rfl ?_ ?_ <;> intro hcond <;> (try contradiction) <;> try simp only [DD] at hcond) | (refine gd_i ?_; intro hg; try simp only [hg]) | (refine ari ?_; first | omega | (simp only [DD, LL] <;> omega) | (go_unwrap; omega)) | ((first | refine stq ?_ | show (_ : Post) _ _ _ | (refine schedW_alt_k ?_ ?_; intro K hK)); focus (simp only [hd2, hgn', q1, q2, hms, SA, Nat.reduceAdd, reduceIte, Nat.reduceEqDiff, Nat.reduceBEq, reduceCtorEq]; (try go_unwrap; try simp only [hd2, hgn', q1, q2, hms, RR, reduceCtorEq]))) | refine And.intro ?_ ?_ | exact Or.inr ⟨rfl, Nat.le_refl _⟩ | exact (fun h => Bool.noConfusion h))
          all_goals exact ⟨j + 1, (by first | rfl | (simp only [TT, MObj.kill, PV.kill, Nat.reduceLeDiff, reduceIte, Nat.le_refl, Nat.zero_le, Nat.not_le, Nat.lt_irrefl]; done) | (simp [trimE, trimM, MObj.kill, PV.kill]; done)), (by rw [hst2]; exact (by first | rfl | (simp only [TT, MObj.kill, PV.kill, Nat.reduceLeDiff, reduceIte, Nat.le_refl, Nat.zero_le, Nat.not_le, Nat.lt_irrefl]; done) | (simp [trimE, trimM, MObj.kill, PV.kill]; done))), by omega, by omega⟩
        · rw [if_neg hh] at hst2
          have q1 : (decide (e = 0) && decide (n.op = 1)) = false := by
            rw [Bool.and_eq_false_iff, decide_eq_false_iff_not, decide_eq_false_iff_not]
            exact Classical.not_and_iff_not_or_not.1 hh
          repeat' (first | exact True.intro | (exact Or.inr ⟨rfl, by decide⟩) | (refine PW.seqK ?_; intro K hK) | refine stp ?_ | refine seqK_n ‹_› ?_ | refine seqK_r ‹_› ?_ | refine seqK_e ‹_› ?_ | exact schedW_stop_i | refine schK_n ‹_› ?_ | (refine PW.cond rfl ?_ ?_ <;> intro hcond <;> (try contradiction) <;> try simp only [DD] at hcond) | (refine gd_i ?_; intro hg; try simp only [hg]) | (refine ari ?_; first | omega | (simp only [DD, LL] <;> omega) | (go_unwrap; omega)) | ((first | refine stq ?_ | show (_ : Post) _ _ _ | (refine schedW_alt_k ?_ ?_; intro K hK)); focus (simp only [hd2, hgn', q1, SA, Nat.reduceAdd, reduceIte, Nat.reduceEqDiff, Nat.reduceBEq, reduceCtorEq]; (try go_unwrap; try simp only [hd2, hgn', q1, RR, reduceCtorEq]))) | refine And.intro ?_ ?_ | exact Or.inr ⟨rfl, Nat.le_refl _⟩ | exact (fun h => Bool.noConfusion h))
          all_goals exact ⟨j + 1, (by first | rfl | (simp only [TT, MObj.kill, PV.kill, Nat.reduceLeDiff, reduceIte, Nat.le_refl, Nat.zero_le, Nat.not_le, Nat.lt_irrefl]; done) | (simp [trimE, trimM, MObj.kill, PV.kill]; done)), (by rw [hst2]; exact (by first | rfl | (simp only [TT, MObj.kill, PV.kill, Nat.reduceLeDiff, reduceIte, Nat.le_refl, Nat.zero_le, Nat.not_le, Nat.lt_irrefl]; done) | (simp [trimE, trimM, MObj.kill, PV.kill]; done))), by omega, by omega⟩
      · have hd2 : decide ((j : Int) < r.tree.length) = false := by simp only [decide_eq_false_iff_not]; omega
        rw [List.take_of_length_le h', ← hst]
        repeat' (first | exact True.intro | (refine PW.seqK ?_; intro K hK) | refine stp ?_ | refine seqK_n ‹_› ?_ | refine seqK_r ‹_› ?_ | refine seqK_e ‹_› ?_ | exact schedW_stop_i | refine schK_n ‹_› ?_ | (refine PW.cond rfl ?_ ?_ <;> intro hcond <;> (try contradiction) <;> try simp only [DD] at hcond) | (refine gd_i ?_; intro hg; try simp only [hg]) | (refine ari ?_; first | omega | (simp only [DD, LL] <;> omega) | (go_unwrap; omega)) | ((first | refine stq ?_ | show (_ : Post) _ _ _ | (refine schedW_alt_k ?_ ?_; intro K hK)); focus (simp only [hd2, SA, Nat.reduceAdd, reduceIte, Nat.reduceEqDiff, Nat.reduceBEq, reduceCtorEq]; (try go_unwrap; try simp only [hd2, RR, reduceCtorEq]))) | refine And.intro ?_ ?_ | exact Or.inr ⟨rfl, Nat.le_refl _⟩ | exact (fun h => Bool.noConfusion h))
        all_goals exact ⟨i + 1, (by first | rfl | (simp only [TT, MObj.kill, PV.kill, Nat.reduceLeDiff, reduceIte, Nat.le_refl, Nat.zero_le, Nat.not_le, Nat.lt_irrefl]; done) | (simp [trimE, trimM, MObj.kill, PV.kill]; done)), (by first | rfl | (simp only [TT, MObj.kill, PV.kill, Nat.reduceLeDiff, reduceIte, Nat.le_refl, Nat.zero_le, Nat.not_le, Nat.lt_irrefl]; done) | (simp [trimE, trimM, MObj.kill, PV.kill]; done)), by omega, by omega⟩
  have hd : decide ((i : Int) < rs.length) = false := by simp only [decide_eq_false_iff_not]; omega
  have hi' : i = rs.length := by omega
  subst hi'
  rw [List.take_length]
  have hw := (wantR_spec _ rs rfl).1
  obtain ⟨rS, rM⟩ := reads_spec rs
  have rL := reads_len rs
  have h32 := v32 rs (by omega) hr
  generalize wantR rs = W at *
  repeat' (first | exact True.intro | (refine PW.stop (x := .seq (.region false (⟨some 55, none, .rd .mov [.tmp 0]⟩ :: _) _) _) ?_) | (refine PW.seqK ?_; intro K hK) | refine stp ?_ | refine seqK_n ‹_› ?_ | refine seqK_r ‹_› ?_ | refine seqK_e ‹_› ?_ | exact schedW_stop_i | refine schK_n ‹_› ?_ | (refine PW.cond rfl ?_ ?_ <;> intro hcond <;> (try contradiction) <;> try simp only [DD] at hcond) | (refine gd_i ?_; intro hg; try simp only [hg]) | (refine ari ?_; first | omega | (simp only [DD, LL] <;> omega) | (go_unwrap; omega)) | ((first | refine stq ?_ | show (_ : Post) _ _ _ | (refine schedW_alt_k ?_ ?_; intro K hK)); focus (simp only [hll, hd, SA, Nat.reduceAdd, reduceIte, Nat.reduceEqDiff, Nat.reduceBEq, reduceCtorEq]; (try go_unwrap; try simp only [hll, hd, RR, reduceCtorEq]))) | refine And.intro ?_ ?_ | exact Or.inr ⟨rfl, Nat.le_refl _⟩ | exact (fun h => Bool.noConfusion h))
  refine ⟨?_⟩
  refine PW.toMpg 0 .str (strM PV.bool W) rfl ?_
  repeat' (first | exact True.intro | (refine PW.seqK ?_; intro K hK) | refine stp ?_ | refine seqK_n ‹_› ?_ | refine seqK_r ‹_› ?_ | refine seqK_e ‹_› ?_ | exact schedW_stop_i | refine schK_n ‹_› ?_ | (refine PW.cond rfl ?_ ?_ <;> intro hcond <;> (try contradiction) <;> try simp only [DD] at hcond) | (refine gd_i ?_; intro hg; try simp only [hg]) | (refine ari ?_; first | omega | (simp only [DD, LL] <;> omega) | (go_unwrap; omega)) | ((first | refine stq ?_ | show (_ : Post) _ _ _ | (refine schedW_alt_k ?_ ?_; intro K hK)); focus (simp only [hll, SA, Nat.reduceAdd, reduceIte, Nat.reduceEqDiff, Nat.reduceBEq, reduceCtorEq]; (try go_unwrap; try simp only [hll, RR, reduceCtorEq]))) | refine And.intro ?_ ?_ | exact Or.inr ⟨rfl, Nat.le_refl _⟩ | exact (fun h => Bool.noConfusion h))
  refine PW.loopG (σ := Nat) 1 (fun _ _ => rfl) [0, 3, 55, 56, 57] (fun i => [.list (some 2) (rs.map rlP), .mref 0, .list (some 2) (rs.map rlP), .int .i64 rs.length, .int .i64 i])
    (fun i => [some (.mpg .str (strM PV.bool (delR W (rs.take i))))]) (fun i => i ≤ rs.length) (fun i => rs.length - i) 0 ?_ rfl (by omega) ?_
  · simp only [SA, Nat.reduceAdd, reduceIte, Nat.reduceEqDiff, Nat.reduceBEq, reduceCtorEq]; rfl
  clear hd
  intro i hi
  simp only [List.zip_cons_cons, List.zip_nil_left]
  rcases Nat.lt_or_ge i rs.length with h | h
  · have hd : decide ((i : Int) < rs.length) = true := by simp only [decide_eq_true_eq]; omega
    obtain ⟨r, -, hn, hg⟩ := drop_at h
    have hgn := ((hg rlP).1).trans (hrp r)
    have hni : rs[i] = r := by rw [List.getElem?_eq_getElem h] at hn; exact Option.some.inj hn
    have hst : delR W (rs.take (i + 1)) = adel (delR W (rs.take i)) r.name := by
      rw [List.take_succ_eq_append_getElem h, hni, delR_snoc]
    have hnd := (delR_spec (rs.take i) W hw).1.nd
    generalize delR W (rs.take i) = V at *
    have hmd := mdel_str V r.name hnd
    repeat' (first | exact True.intro | exact (rfl : KK.str = KK.str) | (exact Or.inr ⟨rfl, by decide⟩) | (refine PW.seqK ?_; intro K hK) | refine stp ?_ | refine seqK_n ‹_› ?_ | refine seqK_r ‹_› ?_ | refine seqK_e ‹_› ?_ | exact schedW_stop_i | refine schK_n ‹_› ?_ | (refine PW.cond rfl ?_ ?_ <;> intro hcond <;> (try contradiction) <;> try simp only [DD] at hcond) | (refine gd_i ?_; intro hg; try simp only [hg]) | (refine ari ?_; first | omega | (simp only [DD, LL] <;> omega) | (go_unwrap; omega)) | ((first | refine stq ?_ | show (_ : Post) _ _ _ | (refine schedW_alt_k ?_ ?_; intro K hK)); focus (simp only [effW_mdel, mdlK_mpg, hll, hd, hgn, hmd, SA, Nat.reduceAdd, reduceIte, Nat.reduceEqDiff, Nat.reduceBEq, reduceCtorEq]; (try go_unwrap; try simp only [effW_mdel, mdlK_mpg, hll, hd, hgn, hmd, RR, reduceCtorEq]))) | refine And.intro ?_ ?_ | exact Or.inr ⟨rfl, Nat.le_refl _⟩ | exact (fun h => Bool.noConfusion h))
    all_goals exact ⟨i + 1, (by first | rfl | (simp only [TT, MObj.kill, PV.kill, Nat.reduceLeDiff, reduceIte, Nat.le_refl, Nat.zero_le, Nat.not_le, Nat.lt_irrefl]; done) | (simp [trimE, trimM, MObj.kill, PV.kill]; done)), (by rw [hst]; exact (by first | rfl | (simp only [TT, MObj.kill, PV.kill, Nat.reduceLeDiff, reduceIte, Nat.le_refl, Nat.zero_le, Nat.not_le, Nat.lt_irrefl]; done) | (simp [trimE, trimM, MObj.kill, PV.kill]; done))), by omega, by omega⟩
  have hd : decide ((i : Int) < rs.length) = false := by simp only [decide_eq_false_iff_not]; omega
  have hi' : i = rs.length := by omega
  subst hi'
  rw [List.take_length]
  have hV := (delR_spec rs W hw).1
  generalize delR W rs = V at *
  generalize hLe : readsM rs = L at *
  have hLeq : L.length = (readsM rs).length := by rw [hLe]
  have hLl : ((L.map PV.str).length : Nat) = L.length := by simp
  have hVl : ((strM PV.bool V).length : Nat) = L.length := by rw [rL]; simp [strM, mapP]
  have qe : decide ((L.length : Int) = L.length) = true := by simp
  repeat' (first | exact True.intro | (exact Or.inr ⟨rfl, by decide⟩) | (refine PW.seqK ?_; intro K hK) | refine stp ?_ | refine seqK_n ‹_› ?_ | refine seqK_r ‹_› ?_ | refine seqK_e ‹_› ?_ | exact schedW_stop_i | refine schK_n ‹_› ?_ | (refine PW.cond rfl ?_ ?_ <;> intro hcond <;> (try contradiction) <;> try simp only [DD] at hcond) | (refine gd_i ?_; intro hg; try simp only [hg]) | refine goCall_W e32 (h32) ?_ ?_ ?_ ?_ | (refine ari ?_; first | omega | (simp only [DD, LL] <;> omega) | (go_unwrap; omega)) | ((first | refine stq ?_ | show (_ : Post) _ _ _ | (refine schedW_alt_k ?_ ?_; intro K hK)); focus (simp only [hll, hd, hLl, hVl, qe, SA, Nat.reduceAdd, reduceIte, Nat.reduceEqDiff, Nat.reduceBEq, reduceCtorEq]; (try go_unwrap; try simp only [hll, hd, hLl, hVl, qe, RR, reduceCtorEq]))) | refine And.intro ?_ ?_ | exact Or.inr ⟨rfl, Nat.le_refl _⟩ | exact (fun h => Bool.noConfusion h))
  have hLb : L.length ≤ 1000000000 := by
    have h1 := compactT_len (sortT (readsR rs rs))
    have h2 := readsR_len rs rs
    have h3 : (sortT (readsR rs rs)).length = (readsR rs rs).length := List.length_mergeSort _
    have h4 : L.length = (readsM rs).length := hLeq
    unfold readsM at h4
    omega
  refine PW.loopG (σ := Nat) 1 (fun _ _ => rfl) [3, 12, 72, 73, 74] (fun i => [.mref 0, .list none (L.map PV.str), .list none (L.map PV.str), .int .i64 L.length, .int .i64 i])
    (fun i => [some (.mpg .str (strM PV.bool V))]) (fun i => i ≤ L.length) (fun i => L.length - i) 0 ?_ rfl (by omega) ?_
  · simp only [SA, Nat.reduceAdd, reduceIte, Nat.reduceEqDiff, Nat.reduceBEq, reduceCtorEq]; rfl
  clear hd
  intro i hi
  simp only [List.zip_cons_cons, List.zip_nil_left]
  rcases Nat.lt_or_ge i L.length with h | h
  · have hd : decide ((i : Int) < L.length) = true := by simp only [decide_eq_true_eq]; omega
    have hgl : (L.map PV.str).getD i .junk = .str L[i] := by simp [List.getD, h]
    have hmg : mget (strM PV.bool V) (.str L[i]) = some (.bool true) := by
      rw [mget_str]
      have hm := (rM L[i]).1 (List.getElem_mem h)
      obtain ⟨q, hq, hqe⟩ := List.mem_map.1 hm
      have ht := hV.tr q hq
      have hq' : (L[i], true) ∈ V := by rw [← hqe, ← ht]; exact hq
      rw [aget_mem hV.nd hq']; rfl
    by_cases h0 : i = 0
    · have d0 : decide ((0 : Int) < i) = false := by simp only [decide_eq_false_iff_not]; omega
      repeat' (first | exact True.intro | exact (rfl : KK.str = KK.str) | (refine PW.seqK ?_; intro K hK) | refine stp ?_ | refine seqK_n ‹_› ?_ | refine seqK_r ‹_› ?_ | refine seqK_e ‹_› ?_ | exact schedW_stop_i | refine schK_n ‹_› ?_ | (refine PW.cond rfl ?_ ?_ <;> intro hcond <;> (try contradiction) <;> try simp only [DD] at hcond) | (refine gd_i ?_; intro hg; try simp only [hg]) | (refine ari ?_; first | omega | (simp only [DD, LL] <;> omega) | (go_unwrap; omega)) | ((first | refine stq ?_ | show (_ : Post) _ _ _ | (refine schedW_alt_k ?_ ?_; intro K hK)); focus (simp only [PV.bin, PV.binOk, binI, binS, hd, hgl, hmg, d0, hLl, Option.getD_some, SA, Nat.reduceAdd, reduceIte, Nat.reduceEqDiff, Nat.reduceBEq, reduceCtorEq]; (try go_unwrap; try simp only [PV.bin, PV.binOk, binI, binS, hd, hgl, hmg, d0, hLl, Option.getD_some, RR, reduceCtorEq]))) | refine And.intro ?_ ?_ | exact Or.inr ⟨rfl, Nat.le_refl _⟩ | exact (fun h => Bool.noConfusion h))
      all_goals exact ⟨i + 1, (by first | rfl | (simp only [TT, MObj.kill, PV.kill, Nat.reduceLeDiff, reduceIte, Nat.le_refl, Nat.zero_le, Nat.not_le, Nat.lt_irrefl]; done) | (simp [trimE, trimM, MObj.kill, PV.kill]; done)), (by first | rfl | (simp only [TT, MObj.kill, PV.kill, Nat.reduceLeDiff, reduceIte, Nat.le_refl, Nat.zero_le, Nat.not_le, Nat.lt_irrefl]; done) | (simp [trimE, trimM, MObj.kill, PV.kill]; done)), by omega, by omega⟩
    · have d0 : decide ((0 : Int) < i) = true := by simp only [decide_eq_true_eq]; omega
      have hti : ((i : Int) - 1).toNat = i - 1 := by omega
      have wi : IntKind.i64.wrap ((i : Int) - 1) = (i : Int) - 1 := IntWalk.i64_in _ (by omega)
      have hgp : (L.map PV.str).getD (i - 1) .junk = .str L[i - 1] := by simp [List.getD, show i - 1 < L.length by omega]
      have hlt : L[i - 1] < L[i] := List.pairwise_iff_getElem.1 rS (i - 1) i (by omega) h (by omega)
      have b1 : Op.bytesLess L[i] L[i - 1] = false := (bl_not _ _).2 (fun hh => List.lt_irrefl _ (lt_tr hlt hh))
      have b2 : decide (L[i] = L[i - 1]) = false := decide_eq_false (fun e => by rw [e] at hlt; exact List.lt_irrefl _ hlt)
      generalize L[i] = x at *
      generalize L[i - 1] = y at *
      repeat' (first | exact True.intro | exact (rfl : KK.str = KK.str) | (refine PW.seqK ?_; intro K hK) | refine stp ?_ | refine seqK_n ‹_› ?_ | refine seqK_r ‹_› ?_ | refine seqK_e ‹_› ?_ | exact schedW_stop_i | refine schK_n ‹_› ?_ | (refine PW.cond rfl ?_ ?_ <;> intro hcond <;> (try contradiction) <;> try simp only [DD] at hcond) | (refine gd_i ?_; intro hg; try simp only [hg]) | (refine ari ?_; first | omega | (simp only [DD, LL] <;> omega) | (go_unwrap; omega)) | ((first | refine stq ?_ | show (_ : Post) _ _ _ | (refine schedW_alt_k ?_ ?_; intro K hK)); focus (simp only [PV.bin, PV.binOk, binI, binS, hd, hgl, hmg, d0, hLl, hti, wi, hgp, b1, b2, Option.getD_some, SA, Nat.reduceAdd, reduceIte, Nat.reduceEqDiff, Nat.reduceBEq, reduceCtorEq]; (try go_unwrap; try simp only [PV.bin, PV.binOk, binI, binS, hd, hgl, hmg, d0, hLl, hti, wi, hgp, b1, b2, Option.getD_some, RR, reduceCtorEq]))) | refine And.intro ?_ ?_ | exact Or.inr ⟨rfl, Nat.le_refl _⟩ | exact (fun h => Bool.noConfusion h))
      all_goals exact ⟨i + 1, (by first | rfl | (simp only [TT, MObj.kill, PV.kill, Nat.reduceLeDiff, reduceIte, Nat.le_refl, Nat.zero_le, Nat.not_le, Nat.lt_irrefl]; done) | (simp [trimE, trimM, MObj.kill, PV.kill]; done)), (by first | rfl | (simp only [TT, MObj.kill, PV.kill, Nat.reduceLeDiff, reduceIte, Nat.le_refl, Nat.zero_le, Nat.not_le, Nat.lt_irrefl]; done) | (simp [trimE, trimM, MObj.kill, PV.kill]; done)), by omega, by omega⟩
  · have hd : decide ((i : Int) < L.length) = false := by simp only [decide_eq_false_iff_not]; omega
    repeat' (first | exact True.intro | (refine PW.seqK ?_; intro K hK) | refine stp ?_ | refine seqK_n ‹_› ?_ | refine seqK_r ‹_› ?_ | refine seqK_e ‹_› ?_ | exact schedW_stop_i | refine schK_n ‹_› ?_ | (refine PW.cond rfl ?_ ?_ <;> intro hcond <;> (try contradiction) <;> try simp only [DD] at hcond) | (refine gd_i ?_; intro hg; try simp only [hg]) | refine goCall_W e15 (h15) ?_ ?_ ?_ ?_ | (refine ari ?_; first | omega | (simp only [DD, LL] <;> omega) | (go_unwrap; omega)) | ((first | refine stq ?_ | show (_ : Post) _ _ _ | (refine schedW_alt_k ?_ ?_; intro K hK)); focus (simp only [hd, SA, Nat.reduceAdd, reduceIte, Nat.reduceEqDiff, Nat.reduceBEq, reduceCtorEq]; (try go_unwrap; try simp only [hd, RR, reduceCtorEq]))) | refine And.intro ?_ ?_ | exact Or.inr ⟨rfl, Nat.le_refl _⟩ | exact (fun h => Bool.noConfusion h))
end Go.Proofs.YthekpjhffciakaaDoor

namespace Go.Proofs.YthekpjhffciakaaDoor
open Go PG Go.Proofs
set_option linter.unusedSimpArgs false
set_option linter.unusedVariables false
set_option maxRecDepth 100000
theorem own : ownKnob Tryd.prog.godebug = none := by kernel_rfl
theorem laidOut : laidOutB Tryd.prog = true := by kernel_rfl
theorem gKids : Tryd.prog.globalNamed "wagebook/expr.kidsOf" = some 1 := by kernel_rfl
end Go.Proofs.YthekpjhffciakaaDoor

namespace Go.Proofs.YthekpjhffciakaaDoor
open Go PG Go.Proofs
set_option linter.unusedSimpArgs false
set_option linter.unusedVariables false
set_option maxRecDepth 100000
abbrev laidK : List (String × DataW Unit) := [("wagebook/expr.kidsOf", Rows.laid_wagebook_expr_kidsOf)]
theorem globsK {W : World} (h : laidMetH Tryd.prog laidK W) : GlobsIn W (fun _ => False) GK := by
  rw [MakeChecks.laidMetH_plain _ _ _ (by kernel_rfl)] at h
  obtain ⟨ps, h, _, _⟩ := h
  have h0 : (Rows.laid_wagebook_expr_kidsOf : DataW Unit) = .agg ((kidsTab.map (PV.int .i64)).map datOf) := rfl
  unfold laidK at h
  rw [h0] at h
  have hK := tab_rep gKids (t := 136) (e := 3) (n := 10) (by kernel_rfl) (by kernel_rfl) (.inl ⟨.i64, Tryd.underlying3⟩) (by kernel_rfl) (by kernel_rfl) (by decide) (by decide) h
  intro g sh x hg
  unfold GK at hg
  split at hg
  · rename_i e
    subst e
    simp only [Option.some.injEq, Prod.mk.injEq] at hg
    obtain ⟨rfl, rfl⟩ := hg
    exact hK
  · cases hg
theorem door_metK (os : Os) (args : Array Value) : laidMetH Tryd.prog laidK ((World.doorLaid Tryd.prog 400 os).forCall (fun _ _ => 0) ⟨#[], args, []⟩).memory :=
  laidMetH_of_parts3 (fuel := 8) (laidMet_of_run' 8 (by kernel_rfl) (by kernel_rfl)) (by kernel_rfl) (by kernel_rfl)
theorem bulk_part {H : Type} {d : DataW H} : ∀ {l : List (DataW H)}, d ∈ l → Rows.uptoBulk d ≤ Rows.uptoBulkAll l
  | [], h => by cases h
  | x :: r, h => by
    simp only [Rows.uptoBulkAll]
    cases List.mem_cons.1 h with
    | inl e => subst e; omega
    | inr e => have := bulk_part e; omega
theorem bulk_one {H : Type} (d : DataW H) : 1 ≤ Rows.uptoBulk d := by
  cases d with
  | lit l => cases l <;> simp [Rows.uptoBulk]
  | nil => simp [Rows.uptoBulk]
  | ptr d => simp [Rows.uptoBulk]
  | slice elems spare => simp [Rows.uptoBulk]
  | agg parts => simp [Rows.uptoBulk]
  | iface t d => simp [Rows.uptoBulk]
  | map entries => simp [Rows.uptoBulk]
  | held h => simp [Rows.uptoBulk]
theorem bulk_len {H : Type} : ∀ l : List (DataW H), l.length ≤ Rows.uptoBulkAll l
  | [] => by simp [Rows.uptoBulkAll]
  | x :: r => by have := bulk_one x; have := bulk_len r; simp only [Rows.uptoBulkAll, List.length_cons]; omega
theorem szOk {H : Type} : SzOk (H := H) (fun n => n ≤ 1048576) (fun d => Rows.uptoBulk d ≤ 1048576) where
  zero := by omega
  str l h := by simp only [Rows.uptoBulk] at h; omega
  slice es sp h := by
    simp only [Rows.uptoBulk] at h
    have := bulk_len es
    exact ⟨by omega, fun e he => by have := bulk_part he; omega⟩
  agg ps h p hp := by
    simp only [Rows.uptoBulk] at h
    have := bulk_part hp; omega
theorem bulk_app {H : Type} : ∀ (l r : List (DataW H)), Rows.uptoBulkAll (l ++ r) = Rows.uptoBulkAll l + Rows.uptoBulkAll r
  | [], r => by simp [Rows.uptoBulkAll]
  | x :: l, r => by simp only [List.cons_append, Rows.uptoBulkAll, bulk_app l r]; omega
theorem small_of {H : Type} {ds gs : List (DataW H)} (h : Rows.uptoSmall H (ds ++ gs) = true) : ∀ d ∈ ds, Rows.uptoBulk d ≤ 1048576 := by
  have h := of_decide_eq_true h
  rw [bulk_app] at h
  intro d hd
  have := bulk_part hd; omega
abbrev Qb : Nat → Prop := fun n => n ≤ 1048576
theorem shBs1 {P : Program} {Q : Nat → Prop} {n : Nat} {a : TypeId} {ps : List PV} (h : ShBs P Q n [a] ps) : ∃ p, ps = [p] ∧ ShB P Q n a p := by
  match ps, h with
  | [p], h => exact ⟨p, rfl, h.1⟩
theorem node_cells {n : Nat} {cs : List PV} (h : ShZ Tryd.prog Qb (n + 3) 37 cs) : ∃ a : Nd, .agg cs = ndP a ∧ a.name.length ≤ 1048576 ∧ a.kids.length ≤ 1048576 := by
  obtain ⟨hl, hf⟩ := shZ_struct Tryd.underlying37 h
  have c37 : Tryd.prog.cellsOf 37 = 4 := by kernel_rfl
  have c3 : Tryd.prog.cellsOf 3 = 1 := by kernel_rfl
  have c2 : Tryd.prog.cellsOf 2 = 1 := by kernel_rfl
  have c9 : Tryd.prog.cellsOf 9 = 1 := by kernel_rfl
  have c35 : Tryd.prog.cellsOf 35 = 1 := by kernel_rfl
  rw [c37] at hl
  simp only [List.mem_cons, List.not_mem_nil, or_false, forall_eq_or_imp, forall_eq, c3, c2, c9, c35, PV.cells] at hf
  match cs, hl with
  | [a, b, c, d], _ =>
    obtain ⟨h1, h2, h3, h4⟩ := hf
    obtain ⟨op, e1, -, -⟩ := shZ_int Tryd.underlying3 h1
    obtain ⟨num, e2, b1, b2⟩ := shZ_int Tryd.underlying2 h2
    obtain ⟨nm, e3, b3⟩ := shZ_str Tryd.underlying9 h3
    obtain ⟨sh, xs, hs, e4, b4, h5⟩ := shZ_slice Tryd.underlying35 h4
    have hsh : shOf Tryd.prog 3 = some none := by kernel_rfl
    obtain rfl := Option.some.inj (hsh.symm.trans hs)
    obtain ⟨ks, hks, -⟩ := list_of (PV.int .i64) (fun _ => True) (xs := xs) (fun x hx => by
      obtain ⟨f1, f2⟩ := h5 x hx
      rw [fits_cells f1] at f2
      obtain ⟨m, e, -, -⟩ := shZ_int Tryd.underlying3 f2
      cases e; exact ⟨m, rfl, trivial⟩)
    subst hks
    simp at e1 e2 e3 e4
    subst e1; subst e2; subst e3; subst e4
    exact ⟨⟨op, num, nm, ks⟩, rfl, b3, by simpa using b4⟩
theorem rl_cells {n : Nat} {cs : List PV} (h : ShZ Tryd.prog Qb (n + 6) 71 cs) : ∃ r : Rl, .agg cs = rlP r ∧ RlOk r := by
  obtain ⟨hl, hf⟩ := shZ_struct Tryd.underlying71 h
  have c71 : Tryd.prog.cellsOf 71 = 2 := by kernel_rfl
  have c9 : Tryd.prog.cellsOf 9 = 1 := by kernel_rfl
  have c24 : Tryd.prog.cellsOf 24 = 1 := by kernel_rfl
  have c22 : Tryd.prog.cellsOf 22 = 1 := by kernel_rfl
  rw [c71] at hl
  simp only [List.mem_cons, List.not_mem_nil, or_false, forall_eq_or_imp, forall_eq, c9, c24, PV.cells] at hf
  match cs, hl with
  | [a, b], _ =>
    obtain ⟨h1, h2⟩ := hf
    obtain ⟨s, e1, b1⟩ := shZ_str Tryd.underlying9 h1
    simp at e1 h2
    obtain ⟨hl2, hf2⟩ := shZ_struct Tryd.underlying24 h2
    simp only [List.mem_cons, List.not_mem_nil, or_false, forall_eq, c22] at hf2
    obtain ⟨sh, xs, hs, e2, b2, hx⟩ := shZ_slice Tryd.underlying22 hf2
    have hsh : shOf Tryd.prog 37 = some (some 4) := by kernel_rfl
    obtain rfl := Option.some.inj (hsh.symm.trans hs)
    simp at e2
    subst e1; subst e2
    obtain ⟨t, rfl, ht⟩ := list_of ndP (fun a => a.name.length ≤ 1048576 ∧ a.kids.length ≤ 1048576) (xs := xs) (fun x hx' => by
      obtain ⟨f1, f2⟩ := hx x hx'
      obtain ⟨cs, rfl, e, -⟩ := fits_cells f1
      exact node_cells f2)
    exact ⟨⟨s, t⟩, rfl, by simpa using b2, fun m hm => by have := ht m hm; exact ⟨by omega, by omega⟩, by have b1 : s.length ≤ 1048576 := b1; exact Nat.le_trans b1 (by decide)⟩
theorem read_rls {n : Nat} {p : PV} (h : ShB Tryd.prog Qb (n + 7) 69 p) : ∃ l : List Rl, p = rlsP l ∧ (∀ r ∈ l, RlOk r) ∧ l.length ≤ 1048576 := by
  obtain ⟨sh, xs, hs, rfl, b, hx⟩ := shB_slice Tryd.underlying69 h
  have hsh : shOf Tryd.prog 71 = some (some 2) := by kernel_rfl
  obtain rfl := Option.some.inj (hsh.symm.trans hs)
  obtain ⟨l, rfl, hl⟩ := list_of rlP RlOk (xs := xs) (fun x hx' => by
    obtain ⟨f1, f2⟩ := hx x hx'
    obtain ⟨cs, rfl, e, -⟩ := fits_cells f1
    exact rl_cells f2)
  exact ⟨l, rfl, hl, by simpa using b⟩
end Go.Proofs.YthekpjhffciakaaDoor

