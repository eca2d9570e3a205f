import Derived.Test.YtjcoenideicmbaaQ10
namespace Go.Proofs.Ytjcoenideicmbaa
open Go PG Go.Proofs Go.RowKit Go.Shelf
attribute [local go_sem] Oper.semAt_some
set_option linter.unusedSimpArgs false
set_option linter.unusedVariables false
set_option maxRecDepth 100000
set_option maxHeartbeats 4000000
def pcs (l : List St3) : List St3 := l.filter fun x => decide (0 ≤ x.2.2)
def pcV (fs : List Kn) (x : St3) : List Value := [.int .i64 x.1, .int .i64 x.2.1, .int .i64 (valM fs x.2.2).n, .int .i64 (valM fs x.2.2).num, .string ⟨(valM fs x.2.2).text.toArray⟩]
def celO (fs : List Kn) (l : List St3) : List Value := (pcs l).flatMap (pcV fs)
theorem info43 : (Try.prog.info? 43).map (fun i => (i.zero, i.size, i.bytes)) = some (some (.agg #[.int .i64 0, .int .i64 0, .int .i64 0, .int .i64 0, .string .empty]), 5, 48) := by kernel_rfl
theorem value_w {W : World} {ex : Nat → Prop} (hex : ∀ b, ex b → b < W.heap.size) {fv : Value} {fs : List Kn} (h : RepC W ex fv (knL fs)) (p : Int) (hp : p < fs.length) :
    Calls Try.prog 49 #[.agg #[fv], .int .i64 p] W fun e W' => e = .returned (.agg #[.int .i64 (valM fs p).n, .int .i64 (valM fs p).num, .string ⟨(valM fs p).text.toArray⟩]) ∧ Below W.heap.size W W' := by
  refine (v49 fs p hp W ex #[.agg #[fv], .int .i64 p] hex (globs0 _ _) (reps2 (repAgg1 h) (.int _ _))).mono ?_
  rintro e W' ⟨v, rfl, hB, hr⟩
  refine ⟨?_, hB⟩
  generalize valM fs p = u at hr ⊢
  simp only [vlP] at hr
  cases hr with
  | agg vs _ hs hr =>
    obtain ⟨L⟩ := vs
    match L, hs with
    | [x, y, z], _ =>
      have h0 := hr 0 x _ rfl rfl
      have h1 := hr 1 y _ rfl rfl
      have h2 := hr 2 z _ rfl rfl
      cases h0; cases h1
      generalize hu : u.text = tx at h2
      cases h2 with
      | str s => rfl
theorem pcs_hit (pre : List St3) {x : St3} (h : 0 ≤ x.2.2) : pcs (pre ++ [x]) = pcs pre ++ [x] := by simp [pcs, h]
theorem pcs_miss (pre : List St3) {x : St3} (h : ¬ 0 ≤ x.2.2) : pcs (pre ++ [x]) = pcs pre := by simp [pcs, h]
theorem pcs_len (pre : List St3) : (pcs pre).length ≤ pre.length := List.length_filter_le _ _
/-- The operations of a region of a function. -/
def opsC (id : Nat) : Code → Option (Array Oper)
  | .region i ops _ => if i = id then some ops else none
  | .seq a b => (opsC id a).or (opsC id b)
  | .cond _ a b => (opsC id a).or (opsC id b)
  | .block _ b => opsC id b
  | .loop b => opsC id b
  | .scope b => opsC id b
  | .rangeFunc _ _ a b => (opsC id a).or (opsC id b)
  | _ => none
def regionOps (f : Func) (id : Nat) : Array Oper := (f.body.bind (opsC id)).getD #[]
theorem w21 (fv : Value) (fs : List Kn) (hl : fs.length ≤ 1000000000) (a b : Int) (w : World) (ex : Nat → Prop) (hex : ∀ b, ex b → b < w.heap.size) (hF : RepC w ex fv (knL fs)) (hfl : (fullM fs a b).length ≤ 2000000001) :
    Calls Try.prog 21 #[.agg #[fv], .agg #[.int .i64 a, .int .i64 b]] w fun e W' => ∃ v, e = .returned v ∧ W'.ownsRow w.heap.size 43 5 v (pcs (fullM fs a b)).length (celO fs (fullM fs a b)) ∧ Below w.heap.size w W' := by
  refine (callsIn_wide (n := 6)).1 ?_
  obtain ⟨i0, hi, hz0, hz1, hz2⟩ := info_parts info43
  refine callsIn_of_wp_marks Try.func21 rfl trivial ?_ rfl
  simp only [Try.ntmps21, List.size_toArray, List.length_cons, List.length_nil, Nat.reduceAdd, Nat.reduceSub, Array.replicate_succ, Array.replicate_zero, List.push_toArray, List.append_toArray, List.nil_append, List.cons_append]
  gi_wp2_with (refine ⟨trivial, ?_⟩; gi_at_call 48; refine (callsIn_wide.2 (w48 fv a b _)).mono ?_; rintro e w' ⟨rfl, rfl⟩)
  have hsz : (((((w.alloc (.cells #[fv] 32)).alloc (.cells #[.int .i64 a, .int .i64 b] 27)).alloc (.cells #[.slice none 0 0] 29)).alloc (.cells #[fv] 32)).alloc (.cells #[.int .i64 a, .int .i64 b] 27)).heap.size = w.heap.size + 5 := by simp
  have hB0 : Below w.heap.size w (((((w.alloc (.cells #[fv] 32)).alloc (.cells #[.int .i64 a, .int .i64 b] 27)).alloc (.cells #[.slice none 0 0] 29)).alloc (.cells #[fv] 32)).alloc (.cells #[.int .i64 a, .int .i64 b] 27)) :=
    (((((Below.refl _ w).alloc (Nat.le_refl _) _).alloc (by simp) _).alloc (by simp; omega) _).alloc (by simp; omega) _).alloc (by simp; omega) _
  have bO := (((Boxed.new ((w.alloc (.cells #[fv] 32)).alloc (.cells #[.int .i64 a, .int .i64 b] 27)) 29 (.slice none 0 0)).alloc (.cells #[fv] 32)).alloc (.cells #[.int .i64 a, .int .i64 b] 27))
  have bL0 := (((((Boxed.new w 32 fv).alloc (.cells #[.int .i64 a, .int .i64 b] 27)).alloc (.cells #[.slice none 0 0] 29)).alloc (.cells #[fv] 32)).alloc (.cells #[.int .i64 a, .int .i64 b] 27))
  have bL := ((Boxed.new (((w.alloc (.cells #[fv] 32)).alloc (.cells #[.int .i64 a, .int .i64 b] 27)).alloc (.cells #[.slice none 0 0] 29)) 32 fv).alloc (.cells #[.int .i64 a, .int .i64 b] 27))
  have bS := World.alloc_heap_new ((((w.alloc (.cells #[fv] 32)).alloc (.cells #[.int .i64 a, .int .i64 b] 27)).alloc (.cells #[.slice none 0 0] 29)).alloc (.cells #[fv] 32)) (.cells #[.int .i64 a, .int .i64 b] 27)
  simp only [World.size_alloc] at bO bL bS
  obtain ⟨W0, hW0⟩ : ∃ W0, ((((w.alloc (.cells #[fv] 32)).alloc (.cells #[.int .i64 a, .int .i64 b] 27)).alloc (.cells #[.slice none 0 0] 29)).alloc (.cells #[fv] 32)).alloc (.cells #[.int .i64 a, .int .i64 b] 27) = W0 := ⟨_, rfl⟩
  rw [hW0] at hsz hB0 bO bL0 bL bS ⊢
  clear hW0
  have hnr : ∀ g, ¬ rowIs W0 (w.heap.size + 1 + 1) g := by
    rintro g ⟨_, len, cap, hc⟩
    rw [bO.cell] at hc; simp at hc
  have hI0 : ItS w.heap.size (w.heap.size + 1 + 1) (w.heap.size + 1 + 1 + 1) (w.heap.size + 1 + 1 + 1 + 1) fv fs a b W0 := by
    refine ⟨by omega, by omega, hF.mono ⟨fun k hk _ => hB0.block k hk, fun k hk _ hb => ?_⟩, bL.cell, by simp [World.cell?, bS], by simp [World.cell?, bS], ?_, ?_, ?_⟩
    · rcases hb with rfl | h | ⟨h, _⟩
      · omega
      · exact hnr _ h
      · omega
    · rintro (h | h | ⟨_, o, ho, hn⟩)
      · omega
      · exact hnr _ h
      · rw [bL] at ho; cases ho; cases hn
    · rintro (h | h | ⟨_, o, ho, hn⟩)
      · omega
      · exact hnr _ h
      · rw [bS] at ho; cases ho; cases hn
    · intro g len cap hc
      rw [bO.cell] at hc; simp at hc
  refine wpIn_rangeFunc_ownH (F := Fence.wide) (n := 6) rfl (by omega) (gf := 60) (lb := #[.pointer (some ⟨w.heap.size + 1 + 1 + 1 + 1, 0, none⟩), .pointer (some ⟨w.heap.size + 1 + 1 + 1, 0, none⟩)]) rfl trivial (enters_of Try.func60 (by kernel_rfl) rfl)
    (it_stops w.heap.size (w.heap.size + 1 + 1) (w.heap.size + 1 + 1 + 1) (w.heap.size + 1 + 1 + 1 + 1) fv fs hl a b W0 hI0) KpB.t (KpB.b (by omega) (by omega)) (Below.refl _ _) (fun _ => rfl)
    (fun pre W => ((∃ v, Boxed W (w.heap.size + 1 + 1) 29 v ∧ W.ownsRow w.heap.size 43 5 v (pcs (pre.map (·.1))).length (celO fs (pre.map (·.1))) ∧ True) ∧ W.heap[w.heap.size]? = some (.cells #[fv] 32 (0, 0))) ∧ Below w.heap.size w W)
    (fun _ _ _ => False)
    (OwnFrom.and (OwnFrom.and (Own.from (holdsRow_own w.heap.size (w.heap.size + 1 + 1) 29 43 5 (fun (pre : List (StB fs.length)) => (pcs (pre.map (·.1))).length) (fun pre => celO fs (pre.map (·.1))) (fun _ _ => True)) _) (fun _ X Y row hs hg hr => own_cells _ _ _ _ () X Y row hs hg hr)) (ownFrom_below (Nat.le_refl _) (by omega)))
    (fun _ _ _ _ _ hs _ _ => hs)
    ⟨⟨⟨_, bO, by simpa [pcs, celO] using World.ownsRow_nil _ _ _ _, trivial⟩, bL0⟩, hB0⟩
    (fun x a' W => ∃ Bx, W.heap[Bx]? = some (.cells #[.int .i64 x.1.1, .int .i64 x.1.2.1] 27 (0, 0)) ∧ a' = { tmps := #[.agg #[fv], .agg #[.int .i64 a, .int .i64 b], .pointer (some ⟨w.heap.size, 0, none⟩), .pointer (some ⟨w.heap.size + 1, 0, none⟩), .slice none 0 0, .pointer (some ⟨w.heap.size + 1 + 1, 0, none⟩), .pointer (some ⟨Bx, 0, none⟩), .int .i64 x.1.2.2,
      .agg #[fv], .agg #[.int .i64 a, .int .i64 b], .func (.func 60) #[] #[.pointer (some ⟨w.heap.size + 1 + 1 + 1 + 1, 0, none⟩), .pointer (some ⟨w.heap.size + 1 + 1 + 1, 0, none⟩)], .agg #[.int .i64 x.1.1, .int .i64 x.1.2.1], .int .i64 x.1.2.2, undef, undef, undef, undef, undef, undef, undef, undef, undef, undef, undef], defers := [] })
    ?hAx ?assign ?body ?done ?stop
  case hAx =>
    rintro x a' _ X Y row ⟨Bx, h2, h3⟩ hg hr
    exact ⟨Bx, own_cells _ _ _ _ () X Y row h2 hg hr, h3⟩
  case assign =>
    rintro l pre ⟨⟨x1, x2, x3⟩, hx⟩ W K ⟨⟨⟨v, hv, hrow, -⟩, hbl⟩, hB⟩ hK
    dsimp only [strB, strP]
    gi_wp2
    refine hK _ _ ((KeepsOthers.alloc _ _).from _) (KpB.below hv.lt hB.size ((Below.refl _ W).alloc (Nat.le_refl _) _)) ⟨⟨⟨v, hv.alloc _, hrow.alloc _, trivial⟩, ?_⟩, hB.alloc hB.size _⟩ ⟨W.heap.size, World.alloc_heap_new W _, rfl⟩
    exact (Below.heap_alloc W _ _ (Array.getElem?_eq_some_iff.1 hbl).1).trans hbl
  case body =>
    rintro l pre ⟨⟨x1, x2, x3⟩, hx⟩ a' W hl0 ⟨r, hr⟩ ⟨⟨⟨v, hv, hrow, -⟩, hbl⟩, hB⟩ ⟨Bx, hbx, rfl⟩ hlt
    have hmx := mix
    have hc := hv.cell
    have hcl : W.cell? ⟨w.heap.size, 0, none⟩ = some fv := by simp [World.cell?, hbl]
    have hc0 : W.cell? ⟨Bx, 0, none⟩ = some (.int .i64 x1) := by simp [World.cell?, hbx]
    have hc1 : W.cell? ⟨Bx, 1, none⟩ = some (.int .i64 x2) := by simp [World.cell?, hbx]
    have hFW : RepC W ex fv (knL fs) := hF.mono ⟨fun k hk _ => hB.block k hk, fun _ _ h => h⟩
    have hexW : ∀ k, ex k → k < W.heap.size := fun k hk => Nat.lt_of_lt_of_le (hex k hk) hB.size
    simp only at hx
    by_cases h0 : 0 ≤ x3
    · dsimp only
      gi_wp2
      obtain ⟨POST, hP1, hP2⟩ : ∃ POST : World → Prop, Aside (∀ W', (KeepsFrom W0.heap.size W W' ∧ KpB w.heap.size (w.heap.size + 1 + 1) W W' ∧ ((∃ v, Boxed W' (w.heap.size + 1 + 1) 29 v ∧ W'.ownsRow w.heap.size 43 5 v ((pcs (pre.map (·.1))).length + 1) (celO fs (pre.map (·.1)) ++ pcV fs (x1, x2, x3)) ∧ True) ∧ W'.heap[w.heap.size]? = some (.cells #[fv] 32 (0, 0))) ∧ Below w.heap.size w W') → POST W') ∧ Aside (∀ W', POST W' → (KeepsFrom W0.heap.size W W' ∧ KpB w.heap.size (w.heap.size + 1 + 1) W W' ∧ ((∃ v, Boxed W' (w.heap.size + 1 + 1) 29 v ∧ W'.ownsRow w.heap.size 43 5 v ((pcs (pre.map (·.1))).length + 1) (celO fs (pre.map (·.1)) ++ pcV fs (x1, x2, x3)) ∧ True) ∧ W'.heap[w.heap.size]? = some (.cells #[fv] 32 (0, 0))) ∧ Below w.heap.size w W')) := ⟨_, fun _ h => h, fun _ h => h⟩
      refine wpIn_mono (Q := Exit.then (fun a' W' => POST W') (fun _ _ _ => False)) ?reg ?rest
      case reg =>
        have hrow2 : ∀ W2, Below W.drew.heap.size W.drew W2 → (W2.alloc (.cells #[.int .i64 x1, .int .i64 x2, .int .i64 (valM fs x3).n, .int .i64 (valM fs x3).num, .string ⟨(valM fs x3).text.toArray⟩] 43)).ownsRow w.heap.size 43 5 v (pcs (pre.map (·.1))).length (celO fs (pre.map (·.1))) := fun W2 hB2 =>
          (hrow.kept (row := none) ⟨hB2.os, hB2.tape, hB2.output, hB2.size, fun k hk _ => hB2.block k hk⟩ (by cases h : v.ownBlock <;> simp)).alloc _
        have hsz2 : ∀ W2, Below W.drew.heap.size W.drew W2 → w.heap.size ≤ (W2.alloc (.cells #[.int .i64 x1, .int .i64 x2, .int .i64 (valM fs x3).n, .int .i64 (valM fs x3).num, .string ⟨(valM fs x3).text.toArray⟩] 43)).heap.size := fun W2 hB2 => by
          have h1 := hB.size; have h2 : W.heap.size ≤ W2.heap.size := hB2.size; simp; omega
        have hnews : ∀ (W2 : World) (j : Nat) (u : Value), (pcV fs (x1, x2, x3))[j]? = some u → (W2.alloc (.cells #[.int .i64 x1, .int .i64 x2, .int .i64 (valM fs x3).n, .int .i64 (valM fs x3).num, .string ⟨(valM fs x3).text.toArray⟩] 43)).cell? ((⟨W2.heap.size, 0, none⟩ : Addr).add j) = some u := by
          intro W2 j u hu
          have hh := World.alloc_heap_new W2 (.cells #[.int .i64 x1, .int .i64 x2, .int .i64 (valM fs x3).n, .int .i64 (valM fs x3).num, .string ⟨(valM fs x3).text.toArray⟩] 43)
          have hc5 := cell?_cells hh (0 + j)
          rw [Addr.add_lit, hc5, Nat.zero_add]
          simpa [pcV] using hu
        have hone : ∀ u ∈ pcV fs (x1, x2, x3), u.oneCell' = true := by
          intro u hu
          simp only [pcV, List.mem_cons, List.not_mem_nil, or_false] at hu
          rcases hu with rfl | rfl | rfl | rfl | rfl <;> rfl
        have hpl : (pcs (pre.map (·.1))).length ≤ pre.length := by have := pcs_len (pre.map (·.1)); simpa using this
        have hb63 : (pcs (pre.map (·.1))).length + 1 ≤ maxLen := by unfold maxLen; omega
        have hbby : ((pcs (pre.map (·.1))).length + 1) * 48 ≤ 140737488355328 := by omega
        have hleaf : ∀ W2, Below W.drew.heap.size W.drew W2 → ∀ (v' : Value) (w1 : World), w1.ownsRow w.heap.size 43 5 v' ((pcs (pre.map (·.1))).length + 1) (celO fs (pre.map (·.1)) ++ pcV fs (x1, x2, x3)) →
            (W2.alloc (.cells #[.int .i64 x1, .int .i64 x2, .int .i64 (valM fs x3).n, .int .i64 (valM fs x3).num, .string ⟨(valM fs x3).text.toArray⟩] 43)).grownBy w1 v.ownBlock →
            (v'.ownBlock = v.ownBlock ∨ ∀ g, v'.ownBlock = some g → (W2.alloc (.cells #[.int .i64 x1, .int .i64 x2, .int .i64 (valM fs x3).n, .int .i64 (valM fs x3).num, .string ⟨(valM fs x3).text.toArray⟩] 43)).heap.size ≤ g) →
            Boxed w1 (w.heap.size + 1 + 1) 29 v ∧ POST (w1.setCell ⟨w.heap.size + 1 + 1, 0, none⟩ v') := by
          intro W2 hB2 v' w1 hown' hgrow hfr
          have hB2' : Below W.heap.size W W2 := ⟨hB2.os, hB2.tape, hB2.output, hB2.size, fun k hk => hB2.block k hk⟩
          have hg2 := grownBy_below hB2'
          have hv2 : Boxed W2 (w.heap.size + 1 + 1) 29 v := hv.kept hg2 (by simp)
          have hrow' := hrow.kept hg2 (by cases h : v.ownBlock <;> simp)
          have hn2 : w.heap.size ≤ W2.heap.size := Nat.le_trans hB.size hB2'.size
          obtain ⟨hv1, hv3, hr3, hk3, hb3⟩ := hv2.appended (by decide) hrow' hn2 (by omega) hown' hgrow
          refine ⟨hv1, hP1 _ ⟨?_, ?_, ⟨⟨v', hv3, hr3, trivial⟩, ?_⟩, ?_⟩⟩
          · have hk0 : KeepsFrom W0.heap.size W W2 := ⟨hB2'.size, fun k o _ hk _ => (hB2'.block k (Array.getElem?_eq_some_iff.1 hk).1).trans hk⟩
            exact hk0.trans (hk3.from _)
          · have h1 : KpB w.heap.size (w.heap.size + 1 + 1) W W2 := KpB.below hv.lt hB.size hB2'
            have h2 : KpB w.heap.size (w.heap.size + 1 + 1) W2 (W2.alloc (.cells #[.int .i64 x1, .int .i64 x2, .int .i64 (valM fs x3).n, .int .i64 (valM fs x3).num, .string ⟨(valM fs x3).text.toArray⟩] 43)) := KpB.below hv2.lt hn2 ((Below.refl _ _).alloc (Nat.le_refl _) _)
            exact (h1.t h2).t (KpB.push (hv2.alloc _) (by decide) (hrow'.alloc _) (by simp; omega) (by omega) hown' hgrow hfr)
          · have e1 : W2.heap[w.heap.size]? = some (.cells #[fv] 32 (0, 0)) := (hB2'.block _ (Array.getElem?_eq_some_iff.1 hbl).1).trans hbl
            have hb0 : Boxed W2 w.heap.size 32 fv := e1
            have hbT := hb0.alloc (.cells #[.int .i64 x1, .int .i64 x2, .int .i64 (valM fs x3).n, .int .i64 (valM fs x3).num, .string ⟨(valM fs x3).text.toArray⟩] 43)
            have hb1 : Boxed w1 w.heap.size 32 fv := hbT.kept hgrow (hbT.not_row (by decide) (hrow2 W2 hB2))
            exact hb1.kept (grownBy_setCell' w1 (w.heap.size + 1 + 1) v') (by simp; omega)
          · exact (hB.trans (hB2'.mono hB.size)).trans hb3
        have hcall : CallsIn (Fence.wide.inRound l) 3 Try.prog 49 #[.agg #[fv], .int .i64 x3] W.drew _ := CallsIn.inRound l (callsIn_wide.2 (value_w (W := World.drew W) (ex := ex) hexW (RepC.mono (w := W) (w' := World.drew W) (ex' := ex) ⟨fun _ _ _ => rfl, fun _ _ h => h⟩ hFW) x3 hx))
        refine wpIn_region_any (by assumption) ?_
        change wpAnyIn _ _ _ _ _ _ _ _ _ (World.drew _)
        change wpAnyIn _ _ _ _ (regionOps Try.f21 6) _ _ _ _ _
        have hd0123456 : ∀ W2, Below W.drew.heap.size W.drew W2 → wpAnyIn (Fence.wide.inRound l) 4 Try.prog .any (regionOps Try.f21 6) (Exit.then (fun _ W' => POST W') (fun _ _ _ => False)) 2 #[true, true, true, true, true, true, true, false, false] { tmps := #[.agg #[fv], .agg #[.int .i64 a, .int .i64 b], .pointer (some ⟨w.heap.size, 0, none⟩), .pointer (some ⟨w.heap.size + 1, 0, none⟩), .slice none 0 0, .pointer (some ⟨w.heap.size + 1 + 1, 0, none⟩), .pointer (some ⟨Bx, 0, none⟩), .int .i64 x3, .agg #[fv], .agg #[.int .i64 a, .int .i64 b], .func (.func 60) #[] #[.pointer (some ⟨w.heap.size + 1 + 1 + 1 + 1, 0, none⟩), .pointer (some ⟨w.heap.size + 1 + 1 + 1, 0, none⟩)], .agg #[.int .i64 x1, .int .i64 x2], .int .i64 x3, .int .i64 x3, .bool true, v, .agg #[.int .i64 x1, .int .i64 x2], .agg #[fv], .int .i64 x3, .agg #[.int .i64 (valM fs x3).n, .int .i64 (valM fs x3).num, .string ⟨(valM fs x3).text.toArray⟩], .agg #[.int .i64 x1, .int .i64 x2, .int .i64 (valM fs x3).n, .int .i64 (valM fs x3).num, .string ⟨(valM fs x3).text.toArray⟩], .slice (some ⟨W2.heap.size, 0, none⟩) 1 1, undef, undef], defers := [] } (W2.alloc (.cells #[.int .i64 x1, .int .i64 x2, .int .i64 (valM fs x3).n, .int .i64 (valM fs x3).num, .string ⟨(valM fs x3).text.toArray⟩] 43)) := by
          intro W2 hB2
          have hcb : W2.cell? ⟨w.heap.size + 1 + 1, 0, none⟩ = some v := (hB2.cell (p := ⟨w.heap.size + 1 + 1, 0, none⟩) hv.lt).trans hc
          have hcx0 : W2.cell? ⟨Bx, 0, none⟩ = some (.int .i64 x1) := (hB2.cell (p := ⟨Bx, 0, none⟩) (Array.getElem?_eq_some_iff.1 hbx).1).trans hc0
          have hcx1 : W2.cell? ⟨Bx, 1, none⟩ = some (.int .i64 x2) := (hB2.cell (p := ⟨Bx, 1, none⟩) (Array.getElem?_eq_some_iff.1 hbx).1).trans hc1
          have hcbT := (((Below.refl W2.heap.size W2).alloc (Nat.le_refl _) (.cells #[.int .i64 x1, .int .i64 x2, .int .i64 (valM fs x3).n, .int .i64 (valM fs x3).num, .string ⟨(valM fs x3).text.toArray⟩] 43)).cell (p := ⟨w.heap.size + 1 + 1, 0, none⟩) (World.block_lt_of_cell? _ _ hcb)).trans hcb
          simp only [regionOps, Try.f21, Option.bind_some, opsC, Nat.reduceEqDiff, reduceIte, Option.or_none, Option.none_or, Option.or_some, Option.some_or, Option.getD_some, Option.getD_none]
          refine wpAnyIn_ready (rs := [7]) (by kernel_rfl) (by simp) ?_
          refine AllReadyIn.cons rfl (fun K hK => ?_) ?_
          · rw [if_pos (by rfl)]
            refine operIn_append_own2 _ _ 29 rfl w.heap.size 43 i0 _ 5 48 Try.underlying29 hi hz0 hz1 hz2 rfl (by decide) v _ _ rfl (hrow2 W2 hB2) ⟨W2.heap.size, 0, none⟩ 1 1 (pcV fs (x1, x2, x3)) rfl rfl (hnews W2) hone hb63 hbby (hsz2 W2 hB2) ?_
            intro v' w1 hown' hgrow hfr
            obtain ⟨hv1, hfin⟩ := hleaf W2 hB2 v' w1 hown' hgrow hfr
            have hcv1 := hv1.cell
            have hfv1 := hv1.frozen
            obtain ⟨g', cap', hve⟩ := ownsRow_succ hown'
            subst hve
            refine hK _ _ ?_
            refine wpAnyIn_ready (rs := [8]) (by kernel_rfl) (by simp) ?_
            refine AllReadyIn.cons rfl (fun K hK => ?_) AllReadyIn.nil
            go_simp
            refine hK _ _ ?_
            refine wpAnyIn_done (by kernel_rfl) ?_ _
            exact hfin
          exact AllReadyIn.nil
        have hd012345 : ∀ W2, Below W.drew.heap.size W.drew W2 → wpAnyIn (Fence.wide.inRound l) 4 Try.prog .any (regionOps Try.f21 6) (Exit.then (fun _ W' => POST W') (fun _ _ _ => False)) 3 #[true, true, true, true, true, true, false, false, false] { tmps := #[.agg #[fv], .agg #[.int .i64 a, .int .i64 b], .pointer (some ⟨w.heap.size, 0, none⟩), .pointer (some ⟨w.heap.size + 1, 0, none⟩), .slice none 0 0, .pointer (some ⟨w.heap.size + 1 + 1, 0, none⟩), .pointer (some ⟨Bx, 0, none⟩), .int .i64 x3, .agg #[fv], .agg #[.int .i64 a, .int .i64 b], .func (.func 60) #[] #[.pointer (some ⟨w.heap.size + 1 + 1 + 1 + 1, 0, none⟩), .pointer (some ⟨w.heap.size + 1 + 1 + 1, 0, none⟩)], .agg #[.int .i64 x1, .int .i64 x2], .int .i64 x3, .int .i64 x3, .bool true, v, .agg #[.int .i64 x1, .int .i64 x2], .agg #[fv], .int .i64 x3, .agg #[.int .i64 (valM fs x3).n, .int .i64 (valM fs x3).num, .string ⟨(valM fs x3).text.toArray⟩], .agg #[.int .i64 x1, .int .i64 x2, .int .i64 (valM fs x3).n, .int .i64 (valM fs x3).num, .string ⟨(valM fs x3).text.toArray⟩], undef, undef, undef], defers := [] } W2 := by
          intro W2 hB2
          have hcb : W2.cell? ⟨w.heap.size + 1 + 1, 0, none⟩ = some v := (hB2.cell (p := ⟨w.heap.size + 1 + 1, 0, none⟩) hv.lt).trans hc
          have hcx0 : W2.cell? ⟨Bx, 0, none⟩ = some (.int .i64 x1) := (hB2.cell (p := ⟨Bx, 0, none⟩) (Array.getElem?_eq_some_iff.1 hbx).1).trans hc0
          have hcx1 : W2.cell? ⟨Bx, 1, none⟩ = some (.int .i64 x2) := (hB2.cell (p := ⟨Bx, 1, none⟩) (Array.getElem?_eq_some_iff.1 hbx).1).trans hc1
          simp only [regionOps, Try.f21, Option.bind_some, opsC, Nat.reduceEqDiff, reduceIte, Option.or_none, Option.none_or, Option.or_some, Option.some_or, Option.getD_some, Option.getD_none]
          refine wpAnyIn_ready (rs := [6]) (by kernel_rfl) (by simp) ?_
          refine AllReadyIn.cons rfl (fun K hK => ?_) ?_
          · go_simp
            exact hK _ _ (hd0123456 W2 hB2)
          exact AllReadyIn.nil
        have hd123456 : ∀ W2, Below W.drew.heap.size W.drew W2 → wpAnyIn (Fence.wide.inRound l) 4 Try.prog .any (regionOps Try.f21 6) (Exit.then (fun _ W' => POST W') (fun _ _ _ => False)) 3 #[false, true, true, true, true, true, true, false, false] { tmps := #[.agg #[fv], .agg #[.int .i64 a, .int .i64 b], .pointer (some ⟨w.heap.size, 0, none⟩), .pointer (some ⟨w.heap.size + 1, 0, none⟩), .slice none 0 0, .pointer (some ⟨w.heap.size + 1 + 1, 0, none⟩), .pointer (some ⟨Bx, 0, none⟩), .int .i64 x3, .agg #[fv], .agg #[.int .i64 a, .int .i64 b], .func (.func 60) #[] #[.pointer (some ⟨w.heap.size + 1 + 1 + 1 + 1, 0, none⟩), .pointer (some ⟨w.heap.size + 1 + 1 + 1, 0, none⟩)], .agg #[.int .i64 x1, .int .i64 x2], .int .i64 x3, .int .i64 x3, .bool true, undef, .agg #[.int .i64 x1, .int .i64 x2], .agg #[fv], .int .i64 x3, .agg #[.int .i64 (valM fs x3).n, .int .i64 (valM fs x3).num, .string ⟨(valM fs x3).text.toArray⟩], .agg #[.int .i64 x1, .int .i64 x2, .int .i64 (valM fs x3).n, .int .i64 (valM fs x3).num, .string ⟨(valM fs x3).text.toArray⟩], .slice (some ⟨W2.heap.size, 0, none⟩) 1 1, undef, undef], defers := [] } (W2.alloc (.cells #[.int .i64 x1, .int .i64 x2, .int .i64 (valM fs x3).n, .int .i64 (valM fs x3).num, .string ⟨(valM fs x3).text.toArray⟩] 43)) := by
          intro W2 hB2
          have hcb : W2.cell? ⟨w.heap.size + 1 + 1, 0, none⟩ = some v := (hB2.cell (p := ⟨w.heap.size + 1 + 1, 0, none⟩) hv.lt).trans hc
          have hcx0 : W2.cell? ⟨Bx, 0, none⟩ = some (.int .i64 x1) := (hB2.cell (p := ⟨Bx, 0, none⟩) (Array.getElem?_eq_some_iff.1 hbx).1).trans hc0
          have hcx1 : W2.cell? ⟨Bx, 1, none⟩ = some (.int .i64 x2) := (hB2.cell (p := ⟨Bx, 1, none⟩) (Array.getElem?_eq_some_iff.1 hbx).1).trans hc1
          have hcbT := (((Below.refl W2.heap.size W2).alloc (Nat.le_refl _) (.cells #[.int .i64 x1, .int .i64 x2, .int .i64 (valM fs x3).n, .int .i64 (valM fs x3).num, .string ⟨(valM fs x3).text.toArray⟩] 43)).cell (p := ⟨w.heap.size + 1 + 1, 0, none⟩) (World.block_lt_of_cell? _ _ hcb)).trans hcb
          simp only [regionOps, Try.f21, Option.bind_some, opsC, Nat.reduceEqDiff, reduceIte, Option.or_none, Option.none_or, Option.or_some, Option.some_or, Option.getD_some, Option.getD_none]
          refine wpAnyIn_ready (rs := [0]) (by kernel_rfl) (by simp) ?_
          refine AllReadyIn.cons rfl (fun K hK => ?_) ?_
          · go_simp
            exact hK _ _ (hd0123456 W2 hB2)
          exact AllReadyIn.nil
        have hd01234 : ∀ W2, Below W.drew.heap.size W.drew W2 → wpAnyIn (Fence.wide.inRound l) 4 Try.prog .any (regionOps Try.f21 6) (Exit.then (fun _ W' => POST W') (fun _ _ _ => False)) 4 #[true, true, true, true, true, false, false, false, false] { tmps := #[.agg #[fv], .agg #[.int .i64 a, .int .i64 b], .pointer (some ⟨w.heap.size, 0, none⟩), .pointer (some ⟨w.heap.size + 1, 0, none⟩), .slice none 0 0, .pointer (some ⟨w.heap.size + 1 + 1, 0, none⟩), .pointer (some ⟨Bx, 0, none⟩), .int .i64 x3, .agg #[fv], .agg #[.int .i64 a, .int .i64 b], .func (.func 60) #[] #[.pointer (some ⟨w.heap.size + 1 + 1 + 1 + 1, 0, none⟩), .pointer (some ⟨w.heap.size + 1 + 1 + 1, 0, none⟩)], .agg #[.int .i64 x1, .int .i64 x2], .int .i64 x3, .int .i64 x3, .bool true, v, .agg #[.int .i64 x1, .int .i64 x2], .agg #[fv], .int .i64 x3, .agg #[.int .i64 (valM fs x3).n, .int .i64 (valM fs x3).num, .string ⟨(valM fs x3).text.toArray⟩], undef, undef, undef, undef], defers := [] } W2 := by
          intro W2 hB2
          have hcb : W2.cell? ⟨w.heap.size + 1 + 1, 0, none⟩ = some v := (hB2.cell (p := ⟨w.heap.size + 1 + 1, 0, none⟩) hv.lt).trans hc
          have hcx0 : W2.cell? ⟨Bx, 0, none⟩ = some (.int .i64 x1) := (hB2.cell (p := ⟨Bx, 0, none⟩) (Array.getElem?_eq_some_iff.1 hbx).1).trans hc0
          have hcx1 : W2.cell? ⟨Bx, 1, none⟩ = some (.int .i64 x2) := (hB2.cell (p := ⟨Bx, 1, none⟩) (Array.getElem?_eq_some_iff.1 hbx).1).trans hc1
          simp only [regionOps, Try.f21, Option.bind_some, opsC, Nat.reduceEqDiff, reduceIte, Option.or_none, Option.none_or, Option.or_some, Option.some_or, Option.getD_some, Option.getD_none]
          refine wpAnyIn_ready (rs := [5]) (by kernel_rfl) (by simp) ?_
          refine AllReadyIn.cons rfl (fun K hK => ?_) ?_
          · go_simp
            exact hK _ _ (hd012345 W2 hB2)
          exact AllReadyIn.nil
        have hd12345 : ∀ W2, Below W.drew.heap.size W.drew W2 → wpAnyIn (Fence.wide.inRound l) 4 Try.prog .any (regionOps Try.f21 6) (Exit.then (fun _ W' => POST W') (fun _ _ _ => False)) 4 #[false, true, true, true, true, true, false, false, false] { tmps := #[.agg #[fv], .agg #[.int .i64 a, .int .i64 b], .pointer (some ⟨w.heap.size, 0, none⟩), .pointer (some ⟨w.heap.size + 1, 0, none⟩), .slice none 0 0, .pointer (some ⟨w.heap.size + 1 + 1, 0, none⟩), .pointer (some ⟨Bx, 0, none⟩), .int .i64 x3, .agg #[fv], .agg #[.int .i64 a, .int .i64 b], .func (.func 60) #[] #[.pointer (some ⟨w.heap.size + 1 + 1 + 1 + 1, 0, none⟩), .pointer (some ⟨w.heap.size + 1 + 1 + 1, 0, none⟩)], .agg #[.int .i64 x1, .int .i64 x2], .int .i64 x3, .int .i64 x3, .bool true, undef, .agg #[.int .i64 x1, .int .i64 x2], .agg #[fv], .int .i64 x3, .agg #[.int .i64 (valM fs x3).n, .int .i64 (valM fs x3).num, .string ⟨(valM fs x3).text.toArray⟩], .agg #[.int .i64 x1, .int .i64 x2, .int .i64 (valM fs x3).n, .int .i64 (valM fs x3).num, .string ⟨(valM fs x3).text.toArray⟩], undef, undef, undef], defers := [] } W2 := by
          intro W2 hB2
          have hcb : W2.cell? ⟨w.heap.size + 1 + 1, 0, none⟩ = some v := (hB2.cell (p := ⟨w.heap.size + 1 + 1, 0, none⟩) hv.lt).trans hc
          have hcx0 : W2.cell? ⟨Bx, 0, none⟩ = some (.int .i64 x1) := (hB2.cell (p := ⟨Bx, 0, none⟩) (Array.getElem?_eq_some_iff.1 hbx).1).trans hc0
          have hcx1 : W2.cell? ⟨Bx, 1, none⟩ = some (.int .i64 x2) := (hB2.cell (p := ⟨Bx, 1, none⟩) (Array.getElem?_eq_some_iff.1 hbx).1).trans hc1
          simp only [regionOps, Try.f21, Option.bind_some, opsC, Nat.reduceEqDiff, reduceIte, Option.or_none, Option.none_or, Option.or_some, Option.some_or, Option.getD_some, Option.getD_none]
          refine wpAnyIn_ready (rs := [0, 6]) (by kernel_rfl) (by simp) ?_
          refine AllReadyIn.cons rfl (fun K hK => ?_) ?_
          · go_simp
            exact hK _ _ (hd012345 W2 hB2)
          refine AllReadyIn.cons rfl (fun K hK => ?_) ?_
          · go_simp
            exact hK _ _ (hd123456 W2 hB2)
          exact AllReadyIn.nil
        have hd0123 : wpAnyIn (Fence.wide.inRound l) 4 Try.prog .any (regionOps Try.f21 6) (Exit.then (fun _ W' => POST W') (fun _ _ _ => False)) 5 #[true, true, true, true, false, false, false, false, false] { tmps := #[.agg #[fv], .agg #[.int .i64 a, .int .i64 b], .pointer (some ⟨w.heap.size, 0, none⟩), .pointer (some ⟨w.heap.size + 1, 0, none⟩), .slice none 0 0, .pointer (some ⟨w.heap.size + 1 + 1, 0, none⟩), .pointer (some ⟨Bx, 0, none⟩), .int .i64 x3, .agg #[fv], .agg #[.int .i64 a, .int .i64 b], .func (.func 60) #[] #[.pointer (some ⟨w.heap.size + 1 + 1 + 1 + 1, 0, none⟩), .pointer (some ⟨w.heap.size + 1 + 1 + 1, 0, none⟩)], .agg #[.int .i64 x1, .int .i64 x2], .int .i64 x3, .int .i64 x3, .bool true, v, .agg #[.int .i64 x1, .int .i64 x2], .agg #[fv], .int .i64 x3, undef, undef, undef, undef, undef], defers := [] } W.drew := by
          simp only [regionOps, Try.f21, Option.bind_some, opsC, Nat.reduceEqDiff, reduceIte, Option.or_none, Option.none_or, Option.or_some, Option.some_or, Option.getD_some, Option.getD_none]
          refine wpAnyIn_ready (rs := [4]) (by kernel_rfl) (by simp) ?_
          refine AllReadyIn.cons rfl (fun K hK => ?_) ?_
          · go_simp
            refine ⟨trivial, ?_⟩
            refine hcall.mono ?_
            rintro e W2 ⟨rfl, hB2⟩
            exact hK _ _ (hd01234 W2 hB2)
          exact AllReadyIn.nil
        have hd0234 : ∀ W2, Below W.drew.heap.size W.drew W2 → wpAnyIn (Fence.wide.inRound l) 4 Try.prog .any (regionOps Try.f21 6) (Exit.then (fun _ W' => POST W') (fun _ _ _ => False)) 5 #[true, false, true, true, true, false, false, false, false] { tmps := #[.agg #[fv], .agg #[.int .i64 a, .int .i64 b], .pointer (some ⟨w.heap.size, 0, none⟩), .pointer (some ⟨w.heap.size + 1, 0, none⟩), .slice none 0 0, .pointer (some ⟨w.heap.size + 1 + 1, 0, none⟩), .pointer (some ⟨Bx, 0, none⟩), .int .i64 x3, .agg #[fv], .agg #[.int .i64 a, .int .i64 b], .func (.func 60) #[] #[.pointer (some ⟨w.heap.size + 1 + 1 + 1 + 1, 0, none⟩), .pointer (some ⟨w.heap.size + 1 + 1 + 1, 0, none⟩)], .agg #[.int .i64 x1, .int .i64 x2], .int .i64 x3, .int .i64 x3, .bool true, v, undef, .agg #[fv], .int .i64 x3, .agg #[.int .i64 (valM fs x3).n, .int .i64 (valM fs x3).num, .string ⟨(valM fs x3).text.toArray⟩], undef, undef, undef, undef], defers := [] } W2 := by
          intro W2 hB2
          have hcb : W2.cell? ⟨w.heap.size + 1 + 1, 0, none⟩ = some v := (hB2.cell (p := ⟨w.heap.size + 1 + 1, 0, none⟩) hv.lt).trans hc
          have hcx0 : W2.cell? ⟨Bx, 0, none⟩ = some (.int .i64 x1) := (hB2.cell (p := ⟨Bx, 0, none⟩) (Array.getElem?_eq_some_iff.1 hbx).1).trans hc0
          have hcx1 : W2.cell? ⟨Bx, 1, none⟩ = some (.int .i64 x2) := (hB2.cell (p := ⟨Bx, 1, none⟩) (Array.getElem?_eq_some_iff.1 hbx).1).trans hc1
          simp only [regionOps, Try.f21, Option.bind_some, opsC, Nat.reduceEqDiff, reduceIte, Option.or_none, Option.none_or, Option.or_some, Option.some_or, Option.getD_some, Option.getD_none]
          refine wpAnyIn_ready (rs := [1]) (by kernel_rfl) (by simp) ?_
          refine AllReadyIn.cons rfl (fun K hK => ?_) ?_
          · go_simp
            exact hK _ _ (hd01234 W2 hB2)
          exact AllReadyIn.nil
        have hd1234 : ∀ W2, Below W.drew.heap.size W.drew W2 → wpAnyIn (Fence.wide.inRound l) 4 Try.prog .any (regionOps Try.f21 6) (Exit.then (fun _ W' => POST W') (fun _ _ _ => False)) 5 #[false, true, true, true, true, false, false, false, false] { tmps := #[.agg #[fv], .agg #[.int .i64 a, .int .i64 b], .pointer (some ⟨w.heap.size, 0, none⟩), .pointer (some ⟨w.heap.size + 1, 0, none⟩), .slice none 0 0, .pointer (some ⟨w.heap.size + 1 + 1, 0, none⟩), .pointer (some ⟨Bx, 0, none⟩), .int .i64 x3, .agg #[fv], .agg #[.int .i64 a, .int .i64 b], .func (.func 60) #[] #[.pointer (some ⟨w.heap.size + 1 + 1 + 1 + 1, 0, none⟩), .pointer (some ⟨w.heap.size + 1 + 1 + 1, 0, none⟩)], .agg #[.int .i64 x1, .int .i64 x2], .int .i64 x3, .int .i64 x3, .bool true, undef, .agg #[.int .i64 x1, .int .i64 x2], .agg #[fv], .int .i64 x3, .agg #[.int .i64 (valM fs x3).n, .int .i64 (valM fs x3).num, .string ⟨(valM fs x3).text.toArray⟩], undef, undef, undef, undef], defers := [] } W2 := by
          intro W2 hB2
          have hcb : W2.cell? ⟨w.heap.size + 1 + 1, 0, none⟩ = some v := (hB2.cell (p := ⟨w.heap.size + 1 + 1, 0, none⟩) hv.lt).trans hc
          have hcx0 : W2.cell? ⟨Bx, 0, none⟩ = some (.int .i64 x1) := (hB2.cell (p := ⟨Bx, 0, none⟩) (Array.getElem?_eq_some_iff.1 hbx).1).trans hc0
          have hcx1 : W2.cell? ⟨Bx, 1, none⟩ = some (.int .i64 x2) := (hB2.cell (p := ⟨Bx, 1, none⟩) (Array.getElem?_eq_some_iff.1 hbx).1).trans hc1
          simp only [regionOps, Try.f21, Option.bind_some, opsC, Nat.reduceEqDiff, reduceIte, Option.or_none, Option.none_or, Option.or_some, Option.some_or, Option.getD_some, Option.getD_none]
          refine wpAnyIn_ready (rs := [0, 5]) (by kernel_rfl) (by simp) ?_
          refine AllReadyIn.cons rfl (fun K hK => ?_) ?_
          · go_simp
            exact hK _ _ (hd01234 W2 hB2)
          refine AllReadyIn.cons rfl (fun K hK => ?_) ?_
          · go_simp
            exact hK _ _ (hd12345 W2 hB2)
          exact AllReadyIn.nil
        have hd012 : wpAnyIn (Fence.wide.inRound l) 4 Try.prog .any (regionOps Try.f21 6) (Exit.then (fun _ W' => POST W') (fun _ _ _ => False)) 6 #[true, true, true, false, false, false, false, false, false] { tmps := #[.agg #[fv], .agg #[.int .i64 a, .int .i64 b], .pointer (some ⟨w.heap.size, 0, none⟩), .pointer (some ⟨w.heap.size + 1, 0, none⟩), .slice none 0 0, .pointer (some ⟨w.heap.size + 1 + 1, 0, none⟩), .pointer (some ⟨Bx, 0, none⟩), .int .i64 x3, .agg #[fv], .agg #[.int .i64 a, .int .i64 b], .func (.func 60) #[] #[.pointer (some ⟨w.heap.size + 1 + 1 + 1 + 1, 0, none⟩), .pointer (some ⟨w.heap.size + 1 + 1 + 1, 0, none⟩)], .agg #[.int .i64 x1, .int .i64 x2], .int .i64 x3, .int .i64 x3, .bool true, v, .agg #[.int .i64 x1, .int .i64 x2], .agg #[fv], undef, undef, undef, undef, undef, undef], defers := [] } W.drew := by
          simp only [regionOps, Try.f21, Option.bind_some, opsC, Nat.reduceEqDiff, reduceIte, Option.or_none, Option.none_or, Option.or_some, Option.some_or, Option.getD_some, Option.getD_none]
          refine wpAnyIn_ready (rs := [3]) (by kernel_rfl) (by simp) ?_
          refine AllReadyIn.cons rfl (fun K hK => ?_) ?_
          · go_simp
            exact hK _ _ hd0123
          exact AllReadyIn.nil
        have hd013 : wpAnyIn (Fence.wide.inRound l) 4 Try.prog .any (regionOps Try.f21 6) (Exit.then (fun _ W' => POST W') (fun _ _ _ => False)) 6 #[true, true, false, true, false, false, false, false, false] { tmps := #[.agg #[fv], .agg #[.int .i64 a, .int .i64 b], .pointer (some ⟨w.heap.size, 0, none⟩), .pointer (some ⟨w.heap.size + 1, 0, none⟩), .slice none 0 0, .pointer (some ⟨w.heap.size + 1 + 1, 0, none⟩), .pointer (some ⟨Bx, 0, none⟩), .int .i64 x3, .agg #[fv], .agg #[.int .i64 a, .int .i64 b], .func (.func 60) #[] #[.pointer (some ⟨w.heap.size + 1 + 1 + 1 + 1, 0, none⟩), .pointer (some ⟨w.heap.size + 1 + 1 + 1, 0, none⟩)], .agg #[.int .i64 x1, .int .i64 x2], .int .i64 x3, .int .i64 x3, .bool true, v, .agg #[.int .i64 x1, .int .i64 x2], undef, .int .i64 x3, undef, undef, undef, undef, undef], defers := [] } W.drew := by
          simp only [regionOps, Try.f21, Option.bind_some, opsC, Nat.reduceEqDiff, reduceIte, Option.or_none, Option.none_or, Option.or_some, Option.some_or, Option.getD_some, Option.getD_none]
          refine wpAnyIn_ready (rs := [2]) (by kernel_rfl) (by simp) ?_
          refine AllReadyIn.cons rfl (fun K hK => ?_) ?_
          · go_simp
            exact hK _ _ hd0123
          exact AllReadyIn.nil
        have hd023 : wpAnyIn (Fence.wide.inRound l) 4 Try.prog .any (regionOps Try.f21 6) (Exit.then (fun _ W' => POST W') (fun _ _ _ => False)) 6 #[true, false, true, true, false, false, false, false, false] { tmps := #[.agg #[fv], .agg #[.int .i64 a, .int .i64 b], .pointer (some ⟨w.heap.size, 0, none⟩), .pointer (some ⟨w.heap.size + 1, 0, none⟩), .slice none 0 0, .pointer (some ⟨w.heap.size + 1 + 1, 0, none⟩), .pointer (some ⟨Bx, 0, none⟩), .int .i64 x3, .agg #[fv], .agg #[.int .i64 a, .int .i64 b], .func (.func 60) #[] #[.pointer (some ⟨w.heap.size + 1 + 1 + 1 + 1, 0, none⟩), .pointer (some ⟨w.heap.size + 1 + 1 + 1, 0, none⟩)], .agg #[.int .i64 x1, .int .i64 x2], .int .i64 x3, .int .i64 x3, .bool true, v, undef, .agg #[fv], .int .i64 x3, undef, undef, undef, undef, undef], defers := [] } W.drew := by
          simp only [regionOps, Try.f21, Option.bind_some, opsC, Nat.reduceEqDiff, reduceIte, Option.or_none, Option.none_or, Option.or_some, Option.some_or, Option.getD_some, Option.getD_none]
          refine wpAnyIn_ready (rs := [1, 4]) (by kernel_rfl) (by simp) ?_
          refine AllReadyIn.cons rfl (fun K hK => ?_) ?_
          · go_simp
            exact hK _ _ hd0123
          refine AllReadyIn.cons rfl (fun K hK => ?_) ?_
          · go_simp
            refine ⟨trivial, ?_⟩
            refine hcall.mono ?_
            rintro e W2 ⟨rfl, hB2⟩
            exact hK _ _ (hd0234 W2 hB2)
          exact AllReadyIn.nil
        have hd123 : wpAnyIn (Fence.wide.inRound l) 4 Try.prog .any (regionOps Try.f21 6) (Exit.then (fun _ W' => POST W') (fun _ _ _ => False)) 6 #[false, true, true, true, false, false, false, false, false] { tmps := #[.agg #[fv], .agg #[.int .i64 a, .int .i64 b], .pointer (some ⟨w.heap.size, 0, none⟩), .pointer (some ⟨w.heap.size + 1, 0, none⟩), .slice none 0 0, .pointer (some ⟨w.heap.size + 1 + 1, 0, none⟩), .pointer (some ⟨Bx, 0, none⟩), .int .i64 x3, .agg #[fv], .agg #[.int .i64 a, .int .i64 b], .func (.func 60) #[] #[.pointer (some ⟨w.heap.size + 1 + 1 + 1 + 1, 0, none⟩), .pointer (some ⟨w.heap.size + 1 + 1 + 1, 0, none⟩)], .agg #[.int .i64 x1, .int .i64 x2], .int .i64 x3, .int .i64 x3, .bool true, undef, .agg #[.int .i64 x1, .int .i64 x2], .agg #[fv], .int .i64 x3, undef, undef, undef, undef, undef], defers := [] } W.drew := by
          simp only [regionOps, Try.f21, Option.bind_some, opsC, Nat.reduceEqDiff, reduceIte, Option.or_none, Option.none_or, Option.or_some, Option.some_or, Option.getD_some, Option.getD_none]
          refine wpAnyIn_ready (rs := [0, 4]) (by kernel_rfl) (by simp) ?_
          refine AllReadyIn.cons rfl (fun K hK => ?_) ?_
          · go_simp
            exact hK _ _ hd0123
          refine AllReadyIn.cons rfl (fun K hK => ?_) ?_
          · go_simp
            refine ⟨trivial, ?_⟩
            refine hcall.mono ?_
            rintro e W2 ⟨rfl, hB2⟩
            exact hK _ _ (hd1234 W2 hB2)
          exact AllReadyIn.nil
        have hd234 : ∀ W2, Below W.drew.heap.size W.drew W2 → wpAnyIn (Fence.wide.inRound l) 4 Try.prog .any (regionOps Try.f21 6) (Exit.then (fun _ W' => POST W') (fun _ _ _ => False)) 6 #[false, false, true, true, true, false, false, false, false] { tmps := #[.agg #[fv], .agg #[.int .i64 a, .int .i64 b], .pointer (some ⟨w.heap.size, 0, none⟩), .pointer (some ⟨w.heap.size + 1, 0, none⟩), .slice none 0 0, .pointer (some ⟨w.heap.size + 1 + 1, 0, none⟩), .pointer (some ⟨Bx, 0, none⟩), .int .i64 x3, .agg #[fv], .agg #[.int .i64 a, .int .i64 b], .func (.func 60) #[] #[.pointer (some ⟨w.heap.size + 1 + 1 + 1 + 1, 0, none⟩), .pointer (some ⟨w.heap.size + 1 + 1 + 1, 0, none⟩)], .agg #[.int .i64 x1, .int .i64 x2], .int .i64 x3, .int .i64 x3, .bool true, undef, undef, .agg #[fv], .int .i64 x3, .agg #[.int .i64 (valM fs x3).n, .int .i64 (valM fs x3).num, .string ⟨(valM fs x3).text.toArray⟩], undef, undef, undef, undef], defers := [] } W2 := by
          intro W2 hB2
          have hcb : W2.cell? ⟨w.heap.size + 1 + 1, 0, none⟩ = some v := (hB2.cell (p := ⟨w.heap.size + 1 + 1, 0, none⟩) hv.lt).trans hc
          have hcx0 : W2.cell? ⟨Bx, 0, none⟩ = some (.int .i64 x1) := (hB2.cell (p := ⟨Bx, 0, none⟩) (Array.getElem?_eq_some_iff.1 hbx).1).trans hc0
          have hcx1 : W2.cell? ⟨Bx, 1, none⟩ = some (.int .i64 x2) := (hB2.cell (p := ⟨Bx, 1, none⟩) (Array.getElem?_eq_some_iff.1 hbx).1).trans hc1
          simp only [regionOps, Try.f21, Option.bind_some, opsC, Nat.reduceEqDiff, reduceIte, Option.or_none, Option.none_or, Option.or_some, Option.some_or, Option.getD_some, Option.getD_none]
          refine wpAnyIn_ready (rs := [0, 1]) (by kernel_rfl) (by simp) ?_
          refine AllReadyIn.cons rfl (fun K hK => ?_) ?_
          · go_simp
            exact hK _ _ (hd0234 W2 hB2)
          refine AllReadyIn.cons rfl (fun K hK => ?_) ?_
          · go_simp
            exact hK _ _ (hd1234 W2 hB2)
          exact AllReadyIn.nil
        have hd01 : wpAnyIn (Fence.wide.inRound l) 4 Try.prog .any (regionOps Try.f21 6) (Exit.then (fun _ W' => POST W') (fun _ _ _ => False)) 7 #[true, true, false, false, false, false, false, false, false] { tmps := #[.agg #[fv], .agg #[.int .i64 a, .int .i64 b], .pointer (some ⟨w.heap.size, 0, none⟩), .pointer (some ⟨w.heap.size + 1, 0, none⟩), .slice none 0 0, .pointer (some ⟨w.heap.size + 1 + 1, 0, none⟩), .pointer (some ⟨Bx, 0, none⟩), .int .i64 x3, .agg #[fv], .agg #[.int .i64 a, .int .i64 b], .func (.func 60) #[] #[.pointer (some ⟨w.heap.size + 1 + 1 + 1 + 1, 0, none⟩), .pointer (some ⟨w.heap.size + 1 + 1 + 1, 0, none⟩)], .agg #[.int .i64 x1, .int .i64 x2], .int .i64 x3, .int .i64 x3, .bool true, v, .agg #[.int .i64 x1, .int .i64 x2], undef, undef, undef, undef, undef, undef, undef], defers := [] } W.drew := by
          simp only [regionOps, Try.f21, Option.bind_some, opsC, Nat.reduceEqDiff, reduceIte, Option.or_none, Option.none_or, Option.or_some, Option.some_or, Option.getD_some, Option.getD_none]
          refine wpAnyIn_ready (rs := [2, 3]) (by kernel_rfl) (by simp) ?_
          refine AllReadyIn.cons rfl (fun K hK => ?_) ?_
          · go_simp
            exact hK _ _ hd012
          refine AllReadyIn.cons rfl (fun K hK => ?_) ?_
          · go_simp
            exact hK _ _ hd013
          exact AllReadyIn.nil
        have hd02 : wpAnyIn (Fence.wide.inRound l) 4 Try.prog .any (regionOps Try.f21 6) (Exit.then (fun _ W' => POST W') (fun _ _ _ => False)) 7 #[true, false, true, false, false, false, false, false, false] { tmps := #[.agg #[fv], .agg #[.int .i64 a, .int .i64 b], .pointer (some ⟨w.heap.size, 0, none⟩), .pointer (some ⟨w.heap.size + 1, 0, none⟩), .slice none 0 0, .pointer (some ⟨w.heap.size + 1 + 1, 0, none⟩), .pointer (some ⟨Bx, 0, none⟩), .int .i64 x3, .agg #[fv], .agg #[.int .i64 a, .int .i64 b], .func (.func 60) #[] #[.pointer (some ⟨w.heap.size + 1 + 1 + 1 + 1, 0, none⟩), .pointer (some ⟨w.heap.size + 1 + 1 + 1, 0, none⟩)], .agg #[.int .i64 x1, .int .i64 x2], .int .i64 x3, .int .i64 x3, .bool true, v, undef, .agg #[fv], undef, undef, undef, undef, undef, undef], defers := [] } W.drew := by
          simp only [regionOps, Try.f21, Option.bind_some, opsC, Nat.reduceEqDiff, reduceIte, Option.or_none, Option.none_or, Option.or_some, Option.some_or, Option.getD_some, Option.getD_none]
          refine wpAnyIn_ready (rs := [1, 3]) (by kernel_rfl) (by simp) ?_
          refine AllReadyIn.cons rfl (fun K hK => ?_) ?_
          · go_simp
            exact hK _ _ hd012
          refine AllReadyIn.cons rfl (fun K hK => ?_) ?_
          · go_simp
            exact hK _ _ hd023
          exact AllReadyIn.nil
        have hd03 : wpAnyIn (Fence.wide.inRound l) 4 Try.prog .any (regionOps Try.f21 6) (Exit.then (fun _ W' => POST W') (fun _ _ _ => False)) 7 #[true, false, false, true, false, false, false, false, false] { tmps := #[.agg #[fv], .agg #[.int .i64 a, .int .i64 b], .pointer (some ⟨w.heap.size, 0, none⟩), .pointer (some ⟨w.heap.size + 1, 0, none⟩), .slice none 0 0, .pointer (some ⟨w.heap.size + 1 + 1, 0, none⟩), .pointer (some ⟨Bx, 0, none⟩), .int .i64 x3, .agg #[fv], .agg #[.int .i64 a, .int .i64 b], .func (.func 60) #[] #[.pointer (some ⟨w.heap.size + 1 + 1 + 1 + 1, 0, none⟩), .pointer (some ⟨w.heap.size + 1 + 1 + 1, 0, none⟩)], .agg #[.int .i64 x1, .int .i64 x2], .int .i64 x3, .int .i64 x3, .bool true, v, undef, undef, .int .i64 x3, undef, undef, undef, undef, undef], defers := [] } W.drew := by
          simp only [regionOps, Try.f21, Option.bind_some, opsC, Nat.reduceEqDiff, reduceIte, Option.or_none, Option.none_or, Option.or_some, Option.some_or, Option.getD_some, Option.getD_none]
          refine wpAnyIn_ready (rs := [1, 2]) (by kernel_rfl) (by simp) ?_
          refine AllReadyIn.cons rfl (fun K hK => ?_) ?_
          · go_simp
            exact hK _ _ hd013
          refine AllReadyIn.cons rfl (fun K hK => ?_) ?_
          · go_simp
            exact hK _ _ hd023
          exact AllReadyIn.nil
        have hd12 : wpAnyIn (Fence.wide.inRound l) 4 Try.prog .any (regionOps Try.f21 6) (Exit.then (fun _ W' => POST W') (fun _ _ _ => False)) 7 #[false, true, true, false, false, false, false, false, false] { tmps := #[.agg #[fv], .agg #[.int .i64 a, .int .i64 b], .pointer (some ⟨w.heap.size, 0, none⟩), .pointer (some ⟨w.heap.size + 1, 0, none⟩), .slice none 0 0, .pointer (some ⟨w.heap.size + 1 + 1, 0, none⟩), .pointer (some ⟨Bx, 0, none⟩), .int .i64 x3, .agg #[fv], .agg #[.int .i64 a, .int .i64 b], .func (.func 60) #[] #[.pointer (some ⟨w.heap.size + 1 + 1 + 1 + 1, 0, none⟩), .pointer (some ⟨w.heap.size + 1 + 1 + 1, 0, none⟩)], .agg #[.int .i64 x1, .int .i64 x2], .int .i64 x3, .int .i64 x3, .bool true, undef, .agg #[.int .i64 x1, .int .i64 x2], .agg #[fv], undef, undef, undef, undef, undef, undef], defers := [] } W.drew := by
          simp only [regionOps, Try.f21, Option.bind_some, opsC, Nat.reduceEqDiff, reduceIte, Option.or_none, Option.none_or, Option.or_some, Option.some_or, Option.getD_some, Option.getD_none]
          refine wpAnyIn_ready (rs := [0, 3]) (by kernel_rfl) (by simp) ?_
          refine AllReadyIn.cons rfl (fun K hK => ?_) ?_
          · go_simp
            exact hK _ _ hd012
          refine AllReadyIn.cons rfl (fun K hK => ?_) ?_
          · go_simp
            exact hK _ _ hd123
          exact AllReadyIn.nil
        have hd13 : wpAnyIn (Fence.wide.inRound l) 4 Try.prog .any (regionOps Try.f21 6) (Exit.then (fun _ W' => POST W') (fun _ _ _ => False)) 7 #[false, true, false, true, false, false, false, false, false] { tmps := #[.agg #[fv], .agg #[.int .i64 a, .int .i64 b], .pointer (some ⟨w.heap.size, 0, none⟩), .pointer (some ⟨w.heap.size + 1, 0, none⟩), .slice none 0 0, .pointer (some ⟨w.heap.size + 1 + 1, 0, none⟩), .pointer (some ⟨Bx, 0, none⟩), .int .i64 x3, .agg #[fv], .agg #[.int .i64 a, .int .i64 b], .func (.func 60) #[] #[.pointer (some ⟨w.heap.size + 1 + 1 + 1 + 1, 0, none⟩), .pointer (some ⟨w.heap.size + 1 + 1 + 1, 0, none⟩)], .agg #[.int .i64 x1, .int .i64 x2], .int .i64 x3, .int .i64 x3, .bool true, undef, .agg #[.int .i64 x1, .int .i64 x2], undef, .int .i64 x3, undef, undef, undef, undef, undef], defers := [] } W.drew := by
          simp only [regionOps, Try.f21, Option.bind_some, opsC, Nat.reduceEqDiff, reduceIte, Option.or_none, Option.none_or, Option.or_some, Option.some_or, Option.getD_some, Option.getD_none]
          refine wpAnyIn_ready (rs := [0, 2]) (by kernel_rfl) (by simp) ?_
          refine AllReadyIn.cons rfl (fun K hK => ?_) ?_
          · go_simp
            exact hK _ _ hd013
          refine AllReadyIn.cons rfl (fun K hK => ?_) ?_
          · go_simp
            exact hK _ _ hd123
          exact AllReadyIn.nil
        have hd23 : wpAnyIn (Fence.wide.inRound l) 4 Try.prog .any (regionOps Try.f21 6) (Exit.then (fun _ W' => POST W') (fun _ _ _ => False)) 7 #[false, false, true, true, false, false, false, false, false] { tmps := #[.agg #[fv], .agg #[.int .i64 a, .int .i64 b], .pointer (some ⟨w.heap.size, 0, none⟩), .pointer (some ⟨w.heap.size + 1, 0, none⟩), .slice none 0 0, .pointer (some ⟨w.heap.size + 1 + 1, 0, none⟩), .pointer (some ⟨Bx, 0, none⟩), .int .i64 x3, .agg #[fv], .agg #[.int .i64 a, .int .i64 b], .func (.func 60) #[] #[.pointer (some ⟨w.heap.size + 1 + 1 + 1 + 1, 0, none⟩), .pointer (some ⟨w.heap.size + 1 + 1 + 1, 0, none⟩)], .agg #[.int .i64 x1, .int .i64 x2], .int .i64 x3, .int .i64 x3, .bool true, undef, undef, .agg #[fv], .int .i64 x3, undef, undef, undef, undef, undef], defers := [] } W.drew := by
          simp only [regionOps, Try.f21, Option.bind_some, opsC, Nat.reduceEqDiff, reduceIte, Option.or_none, Option.none_or, Option.or_some, Option.some_or, Option.getD_some, Option.getD_none]
          refine wpAnyIn_ready (rs := [0, 1, 4]) (by kernel_rfl) (by simp) ?_
          refine AllReadyIn.cons rfl (fun K hK => ?_) ?_
          · go_simp
            exact hK _ _ hd023
          refine AllReadyIn.cons rfl (fun K hK => ?_) ?_
          · go_simp
            exact hK _ _ hd123
          refine AllReadyIn.cons rfl (fun K hK => ?_) ?_
          · go_simp
            refine ⟨trivial, ?_⟩
            refine hcall.mono ?_
            rintro e W2 ⟨rfl, hB2⟩
            exact hK _ _ (hd234 W2 hB2)
          exact AllReadyIn.nil
        have hd0 : wpAnyIn (Fence.wide.inRound l) 4 Try.prog .any (regionOps Try.f21 6) (Exit.then (fun _ W' => POST W') (fun _ _ _ => False)) 8 #[true, false, false, false, false, false, false, false, false] { tmps := #[.agg #[fv], .agg #[.int .i64 a, .int .i64 b], .pointer (some ⟨w.heap.size, 0, none⟩), .pointer (some ⟨w.heap.size + 1, 0, none⟩), .slice none 0 0, .pointer (some ⟨w.heap.size + 1 + 1, 0, none⟩), .pointer (some ⟨Bx, 0, none⟩), .int .i64 x3, .agg #[fv], .agg #[.int .i64 a, .int .i64 b], .func (.func 60) #[] #[.pointer (some ⟨w.heap.size + 1 + 1 + 1 + 1, 0, none⟩), .pointer (some ⟨w.heap.size + 1 + 1 + 1, 0, none⟩)], .agg #[.int .i64 x1, .int .i64 x2], .int .i64 x3, .int .i64 x3, .bool true, v, undef, undef, undef, undef, undef, undef, undef, undef], defers := [] } W.drew := by
          simp only [regionOps, Try.f21, Option.bind_some, opsC, Nat.reduceEqDiff, reduceIte, Option.or_none, Option.none_or, Option.or_some, Option.some_or, Option.getD_some, Option.getD_none]
          refine wpAnyIn_ready (rs := [1, 2, 3]) (by kernel_rfl) (by simp) ?_
          refine AllReadyIn.cons rfl (fun K hK => ?_) ?_
          · go_simp
            exact hK _ _ hd01
          refine AllReadyIn.cons rfl (fun K hK => ?_) ?_
          · go_simp
            exact hK _ _ hd02
          refine AllReadyIn.cons rfl (fun K hK => ?_) ?_
          · go_simp
            exact hK _ _ hd03
          exact AllReadyIn.nil
        have hd1 : wpAnyIn (Fence.wide.inRound l) 4 Try.prog .any (regionOps Try.f21 6) (Exit.then (fun _ W' => POST W') (fun _ _ _ => False)) 8 #[false, true, false, false, false, false, false, false, false] { tmps := #[.agg #[fv], .agg #[.int .i64 a, .int .i64 b], .pointer (some ⟨w.heap.size, 0, none⟩), .pointer (some ⟨w.heap.size + 1, 0, none⟩), .slice none 0 0, .pointer (some ⟨w.heap.size + 1 + 1, 0, none⟩), .pointer (some ⟨Bx, 0, none⟩), .int .i64 x3, .agg #[fv], .agg #[.int .i64 a, .int .i64 b], .func (.func 60) #[] #[.pointer (some ⟨w.heap.size + 1 + 1 + 1 + 1, 0, none⟩), .pointer (some ⟨w.heap.size + 1 + 1 + 1, 0, none⟩)], .agg #[.int .i64 x1, .int .i64 x2], .int .i64 x3, .int .i64 x3, .bool true, undef, .agg #[.int .i64 x1, .int .i64 x2], undef, undef, undef, undef, undef, undef, undef], defers := [] } W.drew := by
          simp only [regionOps, Try.f21, Option.bind_some, opsC, Nat.reduceEqDiff, reduceIte, Option.or_none, Option.none_or, Option.or_some, Option.some_or, Option.getD_some, Option.getD_none]
          refine wpAnyIn_ready (rs := [0, 2, 3]) (by kernel_rfl) (by simp) ?_
          refine AllReadyIn.cons rfl (fun K hK => ?_) ?_
          · go_simp
            exact hK _ _ hd01
          refine AllReadyIn.cons rfl (fun K hK => ?_) ?_
          · go_simp
            exact hK _ _ hd12
          refine AllReadyIn.cons rfl (fun K hK => ?_) ?_
          · go_simp
            exact hK _ _ hd13
          exact AllReadyIn.nil
        have hd2 : wpAnyIn (Fence.wide.inRound l) 4 Try.prog .any (regionOps Try.f21 6) (Exit.then (fun _ W' => POST W') (fun _ _ _ => False)) 8 #[false, false, true, false, false, false, false, false, false] { tmps := #[.agg #[fv], .agg #[.int .i64 a, .int .i64 b], .pointer (some ⟨w.heap.size, 0, none⟩), .pointer (some ⟨w.heap.size + 1, 0, none⟩), .slice none 0 0, .pointer (some ⟨w.heap.size + 1 + 1, 0, none⟩), .pointer (some ⟨Bx, 0, none⟩), .int .i64 x3, .agg #[fv], .agg #[.int .i64 a, .int .i64 b], .func (.func 60) #[] #[.pointer (some ⟨w.heap.size + 1 + 1 + 1 + 1, 0, none⟩), .pointer (some ⟨w.heap.size + 1 + 1 + 1, 0, none⟩)], .agg #[.int .i64 x1, .int .i64 x2], .int .i64 x3, .int .i64 x3, .bool true, undef, undef, .agg #[fv], undef, undef, undef, undef, undef, undef], defers := [] } W.drew := by
          simp only [regionOps, Try.f21, Option.bind_some, opsC, Nat.reduceEqDiff, reduceIte, Option.or_none, Option.none_or, Option.or_some, Option.some_or, Option.getD_some, Option.getD_none]
          refine wpAnyIn_ready (rs := [0, 1, 3]) (by kernel_rfl) (by simp) ?_
          refine AllReadyIn.cons rfl (fun K hK => ?_) ?_
          · go_simp
            exact hK _ _ hd02
          refine AllReadyIn.cons rfl (fun K hK => ?_) ?_
          · go_simp
            exact hK _ _ hd12
          refine AllReadyIn.cons rfl (fun K hK => ?_) ?_
          · go_simp
            exact hK _ _ hd23
          exact AllReadyIn.nil
        have hd3 : wpAnyIn (Fence.wide.inRound l) 4 Try.prog .any (regionOps Try.f21 6) (Exit.then (fun _ W' => POST W') (fun _ _ _ => False)) 8 #[false, false, false, true, false, false, false, false, false] { tmps := #[.agg #[fv], .agg #[.int .i64 a, .int .i64 b], .pointer (some ⟨w.heap.size, 0, none⟩), .pointer (some ⟨w.heap.size + 1, 0, none⟩), .slice none 0 0, .pointer (some ⟨w.heap.size + 1 + 1, 0, none⟩), .pointer (some ⟨Bx, 0, none⟩), .int .i64 x3, .agg #[fv], .agg #[.int .i64 a, .int .i64 b], .func (.func 60) #[] #[.pointer (some ⟨w.heap.size + 1 + 1 + 1 + 1, 0, none⟩), .pointer (some ⟨w.heap.size + 1 + 1 + 1, 0, none⟩)], .agg #[.int .i64 x1, .int .i64 x2], .int .i64 x3, .int .i64 x3, .bool true, undef, undef, undef, .int .i64 x3, undef, undef, undef, undef, undef], defers := [] } W.drew := by
          simp only [regionOps, Try.f21, Option.bind_some, opsC, Nat.reduceEqDiff, reduceIte, Option.or_none, Option.none_or, Option.or_some, Option.some_or, Option.getD_some, Option.getD_none]
          refine wpAnyIn_ready (rs := [0, 1, 2]) (by kernel_rfl) (by simp) ?_
          refine AllReadyIn.cons rfl (fun K hK => ?_) ?_
          · go_simp
            exact hK _ _ hd03
          refine AllReadyIn.cons rfl (fun K hK => ?_) ?_
          · go_simp
            exact hK _ _ hd13
          refine AllReadyIn.cons rfl (fun K hK => ?_) ?_
          · go_simp
            exact hK _ _ hd23
          exact AllReadyIn.nil
        have hd : wpAnyIn (Fence.wide.inRound l) 4 Try.prog .any (regionOps Try.f21 6) (Exit.then (fun _ W' => POST W') (fun _ _ _ => False)) 9 #[false, false, false, false, false, false, false, false, false] { tmps := #[.agg #[fv], .agg #[.int .i64 a, .int .i64 b], .pointer (some ⟨w.heap.size, 0, none⟩), .pointer (some ⟨w.heap.size + 1, 0, none⟩), .slice none 0 0, .pointer (some ⟨w.heap.size + 1 + 1, 0, none⟩), .pointer (some ⟨Bx, 0, none⟩), .int .i64 x3, .agg #[fv], .agg #[.int .i64 a, .int .i64 b], .func (.func 60) #[] #[.pointer (some ⟨w.heap.size + 1 + 1 + 1 + 1, 0, none⟩), .pointer (some ⟨w.heap.size + 1 + 1 + 1, 0, none⟩)], .agg #[.int .i64 x1, .int .i64 x2], .int .i64 x3, .int .i64 x3, .bool true, undef, undef, undef, undef, undef, undef, undef, undef, undef], defers := [] } W.drew := by
          simp only [regionOps, Try.f21, Option.bind_some, opsC, Nat.reduceEqDiff, reduceIte, Option.or_none, Option.none_or, Option.or_some, Option.some_or, Option.getD_some, Option.getD_none]
          refine wpAnyIn_ready (rs := [0, 1, 2, 3]) (by kernel_rfl) (by simp) ?_
          refine AllReadyIn.cons rfl (fun K hK => ?_) ?_
          · go_simp
            exact hK _ _ hd0
          refine AllReadyIn.cons rfl (fun K hK => ?_) ?_
          · go_simp
            exact hK _ _ hd1
          refine AllReadyIn.cons rfl (fun K hK => ?_) ?_
          · go_simp
            exact hK _ _ hd2
          refine AllReadyIn.cons rfl (fun K hK => ?_) ?_
          · go_simp
            exact hK _ _ hd3
          exact AllReadyIn.nil
        exact hd

      case rest =>
        intro e a' W' hq
        cases e <;> first | (exact hq.elim) | skip
        obtain ⟨h1, h2, ⟨⟨v2, hv2, hr2, -⟩, hb2⟩, h3⟩ := hP2 _ hq
        have e1 : pcs ((pre ++ [(⟨(x1, x2, x3), hx⟩ : StB fs.length)]).map (·.1)) = pcs (pre.map (·.1)) ++ [(x1, x2, x3)] := by
          rw [List.map_append]; exact pcs_hit _ h0
        refine ⟨h1, h2, ⟨⟨v2, hv2, ?_, trivial⟩, hb2⟩, h3⟩
        simp only [celO, e1, List.flatMap_append, List.flatMap_cons, List.flatMap_nil, List.append_nil, List.length_append, List.length_cons, List.length_nil, Nat.zero_add]
        exact hr2
    · dsimp only
      gi_wp2
      have e1 : pcs ((pre ++ [(⟨(x1, x2, x3), hx⟩ : StB fs.length)]).map (·.1)) = pcs (pre.map (·.1)) := by
        rw [List.map_append]; exact pcs_miss _ (by show ¬ (0 : Int) ≤ x3; omega)
      refine ⟨KeepsFrom.refl _ _, KpB.below hv.lt hB.size (Below.refl _ _), ⟨⟨v, hv, ?_⟩, hbl⟩, hB⟩
      simp only [celO, e1]
      exact hrow
  case done =>
    rintro D ys W hD hys ⟨⟨⟨v, hv, hrow, -⟩, hbl⟩, hB⟩ hK
    have hc := hv.cell
    rw [hys] at hrow
    gi_wp2
    refine ⟨by simp, .inl ⟨_, _, rfl, run_takeDeferred hK, ?_⟩⟩
    exact ⟨_, results_tmp rfl _ _ _, v, rfl, ownsRow_putObj hrow _ hK rfl, hB.trans (belowK_b (w := w) (Nat.le_refl _) W D _ _ (by omega) hK rfl rfl)⟩
  case stop =>
    rintro D c pre W _ _ h _
    exact h.elim
end Go.Proofs.Ytjcoenideicmbaa

