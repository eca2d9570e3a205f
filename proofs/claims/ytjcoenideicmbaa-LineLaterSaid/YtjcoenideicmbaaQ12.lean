import Derived.Test.YtjcoenideicmbaaProg
import Derived.KernelRfl
import Derived.Test.YtjcoenideicmbaaQ11
import Derived.Test.YtjcoenideicmbaaP3
namespace Go.Proofs.Ytjcoenideicmbaa
open Go PG Go.Proofs Go.RowKit Go.Shelf
attribute [local go_sem] Oper.semAt_some
set_option linter.unusedSimpArgs false
set_option linter.unusedVariables false
set_option maxRecDepth 100000
set_option maxHeartbeats 4000000
def chS (a : Int) (l : List St3) : List Int := (l.filter fun x => decide (a < x.1)).map (·.1)
theorem info25 : (Try.prog.info? 25).map (fun i => (i.zero, i.size, i.bytes)) = some (some (.int .i64 0), 1, 8) := by kernel_rfl
theorem chS_hit (a : Int) (pre : List St3) {x : St3} (h : a < x.1) : chS a (pre ++ [x]) = chS a pre ++ [x.1] := by simp [chS, h]
theorem chS_miss (a : Int) (pre : List St3) {x : St3} (h : ¬ a < x.1) : chS a (pre ++ [x]) = chS a pre := by simp [chS, h]
theorem chS_len (a : Int) (pre : List St3) : (chS a pre).length ≤ pre.length := by
  unfold chS; rw [List.length_map]; exact List.length_filter_le _ _
theorem w30 (fv : Value) (fs : List Kn) (hl : fs.length ≤ 1000000000) (a b : Int) (w : World) (ex : Nat → Prop) (hex : ∀ b, ex b → b < w.heap.size) (hF : RepC w ex fv (knL fs)) (hfl : (fullM fs a b).length ≤ 2000000001) :
    Calls Try.prog 30 #[.agg #[fv], .agg #[.int .i64 a, .int .i64 b]] w fun e W' => ∃ v, e = .returned v ∧ W'.ownsRow w.heap.size 25 1 v (chS a (fullM fs a b)).length ((chS a (fullM fs a b)).map (Value.int .i64)) ∧ Below w.heap.size w W' := by
  refine (callsIn_wide (n := 6)).1 ?_
  obtain ⟨i0, hi, hz0, hz1, hz2⟩ := info_parts info25
  refine callsIn_of_wp_marks Try.func30 rfl trivial ?_ rfl
  simp only [Try.ntmps30, List.size_toArray, List.length_cons, List.length_nil, Nat.reduceAdd, Nat.reduceSub, Array.replicate_succ, Array.replicate_zero, List.push_toArray, List.append_toArray, List.nil_append, List.cons_append]
  gi_wp2_with (refine ⟨trivial, ?_⟩; gi_at_call 48; refine (callsIn_wide.2 (w48 fv a b _)).mono ?_; rintro e w' ⟨rfl, rfl⟩)
  have hsz : (((((w.alloc (.cells #[fv] 32)).alloc (.cells #[.int .i64 a, .int .i64 b] 27)).alloc (.cells #[.slice none 0 0] 63)).alloc (.cells #[fv] 32)).alloc (.cells #[.int .i64 a, .int .i64 b] 27)).heap.size = w.heap.size + 5 := by simp
  have hB0 : Below w.heap.size w (((((w.alloc (.cells #[fv] 32)).alloc (.cells #[.int .i64 a, .int .i64 b] 27)).alloc (.cells #[.slice none 0 0] 63)).alloc (.cells #[fv] 32)).alloc (.cells #[.int .i64 a, .int .i64 b] 27)) :=
    (((((Below.refl _ w).alloc (Nat.le_refl _) _).alloc (by simp) _).alloc (by simp; omega) _).alloc (by simp; omega) _).alloc (by simp; omega) _
  have bO := (((Boxed.new ((w.alloc (.cells #[fv] 32)).alloc (.cells #[.int .i64 a, .int .i64 b] 27)) 63 (.slice none 0 0)).alloc (.cells #[fv] 32)).alloc (.cells #[.int .i64 a, .int .i64 b] 27))
  have bL0 : (((((w.alloc (.cells #[fv] 32)).alloc (.cells #[.int .i64 a, .int .i64 b] 27)).alloc (.cells #[.slice none 0 0] 63)).alloc (.cells #[fv] 32)).alloc (.cells #[.int .i64 a, .int .i64 b] 27)).heap[w.heap.size + 1]? = some (.cells #[.int .i64 a, .int .i64 b] 27 (0, 0)) := by
    have e0 := World.alloc_heap_new (w.alloc (.cells #[fv] 32)) (.cells #[.int .i64 a, .int .i64 b] 27)
    rw [World.size_alloc] at e0
    rw [Below.heap_alloc _ _ _ (by simp), Below.heap_alloc _ _ _ (by simp), Below.heap_alloc _ _ _ (by simp)]
    exact e0
  have bL := ((Boxed.new (((w.alloc (.cells #[fv] 32)).alloc (.cells #[.int .i64 a, .int .i64 b] 27)).alloc (.cells #[.slice none 0 0] 63)) 32 fv).alloc (.cells #[.int .i64 a, .int .i64 b] 27))
  have bS := World.alloc_heap_new ((((w.alloc (.cells #[fv] 32)).alloc (.cells #[.int .i64 a, .int .i64 b] 27)).alloc (.cells #[.slice none 0 0] 63)).alloc (.cells #[fv] 32)) (.cells #[.int .i64 a, .int .i64 b] 27)
  simp only [World.size_alloc] at bO bL bS
  obtain ⟨W0, hW0⟩ : ∃ W0, ((((w.alloc (.cells #[fv] 32)).alloc (.cells #[.int .i64 a, .int .i64 b] 27)).alloc (.cells #[.slice none 0 0] 63)).alloc (.cells #[fv] 32)).alloc (.cells #[.int .i64 a, .int .i64 b] 27) = W0 := ⟨_, rfl⟩
  rw [hW0] at hsz hB0 bO bL0 bL bS ⊢
  clear hW0
  have hnr : ∀ g, ¬ rowIs W0 (w.heap.size + 1 + 1) g := by
    rintro g ⟨_, len, cap, hc⟩
    rw [bO.cell] at hc; simp at hc
  have hI0 : ItS w.heap.size (w.heap.size + 1 + 1) (w.heap.size + 1 + 1 + 1) (w.heap.size + 1 + 1 + 1 + 1) fv fs a b W0 := by
    refine ⟨by omega, by omega, hF.mono ⟨fun k hk _ => hB0.block k hk, fun k hk _ hb => ?_⟩, bL.cell, by simp [World.cell?, bS], by simp [World.cell?, bS], ?_, ?_, ?_⟩
    · rcases hb with rfl | h | ⟨h, _⟩
      · omega
      · exact hnr _ h
      · omega
    · rintro (h | h | ⟨_, o, ho, hn⟩)
      · omega
      · exact hnr _ h
      · rw [bL] at ho; cases ho; cases hn
    · rintro (h | h | ⟨_, o, ho, hn⟩)
      · omega
      · exact hnr _ h
      · rw [bS] at ho; cases ho; cases hn
    · intro g len cap hc
      rw [bO.cell] at hc; simp at hc
  refine wpIn_rangeFunc_ownH (F := Fence.wide) (n := 6) rfl (by omega) (gf := 60) (lb := #[.pointer (some ⟨w.heap.size + 1 + 1 + 1 + 1, 0, none⟩), .pointer (some ⟨w.heap.size + 1 + 1 + 1, 0, none⟩)]) rfl trivial (enters_of Try.func60 (by kernel_rfl) rfl)
    (it_stops w.heap.size (w.heap.size + 1 + 1) (w.heap.size + 1 + 1 + 1) (w.heap.size + 1 + 1 + 1 + 1) fv fs hl a b W0 hI0) KpB.t (KpB.b (by omega) (by omega)) (Below.refl _ _) (fun _ => rfl)
    (fun pre W => ((∃ v, Boxed W (w.heap.size + 1 + 1) 63 v ∧ W.ownsRow w.heap.size 25 1 v (chS a (pre.map (·.1))).length ((chS a (pre.map (·.1))).map (Value.int .i64)) ∧ True) ∧ W.heap[w.heap.size + 1]? = some (.cells #[.int .i64 a, .int .i64 b] 27 (0, 0))) ∧ Below w.heap.size w W)
    (fun _ _ _ => False)
    (OwnFrom.and (OwnFrom.and (Own.from (holdsRow_own w.heap.size (w.heap.size + 1 + 1) 63 25 1 (fun (pre : List (StB fs.length)) => (chS a (pre.map (·.1))).length) (fun pre => (chS a (pre.map (·.1))).map (Value.int .i64)) (fun _ _ => True)) _) (fun _ X Y row hs hg hr => own_cells _ _ _ _ () X Y row hs hg hr)) (ownFrom_below (Nat.le_refl _) (by omega)))
    (fun _ _ _ _ _ hs _ _ => hs)
    ⟨⟨⟨_, bO, by simpa [chS] using World.ownsRow_nil _ _ _ _, trivial⟩, bL0⟩, hB0⟩
    (fun x a' W => ∃ Bx, W.heap[Bx]? = some (.cells #[.int .i64 x.1.1, .int .i64 x.1.2.1] 27 (0, 0)) ∧ a' = { tmps := #[.agg #[fv], .agg #[.int .i64 a, .int .i64 b], .pointer (some ⟨w.heap.size, 0, none⟩), .pointer (some ⟨w.heap.size + 1, 0, none⟩), .slice none 0 0, .pointer (some ⟨w.heap.size + 1 + 1, 0, none⟩), .pointer (some ⟨Bx, 0, none⟩),
      .agg #[fv], .agg #[.int .i64 a, .int .i64 b], .func (.func 60) #[] #[.pointer (some ⟨w.heap.size + 1 + 1 + 1 + 1, 0, none⟩), .pointer (some ⟨w.heap.size + 1 + 1 + 1, 0, none⟩)], .agg #[.int .i64 x.1.1, .int .i64 x.1.2.1], .int .i64 x.1.2.2, undef, undef, undef, undef, undef, undef, undef, undef, undef, undef, undef], defers := [] })
    ?hAx ?assign ?body ?done ?stop
  case hAx =>
    rintro x a' _ X Y row ⟨Bx, h2, h3⟩ hg hr
    exact ⟨Bx, own_cells _ _ _ _ () X Y row h2 hg hr, h3⟩
  case assign =>
    rintro l pre ⟨⟨x1, x2, x3⟩, hx⟩ W K ⟨⟨⟨v, hv, hrow, -⟩, hbl⟩, hB⟩ hK
    dsimp only [strB, strP]
    gi_wp2
    refine hK _ _ ((KeepsOthers.alloc _ _).from _) (KpB.below hv.lt hB.size ((Below.refl _ W).alloc (Nat.le_refl _) _)) ⟨⟨⟨v, hv.alloc _, hrow.alloc _, trivial⟩, ?_⟩, hB.alloc hB.size _⟩ ⟨W.heap.size, World.alloc_heap_new W _, rfl⟩
    exact (Below.heap_alloc W _ _ (Array.getElem?_eq_some_iff.1 hbl).1).trans hbl
  case body =>
    rintro l pre ⟨⟨x1, x2, x3⟩, hx⟩ a' W hl0 ⟨r, hr⟩ ⟨⟨⟨v, hv, hrow, -⟩, hbl⟩, hB⟩ ⟨Bx, hbx, rfl⟩ hlt
    have hc := hv.cell
    have hcl : W.cell? ⟨w.heap.size + 1, 0, none⟩ = some (.int .i64 a) := by simp [World.cell?, hbl]
    have hc0 : W.cell? ⟨Bx, 0, none⟩ = some (.int .i64 x1) := by simp [World.cell?, hbx]
    have hpl : (chS a (pre.map (·.1))).length ≤ pre.length := by have := chS_len a (pre.map (·.1)); simpa using this
    have hb63 : (chS a (pre.map (·.1))).length + 1 ≤ maxLen := by unfold maxLen; omega
    have hbby : ((chS a (pre.map (·.1))).length + 1) * 8 ≤ 140737488355328 := by omega
    have hnews : ∀ (j : Nat) (u : Value), [Value.int .i64 x1][j]? = some u → (W.alloc (.cells #[.int .i64 x1] 25)).cell? ((⟨W.heap.size, 0, none⟩ : Addr).add j) = some u := by
      intro j u hu
      have hh := World.alloc_heap_new W (.cells #[.int .i64 x1] 25)
      have hc5 := cell?_cells hh (0 + j)
      rw [Addr.add_lit, hc5, Nat.zero_add]
      simpa using hu
    by_cases h0 : a < x1
    · have e1 : chS a ((pre ++ [(⟨(x1, x2, x3), hx⟩ : StB fs.length)]).map (·.1)) = chS a (pre.map (·.1)) ++ [x1] := by
        rw [List.map_append]; exact chS_hit a _ h0
      have hleaf : ∀ (v' : Value) (w1 : World), w1.ownsRow w.heap.size 25 1 v' ((chS a (pre.map (·.1))).length + 1) ((chS a (pre.map (·.1))).map (Value.int .i64) ++ [.int .i64 x1]) → (W.alloc (.cells #[.int .i64 x1] 25)).grownBy w1 v.ownBlock →
          (v'.ownBlock = v.ownBlock ∨ ∀ g, v'.ownBlock = some g → (W.alloc (.cells #[.int .i64 x1] 25)).heap.size ≤ g) → Boxed w1 (w.heap.size + 1 + 1) 63 v ∧
          Aside (KeepsFrom W0.heap.size W (w1.setCell ⟨w.heap.size + 1 + 1, 0, none⟩ v') ∧ KpB w.heap.size (w.heap.size + 1 + 1) W (w1.setCell ⟨w.heap.size + 1 + 1, 0, none⟩ v') ∧ ((∃ v, Boxed (w1.setCell ⟨w.heap.size + 1 + 1, 0, none⟩ v') (w.heap.size + 1 + 1) 63 v ∧ (w1.setCell ⟨w.heap.size + 1 + 1, 0, none⟩ v').ownsRow w.heap.size 25 1 v (chS a ((pre ++ [(⟨(x1, x2, x3), hx⟩ : StB fs.length)]).map (·.1))).length ((chS a ((pre ++ [(⟨(x1, x2, x3), hx⟩ : StB fs.length)]).map (·.1))).map (Value.int .i64)) ∧ True) ∧ (w1.setCell ⟨w.heap.size + 1 + 1, 0, none⟩ v').heap[w.heap.size + 1]? = some (.cells #[.int .i64 a, .int .i64 b] 27 (0, 0))) ∧ Below w.heap.size w (w1.setCell ⟨w.heap.size + 1 + 1, 0, none⟩ v')) := by
        intro v' w1 hown' hgrow hfr
        obtain ⟨hv1, hv3, hr3, hk3, hb3⟩ := hv.appended (by decide) hrow hB.size (by omega) hown' hgrow
        refine ⟨hv1, hk3.from _, ?_, ⟨⟨v', hv3, ?_, trivial⟩, ?_⟩, hB.trans hb3⟩
        · exact (KpB.below hv.lt hB.size ((Below.refl _ _).alloc (Nat.le_refl _) _)).t (KpB.push (hv.alloc _) (by decide) (hrow.alloc _) (by have := hB.size; simp; omega) (by omega) hown' hgrow hfr)
        · rw [e1]; simpa using hr3
        · have e2 : (W.alloc (.cells #[.int .i64 x1] 25)).heap[w.heap.size + 1]? = some (.cells #[.int .i64 a, .int .i64 b] 27 (0, 0)) := (Below.heap_alloc W _ _ (Array.getElem?_eq_some_iff.1 hbl).1).trans hbl
          have e3 : w1.heap[w.heap.size + 1]? = some (.cells #[.int .i64 a, .int .i64 b] 27 (0, 0)) := by
            rw [hgrow.block _ (Array.getElem?_eq_some_iff.1 e2).1 ?_]; exact e2
            intro e
            rcases hrow.2 with ⟨rfl, _⟩ | ⟨g, cap, cur, rfl, _, hg, _⟩
            · simp [Value.ownBlock] at e
            · have : g = w.heap.size + 1 := by simpa [Value.ownBlock] using e.symm
              subst this
              rw [hbl] at hg; cases hg
          rw [Below.heap_setCell w1 ⟨w.heap.size + 1 + 1, 0, none⟩ v' _ (by simp)]; exact e3
      dsimp only
      gi_wp2_with (gi_at_builtin; refine wpListIn_append_own2 _ rfl _ _ 63 rfl w.heap.size 25 i0 _ 1 8 Try.underlying63 hi hz0 hz1 hz2 rfl (by decide) v _ _ rfl (hrow.alloc _) ⟨W.heap.size, 0, none⟩ 1 1 [.int .i64 x1] rfl rfl hnews (by simp [Value.oneCell']) hb63 hbby (by have := hB.size; simp; omega) ?_; intro v' w1 hown' hgrow hfr; obtain ⟨hv1, hfin⟩ := hleaf v' w1 hown' hgrow hfr; obtain ⟨g', cap', hve⟩ := ownsRow_succ hown'; subst hve; have hcv1 := hv1.cell; have hfv1 := hv1.frozen)
      all_goals first | (exfalso; omega) | (obtain ⟨q1, q2, ⟨⟨v2, q3, q4, -⟩, q5⟩, q6⟩ := hfin; exact ⟨by rw [← hsz]; exact q1, q2, ⟨⟨v2, q3, q4⟩, q5⟩, q6⟩)
    · have e1 : chS a ((pre ++ [(⟨(x1, x2, x3), hx⟩ : StB fs.length)]).map (·.1)) = chS a (pre.map (·.1)) := by
        rw [List.map_append]; exact chS_miss a _ h0
      have h0' : x1 ≤ a := by omega
      dsimp only
      gi_wp2
      refine ⟨KeepsFrom.refl _ _, KpB.below hv.lt hB.size (Below.refl _ _), ⟨⟨v, hv, ?_⟩, hbl⟩, hB⟩
      rw [e1]
      exact hrow
  case done =>
    rintro D ys W hD hys ⟨⟨⟨v, hv, hrow, -⟩, hbl⟩, hB⟩ hK
    have hc := hv.cell
    rw [hys] at hrow
    gi_wp2
    refine ⟨by simp, .inl ⟨_, _, rfl, run_takeDeferred hK, ?_⟩⟩
    exact ⟨_, results_tmp rfl _ _ _, v, rfl, ownsRow_putObj hrow _ hK rfl, hB.trans (belowK_b (w := w) (Nat.le_refl _) W D _ _ (by omega) hK rfl rfl)⟩
  case stop =>
    rintro D c pre W _ _ h _
    exact h.elim
end Go.Proofs.Ytjcoenideicmbaa

namespace Go.Proofs.Ytjcoenideicmbaa
open Go PG Go.Proofs Go.RowKit
set_option linter.unusedSimpArgs false
set_option linter.unusedVariables false
set_option maxRecDepth 100000
theorem e21 : Ent Try.prog 21 := ⟨Try.f21, Try.func21, by kernel_rfl, by kernel_rfl⟩
theorem e30 : Ent Try.prog 30 := ⟨Try.f30, Try.func30, by kernel_rfl, by kernel_rfl⟩
/-- A row of one's own, as a closed list. -/
theorem list_of_row {W : World} {ex : Nat → Prop} {base : Nat} {E : TypeId} {sz : Nat} {v : Value} {n : Nat} {xs : List Value} (h : W.ownsRow base E sz v n xs) (hex : ∀ b, ex b → b < base) {sh : Sh} {ps : List PV} (hn : n = ps.length)
    (hfit : ∀ p ∈ ps, fits sh p) (hl : (flat ps).length = xs.length) (hr : ∀ (j : Nat) (p : PV) (u : Value), (flat ps)[j]? = some p → xs[j]? = some u → RepC W ex u p) : RepC W ex v (.list sh ps) := by
  subst hn
  rcases h.2 with ⟨rfl, hz⟩ | ⟨g, cap, cur, rfl, hbg, hg, hnc, hcm, hcs, htake⟩
  · have hps : ps = [] := List.eq_nil_of_length_eq_zero hz
    subst hps
    exact .list none 0 0 sh [] 0 0 (fun _ => undef) rfl (Nat.le_refl _) (by unfold maxLen; omega) (by simp) (fun h => absurd rfl h) (fun j hj => by simp [flat] at hj) (fun j p hp => by simp [flat] at hp)
  · refine .list _ _ _ sh ps g 0 (fun j => (xs[j]?).getD undef) rfl hnc hcm hfit (fun _ => rfl) (fun j hj => ⟨fun he => ?_, ?_⟩) (fun j p hp => ?_)
    · have := hex g he; omega
    · have hjx : j < xs.length := by omega
      have := h.cells (g := g) rfl j xs[j] (List.getElem?_eq_getElem hjx)
      rw [Addr.add_lit] at this
      rw [List.getElem?_eq_getElem hjx]; exact this
    · have hj : j < (flat ps).length := (List.getElem?_eq_some_iff.1 hp).1
      have hjx : j < xs.length := by omega
      rw [List.getElem?_eq_getElem hjx]
      exact hr j p _ hp (List.getElem?_eq_getElem hjx)
theorem rel_flatMap {α : Type} {R : Value → PV → Prop} {f : α → List PV} {g : α → List Value} (h : ∀ x, (f x).length = (g x).length ∧ ∀ (j : Nat) (p : PV) (u : Value), (f x)[j]? = some p → (g x)[j]? = some u → R u p) :
    ∀ l : List α, (l.flatMap f).length = (l.flatMap g).length ∧ ∀ (j : Nat) (p : PV) (u : Value), (l.flatMap f)[j]? = some p → (l.flatMap g)[j]? = some u → R u p
  | [] => by simp
  | x :: l => by
    obtain ⟨h1, h2⟩ := h x
    obtain ⟨i1, i2⟩ := rel_flatMap h l
    simp only [List.flatMap_cons, List.length_append]
    refine ⟨by omega, fun j p u hp hu => ?_⟩
    rcases Nat.lt_or_ge j (f x).length with hj | hj
    · rw [List.getElem?_append_left hj] at hp
      rw [List.getElem?_append_left (by omega)] at hu
      exact h2 j p u hp hu
    · rw [List.getElem?_append_right hj] at hp
      rw [List.getElem?_append_right (by omega)] at hu
      rw [h1] at hp
      exact i2 _ p u hp hu
def pieP (l : List Kn) (x : St3) : PV := .agg [.int .i64 x.1, .int .i64 x.2.1, .int .i64 (valM l x.2.2).n, .int .i64 (valM l x.2.2).num, .str (valM l x.2.2).text]
def ovP (l : List Kn) (a b : Int) : PV := .list (some 5) ((pcs (fullM l a b)).map (pieP l))
theorem line_args {w : World} {ex : Nat → Prop} {vs : Array Value} {l : List Kn} {a b : Int} (h : RepCs w ex vs [linP l, .agg [.int .i64 a, .int .i64 b]]) : ∃ fv, vs = #[.agg #[fv], .agg #[.int .i64 a, .int .i64 b]] ∧ RepC w ex fv (knL l) := by
  obtain ⟨hs, hr⟩ := h
  obtain ⟨L⟩ := vs
  match L, hs with
  | [x, y], _ =>
    have h0 := hr 0 x _ rfl rfl
    have h1 := hr 1 y _ rfl rfl
    cases h0 with
    | agg us _ hs0 hr0 =>
      obtain ⟨U⟩ := us
      match U, hs0 with
      | [fv], _ =>
        have h2 := hr0 0 fv _ rfl rfl
        cases h1 with
        | agg zs _ hs1 hr1 =>
          obtain ⟨Z⟩ := zs
          match Z, hs1 with
          | [p, q], _ =>
            have h3 := hr1 0 p _ rfl rfl
            have h4 := hr1 1 q _ rfl rfl
            cases h3; cases h4
            exact ⟨fv, rfl, h2⟩
theorem v21 (l : List Kn) (hl : l.length ≤ 1000000000) (a b : Int) : VCalls Try.prog G0 21 [linP l, .agg [.int .i64 a, .int .i64 b]] (ovP l a b) := by
  intro w ex vs hex hG hr
  obtain ⟨fv, rfl, hF⟩ := line_args hr
  have hfl := full_len l a b
  refine (w21 fv l hl a b w ex hex hF (by omega)).mono ?_
  rintro e W' ⟨v, rfl, hrow, hB⟩
  refine ⟨v, rfl, hB, ?_⟩
  have hrel := rel_flatMap (R := RepC W' ex) (f := fun x => (pieP l x).cells) (g := pcV l) (fun x => ⟨rfl, fun j p u hp hu => ?_⟩) (pcs (fullM l a b))
  · have hflat : flat ((pcs (fullM l a b)).map (pieP l)) = (pcs (fullM l a b)).flatMap fun x => (pieP l x).cells := by simp [flat, List.flatMap_map]
    refine list_of_row hrow (fun b hb => hex b hb) (by simp) (fun p hp => ?_) (by rw [hflat]; exact hrel.1) (fun j p u hp hu => ?_)
    · obtain ⟨x, -, rfl⟩ := List.mem_map.1 hp
      exact ⟨_, rfl, rfl, fun c hc => by simp at hc; rcases hc with rfl | rfl | rfl | rfl | rfl <;> rfl⟩
    · rw [hflat] at hp
      exact hrel.2 j p u hp hu
  · simp only [pieP, PV.cells, pcV] at hp hu
    match j, hp, hu with
    | 0, hp, hu => simp at hp hu; subst hp; subst hu; exact .int _ _
    | 1, hp, hu => simp at hp hu; subst hp; subst hu; exact .int _ _
    | 2, hp, hu => simp at hp hu; subst hp; subst hu; exact .int _ _
    | 3, hp, hu => simp at hp hu; subst hp; subst hu; exact .int _ _
    | 4, hp, hu =>
      simp at hp hu; subst hp; subst hu
      have := RepC.str (w := W') (ex := ex) ⟨(valM l x.2.2).text.toArray⟩
      simpa using this
    | j + 5, hp, hu => simp at hp
theorem v30 (l : List Kn) (hl : l.length ≤ 1000000000) (a b : Int) : VCalls Try.prog G0 30 [linP l, .agg [.int .i64 a, .int .i64 b]] (.list none ((chS a (fullM l a b)).map (PV.int .i64))) := by
  intro w ex vs hex hG hr
  obtain ⟨fv, rfl, hF⟩ := line_args hr
  have hfl := full_len l a b
  refine (w30 fv l hl a b w ex hex hF (by omega)).mono ?_
  rintro e W' ⟨v, rfl, hrow, hB⟩
  refine ⟨v, rfl, hB, ?_⟩
  have hflat : flat ((chS a (fullM l a b)).map (PV.int .i64)) = (chS a (fullM l a b)).map (PV.int .i64) := flat_scal fun x hx => by obtain ⟨y, -, rfl⟩ := List.mem_map.1 hx; rfl
  refine list_of_row hrow (fun b hb => hex b hb) (by simp) (fun p hp => ?_) (by rw [hflat]; simp) (fun j p u hp hu => ?_)
  · obtain ⟨x, -, rfl⟩ := List.mem_map.1 hp; rfl
  · rw [hflat, List.getElem?_map] at hp
    rw [List.getElem?_map] at hu
    cases hq : (chS a (fullM l a b))[j]? with
    | none => rw [hq] at hp; cases hp
    | some d =>
      rw [hq] at hp hu
      simp at hp hu
      subst hp; subst hu
      exact .int _ _
end Go.Proofs.Ytjcoenideicmbaa

namespace Go.Proofs.Ytjcoenideicmbaa
open Go PG Go.Proofs
set_option linter.unusedSimpArgs false
set_option linter.unusedVariables false
set_option maxHeartbeats 4000000
set_option maxRecDepth 100000
theorem e17 : Ent Try.prog 17 := ⟨Try.f17, Try.func17, by kernel_rfl, by kernel_rfl⟩
def aw1 : En := ⟨1, 0, 0, 100, []⟩
def aw2 : En := ⟨2, 10, 20, 200, []⟩
abbrev awL : List Kn := [knOf aw1, knOf aw2]
theorem aw_place (d : Int) (h : 0 ≤ d) : placeM awL d = if 10 ≤ d ∧ d < 20 then 1 else 0 := by
  have h1 : covB (knOf aw1) d = true := by simp [covB, knOf, aw1, h]
  have h2 : covB (knOf aw2) d = decide (10 ≤ d ∧ d < 20) := by
    simp only [covB, knOf, aw2]
    rw [Bool.eq_iff_iff]; simp only [Bool.and_eq_true, Bool.or_eq_true, decide_eq_true_eq]
    constructor
    · rintro ⟨q1, q2⟩
      rcases q2 with q2 | q2
      · exact absurd q2 (by decide)
      · exact ⟨of_decide_eq_true q1, of_decide_eq_true q2⟩
    · rintro ⟨q1, q2⟩
      exact ⟨decide_eq_true q1, .inr (decide_eq_true q2)⟩
  unfold placeM
  simp only [awL, List.length_cons, List.length_nil, Nat.zero_add, Nat.reduceAdd, placeN, List.getD_cons_zero, List.getD_cons_succ, h1, h2]
  by_cases hc : 10 ≤ d ∧ d < 20
  · simp [hc, knOf, aw1, aw2]
  · simp [hc]
theorem aw_full : fullM awL 5 25 = [(5, 10, 0), (10, 20, 1), (20, 25, 0)] := by
  refine (full_runs awL (a := 5) (b := 25) (by decide)).uniq ?_
  have p5 : placeM awL 5 = 0 := by rw [aw_place _ (by omega)]; rfl
  have p10 : placeM awL 10 = 1 := by rw [aw_place _ (by omega)]; rfl
  have p20 : placeM awL 20 = 0 := by rw [aw_place _ (by omega)]; rfl
  have h3 : IsRuns (placeM awL) 25 20 [(20, 25, 0)] := by
    rw [← p20]
    exact .one 20 (by omega) fun d h1 h2 => by rw [aw_place d (by omega), p20, if_neg (by omega)]
  have h2 : IsRuns (placeM awL) 25 10 [(10, 20, 1), (20, 25, 0)] := by
    have := IsRuns.cons (f := placeM awL) (b := 25) 10 20 _ (by omega) (fun d h1 h2 => by rw [aw_place d (by omega), p10, if_pos (by omega)]) (by rw [p10, p20]; decide) h3
    rw [p10] at this; exact this
  have := IsRuns.cons (f := placeM awL) (b := 25) 5 10 _ (by omega) (fun d h1 h2 => by rw [aw_place d (by omega), p5, if_neg (by omega)]) (by rw [p10, p5]; decide) h2
  rw [p5] at this; exact this
theorem v17 : VCalls Try.prog G0 17 [] (.bool true) := by
  refine VCalls.of_PW Try.func17 k17 mix (by simp [c17]) ?_
  simp only [c17, L17, argE]
  have h20 := v20 [aw1, aw2] (by decide)
  have h19 := v19 awL (by decide)
  have h21 := v21 awL (by decide) 5 25
  have h30 := v30 awL (by decide) 5 25
  rw [show knV ([aw1, aw2].map knOf) = knV awL from rfl] at h20
  obtain ⟨CC, hCC, hCl⟩ : ∃ CC, (chS 5 (fullM awL 5 25)).map (PV.int .i64) = CC ∧ CC.length = 2 := ⟨_, rfl, by rw [aw_full]; rfl⟩
  obtain ⟨PP, hPP, hPl, hP1⟩ : ∃ PP, ovP awL 5 25 = .list (some 5) PP ∧ PP.length = 3 ∧ PP.getD 1 .junk = .agg [.int .i64 10, .int .i64 20, .int .i64 2, .int .i64 200, .str []] := ⟨_, rfl, by rw [aw_full]; rfl, by rw [aw_full]; rfl⟩
  rw [hCC] at h30
  rw [hPP] at h21
  have y1 : decide (((3 : Nat) : Int) = 3) = true := rfl
  have y2 : decide (((2 : Nat) : Int) = 2) = true := rfl
  have hE : enL [aw1, aw2] = .list (some 5) [.agg [.int .i64 1, .int .i64 0, .int .i64 0, .int .i64 100, .str []], .agg [.int .i64 2, .int .i64 10, .int .i64 20, .int .i64 200, .str []]] := rfl
  rw [hE] at h20
  obtain ⟨XX, hXX⟩ : ∃ XX, awL.map knP = XX := ⟨_, rfl⟩
  rw [show knV awL = .list (some 9) XX by rw [← hXX]; rfl] at h20 h19
  rw [show linP awL = .agg [.list (some 9) XX] by rw [← hXX]] at h19 h21 h30
  repeat' (first | exact True.intro | (refine PW.seqK ?_; intro K hK) | refine PW.block ?_ | refine PW.exit ?_ | refine PW.ret ?_ | refine PW.skip ?_ | refine seqK_n (by assumption) ?_ | refine seqK_r (by assumption) ?_ | refine seqK_e (by assumption) ?_ | refine PW.regionA ?_ | exact schedW_stop_i | refine schK_n (by assumption) ?_ | (refine schedW_alt_k ?_ ?_; focus (intro K hK; simp only [part_agg2, part_agg3, setAll_02, setAll_23, hPl, hP1, hCl, y1, y2, Int.reduceToNat, SS, SS2, SS3, SS4, Option.map_some, Bool.not_false, Bool.not_true, gArgs, gOk, Nat.reduceAdd, PV.shift, MObj.shift, rdV, rdD, reduceIte, Nat.reduceEqDiff, Nat.reduceBEq, PV.bin, PV.binOk, binI, binS, PV.withInt, PV.withIntP, okAll, PV.under, PV.okUnder, eq_self, implies_true, deadOk, ne_eq, allOk, RVar.val, RVar.ok, retV, PV.seen, PV.view, beq_self_eq_true, PV.flat, PV.noOwn, id_eq, behind, PV.kill, MObj.kill, killTag, reduceCtorEq, nilB]; (try go_unwrap; try simp only [part_agg2, part_agg3, setAll_02, setAll_23, hPl, hP1, hCl, y1, y2, Int.reduceToNat, toNat_add2, toNat_add1, Int.toNat_natCast, Bool.false_and, Bool.true_and, true_implies, true_and, Bool.false_eq_true, reduceCtorEq, false_implies, Bool.not_false, Bool.not_true, Bool.true_or, Bool.false_or]))) | (refine PW.cond rfl ?_ ?_ <;> intro hcond <;> (try contradiction) <;> try simp only [decide_eq_true_eq, decide_eq_false_iff_not] at hcond) | (apply goCallG_N e30; (case hV => (intro hg; simp only [hg, part_agg2, part_agg3, setAll_02, setAll_23, hPl, hP1, hCl, y1, y2, Int.reduceToNat, SS, SS2, SS3, SS4, Option.map_some, Bool.not_false, Bool.not_true, gArgs, gOk, Nat.reduceAdd, PV.shift, MObj.shift, rdV, rdD, reduceIte, Nat.reduceEqDiff, Nat.reduceBEq, PV.bin, PV.binOk, binI, binS, PV.withInt, PV.withIntP, okAll, PV.under, PV.okUnder, eq_self, implies_true, deadOk, ne_eq, allOk, RVar.val, RVar.ok, retV, PV.seen, PV.view, beq_self_eq_true, PV.flat, PV.noOwn, id_eq, behind, PV.kill, MObj.kill, killTag, reduceCtorEq, nilB]; (try go_unwrap; try simp only [part_agg2, part_agg3, setAll_02, setAll_23, hPl, hP1, hCl, y1, y2, Int.reduceToNat, toNat_add2, toNat_add1, Int.toNat_natCast, Bool.false_and, Bool.true_and, true_implies, true_and, Bool.false_eq_true, reduceCtorEq, false_implies, Bool.not_false, Bool.not_true, Bool.true_or, Bool.false_or]); exact h30)); (case hok => (intro hg; first | (simp only [hg, part_agg2, part_agg3, setAll_02, setAll_23, hPl, hP1, hCl, y1, y2, Int.reduceToNat, SS, SS2, SS3, SS4, Option.map_some, Bool.not_false, Bool.not_true, gArgs, gOk, Nat.reduceAdd, PV.shift, MObj.shift, rdV, rdD, reduceIte, Nat.reduceEqDiff, Nat.reduceBEq, PV.bin, PV.binOk, binI, binS, PV.withInt, PV.withIntP, okAll, PV.under, PV.okUnder, eq_self, implies_true, deadOk, ne_eq, allOk, RVar.val, RVar.ok, retV, PV.seen, PV.view, beq_self_eq_true, PV.flat, PV.noOwn, id_eq, behind, PV.kill, MObj.kill, killTag, reduceCtorEq, nilB]; done) | (simp_all [okAll, PV.okUnder]; done))); (case hs => (intro hg; simp only [hg, part_agg2, part_agg3, setAll_02, setAll_23, hPl, hP1, hCl, y1, y2, Int.reduceToNat, SS, SS2, SS3, SS4, Option.map_some, Bool.not_false, Bool.not_true, gArgs, gOk, Nat.reduceAdd, PV.shift, MObj.shift, rdV, rdD, reduceIte, Nat.reduceEqDiff, Nat.reduceBEq, PV.bin, PV.binOk, binI, binS, PV.withInt, PV.withIntP, okAll, PV.under, PV.okUnder, eq_self, implies_true, deadOk, ne_eq, allOk, RVar.val, RVar.ok, retV, PV.seen, PV.view, beq_self_eq_true, PV.flat, PV.noOwn, id_eq, behind, PV.kill, MObj.kill, killTag, reduceCtorEq, nilB])); (case hn => (intro hg; simp only [hg, part_agg2, part_agg3, setAll_02, setAll_23, hPl, hP1, hCl, y1, y2, Int.reduceToNat, SS, SS2, SS3, SS4, Option.map_some, Bool.not_false, Bool.not_true, gArgs, gOk, Nat.reduceAdd, PV.shift, MObj.shift, rdV, rdD, reduceIte, Nat.reduceEqDiff, Nat.reduceBEq, PV.bin, PV.binOk, binI, binS, PV.withInt, PV.withIntP, okAll, PV.under, PV.okUnder, eq_self, implies_true, deadOk, ne_eq, allOk, RVar.val, RVar.ok, retV, PV.seen, PV.view, beq_self_eq_true, PV.flat, PV.noOwn, id_eq, behind, PV.kill, MObj.kill, killTag, reduceCtorEq, nilB])); (case hq => rfl); (simp only [part_agg2, part_agg3, setAll_02, setAll_23, hPl, hP1, hCl, y1, y2, Int.reduceToNat, SS, SS2, SS3, SS4, Option.map_some, Bool.not_false, Bool.not_true, gArgs, gOk, Nat.reduceAdd, PV.shift, MObj.shift, rdV, rdD, reduceIte, Nat.reduceEqDiff, Nat.reduceBEq, PV.bin, PV.binOk, binI, binS, PV.withInt, PV.withIntP, okAll, PV.under, PV.okUnder, eq_self, implies_true, deadOk, ne_eq, allOk, RVar.val, RVar.ok, retV, PV.seen, PV.view, beq_self_eq_true, PV.flat, PV.noOwn, id_eq, behind, PV.kill, MObj.kill, killTag, reduceCtorEq, nilB]; (try go_unwrap; try simp only [part_agg2, part_agg3, setAll_02, setAll_23, hPl, hP1, hCl, y1, y2, Int.reduceToNat, toNat_add2, toNat_add1, Int.toNat_natCast, Bool.false_and, Bool.true_and, true_implies, true_and, Bool.false_eq_true, reduceCtorEq, false_implies, Bool.not_false, Bool.not_true, Bool.true_or, Bool.false_or]))) | (refine gd_i ?_; intro hg; try simp only [hg]) | refine goCall_W e20 (h20) ?_ ?_ ?_ ?_ | refine goCall_W e19 (h19) ?_ ?_ ?_ ?_ | refine goCall_W e21 (h21) ?_ ?_ ?_ ?_ | ((first | show @LE.le Nat _ _ _ | show @LT.lt Nat _ _ _ | show @LE.le Int _ _ _ | show @LT.lt Int _ _ _ | show @Eq Nat _ _ | show @Eq Int _ _ | show @Eq Bool _ _ | show _ ∨ _ | show ¬ _); first | omega | (simp only [decide_eq_true_eq, decide_eq_false_iff_not, List.length_cons, List.length_nil, List.length_append, List.length_map, Sh.size] <;> omega) | (go_unwrap; omega)) | ((first | refine PW.region ?_ | refine PW.regionQ ?_ | refine schedW_done_i ?_ | show (_ : Post) _ _ _ | show @Eq (List PV) _ _ | show @Eq Bool _ _ | show opsW _ _ _ _ _ _ _ _ | show okAll _ | show @Eq Bool _ _ ∨ _); focus (simp only [part_agg2, part_agg3, setAll_02, setAll_23, hPl, hP1, hCl, y1, y2, Int.reduceToNat, SS, SS2, SS3, SS4, Option.map_some, Bool.not_false, Bool.not_true, gArgs, gOk, Nat.reduceAdd, PV.shift, MObj.shift, rdV, rdD, reduceIte, Nat.reduceEqDiff, Nat.reduceBEq, PV.bin, PV.binOk, binI, binS, PV.withInt, PV.withIntP, okAll, PV.under, PV.okUnder, eq_self, implies_true, deadOk, ne_eq, allOk, RVar.val, RVar.ok, retV, PV.seen, PV.view, beq_self_eq_true, PV.flat, PV.noOwn, id_eq, behind, PV.kill, MObj.kill, killTag, reduceCtorEq, nilB]; (try go_unwrap; try simp only [part_agg2, part_agg3, setAll_02, setAll_23, hPl, hP1, hCl, y1, y2, Int.reduceToNat, toNat_add2, toNat_add1, Int.toNat_natCast, Bool.false_and, Bool.true_and, true_implies, true_and, Bool.false_eq_true, reduceCtorEq, false_implies, Bool.not_false, Bool.not_true, Bool.true_or, Bool.false_or]))) | refine And.intro ?_ ?_ | exact Or.inr ⟨rfl, Nat.le_refl _⟩ | exact (fun h => Bool.noConfusion h))
end Go.Proofs.Ytjcoenideicmbaa

namespace Go.Proofs.Ytjcoenideicmbaa
open PG Go.Proofs
-- wagebook/wagebooklaw10.LineOver
def L3 : List Nat := [0, 1, 2, 6, 7, 8, 9, 10, 13, 31, 35, 66]
def c3 : CF := ⟨68,
  .seq (.region false [⟨some 6, none, .rd .mov [.pv (.bool false)]⟩] L3)
  (.seq (.seq (.region false [⟨some 11, none, .rd .mov [.tmp 0]⟩,
      ⟨some 12, none, .rd .lenL [.tmp 11]⟩,
      ⟨some 13, none, .rd (.bin .gtr) [.tmp 12, .pv (.int .i64 30)]⟩] L3)
   (.cond (.tmp 13)
    (.seq (.region false [⟨some 14, none, .call (.pv (.fn 17 [] [])) []⟩,
        ⟨some 6, none, .rd .mov [.tmp 14]⟩] L3)
     (.ret))
    (.skip)))
  (.seq (.region false [⟨some 15, none, .rd .mov [.tmp 1]⟩,
     ⟨some 16, none, .rd .mov [.tmp 2]⟩,
     ⟨some 17, none, .call (.pv (.fn 18 [] [])) [.tmp 15, .tmp 16]⟩,
     ⟨some 7, none, .eff (.alloc (some 2) (.agg [(.int .i64 0), (.int .i64 0)])) []⟩,
     ⟨none, none, .eff (.store (some 2)) [.tmp 7, .tmp 17]⟩] L3)
  (.seq (.regionA (.alt [⟨some 18, none, .rd .mov [.tmp 0]⟩]
     (.alt [⟨some 19, none, .call (.pv (.fn 20 [] [])) [.tmp 18]⟩]
      (.alt [⟨some 20, none, .call (.pv (.fn 19 [] [])) [.tmp 19]⟩,
        ⟨some 21, none, .rd (.load (some 2)) [.tmp 7]⟩,
        ⟨some 22, none, .call (.pv (.fn 21 [] [])) [.tmp 20, .tmp 21]⟩,
        ⟨some 8, none, .rd .mov [.tmp 22]⟩]
       .done
       (.alt [⟨some 21, none, .rd (.load (some 2)) [.tmp 7]⟩,
         ⟨some 20, none, .call (.pv (.fn 19 [] [])) [.tmp 19]⟩,
         ⟨some 22, none, .call (.pv (.fn 21 [] [])) [.tmp 20, .tmp 21]⟩,
         ⟨some 8, none, .rd .mov [.tmp 22]⟩]
        .done
        .stop))
      (.alt [⟨some 21, none, .rd (.load (some 2)) [.tmp 7]⟩,
        ⟨some 19, none, .call (.pv (.fn 20 [] [])) [.tmp 18]⟩,
        ⟨some 20, none, .call (.pv (.fn 19 [] [])) [.tmp 19]⟩,
        ⟨some 22, none, .call (.pv (.fn 21 [] [])) [.tmp 20, .tmp 21]⟩,
        ⟨some 8, none, .rd .mov [.tmp 22]⟩]
       .done
       .stop))
     .stop) L3)
  (.seq (.regionA (.alt [⟨some 23, none, .rd .mov [.tmp 0]⟩]
     (.alt [⟨some 24, none, .call (.pv (.fn 23 [] [])) [.tmp 23]⟩,
       ⟨some 25, none, .rd (.load (some 2)) [.tmp 7]⟩,
       ⟨some 26, none, .call (.pv (.fn 22 [] [])) [.tmp 24, .tmp 25]⟩,
       ⟨some 9, none, .rd .mov [.tmp 26]⟩]
      .done
      (.alt [⟨some 25, none, .rd (.load (some 2)) [.tmp 7]⟩,
        ⟨some 24, none, .call (.pv (.fn 23 [] [])) [.tmp 23]⟩,
        ⟨some 26, none, .call (.pv (.fn 22 [] [])) [.tmp 24, .tmp 25]⟩,
        ⟨some 9, none, .rd .mov [.tmp 26]⟩]
       .done
       .stop))
     .stop) L3)
  (.seq (.seq (.region false [⟨some 27, none, .rd .mov [.tmp 8]⟩,
      ⟨some 28, none, .rd .lenL [.tmp 27]⟩,
      ⟨some 29, none, .rd .mov [.tmp 9]⟩,
      ⟨some 30, none, .rd .lenL [.tmp 29]⟩,
      ⟨some 31, none, .rd (.bin .neq) [.tmp 28, .tmp 30]⟩] L3)
   (.cond (.tmp 31)
    (.seq (.region false [⟨some 6, none, .rd .mov [.pv (.bool false)]⟩] L3)
     (.ret))
    (.skip)))
  (.seq (.seq (.region false [⟨some 10, none, .rd .mov [.pv (.int .i64 0)]⟩] L3)
   (.block 0
    (.loop
      (.seq (.seq (.region false [⟨some 32, none, .rd .mov [.tmp 10]⟩,
           ⟨some 33, none, .rd .mov [.tmp 8]⟩,
           ⟨some 34, none, .rd .lenL [.tmp 33]⟩,
           ⟨some 35, none, .rd (.bin .lss) [.tmp 32, .tmp 34]⟩] L3)
        (.cond (.tmp 35)
         (.skip)
         (.exit 0)))
       (.seq (.block 1
         (.seq (.regionA (.alt [⟨some 38, none, .rd .mov [.tmp 8]⟩,
              ⟨some 39, none, .rd .mov [.tmp 10]⟩,
              ⟨some 40, none, .rd (.idxAddr (some 5)) [.tmp 38, .tmp 39]⟩,
              ⟨some 41, none, .rd (.fldAddr 0) [.tmp 40]⟩,
              ⟨some 43, none, .rd .mov [.tmp 9]⟩,
              ⟨some 44, none, .rd .mov [.tmp 10]⟩,
              ⟨some 45, none, .rd (.idxAddr (some 3)) [.tmp 43, .tmp 44]⟩,
              ⟨some 46, none, .rd (.fldAddr 0) [.tmp 45]⟩]
             (.alt [⟨some 42, none, .rd (.load (some 2)) [.tmp 41]⟩,
               ⟨some 47, none, .rd (.load (some 2)) [.tmp 46]⟩,
               ⟨some 48, none, .rd (.eqA true [0, 0]) [.tmp 42, .tmp 47]⟩,
               ⟨some 49, none, .rd .mov [.tmp 48]⟩,
               ⟨some 50, some (49, false), .rd .mov [.tmp 8]⟩,
               ⟨some 51, some (49, false), .rd .mov [.tmp 10]⟩,
               ⟨some 52, some (49, false), .rd (.idxAddr (some 5)) [.tmp 50, .tmp 51]⟩,
               ⟨some 53, some (49, false), .rd (.fldAddr 2) [.tmp 52]⟩,
               ⟨some 55, some (49, false), .rd .mov [.tmp 0]⟩,
               ⟨some 57, some (49, false), .rd .mov [.tmp 9]⟩,
               ⟨some 58, some (49, false), .rd .mov [.tmp 10]⟩,
               ⟨some 59, some (49, false), .rd (.idxAddr (some 3)) [.tmp 57, .tmp 58]⟩,
               ⟨some 60, some (49, false), .rd (.fldAddr 2) [.tmp 59]⟩]
              (.alt [⟨some 54, some (49, false), .rd (.load (some 3)) [.tmp 53]⟩]
               (.alt [⟨some 56, some (49, false), .call (.pv (.fn 23 [] [])) [.tmp 55]⟩,
                 ⟨some 61, some (49, false), .rd (.load none) [.tmp 60]⟩,
                 ⟨some 62, some (49, false), .rd (.idxAddr (some 5)) [.tmp 56, .tmp 61]⟩,
                 ⟨some 63, some (49, false), .rd (.load (some 5)) [.tmp 62]⟩,
                 ⟨some 64, some (49, false), .call (.pv (.fn 24 [] [])) [.tmp 63]⟩,
                 ⟨some 65, some (49, false), .rd (.eqA true [0, 0, 2]) [.tmp 54, .tmp 64]⟩,
                 ⟨some 66, none, .rd .pick [.tmp 49, .pv (.bool true), .tmp 65]⟩]
                .done
                (.alt [⟨some 61, some (49, false), .rd (.load none) [.tmp 60]⟩,
                  ⟨some 56, some (49, false), .call (.pv (.fn 23 [] [])) [.tmp 55]⟩,
                  ⟨some 62, some (49, false), .rd (.idxAddr (some 5)) [.tmp 56, .tmp 61]⟩,
                  ⟨some 63, some (49, false), .rd (.load (some 5)) [.tmp 62]⟩,
                  ⟨some 64, some (49, false), .call (.pv (.fn 24 [] [])) [.tmp 63]⟩,
                  ⟨some 65, some (49, false), .rd (.eqA true [0, 0, 2]) [.tmp 54, .tmp 64]⟩,
                  ⟨some 66, none, .rd .pick [.tmp 49, .pv (.bool true), .tmp 65]⟩]
                 .done
                 .stop))
               (.alt [⟨some 56, some (49, false), .call (.pv (.fn 23 [] [])) [.tmp 55]⟩]
                (.alt [⟨some 54, some (49, false), .rd (.load (some 3)) [.tmp 53]⟩,
                  ⟨some 61, some (49, false), .rd (.load none) [.tmp 60]⟩,
                  ⟨some 62, some (49, false), .rd (.idxAddr (some 5)) [.tmp 56, .tmp 61]⟩,
                  ⟨some 63, some (49, false), .rd (.load (some 5)) [.tmp 62]⟩,
                  ⟨some 64, some (49, false), .call (.pv (.fn 24 [] [])) [.tmp 63]⟩,
                  ⟨some 65, some (49, false), .rd (.eqA true [0, 0, 2]) [.tmp 54, .tmp 64]⟩,
                  ⟨some 66, none, .rd .pick [.tmp 49, .pv (.bool true), .tmp 65]⟩]
                 .done
                 (.alt [⟨some 61, some (49, false), .rd (.load none) [.tmp 60]⟩,
                   ⟨some 62, some (49, false), .rd (.idxAddr (some 5)) [.tmp 56, .tmp 61]⟩]
                  (.alt [⟨some 54, some (49, false), .rd (.load (some 3)) [.tmp 53]⟩,
                    ⟨some 63, some (49, false), .rd (.load (some 5)) [.tmp 62]⟩,
                    ⟨some 64, some (49, false), .call (.pv (.fn 24 [] [])) [.tmp 63]⟩,
                    ⟨some 65, some (49, false), .rd (.eqA true [0, 0, 2]) [.tmp 54, .tmp 64]⟩,
                    ⟨some 66, none, .rd .pick [.tmp 49, .pv (.bool true), .tmp 65]⟩]
                   .done
                   (.alt [⟨some 63, some (49, false), .rd (.load (some 5)) [.tmp 62]⟩]
                    (.alt [⟨some 54, some (49, false), .rd (.load (some 3)) [.tmp 53]⟩,
                      ⟨some 64, some (49, false), .call (.pv (.fn 24 [] [])) [.tmp 63]⟩,
                      ⟨some 65, some (49, false), .rd (.eqA true [0, 0, 2]) [.tmp 54, .tmp 64]⟩,
                      ⟨some 66, none, .rd .pick [.tmp 49, .pv (.bool true), .tmp 65]⟩]
                     .done
                     (.alt [⟨some 64, some (49, false), .call (.pv (.fn 24 [] [])) [.tmp 63]⟩,
                       ⟨some 54, some (49, false), .rd (.load (some 3)) [.tmp 53]⟩,
                       ⟨some 65, some (49, false), .rd (.eqA true [0, 0, 2]) [.tmp 54, .tmp 64]⟩,
                       ⟨some 66, none, .rd .pick [.tmp 49, .pv (.bool true), .tmp 65]⟩]
                      .done
                      .stop))
                    .stop))
                  .stop))
                (.alt [⟨some 61, some (49, false), .rd (.load none) [.tmp 60]⟩]
                 (.alt [⟨some 54, some (49, false), .rd (.load (some 3)) [.tmp 53]⟩,
                   ⟨some 56, some (49, false), .call (.pv (.fn 23 [] [])) [.tmp 55]⟩,
                   ⟨some 62, some (49, false), .rd (.idxAddr (some 5)) [.tmp 56, .tmp 61]⟩,
                   ⟨some 63, some (49, false), .rd (.load (some 5)) [.tmp 62]⟩,
                   ⟨some 64, some (49, false), .call (.pv (.fn 24 [] [])) [.tmp 63]⟩,
                   ⟨some 65, some (49, false), .rd (.eqA true [0, 0, 2]) [.tmp 54, .tmp 64]⟩,
                   ⟨some 66, none, .rd .pick [.tmp 49, .pv (.bool true), .tmp 65]⟩]
                  .done
                  (.alt [⟨some 56, some (49, false), .call (.pv (.fn 23 [] [])) [.tmp 55]⟩,
                    ⟨some 62, some (49, false), .rd (.idxAddr (some 5)) [.tmp 56, .tmp 61]⟩]
                   (.alt [⟨some 54, some (49, false), .rd (.load (some 3)) [.tmp 53]⟩,
                     ⟨some 63, some (49, false), .rd (.load (some 5)) [.tmp 62]⟩,
                     ⟨some 64, some (49, false), .call (.pv (.fn 24 [] [])) [.tmp 63]⟩,
                     ⟨some 65, some (49, false), .rd (.eqA true [0, 0, 2]) [.tmp 54, .tmp 64]⟩,
                     ⟨some 66, none, .rd .pick [.tmp 49, .pv (.bool true), .tmp 65]⟩]
                    .done
                    (.alt [⟨some 63, some (49, false), .rd (.load (some 5)) [.tmp 62]⟩]
                     (.alt [⟨some 54, some (49, false), .rd (.load (some 3)) [.tmp 53]⟩,
                       ⟨some 64, some (49, false), .call (.pv (.fn 24 [] [])) [.tmp 63]⟩,
                       ⟨some 65, some (49, false), .rd (.eqA true [0, 0, 2]) [.tmp 54, .tmp 64]⟩,
                       ⟨some 66, none, .rd .pick [.tmp 49, .pv (.bool true), .tmp 65]⟩]
                      .done
                      (.alt [⟨some 64, some (49, false), .call (.pv (.fn 24 [] [])) [.tmp 63]⟩,
                        ⟨some 54, some (49, false), .rd (.load (some 3)) [.tmp 53]⟩,
                        ⟨some 65, some (49, false), .rd (.eqA true [0, 0, 2]) [.tmp 54, .tmp 64]⟩,
                        ⟨some 66, none, .rd .pick [.tmp 49, .pv (.bool true), .tmp 65]⟩]
                       .done
                       .stop))
                     .stop))
                   .stop))
                 .stop)))
              (.alt [⟨some 47, none, .rd (.load (some 2)) [.tmp 46]⟩,
                ⟨some 42, none, .rd (.load (some 2)) [.tmp 41]⟩,
                ⟨some 48, none, .rd (.eqA true [0, 0]) [.tmp 42, .tmp 47]⟩,
                ⟨some 49, none, .rd .mov [.tmp 48]⟩,
                ⟨some 50, some (49, false), .rd .mov [.tmp 8]⟩,
                ⟨some 51, some (49, false), .rd .mov [.tmp 10]⟩,
                ⟨some 52, some (49, false), .rd (.idxAddr (some 5)) [.tmp 50, .tmp 51]⟩,
                ⟨some 53, some (49, false), .rd (.fldAddr 2) [.tmp 52]⟩,
                ⟨some 55, some (49, false), .rd .mov [.tmp 0]⟩,
                ⟨some 57, some (49, false), .rd .mov [.tmp 9]⟩,
                ⟨some 58, some (49, false), .rd .mov [.tmp 10]⟩,
                ⟨some 59, some (49, false), .rd (.idxAddr (some 3)) [.tmp 57, .tmp 58]⟩,
                ⟨some 60, some (49, false), .rd (.fldAddr 2) [.tmp 59]⟩]
               (.alt [⟨some 54, some (49, false), .rd (.load (some 3)) [.tmp 53]⟩]
                (.alt [⟨some 56, some (49, false), .call (.pv (.fn 23 [] [])) [.tmp 55]⟩,
                  ⟨some 61, some (49, false), .rd (.load none) [.tmp 60]⟩,
                  ⟨some 62, some (49, false), .rd (.idxAddr (some 5)) [.tmp 56, .tmp 61]⟩,
                  ⟨some 63, some (49, false), .rd (.load (some 5)) [.tmp 62]⟩,
                  ⟨some 64, some (49, false), .call (.pv (.fn 24 [] [])) [.tmp 63]⟩,
                  ⟨some 65, some (49, false), .rd (.eqA true [0, 0, 2]) [.tmp 54, .tmp 64]⟩,
                  ⟨some 66, none, .rd .pick [.tmp 49, .pv (.bool true), .tmp 65]⟩]
                 .done
                 (.alt [⟨some 61, some (49, false), .rd (.load none) [.tmp 60]⟩,
                   ⟨some 56, some (49, false), .call (.pv (.fn 23 [] [])) [.tmp 55]⟩,
                   ⟨some 62, some (49, false), .rd (.idxAddr (some 5)) [.tmp 56, .tmp 61]⟩,
                   ⟨some 63, some (49, false), .rd (.load (some 5)) [.tmp 62]⟩,
                   ⟨some 64, some (49, false), .call (.pv (.fn 24 [] [])) [.tmp 63]⟩,
                   ⟨some 65, some (49, false), .rd (.eqA true [0, 0, 2]) [.tmp 54, .tmp 64]⟩,
                   ⟨some 66, none, .rd .pick [.tmp 49, .pv (.bool true), .tmp 65]⟩]
                  .done
                  .stop))
                (.alt [⟨some 56, some (49, false), .call (.pv (.fn 23 [] [])) [.tmp 55]⟩]
                 (.alt [⟨some 54, some (49, false), .rd (.load (some 3)) [.tmp 53]⟩,
                   ⟨some 61, some (49, false), .rd (.load none) [.tmp 60]⟩,
                   ⟨some 62, some (49, false), .rd (.idxAddr (some 5)) [.tmp 56, .tmp 61]⟩,
                   ⟨some 63, some (49, false), .rd (.load (some 5)) [.tmp 62]⟩,
                   ⟨some 64, some (49, false), .call (.pv (.fn 24 [] [])) [.tmp 63]⟩,
                   ⟨some 65, some (49, false), .rd (.eqA true [0, 0, 2]) [.tmp 54, .tmp 64]⟩,
                   ⟨some 66, none, .rd .pick [.tmp 49, .pv (.bool true), .tmp 65]⟩]
                  .done
                  (.alt [⟨some 61, some (49, false), .rd (.load none) [.tmp 60]⟩,
                    ⟨some 62, some (49, false), .rd (.idxAddr (some 5)) [.tmp 56, .tmp 61]⟩]
                   (.alt [⟨some 54, some (49, false), .rd (.load (some 3)) [.tmp 53]⟩,
                     ⟨some 63, some (49, false), .rd (.load (some 5)) [.tmp 62]⟩,
                     ⟨some 64, some (49, false), .call (.pv (.fn 24 [] [])) [.tmp 63]⟩,
                     ⟨some 65, some (49, false), .rd (.eqA true [0, 0, 2]) [.tmp 54, .tmp 64]⟩,
                     ⟨some 66, none, .rd .pick [.tmp 49, .pv (.bool true), .tmp 65]⟩]
                    .done
                    (.alt [⟨some 63, some (49, false), .rd (.load (some 5)) [.tmp 62]⟩]
                     (.alt [⟨some 54, some (49, false), .rd (.load (some 3)) [.tmp 53]⟩,
                       ⟨some 64, some (49, false), .call (.pv (.fn 24 [] [])) [.tmp 63]⟩,
                       ⟨some 65, some (49, false), .rd (.eqA true [0, 0, 2]) [.tmp 54, .tmp 64]⟩,
                       ⟨some 66, none, .rd .pick [.tmp 49, .pv (.bool true), .tmp 65]⟩]
                      .done
                      (.alt [⟨some 64, some (49, false), .call (.pv (.fn 24 [] [])) [.tmp 63]⟩,
                        ⟨some 54, some (49, false), .rd (.load (some 3)) [.tmp 53]⟩,
                        ⟨some 65, some (49, false), .rd (.eqA true [0, 0, 2]) [.tmp 54, .tmp 64]⟩,
                        ⟨some 66, none, .rd .pick [.tmp 49, .pv (.bool true), .tmp 65]⟩]
                       .done
                       .stop))
                     .stop))
                   .stop))
                 (.alt [⟨some 61, some (49, false), .rd (.load none) [.tmp 60]⟩]
                  (.alt [⟨some 54, some (49, false), .rd (.load (some 3)) [.tmp 53]⟩,
                    ⟨some 56, some (49, false), .call (.pv (.fn 23 [] [])) [.tmp 55]⟩,
                    ⟨some 62, some (49, false), .rd (.idxAddr (some 5)) [.tmp 56, .tmp 61]⟩,
                    ⟨some 63, some (49, false), .rd (.load (some 5)) [.tmp 62]⟩,
                    ⟨some 64, some (49, false), .call (.pv (.fn 24 [] [])) [.tmp 63]⟩,
                    ⟨some 65, some (49, false), .rd (.eqA true [0, 0, 2]) [.tmp 54, .tmp 64]⟩,
                    ⟨some 66, none, .rd .pick [.tmp 49, .pv (.bool true), .tmp 65]⟩]
                   .done
                   (.alt [⟨some 56, some (49, false), .call (.pv (.fn 23 [] [])) [.tmp 55]⟩,
                     ⟨some 62, some (49, false), .rd (.idxAddr (some 5)) [.tmp 56, .tmp 61]⟩]
                    (.alt [⟨some 54, some (49, false), .rd (.load (some 3)) [.tmp 53]⟩,
                      ⟨some 63, some (49, false), .rd (.load (some 5)) [.tmp 62]⟩,
                      ⟨some 64, some (49, false), .call (.pv (.fn 24 [] [])) [.tmp 63]⟩,
                      ⟨some 65, some (49, false), .rd (.eqA true [0, 0, 2]) [.tmp 54, .tmp 64]⟩,
                      ⟨some 66, none, .rd .pick [.tmp 49, .pv (.bool true), .tmp 65]⟩]
                     .done
                     (.alt [⟨some 63, some (49, false), .rd (.load (some 5)) [.tmp 62]⟩]
                      (.alt [⟨some 54, some (49, false), .rd (.load (some 3)) [.tmp 53]⟩,
                        ⟨some 64, some (49, false), .call (.pv (.fn 24 [] [])) [.tmp 63]⟩,
                        ⟨some 65, some (49, false), .rd (.eqA true [0, 0, 2]) [.tmp 54, .tmp 64]⟩,
                        ⟨some 66, none, .rd .pick [.tmp 49, .pv (.bool true), .tmp 65]⟩]
                       .done
                       (.alt [⟨some 64, some (49, false), .call (.pv (.fn 24 [] [])) [.tmp 63]⟩,
                         ⟨some 54, some (49, false), .rd (.load (some 3)) [.tmp 53]⟩,
                         ⟨some 65, some (49, false), .rd (.eqA true [0, 0, 2]) [.tmp 54, .tmp 64]⟩,
                         ⟨some 66, none, .rd .pick [.tmp 49, .pv (.bool true), .tmp 65]⟩]
                        .done
                        .stop))
                      .stop))
                    .stop))
                  .stop)))
               .stop))
             .stop) L3)
          (.cond (.tmp 66)
           (.seq (.region false [⟨some 6, none, .rd .mov [.pv (.bool false)]⟩] L3)
            (.ret))
           (.skip))))
       (.region false [⟨some 36, none, .rd .mov [.tmp 10]⟩,
         ⟨some 37, none, .rd (.bin .add) [.tmp 36, .pv (.int .i64 1)]⟩,
         ⟨some 10, none, .rd .mov [.tmp 37]⟩] L3))))))
  (.seq (.region false [⟨some 67, none, .call (.pv (.fn 17 [] [])) []⟩,
     ⟨some 6, none, .rd .mov [.tmp 67]⟩] L3)
  (.ret)))))))),
  [.tmp 6]⟩

-- wagebook/wagebooklaw10.LineAt
theorem k3 : compileF Try.prog [999999, 888888] L3 Try.f3 = some c3 := by kernel_rfl
end Go.Proofs.Ytjcoenideicmbaa

