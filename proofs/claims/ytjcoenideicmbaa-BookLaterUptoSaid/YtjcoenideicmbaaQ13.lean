import Derived.Test.YtjcoenideicmbaaQ8
import Derived.Test.YtjcoenideicmbaaQ12
namespace Go.Proofs.Ytjcoenideicmbaa
open Go PG Go.Proofs
/-- The stretches of a span. -/
def fullM (l : List Kn) (a b : Int) : List (Int × Int × Int) := if b ≤ a then [] else cutR (placeM l) b a (placeM l a) (cutsM l a b)
theorem cutR_length (f : Int → Int) (b : Int) : ∀ (ds : List Int) (a v : Int), (cutR f b a v ds).length ≤ ds.length + 1
  | [], a, v => by simp [cutR]
  | d :: ds, a, v => by
    unfold cutR; split
    · have := cutR_length f b ds a v; simp; omega
    · have := cutR_length f b ds d (f d); simp; omega
theorem cuts_len (l : List Kn) (a b : Int) : (cutsM l a b).length ≤ 2 * l.length := by
  unfold cutsM
  have h1 := compact_len (sortL (rawC l a b))
  have h2 : (sortL (rawC l a b)).length = (rawC l a b).length := List.length_mergeSort _
  have h3 := rawC_len l a b
  omega
theorem full_len (l : List Kn) (a b : Int) : (fullM l a b).length ≤ 2 * l.length + 1 := by
  unfold fullM
  split
  · simp
  · have h1 := cutR_length (placeM l) b (cutsM l a b) a (placeM l a)
    have h2 := cuts_len l a b
    omega
end Go.Proofs.Ytjcoenideicmbaa

namespace Go.Proofs.Ytjcoenideicmbaa
open Go PG Go.Proofs Go.RowKit Go.Shelf
attribute [local go_sem] Oper.semAt_some
set_option linter.unusedSimpArgs false
set_option linter.unusedVariables false
set_option maxRecDepth 100000
set_option maxHeartbeats 4000000
theorem cuts_w {W : World} {ex : Nat → Prop} (hex : ∀ b, ex b → b < W.heap.size) {fv : Value} {fs : List Kn} (hl : fs.length ≤ 1000000000) (h : RepC W ex fv (knL fs)) (a b : Int) :
    Calls Try.prog 61 #[.agg #[fv], .agg #[.int .i64 a, .int .i64 b]] W fun e W' => ∃ ad len cap, e = .returned (.slice ad len cap) ∧ Below W.heap.size W W' ∧ RepC W' ex (.slice ad len cap) (.list none ((cutsM fs a b).map (PV.int .i64))) := by
  refine (v61 fs hl a b W ex #[.agg #[fv], .agg #[.int .i64 a, .int .i64 b]] hex (globs0 _ _) (reps2 (repAgg1 h) (repAgg2 (.int _ _) (.int _ _)))).mono ?_
  rintro e W' ⟨v, rfl, hB, hr⟩
  have hr' := hr
  cases hr with
  | list ad len cap sh xs b off val hlen hcap hmax hfit ha hc hr => exact ⟨ad, len, cap, rfl, hB, hr'⟩
/-- What a closed list of numbers says of cells. -/
theorem list_cells {W : World} {ex : Nat → Prop} {ad : Option Addr} {len cap : Nat} {ds : List Int} (h : RepC W ex (.slice ad len cap) (.list none (ds.map (PV.int .i64)))) :
    len = ds.length ∧ len ≤ cap ∧ cap ≤ maxLen ∧ ∀ j (hj : j < ds.length), ∃ b off, ad = some ⟨b, off, none⟩ ∧ W.cell? ⟨b, off + j, none⟩ = some (.int .i64 ds[j]) := by
  cases h with
  | list _ _ _ _ _ b off val hlen hcap hmax hfit ha hc hr =>
    have hfl : flat (ds.map (PV.int .i64)) = ds.map (PV.int .i64) := flat_scal fun x hx => by obtain ⟨y, -, rfl⟩ := List.mem_map.1 hx; rfl
    refine ⟨by simpa using hlen, hcap, hmax, fun j hj => ⟨b, off, ha (by intro e; simp at e; subst e; simp at hj), ?_⟩⟩
    obtain ⟨-, h2⟩ := hc j (by rw [hfl]; simpa using hj)
    have h3 := hr j (.int .i64 ds[j]) (by rw [hfl]; simp [hj])
    rw [h2]
    cases h3' : val j <;> rw [h3'] at h3 <;> cases h3
    rfl
def strP (x : Int × Int × Int) : Array Value := #[.agg #[.int .i64 x.1, .int .i64 x.2.1], .int .i64 x.2.2]
theorem cutR_ne (f : Int → Int) (b : Int) : ∀ (ds : List Int) (a v : Int), cutR f b a v ds ≠ []
  | [], a, v => by simp [cutR]
  | d :: ds, a, v => by
    unfold cutR; split
    · exact cutR_ne f b ds a v
    · simp
abbrev St3 := Int × Int × Int
/-- A stretch whose place is one of l's. -/
abbrev StB (n : Nat) := { x : St3 // x.2.2 < (n : Int) }
def strB {n : Nat} (x : StB n) : Array Value := strP x.1
theorem place_it {n₀ B Bl Bs : Nat} {fv : Value} {fs : List Kn} (hl : fs.length ≤ 1000000000) {a b : Int} {W : World} (h : ItS n₀ B Bl Bs fv fs a b W) (d : Int) :
    Calls Try.prog 50 #[.agg #[fv], .int .i64 d] W fun e W' => e = .returned (.int .i64 (placeM fs d)) ∧ ItS n₀ B Bl Bs fv fs a b W' ∧ Below W.heap.size W W' := by
  refine (place_w (busy_lt h.hB) hl h.facts d).mono ?_
  rintro e W' ⟨rfl, hB⟩
  exact ⟨rfl, h.kp (KpB.below h.hB h.hn hB), hB⟩
theorem it_in (l n₀ B Bl Bs : Nat) (fv : Value) (fs : List Kn) (hl : fs.length ≤ 1000000000) (a b : Int) (J Jx : List (StB fs.length) → World → Prop) (W : World)
    (hJ : AbidesFrom W.heap.size J)
    (hY : ∀ pre x W1, J pre W1 → pre.length < (fullM fs a b).length → YieldAt Fence.wide 4 Try.prog l (strB x) W1 fun e W' => (e = .returned (.bool true) ∧ J (pre ++ [x]) W' ∧ KpB n₀ B W1 W') ∨ (e = .returned (.bool false) ∧ Jx (pre ++ [x]) W'))
    (hI : ItS n₀ B Bl Bs fv fs a b W) (h0 : J [] W) :
    CallsIn Fence.wide 5 Try.prog 60 #[.func (.yield l) #[] #[], .pointer (some ⟨Bs, 0, none⟩), .pointer (some ⟨Bl, 0, none⟩)] W fun e W' => (∃ v, e = .returned v) ∧
      ((∃ ys, ys.map (·.1) = fullM fs a b ∧ J ys W') ∨ (∃ pre, True ∧ Jx pre W')) := by
  refine callsIn_of_wp Try.func60 rfl trivial ?_ rfl
  simp only [Try.ntmps60, List.size_toArray, List.length_cons, List.length_nil, Nat.reduceAdd, Nat.reduceSub, Array.replicate_succ, Array.replicate_zero, List.push_toArray, List.append_toArray, List.nil_append, List.cons_append]
  have hcl := hI.cl
  have hc0 := hI.cs0
  have hc1 := hI.cs1
  refine wpIn_wide.2 (wp_scope_straight (wpIn_wide (n := 5).1 ?_))
  by_cases hba : b ≤ a
  · gi_wp2
    simp only [Exit.noGoto]
    refine bodyPost_ret (results_none rfl _ _ _) rfl ?_
    exact ⟨⟨_, rfl⟩, .inl ⟨[], by unfold fullM; rw [if_pos hba]; rfl, h0⟩⟩
  · have hba' : a < b := by omega
    have hmx := mix
    gi_wp2
    refine wpIn_mono (Q := Exit.then (fun a' w' => a' = { tmps := #[.func (.yield l) #[] #[], .pointer (some ⟨Bs, 0, none⟩), .pointer (some ⟨Bl, 0, none⟩), undef, .int .i64 a, .int .i64 (placeM fs a), undef, undef, undef, .pointer (some ⟨Bs, 1, none⟩), .int .i64 b, .pointer (some ⟨Bs, 0, none⟩), .int .i64 a, .bool false, .pointer (some ⟨Bs, 0, none⟩), .int .i64 a, .agg #[fv], .pointer (some ⟨Bs, 0, none⟩), .int .i64 a, .int .i64 (placeM fs a), undef, undef, undef, undef, undef, undef, undef, undef, undef, undef, undef, undef, undef, undef, undef, undef, undef, undef, undef, undef, undef, undef, undef, undef, undef, undef, undef, undef, undef, undef, undef], defers := [] } ∧ ItS n₀ B Bl Bs fv fs a b w' ∧ Below W.heap.size W w') (fun _ _ _ => False)) ?reg ?rest
    case reg =>
      gi_region_with_o (refine ⟨trivial, ?_⟩; gi_at_call 50; refine (callsIn_wide.2 (place_it hl (hI.kp (KpB.below hI.hB hI.hn (by first | exact Below.refl _ _ | exact (Below.refl _ _).drew))) a)).mono ?_; rintro e w' ⟨rfl, hI1, hB1⟩; have hx1 := hI1.cl; have hx2 := hI1.cs0; have hx3 := hI1.cs1)
      all_goals exact ⟨rfl, hI1, ⟨hB1.os, hB1.tape, hB1.output, hB1.size, hB1.block⟩⟩
    case rest =>
      intro e a' w' hq
      cases e <;> first | (exact hq.elim) | skip
      obtain ⟨rfl, hI1, hB1⟩ := hq
      have hx1 := hI1.cl
      have hx2 := hI1.cs0
      have hx3 := hI1.cs1
      dsimp only
      gi_wp2
      refine wpIn_label ?_
      gi_wp2_with (refine ⟨trivial, ?_⟩; gi_at_call 61; refine (callsIn_wide.2 (cuts_w (busy_lt hI1.hB) hl hI1.facts a b)).mono ?_; rintro e w2 ⟨ad, len, cap, rfl, hB2, hC2⟩)
      have hk2 := KpB.below (n₀ := n₀) hI1.hB hI1.hn hB2
      have hI2 := hI1.kp hk2
      have hC3 := list_busy (n₀ := n₀) hI1.hB hI1.wf hB2 hC2
      have hJ2 : J [] w2 := hJ [] W w2 none h0 (grownBy_below (hB1.trans (hB2.mono hB1.size))) (fun r e => by cases e)
      have hfull : cutR (placeM fs) b a (placeM fs a) (cutsM fs a b) = fullM fs a b := by unfold fullM; rw [if_neg (by omega)]
      have hlen := (list_cells hC3).1
      clear hC2 hx1 hx2 hx3 hB2 hB1 hk2
      generalize hDS : cutsM fs a b = ds at hC3 hfull hlen
      clear hcl hc0 hc1
      gi_loopw [4, 5, 24] (fun x y z wr => ∃ (k : Nat) (pre : List (StB fs.length)) (fr v : Int), v < fs.length ∧ x = .int .i64 fr ∧ y = .int .i64 v ∧ z = .int .i64 k ∧ k ≤ ds.length ∧ pre.map (·.1) ++ cutR (placeM fs) b fr v (ds.drop k) = fullM fs a b ∧ J pre wr ∧ ItS n₀ B Bl Bs fv fs a b wr ∧ RepC wr (busy n₀ B wr) (.slice ad len cap) (.list none (ds.map (PV.int .i64))))
        (fun x y z _ => ds.length - (intOf z).toNat)
      case atStart => exact ⟨0, [], a, placeM fs a, (placeM_in fs a).2, rfl, rfl, rfl, by omega, by simpa using hfull, hJ2, hI2, hC3⟩
      case round =>
        obtain ⟨k, pre, fr, v, hvl, rfl, rfl, rfl, hk, htot, hJr, hIr, hCr⟩ := hrel
        have hx1 := hIr.cl
        have hx2 := hIr.cs0
        have hx3 := hIr.cs1
        have hneC := cutR_ne (placeM fs) b (ds.drop k) fr v
        have hlt : pre.length < (fullM fs a b).length := by
          rw [← htot, List.length_append, List.length_map]
          have := List.length_pos_iff.2 hneC
          omega
        obtain ⟨hl1, hcap, hmaxL, hcells⟩ := list_cells hCr
        subst hl1
        have hw1 : k < ds.length → wrap64 ((k : Int) + 1) = (k : Int) + 1 := fun h => IntWalk.wrap64_in _ (by unfold maxLen at hmaxL; omega)
        by_cases hkl : k < ds.length
        · obtain ⟨b0, off, rfl, hcell⟩ := hcells k hkl
          have hdrop : ds.drop k = ds[k] :: ds.drop (k + 1) := List.drop_eq_getElem_cons hkl
          rw [hdrop] at htot
          generalize hd : ds[k] = d at hcell htot
          unfold cutR at htot
          by_cases hfd : placeM fs d = v
          · rw [if_pos hfd] at htot
            gi_wp2_with (refine ⟨trivial, ?_⟩; gi_at_call 50; refine (callsIn_wide.2 (place_it hl hIr d)).mono ?_; rintro e w3 ⟨rfl, hI3, hB3⟩)
            have hk3 := KpB.below (n₀ := n₀) hIr.hB hIr.hn hB3
            have hJ3 : J pre w3 := hJ pre wr w3 none hJr (grownBy_below hB3) (fun r e => by cases e)
            rw [hw1 hkl]
            exact ⟨⟨k + 1, pre, fr, v, hvl, rfl, rfl, by simp, by omega, htot, hJ3, hI3, hCr.mono hk3.agr⟩, by simp [intOf]; omega⟩
          · rw [if_neg hfd] at htot
            have hnf : ¬ v = placeM fs d := fun e => hfd e.symm
            gi_wp2_with (refine ⟨trivial, ?_⟩; gi_at_call 50; refine (callsIn_wide.2 (place_it hl hIr d)).mono ?_; rintro e w3 ⟨rfl, hI3, hB3⟩; obtain ⟨fn, tmps, assign, body, hy, hR⟩ := hY pre ⟨(fr, d, v), hvl⟩ w3 (hJ pre wr w3 none hJr (grownBy_below hB3) (fun r e => by cases e)) hlt; dsimp only [strB, strP] at hy)
            have hk3 := KpB.below (n₀ := n₀) hIr.hB hIr.hn hB3
            refine hR.mono ?_
            rintro e W4 (⟨rfl, hJ4, hk4⟩ | ⟨rfl, hx4⟩)
            · gi_wp2
              rw [hw1 hkl]
              exact ⟨⟨k + 1, pre ++ [⟨(fr, d, v), hvl⟩], d, placeM fs d, (placeM_in fs d).2, rfl, rfl, by simp, by omega, by rw [← htot]; simp, hJ4, hI3.kp hk4, hCr.mono (hk3.t hk4).agr⟩, by simp [intOf]; omega⟩
            · gi_wp2
              simp only [Exit.noGoto]
              refine bodyPost_ret (results_none rfl _ _ _) rfl ?_
              exact ⟨⟨_, rfl⟩, .inr ⟨_, trivial, hx4⟩⟩
        · obtain rfl : k = ds.length := by omega
          rw [List.drop_length] at htot
          simp only [cutR] at htot
          obtain ⟨fn, tmps, assign, body, hy, hR⟩ := hY pre ⟨(fr, b, v), hvl⟩ wr hJr hlt
          dsimp only [strB, strP] at hy
          gi_wp2
          refine hR.mono ?_
          rintro e W4 (⟨rfl, hJ4, hk4⟩ | ⟨rfl, hx4⟩)
          · gi_wp2
            simp only [Exit.noGoto]
            go_end0
            exact ⟨⟨_, rfl⟩, .inl ⟨_, by simpa using htot, hJ4⟩⟩
          · gi_wp2
            simp only [Exit.noGoto]
            go_end0
            exact ⟨⟨_, rfl⟩, .inr ⟨_, trivial, hx4⟩⟩
/-- What 'stretches' hands back, as an iterator. -/
theorem it_stops (n₀ B Bl Bs : Nat) (fv : Value) (fs : List Kn) (hl : fs.length ≤ 1000000000) (a b : Int) (w : World) (hI : ItS n₀ B Bl Bs fv fs a b w) :
    SeqStopsK Fence.wide 5 Try.prog 60 #[.pointer (some ⟨Bs, 0, none⟩), .pointer (some ⟨Bl, 0, none⟩)] (strB (n := fs.length)) (KpB n₀ B) (fun ys => ys.map (·.1) = fullM fs a b) (fun _ => True) (fullM fs a b).length w := fun l J Jx W hW hJ _ hY h0 =>
  it_in l n₀ B Bl Bs fv fs hl a b J Jx W hJ hY (hI.kp (KpB.below hI.hB hI.hn hW)) h0
end Go.Proofs.Ytjcoenideicmbaa

namespace Go.Proofs.Ytjcoenideicmbaa
open Go PG Go.Proofs Go.RowKit Go.Shelf
attribute [local go_sem] Oper.semAt_some
set_option linter.unusedSimpArgs false
set_option linter.unusedVariables false
set_option maxRecDepth 100000
set_option maxHeartbeats 4000000
/-- An append to a row of one's own: in place, or in a new block. -/
theorem run_append_own2 {P : Program} (w : World) (base : Nat) (t ty e : TypeId) (i : TypeInfo) (z : Value) (size bytes : Nat) (ht : P.underlying t = some (.slice e)) (hi : P.info? e = some i) (hz : i.zero = some z)
    (hsize : i.size = size) (hby : i.bytes = bytes) (hzs : z.cells.size = size) (hsz : 0 < size)
    (v : Value) (n : Nat) (xs : List Value) (hown : w.ownsRow base e size v n xs)
    (a : Addr) (m c : Nat) (news : List Value) (hl : news.length = m * size) (hnews : ∀ j u, news[j]? = some u → w.cell? (a.add j) = some u) (h1 : ∀ u ∈ news, u.oneCell' = true)
    (h63 : n + m ≤ maxLen) (hbytes : (n + m) * bytes ≤ 140737488355328) (hbase : base ≤ w.heap.size) :
    ∃ v' w', (Builtin.append_ #[t, t] ty #[v, .slice (some a) m c]).run P w = .ok v' w' ∧ w'.ownsRow base e size v' (n + m) (xs ++ news) ∧ w.grownBy w' v.ownBlock ∧
      (v'.ownBlock = v.ownBlock ∨ ∀ g, v'.ownBlock = some g → w.heap.size ≤ g) := by
  rcases hown.2 with ⟨rfl, hn⟩ | ⟨g, cap, cur, rfl, hbg, hg, hnc, hcm, hcs, htake⟩
  · subst hn
    have hx : xs = [] := List.eq_nil_of_length_eq_zero (by simpa using hown.1)
    subst hx
    obtain ⟨v', w', hr, ho, hgr, -⟩ := run_append_own (P := P) w w.heap.size t ty e i z size bytes ht hi hz hsize hby hzs hsz (.slice none 0 0) 0 [] (World.ownsRow_nil _ _ _ _) a m c news hl hnews h1 h63 hbytes (Nat.le_refl _)
    refine ⟨v', w', hr, ⟨ho.1, ho.2.imp id ?_⟩, hgr, .inr fun g hg => (ho.lt g hg).1⟩
    rintro ⟨g, cap, cur, h1, h2, h3⟩
    exact ⟨g, cap, cur, h1, Nat.le_trans hbase h2, h3⟩
  · by_cases hroom : n + m ≤ cap
    · have hfit : n * i.size + news.length ≤ cur.size := by rw [hl, hcs, hsize, ← Nat.add_mul]; exact Nat.mul_le_mul_right _ hroom
      obtain ⟨v', w', hr, ho, hgr, -⟩ := run_append_own (P := P) w base t ty e i z size bytes ht hi hz hsize hby hzs hsz _ n xs hown a m c news hl hnews h1 h63 hbytes hbase
      have hr2 := run_append_room (P := P) w t ty e i ht hi g n cap cur hg a m c news (by rw [hl, hsize]) hnews h1 hroom hfit
      rw [hr2] at hr
      cases hr
      exact ⟨_, _, hr2, ho, hgr, .inl rfl⟩
    · have holds := hown.cells (g := g) rfl
      obtain ⟨v', w', hr, ho, hgr⟩ := run_append_arg_grows (P := P) w t ty e i z size bytes ht hi hz hsize hby hzs hsz ⟨g, 0, none⟩ n cap xs hown.1 holds a m c news hl hnews (by omega) h63 hbytes
      refine ⟨v', w', hr, ⟨ho.1, ho.2.imp id ?_⟩, ⟨hgr.os, hgr.tape, hgr.output, hgr.size, fun k hk _ => hgr.block k hk (by simp)⟩, .inr fun g hg => (ho.lt g hg).1⟩
      rintro ⟨g, cap, cur, h1, h2, h3⟩
      exact ⟨g, cap, cur, h1, Nat.le_trans hbase h2, h3⟩
theorem wpListIn_append_own2 {F : Fence} {n : Nat} {P : Program} (w : World) {ops : Array Oper} {rest : List Oper} {o : Oper} {a : Act} {Q : Exit → Act → World → Prop}
    (hg : o.guard = none) (s x : Operand) (t : TypeId) (hop : o.op = Op.call { callee := Callee.builtin Builtin.append, args := #[s, x], argTypes := #[t, t] })
    (base : Nat) (e : TypeId) (i : TypeInfo) (z : Value) (size bytes : Nat) (h1 : P.underlying t = some (.slice e)) (h2 : P.info? e = some i) (h3 : i.zero = some z) (h4 : i.size = size) (h5 : i.bytes = bytes) (h6 : z.cells.size = size) (h7 : 0 < size)
    (v : Value) (k : Nat) (xs : List Value) (hs : a.eval s = v) (hown : w.ownsRow base e size v k xs) (ad : Addr) (m c : Nat) (news : List Value) (hx : a.eval x = .slice (some ad) m c) (hn : news.length = m * size)
    (hc : ∀ j u, news[j]? = some u → w.cell? (ad.add j) = some u) (h1c : ∀ u ∈ news, u.oneCell' = true) (b1 : k + m ≤ maxLen) (b2 : (k + m) * bytes ≤ 140737488355328) (b3 : base ≤ w.heap.size)
    (hK : ∀ v' w', w'.ownsRow base e size v' (k + m) (xs ++ news) → w.grownBy w' v.ownBlock → (v'.ownBlock = v.ownBlock ∨ ∀ g, v'.ownBlock = some g → w.heap.size ≤ g) → wpListIn F n P ops Q rest (a.put o.dst v') w') :
    wpListIn F n P ops Q (o :: rest) a w := by
  refine wpListIn_plain hg fun K hK' => ?_
  obtain ⟨v', w', hrun, r1, r2, r3⟩ := run_append_own2 (P := P) w base t o.type e i z size bytes h1 h2 h3 h4 h5 h6 h7 v k xs hown ad m c news hn hc h1c b1 b2 b3
  unfold Oper.wpIn
  refine ⟨?_, ?_⟩
  · simp [Oper.about, hop, resolve, Target.leads, Sem.run_pure]
  · rw [Oper.semAt_plain F _ _ (by rw [hop]; intro c hc'; cases hc')]
    simp [execOp, hop, resolve, invoke, builtin, hs, hx, hrun, Result.andThen]
    exact hK' _ _ (hK v' w' r1 r2 r3)
theorem KpB.push {n₀ B : Nat} {W w1 : World} {t e : TypeId} {size : Nat} {v v' : Value} {k m : Nat} {xs ys : List Value} (hv : Boxed W B t v) (hte : t ≠ e) (hrow : W.ownsRow n₀ e size v k xs) (hn₀ : n₀ ≤ W.heap.size) (hB : n₀ ≤ B)
    (hown' : w1.ownsRow n₀ e size v' m ys) (hgrow : W.grownBy w1 v.ownBlock) (hfr : v'.ownBlock = v.ownBlock ∨ ∀ g, v'.ownBlock = some g → W.heap.size ≤ g) : KpB n₀ B W (w1.setCell ⟨B, 0, none⟩ v') := by
  have hlt := hv.lt
  have hc := hv.cell
  have hv1 : Boxed w1 B t v := hv.kept hgrow (hv.not_row hte hrow)
  have hv2 := hv1.set v'
  have hsz : (w1.setCell ⟨B, 0, none⟩ v').heap.size = w1.heap.size := by simp [World.setCell]
  have hrowb : ∀ g, v.ownBlock = some g → busy n₀ B W g := by
    intro g hg
    rcases hrow.2 with ⟨rfl, _⟩ | ⟨g2, cap, cur, rfl, h1, h2, h3⟩
    · simp [Value.ownBlock] at hg
    · obtain rfl : g2 = g := by simpa [Value.ownBlock] using hg
      exact .inr (.inl ⟨(Array.getElem?_eq_some_iff.1 h2).1, _, _, hc⟩)
  have hsame : ∀ b, b < W.heap.size → ¬ busy n₀ B W b → (w1.setCell ⟨B, 0, none⟩ v').heap[b]? = W.heap[b]? := by
    intro b hb hnb
    have h1 : b ≠ B := fun e => hnb (.inl e)
    rw [Below.heap_setCell w1 ⟨B, 0, none⟩ v' b h1]
    exact hgrow.block b hb (fun e => hnb (hrowb b e.symm))
  refine ⟨?_, ⟨hsame, fun b hb hnb hb' => ?_⟩, fun _ b len cap hcb => ?_⟩
  · refine ((Below.refl n₀ W).grown hgrow hn₀ fun j ej => ?_).setCell (p := ⟨B, 0, none⟩) hB v'
    rcases hrow.2 with ⟨rfl, _⟩ | ⟨g, cap, cur, rfl, hb, _, _⟩
    · simp [Value.ownBlock] at ej
    · obtain rfl : g = j := by simpa [Value.ownBlock] using ej
      exact hb
  · rcases hb' with rfl | ⟨_, len, cap, hcb⟩ | ⟨h1, o, h2, h3⟩
    · exact hnb (.inl rfl)
    · rw [hv2.cell] at hcb
      have hvb : v' = .slice (some ⟨b, 0, none⟩) len cap := by simpa using hcb
      rcases hfr with h | h
      · exact hnb (hrowb b (by rw [← h, hvb]; rfl))
      · have := h b (by rw [hvb]; rfl)
        omega
    · rw [hsame b hb hnb] at h2
      exact hnb (.inr (.inr ⟨h1, o, h2, h3⟩))
  · rw [hv2.cell] at hcb
    have hvb : v' = .slice (some ⟨b, 0, none⟩) len cap := by simpa using hcb
    rw [hsz]
    exact (hown'.lt b (by rw [hvb]; rfl)).2
theorem own_cells (B k : Nat) (c : Array Value) (t : TypeId) : OwnFrom B (fun (_ : Unit) W => W.heap[k]? = some (.cells c t (0, 0))) := fun _ X Y row hs hg hr =>
  (hg.block k (Array.getElem?_eq_some_iff.1 hs).1 (fun e => by
    obtain ⟨_, o, ho, hn⟩ := hr k e.symm
    rw [hs] at ho; cases ho; cases hn)).trans hs
end Go.Proofs.Ytjcoenideicmbaa

namespace Go.Proofs.Ytjcoenideicmbaa
open Go PG Go.Proofs Go.RowKit Go.Shelf
attribute [local go_sem] Oper.semAt_some
set_option linter.unusedSimpArgs false
set_option linter.unusedVariables false
set_option maxRecDepth 100000
set_option maxHeartbeats 4000000
end Go.Proofs.Ytjcoenideicmbaa

namespace Go.Proofs.Ytjcoenideicmbaa
open Go PG Go.Proofs Go.RowKit Go.Shelf
attribute [local go_sem] Oper.semAt_some
set_option linter.unusedSimpArgs false
set_option linter.unusedVariables false
set_option maxRecDepth 100000
set_option maxHeartbeats 4000000
def chS (a : Int) (l : List St3) : List Int := (l.filter fun x => decide (a < x.1)).map (·.1)
theorem info25 : (Try.prog.info? 25).map (fun i => (i.zero, i.size, i.bytes)) = some (some (.int .i64 0), 1, 8) := by kernel_rfl
theorem chS_hit (a : Int) (pre : List St3) {x : St3} (h : a < x.1) : chS a (pre ++ [x]) = chS a pre ++ [x.1] := by simp [chS, h]
theorem chS_miss (a : Int) (pre : List St3) {x : St3} (h : ¬ a < x.1) : chS a (pre ++ [x]) = chS a pre := by simp [chS, h]
theorem chS_len (a : Int) (pre : List St3) : (chS a pre).length ≤ pre.length := by
  unfold chS; rw [List.length_map]; exact List.length_filter_le _ _
theorem w30 (fv : Value) (fs : List Kn) (hl : fs.length ≤ 1000000000) (a b : Int) (w : World) (ex : Nat → Prop) (hex : ∀ b, ex b → b < w.heap.size) (hF : RepC w ex fv (knL fs)) (hfl : (fullM fs a b).length ≤ 2000000001) :
    Calls Try.prog 30 #[.agg #[fv], .agg #[.int .i64 a, .int .i64 b]] w fun e W' => ∃ v, e = .returned v ∧ W'.ownsRow w.heap.size 25 1 v (chS a (fullM fs a b)).length ((chS a (fullM fs a b)).map (Value.int .i64)) ∧ Below w.heap.size w W' := by
  refine (callsIn_wide (n := 6)).1 ?_
  obtain ⟨i0, hi, hz0, hz1, hz2⟩ := info_parts info25
  refine callsIn_of_wp_marks Try.func30 rfl trivial ?_ rfl
  simp only [Try.ntmps30, List.size_toArray, List.length_cons, List.length_nil, Nat.reduceAdd, Nat.reduceSub, Array.replicate_succ, Array.replicate_zero, List.push_toArray, List.append_toArray, List.nil_append, List.cons_append]
  gi_wp2_with (refine ⟨trivial, ?_⟩; gi_at_call 48; refine (callsIn_wide.2 (w48 fv a b _)).mono ?_; rintro e w' ⟨rfl, rfl⟩)
  have hsz : (((((w.alloc (.cells #[fv] 32)).alloc (.cells #[.int .i64 a, .int .i64 b] 27)).alloc (.cells #[.slice none 0 0] 63)).alloc (.cells #[fv] 32)).alloc (.cells #[.int .i64 a, .int .i64 b] 27)).heap.size = w.heap.size + 5 := by simp
  have hB0 : Below w.heap.size w (((((w.alloc (.cells #[fv] 32)).alloc (.cells #[.int .i64 a, .int .i64 b] 27)).alloc (.cells #[.slice none 0 0] 63)).alloc (.cells #[fv] 32)).alloc (.cells #[.int .i64 a, .int .i64 b] 27)) :=
    (((((Below.refl _ w).alloc (Nat.le_refl _) _).alloc (by simp) _).alloc (by simp; omega) _).alloc (by simp; omega) _).alloc (by simp; omega) _
  have bO := (((Boxed.new ((w.alloc (.cells #[fv] 32)).alloc (.cells #[.int .i64 a, .int .i64 b] 27)) 63 (.slice none 0 0)).alloc (.cells #[fv] 32)).alloc (.cells #[.int .i64 a, .int .i64 b] 27))
  have bL0 : (((((w.alloc (.cells #[fv] 32)).alloc (.cells #[.int .i64 a, .int .i64 b] 27)).alloc (.cells #[.slice none 0 0] 63)).alloc (.cells #[fv] 32)).alloc (.cells #[.int .i64 a, .int .i64 b] 27)).heap[w.heap.size + 1]? = some (.cells #[.int .i64 a, .int .i64 b] 27 (0, 0)) := by
    have e0 := World.alloc_heap_new (w.alloc (.cells #[fv] 32)) (.cells #[.int .i64 a, .int .i64 b] 27)
    rw [World.size_alloc] at e0
    rw [Below.heap_alloc _ _ _ (by simp), Below.heap_alloc _ _ _ (by simp), Below.heap_alloc _ _ _ (by simp)]
    exact e0
  have bL := ((Boxed.new (((w.alloc (.cells #[fv] 32)).alloc (.cells #[.int .i64 a, .int .i64 b] 27)).alloc (.cells #[.slice none 0 0] 63)) 32 fv).alloc (.cells #[.int .i64 a, .int .i64 b] 27))
  have bS := World.alloc_heap_new ((((w.alloc (.cells #[fv] 32)).alloc (.cells #[.int .i64 a, .int .i64 b] 27)).alloc (.cells #[.slice none 0 0] 63)).alloc (.cells #[fv] 32)) (.cells #[.int .i64 a, .int .i64 b] 27)
  simp only [World.size_alloc] at bO bL bS
  obtain ⟨W0, hW0⟩ : ∃ W0, ((((w.alloc (.cells #[fv] 32)).alloc (.cells #[.int .i64 a, .int .i64 b] 27)).alloc (.cells #[.slice none 0 0] 63)).alloc (.cells #[fv] 32)).alloc (.cells #[.int .i64 a, .int .i64 b] 27) = W0 := ⟨_, rfl⟩
  rw [hW0] at hsz hB0 bO bL0 bL bS ⊢
  clear hW0
  have hnr : ∀ g, ¬ rowIs W0 (w.heap.size + 1 + 1) g := by
    rintro g ⟨_, len, cap, hc⟩
    rw [bO.cell] at hc; simp at hc
  have hI0 : ItS w.heap.size (w.heap.size + 1 + 1) (w.heap.size + 1 + 1 + 1) (w.heap.size + 1 + 1 + 1 + 1) fv fs a b W0 := by
    refine ⟨by omega, by omega, hF.mono ⟨fun k hk _ => hB0.block k hk, fun k hk _ hb => ?_⟩, bL.cell, by simp [World.cell?, bS], by simp [World.cell?, bS], ?_, ?_, ?_⟩
    · rcases hb with rfl | h | ⟨h, _⟩
      · omega
      · exact hnr _ h
      · omega
    · rintro (h | h | ⟨_, o, ho, hn⟩)
      · omega
      · exact hnr _ h
      · rw [bL] at ho; cases ho; cases hn
    · rintro (h | h | ⟨_, o, ho, hn⟩)
      · omega
      · exact hnr _ h
      · rw [bS] at ho; cases ho; cases hn
    · intro g len cap hc
      rw [bO.cell] at hc; simp at hc
  refine wpIn_rangeFunc_ownH (F := Fence.wide) (n := 6) rfl (by omega) (gf := 60) (lb := #[.pointer (some ⟨w.heap.size + 1 + 1 + 1 + 1, 0, none⟩), .pointer (some ⟨w.heap.size + 1 + 1 + 1, 0, none⟩)]) rfl trivial (enters_of Try.func60 (by kernel_rfl) rfl)
    (it_stops w.heap.size (w.heap.size + 1 + 1) (w.heap.size + 1 + 1 + 1) (w.heap.size + 1 + 1 + 1 + 1) fv fs hl a b W0 hI0) KpB.t (KpB.b (by omega) (by omega)) (Below.refl _ _) (fun _ => rfl)
    (fun pre W => ((∃ v, Boxed W (w.heap.size + 1 + 1) 63 v ∧ W.ownsRow w.heap.size 25 1 v (chS a (pre.map (·.1))).length ((chS a (pre.map (·.1))).map (Value.int .i64)) ∧ True) ∧ W.heap[w.heap.size + 1]? = some (.cells #[.int .i64 a, .int .i64 b] 27 (0, 0))) ∧ Below w.heap.size w W)
    (fun _ _ _ => False)
    (OwnFrom.and (OwnFrom.and (Own.from (holdsRow_own w.heap.size (w.heap.size + 1 + 1) 63 25 1 (fun (pre : List (StB fs.length)) => (chS a (pre.map (·.1))).length) (fun pre => (chS a (pre.map (·.1))).map (Value.int .i64)) (fun _ _ => True)) _) (fun _ X Y row hs hg hr => own_cells _ _ _ _ () X Y row hs hg hr)) (ownFrom_below (Nat.le_refl _) (by omega)))
    (fun _ _ _ _ _ hs _ _ => hs)
    ⟨⟨⟨_, bO, by simpa [chS] using World.ownsRow_nil _ _ _ _, trivial⟩, bL0⟩, hB0⟩
    (fun x a' W => ∃ Bx, W.heap[Bx]? = some (.cells #[.int .i64 x.1.1, .int .i64 x.1.2.1] 27 (0, 0)) ∧ a' = { tmps := #[.agg #[fv], .agg #[.int .i64 a, .int .i64 b], .pointer (some ⟨w.heap.size, 0, none⟩), .pointer (some ⟨w.heap.size + 1, 0, none⟩), .slice none 0 0, .pointer (some ⟨w.heap.size + 1 + 1, 0, none⟩), .pointer (some ⟨Bx, 0, none⟩),
      .agg #[fv], .agg #[.int .i64 a, .int .i64 b], .func (.func 60) #[] #[.pointer (some ⟨w.heap.size + 1 + 1 + 1 + 1, 0, none⟩), .pointer (some ⟨w.heap.size + 1 + 1 + 1, 0, none⟩)], .agg #[.int .i64 x.1.1, .int .i64 x.1.2.1], .int .i64 x.1.2.2, undef, undef, undef, undef, undef, undef, undef, undef, undef, undef, undef], defers := [] })
    ?hAx ?assign ?body ?done ?stop
  case hAx =>
    rintro x a' _ X Y row ⟨Bx, h2, h3⟩ hg hr
    exact ⟨Bx, own_cells _ _ _ _ () X Y row h2 hg hr, h3⟩
  case assign =>
    rintro l pre ⟨⟨x1, x2, x3⟩, hx⟩ W K ⟨⟨⟨v, hv, hrow, -⟩, hbl⟩, hB⟩ hK
    dsimp only [strB, strP]
    gi_wp2
    refine hK _ _ ((KeepsOthers.alloc _ _).from _) (KpB.below hv.lt hB.size ((Below.refl _ W).alloc (Nat.le_refl _) _)) ⟨⟨⟨v, hv.alloc _, hrow.alloc _, trivial⟩, ?_⟩, hB.alloc hB.size _⟩ ⟨W.heap.size, World.alloc_heap_new W _, rfl⟩
    exact (Below.heap_alloc W _ _ (Array.getElem?_eq_some_iff.1 hbl).1).trans hbl
  case body =>
    rintro l pre ⟨⟨x1, x2, x3⟩, hx⟩ a' W hl0 ⟨r, hr⟩ ⟨⟨⟨v, hv, hrow, -⟩, hbl⟩, hB⟩ ⟨Bx, hbx, rfl⟩ hlt
    have hc := hv.cell
    have hcl : W.cell? ⟨w.heap.size + 1, 0, none⟩ = some (.int .i64 a) := by simp [World.cell?, hbl]
    have hc0 : W.cell? ⟨Bx, 0, none⟩ = some (.int .i64 x1) := by simp [World.cell?, hbx]
    have hpl : (chS a (pre.map (·.1))).length ≤ pre.length := by have := chS_len a (pre.map (·.1)); simpa using this
    have hb63 : (chS a (pre.map (·.1))).length + 1 ≤ maxLen := by unfold maxLen; omega
    have hbby : ((chS a (pre.map (·.1))).length + 1) * 8 ≤ 140737488355328 := by omega
    have hnews : ∀ (j : Nat) (u : Value), [Value.int .i64 x1][j]? = some u → (W.alloc (.cells #[.int .i64 x1] 25)).cell? ((⟨W.heap.size, 0, none⟩ : Addr).add j) = some u := by
      intro j u hu
      have hh := World.alloc_heap_new W (.cells #[.int .i64 x1] 25)
      have hc5 := cell?_cells hh (0 + j)
      rw [Addr.add_lit, hc5, Nat.zero_add]
      simpa using hu
    by_cases h0 : a < x1
    · have e1 : chS a ((pre ++ [(⟨(x1, x2, x3), hx⟩ : StB fs.length)]).map (·.1)) = chS a (pre.map (·.1)) ++ [x1] := by
        rw [List.map_append]; exact chS_hit a _ h0
      have hleaf : ∀ (v' : Value) (w1 : World), w1.ownsRow w.heap.size 25 1 v' ((chS a (pre.map (·.1))).length + 1) ((chS a (pre.map (·.1))).map (Value.int .i64) ++ [.int .i64 x1]) → (W.alloc (.cells #[.int .i64 x1] 25)).grownBy w1 v.ownBlock →
          (v'.ownBlock = v.ownBlock ∨ ∀ g, v'.ownBlock = some g → (W.alloc (.cells #[.int .i64 x1] 25)).heap.size ≤ g) → Boxed w1 (w.heap.size + 1 + 1) 63 v ∧
          Aside (KeepsFrom W0.heap.size W (w1.setCell ⟨w.heap.size + 1 + 1, 0, none⟩ v') ∧ KpB w.heap.size (w.heap.size + 1 + 1) W (w1.setCell ⟨w.heap.size + 1 + 1, 0, none⟩ v') ∧ ((∃ v, Boxed (w1.setCell ⟨w.heap.size + 1 + 1, 0, none⟩ v') (w.heap.size + 1 + 1) 63 v ∧ (w1.setCell ⟨w.heap.size + 1 + 1, 0, none⟩ v').ownsRow w.heap.size 25 1 v (chS a ((pre ++ [(⟨(x1, x2, x3), hx⟩ : StB fs.length)]).map (·.1))).length ((chS a ((pre ++ [(⟨(x1, x2, x3), hx⟩ : StB fs.length)]).map (·.1))).map (Value.int .i64)) ∧ True) ∧ (w1.setCell ⟨w.heap.size + 1 + 1, 0, none⟩ v').heap[w.heap.size + 1]? = some (.cells #[.int .i64 a, .int .i64 b] 27 (0, 0))) ∧ Below w.heap.size w (w1.setCell ⟨w.heap.size + 1 + 1, 0, none⟩ v')) := by
        intro v' w1 hown' hgrow hfr
        obtain ⟨hv1, hv3, hr3, hk3, hb3⟩ := hv.appended (by decide) hrow hB.size (by omega) hown' hgrow
        refine ⟨hv1, hk3.from _, ?_, ⟨⟨v', hv3, ?_, trivial⟩, ?_⟩, hB.trans hb3⟩
        · exact (KpB.below hv.lt hB.size ((Below.refl _ _).alloc (Nat.le_refl _) _)).t (KpB.push (hv.alloc _) (by decide) (hrow.alloc _) (by have := hB.size; simp; omega) (by omega) hown' hgrow hfr)
        · rw [e1]; simpa using hr3
        · have e2 : (W.alloc (.cells #[.int .i64 x1] 25)).heap[w.heap.size + 1]? = some (.cells #[.int .i64 a, .int .i64 b] 27 (0, 0)) := (Below.heap_alloc W _ _ (Array.getElem?_eq_some_iff.1 hbl).1).trans hbl
          have e3 : w1.heap[w.heap.size + 1]? = some (.cells #[.int .i64 a, .int .i64 b] 27 (0, 0)) := by
            rw [hgrow.block _ (Array.getElem?_eq_some_iff.1 e2).1 ?_]; exact e2
            intro e
            rcases hrow.2 with ⟨rfl, _⟩ | ⟨g, cap, cur, rfl, _, hg, _⟩
            · simp [Value.ownBlock] at e
            · have : g = w.heap.size + 1 := by simpa [Value.ownBlock] using e.symm
              subst this
              rw [hbl] at hg; cases hg
          rw [Below.heap_setCell w1 ⟨w.heap.size + 1 + 1, 0, none⟩ v' _ (by simp)]; exact e3
      dsimp only
      gi_wp2_with (gi_at_builtin; refine wpListIn_append_own2 _ rfl _ _ 63 rfl w.heap.size 25 i0 _ 1 8 Try.underlying63 hi hz0 hz1 hz2 rfl (by decide) v _ _ rfl (hrow.alloc _) ⟨W.heap.size, 0, none⟩ 1 1 [.int .i64 x1] rfl rfl hnews (by simp [Value.oneCell']) hb63 hbby (by have := hB.size; simp; omega) ?_; intro v' w1 hown' hgrow hfr; obtain ⟨hv1, hfin⟩ := hleaf v' w1 hown' hgrow hfr; obtain ⟨g', cap', hve⟩ := ownsRow_succ hown'; subst hve; have hcv1 := hv1.cell; have hfv1 := hv1.frozen)
      all_goals first | (exfalso; omega) | (obtain ⟨q1, q2, ⟨⟨v2, q3, q4, -⟩, q5⟩, q6⟩ := hfin; exact ⟨by rw [← hsz]; exact q1, q2, ⟨⟨v2, q3, q4⟩, q5⟩, q6⟩)
    · have e1 : chS a ((pre ++ [(⟨(x1, x2, x3), hx⟩ : StB fs.length)]).map (·.1)) = chS a (pre.map (·.1)) := by
        rw [List.map_append]; exact chS_miss a _ h0
      have h0' : x1 ≤ a := by omega
      dsimp only
      gi_wp2
      refine ⟨KeepsFrom.refl _ _, KpB.below hv.lt hB.size (Below.refl _ _), ⟨⟨v, hv, ?_⟩, hbl⟩, hB⟩
      rw [e1]
      exact hrow
  case done =>
    rintro D ys W hD hys ⟨⟨⟨v, hv, hrow, -⟩, hbl⟩, hB⟩ hK
    have hc := hv.cell
    rw [hys] at hrow
    gi_wp2
    refine ⟨by simp, .inl ⟨_, _, rfl, run_takeDeferred hK, ?_⟩⟩
    exact ⟨_, results_tmp rfl _ _ _, v, rfl, ownsRow_putObj hrow _ hK rfl, hB.trans (belowK_b (w := w) (Nat.le_refl _) W D _ _ (by omega) hK rfl rfl)⟩
  case stop =>
    rintro D c pre W _ _ h _
    exact h.elim
end Go.Proofs.Ytjcoenideicmbaa

namespace Go.Proofs.Ytjcoenideicmbaa
open Go PG Go.Proofs Go.RowKit
set_option linter.unusedSimpArgs false
set_option linter.unusedVariables false
set_option maxRecDepth 100000
/-- A row of one's own, as a closed list. -/
theorem list_of_row {W : World} {ex : Nat → Prop} {base : Nat} {E : TypeId} {sz : Nat} {v : Value} {n : Nat} {xs : List Value} (h : W.ownsRow base E sz v n xs) (hex : ∀ b, ex b → b < base) {sh : Sh} {ps : List PV} (hn : n = ps.length)
    (hfit : ∀ p ∈ ps, fits sh p) (hl : (flat ps).length = xs.length) (hr : ∀ (j : Nat) (p : PV) (u : Value), (flat ps)[j]? = some p → xs[j]? = some u → RepC W ex u p) : RepC W ex v (.list sh ps) := by
  subst hn
  rcases h.2 with ⟨rfl, hz⟩ | ⟨g, cap, cur, rfl, hbg, hg, hnc, hcm, hcs, htake⟩
  · have hps : ps = [] := List.eq_nil_of_length_eq_zero hz
    subst hps
    exact .list none 0 0 sh [] 0 0 (fun _ => undef) rfl (Nat.le_refl _) (by unfold maxLen; omega) (by simp) (fun h => absurd rfl h) (fun j hj => by simp [flat] at hj) (fun j p hp => by simp [flat] at hp)
  · refine .list _ _ _ sh ps g 0 (fun j => (xs[j]?).getD undef) rfl hnc hcm hfit (fun _ => rfl) (fun j hj => ⟨fun he => ?_, ?_⟩) (fun j p hp => ?_)
    · have := hex g he; omega
    · have hjx : j < xs.length := by omega
      have := h.cells (g := g) rfl j xs[j] (List.getElem?_eq_getElem hjx)
      rw [Addr.add_lit] at this
      rw [List.getElem?_eq_getElem hjx]; exact this
    · have hj : j < (flat ps).length := (List.getElem?_eq_some_iff.1 hp).1
      have hjx : j < xs.length := by omega
      rw [List.getElem?_eq_getElem hjx]
      exact hr j p _ hp (List.getElem?_eq_getElem hjx)
theorem line_args {w : World} {ex : Nat → Prop} {vs : Array Value} {l : List Kn} {a b : Int} (h : RepCs w ex vs [linP l, .agg [.int .i64 a, .int .i64 b]]) : ∃ fv, vs = #[.agg #[fv], .agg #[.int .i64 a, .int .i64 b]] ∧ RepC w ex fv (knL l) := by
  obtain ⟨hs, hr⟩ := h
  obtain ⟨L⟩ := vs
  match L, hs with
  | [x, y], _ =>
    have h0 := hr 0 x _ rfl rfl
    have h1 := hr 1 y _ rfl rfl
    cases h0 with
    | agg us _ hs0 hr0 =>
      obtain ⟨U⟩ := us
      match U, hs0 with
      | [fv], _ =>
        have h2 := hr0 0 fv _ rfl rfl
        cases h1 with
        | agg zs _ hs1 hr1 =>
          obtain ⟨Z⟩ := zs
          match Z, hs1 with
          | [p, q], _ =>
            have h3 := hr1 0 p _ rfl rfl
            have h4 := hr1 1 q _ rfl rfl
            cases h3; cases h4
            exact ⟨fv, rfl, h2⟩
theorem v30 (l : List Kn) (hl : l.length ≤ 1000000000) (a b : Int) : VCalls Try.prog G0 30 [linP l, .agg [.int .i64 a, .int .i64 b]] (.list none ((chS a (fullM l a b)).map (PV.int .i64))) := by
  intro w ex vs hex hG hr
  obtain ⟨fv, rfl, hF⟩ := line_args hr
  have hfl := full_len l a b
  refine (w30 fv l hl a b w ex hex hF (by omega)).mono ?_
  rintro e W' ⟨v, rfl, hrow, hB⟩
  refine ⟨v, rfl, hB, ?_⟩
  have hflat : flat ((chS a (fullM l a b)).map (PV.int .i64)) = (chS a (fullM l a b)).map (PV.int .i64) := flat_scal fun x hx => by obtain ⟨y, -, rfl⟩ := List.mem_map.1 hx; rfl
  refine list_of_row hrow (fun b hb => hex b hb) (by simp) (fun p hp => ?_) (by rw [hflat]; simp) (fun j p u hp hu => ?_)
  · obtain ⟨x, -, rfl⟩ := List.mem_map.1 hp; rfl
  · rw [hflat, List.getElem?_map] at hp
    rw [List.getElem?_map] at hu
    cases hq : (chS a (fullM l a b))[j]? with
    | none => rw [hq] at hp; cases hp
    | some d =>
      rw [hq] at hp hu
      simp at hp hu
      subst hp; subst hu
      exact .int _ _
end Go.Proofs.Ytjcoenideicmbaa

