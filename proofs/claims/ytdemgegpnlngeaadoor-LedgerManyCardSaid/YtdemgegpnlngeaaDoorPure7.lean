/-
  The pure layer: append, make, and slices that are written out.
-/
import Derived.Test.YtdemgegpnlngeaaDoorPure6
namespace PG
open Go
section
variable {P : Program} {w : World} {κ : Kap} {μ : Mem}

/-- The elements of a slice whose elements are of a shape. -/
def elemsSh (μ : Mem) (sh : Sh) : PV → Option (List PV)
  | .list sh' xs => if sh' = sh then some xs else none
  | .nilSl => some []
  | .sl sh' t n => if sh' = sh then (match μ.get t with
    | some (.row sh'' xs) => if sh'' = sh ∧ n ≤ xs.length then some (xs.take n) else none
    | _ => none) else none
  | _ => none

/-- Where the elements lie. -/
def SrcAt (w : World) (κ : Kap) (sh : Sh) (ys : List PV) (u : Value) : Prop :=
  ∃ (a : Option Addr) (c : Nat) (news : List Value), u = .slice a ys.length c ∧ news.length = (flat ys).length ∧ (∀ y ∈ ys, fits sh y) ∧
    (∀ (j : Nat) (p : PV) (v : Value), (flat ys)[j]? = some p → news[j]? = some v → RepC w (own κ) v p) ∧
    (ys ≠ [] → ∃ ad, a = some ad ∧ ∀ (j : Nat) (v : Value), news[j]? = some v → w.cell? (ad.add j) = some v)

theorem src_at (hS : Sim w κ μ) {sh : Sh} {q : PV} {ys : List PV} {u : Value} (hu : Rep w (own κ) κ u q) (h : elemsSh μ sh q = some ys) : SrcAt w κ sh ys u := by
  unfold elemsSh at h
  split at h
  · rename_i sh' xs
    split at h
    · rename_i hsh
      subst hsh
      simp at h; subst h
      obtain ⟨a, cap, b, off, val, hv, hcap, hmax, hfit, ha, hc, hr⟩ := rep_list_inv hu
      refine ⟨a, cap, (List.range (flat xs).length).map val, hv, by simp, hfit, fun j p v hp hv => ?_, fun hne => ⟨_, ha hne, fun j v hv => ?_⟩⟩
      · have hj : j < (flat xs).length := (List.getElem?_eq_some_iff.1 hp).1
        simp [hj] at hv; subst hv
        exact hr j p hp
      · have hj : j < (flat xs).length := by
          rcases Nat.lt_or_ge j (flat xs).length with h | h
          · exact h
          · simp [h] at hv
        simp [hj] at hv; subst hv
        rw [Addr.add_lit]; exact (hc j hj).2
    · simp at h
  · simp at h; subst h
    have := rep_nilSl hu
    exact ⟨none, 0, [], this, by simp [flat], by simp, fun j p v hp => by simp [flat] at hp, fun h => absurd rfl h⟩
  · rename_i sh' t n
    split at h
    · rename_i hsh
      subst hsh
      split at h
      · rename_i sh'' xs hg
        split at h
        · rename_i hc
          obtain ⟨rfl, hn⟩ := hc
          simp at h; subst h
          obtain ⟨c, hc, hO⟩ := hS.at hg
          rcases rep_sl hu with ⟨b, cap, hb, hv, hl, hm, -⟩ | ⟨hb, rfl, hv⟩
          · rw [hb] at hc; cases hc
            cases hO with
            | row b cur E cap' sh xs hh hs hm' hl' hfit hr =>
              have hfit' : ∀ y ∈ xs.take n, fits sh'' y := fun y hy => hfit y (List.mem_of_mem_take hy)
              have hfl : flat (xs.take n) = (flat xs).take (n * sh''.size) := flat_take hfit n
              have hfn : (flat (xs.take n)).length = n * sh''.size := by rw [flat_length hfit']; simp [Nat.min_eq_left hn]
              have hcur : n * sh''.size ≤ cur.size := by rw [hs]; exact Nat.mul_le_mul_right _ (by omega)
              refine ⟨some ⟨b, 0, none⟩, cap, cur.toList.take (n * sh''.size), by rw [hv]; simp [Nat.min_eq_left hn], by simp [hfn]; omega, hfit', fun j p v hp hv' => ?_, fun hne => ⟨_, rfl, fun j v hv' => ?_⟩⟩
              · have hj : j < n * sh''.size := by rw [← hfn]; exact (List.getElem?_eq_some_iff.1 hp).1
                rw [hfl, List.getElem?_take_of_lt hj] at hp
                rw [List.getElem?_take_of_lt hj] at hv'
                exact hr j p v hp (by simpa using hv')
              · have hj : j < n * sh''.size := by
                  rcases Nat.lt_or_ge j (n * sh''.size) with h | h
                  · exact h
                  · rw [List.getElem?_eq_none (by simp; omega)] at hv'; cases hv'
                rw [List.getElem?_take_of_lt hj] at hv'
                rw [Addr.add_lit, Nat.zero_add, cell?_cells hh]
                simpa using hv'
          · exact ⟨none, 0, [], by rw [hv]; simp, by simp [flat], by simp, fun j p v hp => by simp [flat] at hp, fun h => by simp at h⟩
        · simp at h
      · simp at h
    · simp at h
  · simp at h

theorem flat_one {sh : Sh} {ys : List PV} (hf : ∀ y ∈ ys, fits sh y) : ∀ c ∈ flat ys, c.scalar = true := by
  intro c hc
  simp only [flat, List.mem_flatMap] at hc
  obtain ⟨y, hy, hc⟩ := hc
  exact (hf y hy).scal c hc

theorem news_one {sh : Sh} {ys : List PV} {news : List Value} (hl : news.length = (flat ys).length) (hf : ∀ y ∈ ys, fits sh y)
    (hr : ∀ (j : Nat) (p : PV) (v : Value), (flat ys)[j]? = some p → news[j]? = some v → RepC w (own κ) v p) : ∀ u ∈ news, u.oneCell' = true := by
  intro u hu
  obtain ⟨i, hi, he⟩ := List.getElem_of_mem hu
  have hi' : i < (flat ys).length := by omega
  have h4 := hr i _ u (List.getElem?_eq_getElem hi') (List.getElem?_eq_some_iff.2 ⟨hi, he⟩)
  exact rep_one (.closed h4) (flat_one hf _ (List.getElem_mem hi'))

/-- The new row of an append that makes one. -/
theorem row_made {t : Nat} {sh : Sh} {zs : List PV} {olds rest : List Value} {cap : Nat} (e : TypeId) (hz : ∀ z ∈ zs, fits sh z) (hl : olds.length = (flat zs).length)
    (hr : ∀ (j : Nat) (p : PV) (v : Value), (flat zs)[j]? = some p → olds[j]? = some v → RepC w (own κ) v p) (hsz : (olds ++ rest).length = cap * sh.size) (hcap : zs.length ≤ cap) (hm : cap ≤ maxLen) :
    let w' := w.drew.alloc (.cells (olds ++ rest).toArray e)
    let κ' := κ.set t (some (some w.heap.size))
    Goes w κ w' κ' (fun i => i = t ∧ κ t ≠ none) ∧ ORep w' (own κ') κ' (some w.heap.size) (.row sh zs) ∧ Rep w' (own κ') κ' (.slice (some ⟨w.heap.size, 0, none⟩) zs.length cap) (.sl sh t zs.length) := by
  intro w' κ'
  have hA : ∀ k, k < w.heap.size → w'.heap[k]? = w.heap[k]? := fun k hk => RowKit.Below.heap_alloc w.drew _ k hk
  have hnew : w'.heap[w.heap.size]? = some (.cells (olds ++ rest).toArray e (0, 0)) := heap_alloc_at w.drew _
  have hG : Goes w κ w' κ' (fun i => i = t ∧ κ t ≠ none) := by
    refine ⟨rfl, rfl, rfl, by simp [w'], rfl, fun b hb _ => hA b hb, fun b hb ho h => ?_, fun b s hs => ?_, fun i c hc hn => ?_⟩
    · rcases own_set h with h | h
      · exact ho h
      · cases h; exact Nat.lt_irrefl _ hb
    · have hb : b < w.heap.size := by
        unfold World.shape? at hs
        rcases Nat.lt_or_ge b w.heap.size with h | h
        · exact h
        · simp [Array.getElem?_eq_none h] at hs
      rw [shape?_of_block (hA b hb)]; exact hs
    · have hi : i ≠ t := by rintro rfl; exact hn ⟨rfl, by rw [hc]; simp⟩
      rw [Kap.set_other _ _ hi]; exact hc
  refine ⟨hG, ?_, ?_⟩
  · refine .row _ _ e cap sh zs hnew (by simpa using hsz) hm hcap hz (fun j p v hp hv => ?_)
    have hj : j < (flat zs).length := (List.getElem?_eq_some_iff.1 hp).1
    rw [List.getElem?_toArray, List.getElem?_append_left (by omega)] at hv
    exact (hr j p v hp hv).mono hG.agree
  · refine .sl sh t _ _ cap (by simp [κ']) ⟨e, ?_⟩ hcap hm
    simp only [World.shape?, hnew]
    congr 2


def killTag (t : Nat) : Nat → Bool := fun i => i == t
def Mem.kill (μ : Mem) (dead : Nat → Bool) : Mem := μ.map (Option.map (MObj.kill dead))

theorem kill_get (μ : Mem) (dead : Nat → Bool) (t : Nat) : (μ.kill dead)[t]? = (μ[t]?).map (Option.map (MObj.kill dead)) := by simp [Mem.kill]

/-- A row gets a block of its own, or another one. -/
theorem Sim.moved (hS : Sim w κ μ) {w' : World} {t b' : Nat} {c : Option Nat} {o1 : MObj} (hc : κ t = some c) (hb' : b' = w.heap.size) (hb2 : b' < w'.heap.size) (hold : ∀ b, b < w.heap.size → w'.heap[b]? = w.heap[b]?)
    (hG : Goes w κ w' (κ.set t (some (some b'))) (fun i => i = t ∧ κ t ≠ none)) (ho : ORep w' (own (κ.set t (some (some b')))) (κ.set t (some (some b'))) (some b') o1) :
    Sim w' (κ.set t (some (some b'))) ((μ.kill (killTag t)).set t (some o1)) := by
  refine hS.change (f := MObj.kill (killTag t)) hG (fun t' c' o' hne hc' h => ?_) (fun b hb => ?_) ho ?_ (fun t' hne => ?_)
  · refine ORep.goes hG (fun i hi => by simp [killTag, hi.1]) (fun b hb => ?_) h
    subst hb; exact hold b (hS.lt _ _ hc')
  · cases hb
    subst hb'
    exact ⟨hb2, fun h => Nat.lt_irrefl _ (hS.exlt _ h), fun t' _ h => Nat.lt_irrefl _ (hS.lt _ _ h)⟩
  · obtain ⟨o, h, -⟩ := hS.live t c hc
    exact Mem.set_get _ t o1 ⟨_, by rw [kill_get, h]; rfl⟩
  · rw [List.getElem?_set_ne (Ne.symm hne), kill_get]

structure AppTy (P : Program) (T e : TypeId) (sh : Sh) (bytes : Nat) : Prop where
  und : P.underlying T = some (.slice e)
  hsh : shOf P e = some sh
  pos : 0 < Sh.size sh
  info : ∃ i z, P.info? e = some i ∧ i.zero = some z ∧ z.cells.size = i.size ∧ i.bytes = bytes

/-- 'append' to an owned slice. -/
theorem append_sl (hS : Sim w κ μ) {T e ty : TypeId} {sh : Sh} {bytes : Nat} (hT : AppTy P T e sh bytes) {t n : Nat} {v u : Value} {xs ys : List PV} (hv : Rep w (own κ) κ v (.sl sh t n)) (hm : μ.get t = some (.row sh xs)) (hn : n ≤ xs.length)
    (hu : SrcAt w κ sh ys u) (hmax : n + ys.length ≤ maxLen) (hby : (n + ys.length) * bytes ≤ 140737488355328) :
    ∃ v' w' κ', (Builtin.append_ #[T, T] ty #[v, u]).run P w = .ok v' w' ∧ Goes w κ w' κ' (fun i => i = t) ∧ Sim w' κ' ((μ.kill (killTag t)).set t (some (.row sh (xs.take n ++ ys)))) ∧
      Rep w' (own κ') κ' v' (.sl sh t (n + ys.length)) := by
  obtain ⟨i, z, hi, hz, hzs, hib⟩ := hT.info
  obtain ⟨hsz, -, i', hi', hisz⟩ := shOf_spec hT.hsh
  rw [hi] at hi'; cases hi'
  obtain ⟨c, hc, hO⟩ := hS.at hm
  obtain ⟨a, sc, news, hue, hnl, hyf, hyr, hya⟩ := hu
  have hfit : ∀ x ∈ xs, fits sh x := by cases hO <;> first | assumption | (intro x hx; cases hx)
  have hzf : ∀ z ∈ xs.take n ++ ys, fits sh z := fun z hz => by
    rcases List.mem_append.1 hz with h | h
    · exact hfit z (List.mem_of_mem_take h)
    · exact hyf z h
  have hylen : (flat ys).length = ys.length * sh.size := flat_length hyf
  have hint : ((n : Int) + (ys.length : Int)) ≤ 9223372036854775807 := by simp only [maxLen] at hmax; omega
  rw [hue]
  have hlt : (xs.take n ++ ys).length = n + ys.length := by simp [Nat.min_eq_left hn]
  rcases rep_sl hv with ⟨b, cap, hb, rfl, hl, hcm, E0, hE0⟩ | ⟨hb, rfl, rfl⟩
  · -- a block is there
    rw [hb] at hc; cases hc
    cases hO with
    | row _ cur E cap' _ _ hh hs hm' hl' _ hr =>
      have hcap : cap = cap' := by
        simp only [World.shape?, hh, Option.some.injEq, Prod.mk.injEq] at hE0
        have := hE0.2
        rw [hs] at this
        exact (Nat.eq_of_mul_eq_mul_right hT.pos this).symm
      subst hcap
      have hfl : flat (xs.take n ++ ys) = (flat xs).take (n * sh.size) ++ flat ys := by rw [flat_append, flat_take hfit]
      have hxl : (flat xs).length = xs.length * sh.size := flat_length hfit
      have hnx : n * sh.size ≤ (flat xs).length := by rw [hxl]; exact Nat.mul_le_mul_right _ hn
      have hcl : n * sh.size ≤ cur.size := by rw [hs]; exact Nat.mul_le_mul_right _ hl
      by_cases hroom : n + ys.length ≤ cap
      · -- in place
        have hfitc : n * sh.size + news.length ≤ cur.size := by rw [hnl, hylen, hs, ← Nat.add_mul]; exact Nat.mul_le_mul_right _ hroom
        have hsize : (cur.toList.take (n * sh.size) ++ news ++ cur.toList.drop (n * sh.size + news.length)).toArray.size = cur.size := by simp; omega
        have hrun : (Builtin.append_ #[T, T] ty #[.slice (some ⟨b, 0, none⟩) n cap, .slice a ys.length sc]).run P w =
            .ok (.slice (some ⟨b, 0, none⟩) (n + ys.length) cap) (w.setRow b (cur.toList.take (n * sh.size) ++ news ++ cur.toList.drop (n * sh.size + news.length)).toArray) := by
          have hf : (Builtin.firstCells sh.size ys.length (.slice a ys.length sc)).run P w = .ok news.toArray w := by
            by_cases hy : ys = []
            · subst hy
              have : news = [] := List.eq_nil_of_length_eq_zero (by simpa [flat] using hnl)
              subst this
              cases a <;> simp [Builtin.firstCells, loadCells, loadCellsFrom]
            · obtain ⟨ad, rfl, had⟩ := hya hy
              exact run_firstCells_some (P := P) w sh.size ys.length ad ys.length sc news (by rw [hnl, hylen]) had
          have hst := run_storeCells_at P b (n * sh.size) E news 0 cur w hh (by simpa using hfitc) (news_one hnl hyf hyr)
          simp only [Nat.add_zero] at hst
          simp [Builtin.append_, run_underlying hT.und, hsz, Builtin.lenOf, hroom, hf, Addr.add_lit, hst]
        have hG := Goes.setRow (w := w) (cur' := (cur.toList.take (n * sh.size) ++ news ++ cur.toList.drop (n * sh.size + news.length)).toArray) hb hh hsize (fun i => i = t)
        have hset := Kap.set_eq hb
        refine ⟨_, _, κ, hrun, hG, ?_, ?_⟩
        · have := hS.change (w' := w.setRow b (cur.toList.take (n * sh.size) ++ news ++ cur.toList.drop (n * sh.size + news.length)).toArray)
            (μ' := (μ.kill (killTag t)).set t (some (.row sh (xs.take n ++ ys)))) (t1 := t) (c1 := some b) (o1 := .row sh (xs.take n ++ ys)) (f := MObj.kill (killTag t)) (m := fun i => i = t) (by rw [hset]; exact hG)
            (fun t' c' o' hne hc' h => by
              rw [hset]
              refine ORep.goes hG (fun i hi => by simp [killTag, hi]) (fun b' hb' => ?_) h
              subst hb'
              exact setRow_other w b b' _ (fun e => hne (hS.inj t' t b' hc' (by rw [e]; exact hb))))
            (fun b' hb' => by cases hb'; exact ⟨by simp; exact hS.lt _ _ hb, hS.exout _ _ hb, fun t' hne h => hne (hS.inj t' t b h hb)⟩)
            (by
              rw [hset]
              refine .row b _ E cap sh _ (setRow_heap w b cur _ E (0, 0) hh) (by rw [hsize, hs]) hcm (by rw [hlt]; exact hroom) hzf (fun j p v' hp hv' => ?_)
              rw [List.getElem?_toArray, seg_get _ _ _ _ (by simpa using hfitc)] at hv'
              rw [hfl] at hp
              have htl : ((flat xs).take (n * sh.size)).length = n * sh.size := by simp; omega
              by_cases hj : j < n * sh.size
              · rw [if_neg (by omega)] at hv'
                rw [List.getElem?_append_left (by omega), List.getElem?_take_of_lt hj] at hp
                exact (hr j p v' hp (by simpa using hv')).mono hG.agree
              · have hj2 : j < n * sh.size + (flat ys).length := by
                  have := (List.getElem?_eq_some_iff.1 hp).1
                  rw [List.length_append, htl] at this; exact this
                rw [if_pos ⟨by omega, by omega⟩] at hv'
                rw [List.getElem?_append_right (by omega), htl] at hp
                exact (hyr _ p v' hp hv').mono hG.agree)
            (Mem.set_get _ t _ ⟨_, by rw [kill_get, Mem.get_some hm]; rfl⟩) (fun t' hne => by rw [List.getElem?_set_ne (Ne.symm hne), kill_get])
          rwa [hset] at this
        · exact .sl sh t _ b cap hb ⟨E0, hG.shape _ _ hE0⟩ hroom hcm
      · -- a new row
        have hy : ys ≠ [] := by rintro rfl; simp at hroom; omega
        obtain ⟨ad, rfl, had⟩ := hya hy
        have holds : ∀ j v, (cur.toList.take (n * sh.size))[j]? = some v → w.cell? ((⟨b, 0, none⟩ : Addr).add j) = some v := by
          intro j v hv'
          have hj : j < n * sh.size := by
            rcases Nat.lt_or_ge j (n * sh.size) with h | h
            · exact h
            · rw [List.getElem?_eq_none (by simp; omega)] at hv'; cases hv'
          rw [List.getElem?_take_of_lt hj] at hv'
          rw [Addr.add_lit, Nat.zero_add, cell?_cells hh]
          simpa using hv'
        have hrun := run_append_grow (P := P) w T ty e i z hT.und hi hz ⟨b, 0, none⟩ n cap (cur.toList.take (n * sh.size)) (by simp [hisz]; omega) holds ad ys.length sc news (by rw [hnl, hylen, hisz]) had (by omega) (by omega)
          (by rw [hib]; exact growslice_fits (by omega) hby)
        have hge := grownCap_ge w (n + ys.length) cap e
        have hgm := grownCap_le_maxLen w (n + ys.length) cap e hmax
        obtain ⟨hG, hO', hR'⟩ := row_made (w := w) (κ := κ) (t := t) (sh := sh) (zs := xs.take n ++ ys) (olds := cur.toList.take (n * sh.size) ++ news)
          (rest := (Builtin.zeroCells z.cells (grownCap w (n + ys.length) cap e - (n + ys.length))).toList) (cap := grownCap w (n + ys.length) cap e) e hzf
          (by rw [hfl]; simp [hnl]; omega)
          (fun j p v' hp hv' => by
            rw [hfl] at hp
            have htl : ((flat xs).take (n * sh.size)).length = n * sh.size := by simp; omega
            have hol : (cur.toList.take (n * sh.size)).length = n * sh.size := by simp; omega
            by_cases hj : j < n * sh.size
            · rw [List.getElem?_append_left (by omega), List.getElem?_take_of_lt hj] at hp
              rw [List.getElem?_append_left (by omega), List.getElem?_take_of_lt hj] at hv'
              exact hr j p v' hp (by simpa using hv')
            · rw [List.getElem?_append_right (by omega), htl] at hp
              rw [List.getElem?_append_right (by omega), hol] at hv'
              exact hyr _ p v' hp hv')
          (by
            simp only [List.length_append, List.length_take, Array.length_toList, Nat.min_eq_left hcl, hnl, hylen, size_zeroCells, hzs, hisz]
            rw [← Nat.add_mul, ← Nat.add_mul]; congr 1; omega)
          (by rw [hlt]; exact hge) hgm
        have harr : ((cur.toList.take (n * sh.size)).toArray ++ news.toArray ++ Builtin.zeroCells z.cells (grownCap w (n + ys.length) cap e - (n + ys.length))) =
            (cur.toList.take (n * sh.size) ++ news ++ (Builtin.zeroCells z.cells (grownCap w (n + ys.length) cap e - (n + ys.length))).toList).toArray := by
          apply Array.ext'; simp
        rw [harr] at hrun
        refine ⟨_, _, _, hrun, (hG.weak fun i hi => hi.1), ?_, ?_⟩
        · exact hS.moved hb rfl (by simp) (fun b hb => RowKit.Below.heap_alloc w.drew _ b hb) hG hO'
        · rw [hlt] at hR'; exact hR'
  · -- no block yet
    rw [hb] at hc; cases hc
    cases hO with
    | nilrow =>
      have hzf' : ∀ y ∈ ys, fits sh y := hyf
      by_cases hy : ys = []
      · subst hy
        have hG := Goes.refl w κ (fun i => i = t)
        have hset := Kap.set_eq hb
        refine ⟨.slice none 0 0, w, κ, ?_, hG, ?_, .slnil sh t hb⟩
        · cases a <;> simp [Builtin.append_, run_underlying hT.und, hsz, Builtin.lenOf, Builtin.firstCells, loadCells, loadCellsFrom]
        · have := hS.change (w' := w) (μ' := (μ.kill (killTag t)).set t (some (.row sh ([].take 0 ++ [])))) (t1 := t) (c1 := none) (o1 := .row sh []) (f := MObj.kill (killTag t)) (m := fun i => i = t) (by rw [hset]; exact hG)
            (fun t' c' o' _ _ h => by rw [hset]; exact ORep.goes hG (fun i hi => by simp [killTag, hi]) (fun _ _ => rfl) h) (fun b hb => by cases hb) (.nilrow sh)
            (by simpa using Mem.set_get _ t (.row sh []) ⟨_, by rw [kill_get, Mem.get_some hm]; rfl⟩) (fun t' hne => by rw [List.getElem?_set_ne (Ne.symm hne), kill_get])
          rwa [hset] at this
      · obtain ⟨ad, rfl, had⟩ := hya hy
        have hpos : 0 < ys.length := List.length_pos_iff.2 hy
        have hrun := run_append_nil (P := P) w T ty e i z hT.und hi hz ad ys.length sc news (by rw [hnl, hylen, hisz]) had hpos (by omega) (by rw [hib]; simp only [Nat.zero_add] at hby; omega)
        have hge := grownCap_ge w ys.length 0 e
        have hgm := grownCap_le_maxLen w ys.length 0 e (by omega)
        obtain ⟨hG, hO', hR'⟩ := row_made (w := w) (κ := κ) (t := t) (sh := sh) (zs := ys) (olds := news) (rest := (Builtin.zeroCells z.cells (grownCap w ys.length 0 e - ys.length)).toList) (cap := grownCap w ys.length 0 e) e hyf hnl hyr
          (by
            simp only [List.length_append, Array.length_toList, hnl, hylen, size_zeroCells, hzs, hisz]
            rw [← Nat.add_mul]; congr 1; omega) hge hgm
        have harr : news.toArray ++ Builtin.zeroCells z.cells (grownCap w ys.length 0 e - ys.length) = (news ++ (Builtin.zeroCells z.cells (grownCap w ys.length 0 e - ys.length)).toList).toArray := by
          apply Array.ext'; simp
        rw [harr] at hrun
        refine ⟨.slice (some ⟨w.heap.size, 0, none⟩) ys.length (grownCap w ys.length 0 e), _, _, by simpa using hrun, (hG.weak fun i hi => hi.1), ?_, ?_⟩
        · simp only [List.take_nil, List.nil_append]
          exact hS.moved hb rfl (by simp) (fun b hb => RowKit.Below.heap_alloc w.drew _ b hb) hG hO'
        · simpa using hR'

end
end PG
