/-
  The pure layer: a slice begun by append, slices that are written out, make, bytes of a text.
-/
import Derived.Test.YtdemgegpnlngeaaDoorPure7
namespace PG
open Go
set_option linter.unusedSimpArgs false
set_option linter.unusedVariables false
section
variable {P : Program} {w : World} {κ : Kap} {μ : Mem}

theorem push_get (μ : Mem) (o : MObj) : (μ ++ [some o])[μ.length]? = some (some o) := by simp
theorem push_other (μ : Mem) (o : MObj) {t : Nat} (h : t ≠ μ.length) : (μ ++ [some o])[t]? = (μ[t]?).map (Option.map id) := by
  rcases Nat.lt_trichotomy t μ.length with h' | h' | h'
  · rw [List.getElem?_append_left h']; simp
  · exact absurd h' h
  · rw [List.getElem?_eq_none (by simp; omega), List.getElem?_eq_none (by omega)]; rfl

/-- A nil slice taken over as a row of the call's own. -/
theorem Sim.nilrow (hS : Sim w κ μ) (sh : Sh) : Goes w κ w (κ.set μ.length (some none)) (fun _ => False) ∧ Sim w (κ.set μ.length (some none)) (μ ++ [some (.row sh [])]) := by
  have hG : Goes w κ w (κ.set μ.length (some none)) (fun _ => False) := by
    refine ⟨rfl, rfl, rfl, Nat.le_refl _, rfl, fun _ _ _ => rfl, fun b hb ho h => ?_, fun _ _ h => h, fun t c hc _ => ?_⟩
    · rcases own_set h with h | h
      · exact ho h
      · cases h
    · rw [Kap.set_other]; exact hc
      rintro rfl; rw [hS.fresh] at hc; cases hc
  exact ⟨hG, hS.change (f := id) hG (fun t c o' _ hc h => ORep.still hG (fun b hb => rfl) h) (fun b hb => by cases hb) (.nilrow sh) (push_get μ _) (fun t ht => push_other μ _ ht)⟩

/-- A row in a new block. -/
theorem Sim.pushRow (hS : Sim w κ μ) {w' : World} {o1 : MObj} (hb2 : w.heap.size < w'.heap.size) (hold : ∀ b, b < w.heap.size → w'.heap[b]? = w.heap[b]?)
    (hG : Goes w κ w' (κ.set μ.length (some (some w.heap.size))) (fun _ => False)) (ho : ORep w' (own (κ.set μ.length (some (some w.heap.size)))) (κ.set μ.length (some (some w.heap.size))) (some w.heap.size) o1) :
    Sim w' (κ.set μ.length (some (some w.heap.size))) (μ ++ [some o1]) := by
  refine hS.change (f := id) hG (fun t c o' _ hc h => ORep.still hG (fun b hb => ?_) h) (fun b hb => ?_) ho (push_get μ _) (fun t ht => push_other μ _ ht)
  · subst hb; exact hold b (hS.lt _ _ hc)
  · cases hb
    exact ⟨hb2, fun h => Nat.lt_irrefl _ (hS.exlt _ h), fun t _ h => Nat.lt_irrefl _ (hS.lt _ _ h)⟩

/-- 'append' to a nil slice. -/
theorem append_nilSl (hS : Sim w κ μ) {T e ty : TypeId} {sh : Sh} {bytes : Nat} (hT : AppTy P T e sh bytes) {u : Value} {ys : List PV}
    (hu : SrcAt w κ sh ys u) (hmax : ys.length ≤ maxLen) (hby : ys.length * bytes ≤ 140737488355328) :
    ∃ v' w' κ', (Builtin.append_ #[T, T] ty #[.slice none 0 0, u]).run P w = .ok v' w' ∧ Goes w κ w' κ' (fun _ => False) ∧ Sim w' κ' (μ ++ [some (.row sh ys)]) ∧ Rep w' (own κ') κ' v' (.sl sh μ.length ys.length) := by
  obtain ⟨i, z, hi, hz, hzs, hib⟩ := hT.info
  obtain ⟨hsz, -, i', hi', hisz⟩ := shOf_spec hT.hsh
  rw [hi] at hi'; cases hi'
  obtain ⟨a, sc, news, hue, hnl, hyf, hyr, hya⟩ := hu
  have hylen : (flat ys).length = ys.length * sh.size := flat_length hyf
  have hint : ((ys.length : Int)) ≤ 9223372036854775807 := by simp only [maxLen] at hmax; omega
  rw [hue]
  by_cases hy : ys = []
  · subst hy
    obtain ⟨hG, hS'⟩ := hS.nilrow sh
    refine ⟨.slice none 0 0, w, _, ?_, hG, hS', .slnil sh μ.length (by simp)⟩
    cases a <;> simp [Builtin.append_, run_underlying hT.und, hsz, Builtin.lenOf, Builtin.firstCells, loadCells, loadCellsFrom]
  · obtain ⟨ad, rfl, had⟩ := hya hy
    have hpos : 0 < ys.length := List.length_pos_iff.2 hy
    have hrun := run_append_nil (P := P) w T ty e i z hT.und hi hz ad ys.length sc news (by rw [hnl, hylen, hisz]) had hpos (by omega) (by rw [hib]; omega)
    have hge := grownCap_ge w ys.length 0 e
    have hgm := grownCap_le_maxLen w ys.length 0 e (by omega)
    obtain ⟨hG, hO', hR'⟩ := row_made (w := w) (κ := κ) (t := μ.length) (sh := sh) (zs := ys) (olds := news) (rest := (Builtin.zeroCells z.cells (grownCap w ys.length 0 e - ys.length)).toList) (cap := grownCap w ys.length 0 e) e hyf hnl hyr
      (by
        simp only [List.length_append, Array.length_toList, hnl, hylen, size_zeroCells, hzs, hisz]
        rw [← Nat.add_mul]; congr 1; omega) hge hgm
    have harr : news.toArray ++ Builtin.zeroCells z.cells (grownCap w ys.length 0 e - ys.length) = (news ++ (Builtin.zeroCells z.cells (grownCap w ys.length 0 e - ys.length)).toList).toArray := by
      apply Array.ext'; simp
    rw [harr] at hrun
    have hG' := hG.weak (m' := fun _ => False) (fun i hi => absurd hS.fresh hi.2)
    exact ⟨_, _, _, hrun, hG', hS.pushRow (by simp) (fun b hb => RowKit.Below.heap_alloc w.drew _ b hb) hG' hO', hR'⟩

/-- 'append' to a slice whose capacity is its length: a new row. -/
theorem append_full (hS : Sim w κ μ) {T e ty : TypeId} {sh : Sh} {bytes : Nat} (hT : AppTy P T e sh bytes) {v u : Value} {xs ys : List PV} (hv : Rep w (own κ) κ v (.full sh xs))
    (hu : SrcAt w κ sh ys u) (hmax : xs.length + ys.length ≤ maxLen) (hby : (xs.length + ys.length) * bytes ≤ 140737488355328) (hpos : 0 < ys.length) :
    ∃ v' w' κ', (Builtin.append_ #[T, T] ty #[v, u]).run P w = .ok v' w' ∧ Goes w κ w' κ' (fun _ => False) ∧ Sim w' κ' (μ ++ [some (.row sh (xs ++ ys))]) ∧ Rep w' (own κ') κ' v' (.sl sh μ.length (xs.length + ys.length)) := by
  obtain ⟨i, z, hi, hz, hzs, hib⟩ := hT.info
  obtain ⟨hsz, -, i', hi', hisz⟩ := shOf_spec hT.hsh
  rw [hi] at hi'; cases hi'
  obtain ⟨a, sc, news, hue, hnl, hyf, hyr, hya⟩ := hu
  have hylen : (flat ys).length = ys.length * sh.size := flat_length hyf
  have hint : ((xs.length : Int) + (ys.length : Int)) ≤ 9223372036854775807 := by simp only [maxLen] at hmax; omega
  have hy : ys ≠ [] := List.length_pos_iff.1 hpos
  obtain ⟨ad, rfl, had⟩ := hya hy
  rw [hue]
  cases hv with
  | closed hv =>
  cases hv with
  | full A len sh xs b off val hlen hm hfit ha hc hr =>
  subst hlen
  have hxlen : (flat xs).length = xs.length * sh.size := flat_length hfit
  have hzf : ∀ z ∈ xs ++ ys, fits sh z := fun z hz => (List.mem_append.1 hz).elim (hfit z) (hyf z)
  -- what stands in the old row
  let olds : List Value := (List.range (xs.length * sh.size)).map val
  have hol : olds.length = xs.length * sh.size := by simp [olds]
  have holdr : ∀ (j : Nat) (p : PV) (v' : Value), (flat xs)[j]? = some p → olds[j]? = some v' → RepC w (own κ) v' p := by
    intro j p v' hp hv'
    have hj : j < xs.length * sh.size := by rw [← hol]; exact (List.getElem?_eq_some_iff.1 hv').1
    simp only [olds, List.getElem?_map, List.getElem?_range hj, Option.map_some, Option.some.injEq] at hv'
    subst hv'; exact hr j p hp
  have hB : ∀ C : Nat, xs.length + ys.length ≤ C → C ≤ maxLen → ∀ w1 v', (Builtin.append_ #[T, T] ty #[.slice A xs.length xs.length, .slice (some ad) ys.length sc]).run P w = .ok v' w1 →
      v' = .slice (some ⟨w.heap.size, 0, none⟩) (xs.length + ys.length) C → w1 = w.drew.alloc (.cells (olds ++ news ++ (Builtin.zeroCells z.cells (C - (xs.length + ys.length))).toList).toArray e) →
      ∃ v' w' κ', (Builtin.append_ #[T, T] ty #[.slice A xs.length xs.length, .slice (some ad) ys.length sc]).run P w = .ok v' w' ∧ Goes w κ w' κ' (fun _ => False) ∧ Sim w' κ' (μ ++ [some (.row sh (xs ++ ys))]) ∧ Rep w' (own κ') κ' v' (.sl sh μ.length (xs.length + ys.length)) := by
    intro C hC1 hC2 w1 v' hrun hv1 hw1
    obtain ⟨hG, hO', hR'⟩ := row_made (w := w) (κ := κ) (t := μ.length) (sh := sh) (zs := xs ++ ys) (olds := olds ++ news) (rest := (Builtin.zeroCells z.cells (C - (xs.length + ys.length))).toList) (cap := C) e hzf
      (by rw [flat_append, List.length_append, List.length_append, hol, hnl, hxlen])
      (fun j p v' hp hv' => by
        rw [flat_append] at hp
        by_cases hj : j < xs.length * sh.size
        · rw [List.getElem?_append_left (by omega)] at hp
          rw [List.getElem?_append_left (by omega)] at hv'
          exact holdr j p v' hp hv'
        · rw [List.getElem?_append_right (by omega), hxlen] at hp
          rw [List.getElem?_append_right (by omega), hol] at hv'
          exact hyr _ p v' hp hv')
      (by
        simp only [List.length_append, Array.length_toList, hol, hnl, hylen, size_zeroCells, hzs, hisz]
        rw [← Nat.add_mul, ← Nat.add_mul]; congr 1; omega) (by simpa using hC1) hC2
    have hG' := hG.weak (m' := fun _ => False) (fun i hi => absurd hS.fresh hi.2)
    subst hv1; subst hw1
    refine ⟨_, _, _, hrun, hG', hS.pushRow (by simp) (fun b hb => RowKit.Below.heap_alloc w.drew _ b hb) hG' hO', ?_⟩
    simpa using hR'
  by_cases hx : xs = []
  · subst hx
    simp only [List.length_nil, Nat.zero_add] at *
    have hol0 : olds = [] := by simp [olds]
    cases A with
    | none =>
      have hrun := run_append_nil (P := P) w T ty e i z hT.und hi hz ad ys.length sc news (by rw [hnl, hylen, hisz]) had hpos (by omega) (by rw [hib]; omega)
      refine hB (grownCap w ys.length 0 e) (grownCap_ge w ys.length 0 e) (grownCap_le_maxLen w ys.length 0 e (by omega)) _ _ hrun rfl ?_
      congr 2
      apply Array.ext'; simp [hol0]
    | some A =>
      have hrun := run_append_grow (P := P) w T ty e i z hT.und hi hz A 0 0 [] (by simp) (by simp) ad ys.length sc news (by rw [hnl, hylen, hisz]) had (by omega) (by omega) (by rw [hib]; exact growslice_fits (by omega) (by simpa using hby))
      refine hB (grownCap w (0 + ys.length) 0 e) (by simpa using grownCap_ge w (0 + ys.length) 0 e) (grownCap_le_maxLen w (0 + ys.length) 0 e (by omega)) _ _ hrun (by simp) ?_
      congr 2
      apply Array.ext'; simp [hol0]
  · have hA := ha hx
    subst hA
    have holds : ∀ j v, olds[j]? = some v → w.cell? ((⟨b, off, none⟩ : Addr).add j) = some v := by
      intro j v hv'
      have hj : j < xs.length * sh.size := by rw [← hol]; exact (List.getElem?_eq_some_iff.1 hv').1
      simp only [olds, List.getElem?_map, List.getElem?_range hj, Option.map_some, Option.some.injEq] at hv'
      rw [Addr.add_lit, (hc j (by rw [hxlen]; exact hj)).2, hv']
    have hrun := run_append_grow (P := P) w T ty e i z hT.und hi hz ⟨b, off, none⟩ xs.length xs.length olds (by rw [hol, hisz]) holds ad ys.length sc news (by rw [hnl, hylen, hisz]) had (by omega) (by omega)
      (by rw [hib]; exact growslice_fits (by omega) hby)
    refine hB (grownCap w (xs.length + ys.length) xs.length e) (grownCap_ge w _ _ e) (grownCap_le_maxLen w _ _ e hmax) _ _ hrun rfl ?_
    congr 2
    apply Array.ext'; simp

/-! ### Slices that are written out -/
theorem flat_fill {sh : Sh} : ∀ (done ps : List PV) (n : Nat), (∀ y ∈ done, fits sh y) → (∀ y ∈ ps, fits sh y) → n = done.length →
    ∀ cs : List PV, cs.length = (done.length + ps.length) * sh.size → cs.take (done.length * sh.size) = flat done →
    (∀ y ∈ ps, partOf y sh.size = some y.cells) →
    fillP cs ((List.range' n ps.length).map fun i => (i * sh.size, sh.size)) ps = flat (done ++ ps)
  | done, [], n, hd, _, hn, cs, hl, ht, _ => by
    simp [fillP] at hl ⊢
    rw [← ht, ← hl, List.take_length]
  | done, p :: ps, n, hd, hp, hn, cs, hl, ht, hpo => by
    subst hn
    have hpl := (hp p (by simp)).len
    have h1 : partOf p sh.size = some p.cells := hpo p (by simp)
    simp only [List.length_cons, List.range'_succ, List.map_cons, fillP, h1, Option.getD_some]
    have hle : done.length * sh.size + p.cells.length ≤ cs.length := by
      rw [hl, hpl]
      simp only [List.length_cons, Nat.add_mul, Nat.one_mul]; omega
    have := flat_fill (sh := sh) (done ++ [p]) ps (done.length + 1) (fun y hy => by
        rcases List.mem_append.1 hy with h | h
        · exact hd y h
        · simp at h; subst h; exact hp y (by simp))
      (fun y hy => hp y (by simp [hy])) (by simp) (setAll cs (done.length * sh.size) p.cells) (by
        rw [setAll_length _ _ _ hle, hl]; simp; congr 1; omega)
      (by
        have hlen : ((done ++ [p]).length * sh.size) = done.length * sh.size + p.cells.length := by rw [hpl]; simp [Nat.add_mul]
        rw [hlen, flat_append, ← ht]
        simp only [setAll]
        rw [List.take_append_of_le_length (by simp; omega), List.take_of_length_le (by simp; omega)]
        simp [flat])
      (fun y hy => hpo y (by simp [hy]))
    simpa using this

theorem fits_part {sh : Sh} {y : PV} (h : fits sh y) : partOf y sh.size = some y.cells := by
  cases sh with
  | none => cases y <;> simp_all [fits, PV.scalar, partOf, Sh.size, PV.cells]
  | some n => obtain ⟨cs, rfl, h, _⟩ := h; simp [partOf, Sh.size, PV.cells, h]

theorem fill_ok {sh : Sh} (len : Nat) : ∀ (ps : List PV) (n : Nat), (∀ y ∈ ps, fits sh y) → (n + ps.length) * sh.size ≤ len → fillOk len ((List.range' n ps.length).map fun i => (i * sh.size, sh.size)) ps
  | [], n, _, _ => by simp [fillOk]
  | p :: ps, n, h, hl => by
    simp only [List.length_cons, List.range'_succ, List.map_cons, fillOk]
    have h1 := fits_part (h p (by simp))
    have h2 : (n + 1) * sh.size ≤ (n + (ps.length + 1)) * sh.size := Nat.mul_le_mul_right _ (by omega)
    refine ⟨by rw [h1]; rfl, ?_, fill_ok len ps (n + 1) (fun y hy => h y (by simp [hy])) ?_⟩
    · simp only [List.length_cons] at hl
      rw [Nat.add_mul] at h2; omega
    · simp only [List.length_cons] at hl
      have : n + 1 + ps.length = n + (ps.length + 1) := by omega
      rw [this]; exact hl

/-- A slice that is written out, all its elements told in order: the world with its block. -/
theorem buildSl_run {T e : TypeId} {sh : Sh} (hT : P.underlying T = some (.slice e)) (he : shOf P e = some sh) {i : TypeInfo} {z : Value} (hi : P.info? e = some i) (hz : i.zero = some z) (hzs : z.cells.size = i.size)
    {vs : List Value} {ps : List PV} (hl : vs.length = ps.length) (hr : ∀ (i : Nat) (v : Value) (p : PV), vs[i]? = some v → ps[i]? = some p → Rep w (own κ) κ v p) (hf : ∀ y ∈ ps, fits sh y) (hpos : 0 < sh.size)
    (hbig : ps.length * sh.size ≤ 16777216) :
    ∃ arr : Array Value, (Instr.buildSlice T ps.length ((List.range ps.length).zip vs).toArray).run P w = .ok (.slice (some ⟨w.heap.size, 0, none⟩) ps.length ps.length) (w.alloc (.cells arr e)) ∧ arr.size = ps.length * sh.size ∧
      ∀ (j : Nat) (v : Value) (p : PV), arr[j]? = some v → (flat ps)[j]? = some p → Rep w (own κ) κ v p := by
  obtain ⟨hsz, -, i', hi', hisz⟩ := shOf_spec he
  rw [hi] at hi'; cases hi'
  have hzero : (zeroValue e).run P w = .ok z w := by simp [zeroValue, typeInfo, hi, hz]
  let start : Array Value := (Array.range (ps.length * sh.size)).map ((if ps.length * sh.size = 0 then #[] else z.cells)[· % (if ps.length * sh.size = 0 then #[] else z.cells).size]!)
  have hss : start.size = ps.length * sh.size := by simp [start]
  obtain ⟨arr, h1, h2, h3⟩ := fill_rep (w := w) (κ := κ) (fun i => some (i * sh.size, sh.size)) ((List.range ps.length).zip vs) ((List.range' 0 ps.length).map fun i => (i * sh.size, sh.size)) ps start (List.replicate (ps.length * sh.size) .junk)
    (by
      rw [List.range_eq_range']
      have hm : ((List.range' 0 ps.length).zip vs).map Prod.fst = List.range' 0 ps.length := List.map_fst_zip (by simp [hl])
      calc ((List.range' 0 ps.length).zip vs).map (fun x => some (x.1 * sh.size, sh.size))
          = (((List.range' 0 ps.length).zip vs).map Prod.fst).map (fun i => some (i * sh.size, sh.size)) := by simp [Function.comp_def]
        _ = _ := by rw [hm]; simp [Function.comp_def])
    (by simp [hl]) (fun k x p hx hp => by
      rw [List.getElem?_zip_eq_some] at hx
      exact hr k x.2 p hx.2 hp)
    (by simp [hss]) (fun k v p _ hp => by
      rw [List.getElem?_replicate] at hp
      split at hp <;> simp at hp
      subst hp; exact .junk v)
    (by simpa using fill_ok _ ps 0 hf (by simp))
  have hff := flat_fill (sh := sh) [] ps 0 (by simp) hf rfl (List.replicate (ps.length * sh.size) .junk) (by simp) (by simp [flat]) (fun y hy => fits_part (hf y hy))
  simp only [List.nil_append] at hff
  rw [hff] at h2 h3
  refine ⟨arr, ?_, by rw [h2, flat_length hf], h3⟩
  have hb : ¬ (16777216 < ps.length * sh.size) := by omega
  by_cases h0 : ps.length * sh.size = 0
  · simp only [start, h0, if_true] at h1
    simp [Instr.buildSlice, run_underlying hT, hsz, h0, newRow]
    simp at h1
    rw [h1]
    simp
  · simp only [start, h0, if_false] at h1
    simp [Instr.buildSlice, run_underlying hT, hsz, h0, hb, newRow, hzero]
    rw [h1]
    simp

end
end PG
