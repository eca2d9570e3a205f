/-
  The pure layer: what the read-only operations come to is what the model's come to.
-/
import Derived.Test.YtdemgegpnlngeaaDoorPure2
namespace PG
open Go

section
variable {P : Program} {w : World} {κ : Kap} {μ : Mem}

theorem Mem.get_some {t : Nat} {o : MObj} (h : μ.get t = some o) : μ[t]? = some (some o) := by
  unfold Mem.get at h
  cases hh : μ[t]? with
  | none => simp [hh] at h
  | some x => cases x <;> simp_all

/-- What lies behind a tag. -/
theorem Sim.at (hS : Sim w κ μ) {t : Nat} {o : MObj} (h : μ.get t = some o) : ∃ c, κ t = some c ∧ ORep w (own κ) κ c o := by
  have h' := Mem.get_some h
  cases hk : κ t with
  | none => exact absurd hk (hS.dead t o h')
  | some c =>
    obtain ⟨o', ho, hr⟩ := hS.live t c hk
    rw [h'] at ho
    cases ho
    exact ⟨c, rfl, hr⟩

/-- The cells of a variable at an address. -/
def CellsAt (w : World) (κ : Kap) (b o : Nat) (cs : List PV) : Prop :=
  ∃ val : Nat → Value, ∀ j, j < cs.length → w.cell? ⟨b, o + j, none⟩ = some (val j) ∧ ∀ q, cs[j]? = some q → Rep w (own κ) κ (val j) q

theorem shaped_len {sh : Sh} {x : PV} (h : shaped sh x) : x.cells.length = sh.size := by
  cases sh with
  | none => cases x <;> simp_all [shaped, PV.isAgg, PV.cells, Sh.size]
  | some n => obtain ⟨cs, rfl, h⟩ := h; simpa [PV.cells, Sh.size] using h

theorem fits_shaped {sh : Sh} {x : PV} (h : fits sh x) : shaped sh x := by
  cases sh with
  | none => cases x <;> simp_all [fits, shaped, PV.isAgg, PV.scalar]
  | some n => obtain ⟨cs, rfl, h, _⟩ := h; exact ⟨cs, rfl, h⟩

theorem cell?_cells {b : Nat} {arr : Array Value} {E : TypeId} {fr : Nat × Nat} (h : w.heap[b]? = some (.cells arr E fr)) (o : Nat) : w.cell? ⟨b, o, none⟩ = arr[o]? := by
  simp [World.cell?, h]

theorem behind_spec (hS : Sim w κ μ) {p : PV} {v : Value} (hv : Rep w (own κ) κ v p) {sh : Sh} {x : PV} {o : Nat} (h : behind μ p = some (sh, x, o)) :
    shaped sh x ∧ ∃ b o', v = .pointer (some ⟨b, o' + o, none⟩) ∧ CellsAt w κ b o' x.cells := by
  unfold behind at h
  split at h
  · simp at h; obtain ⟨rfl, rfl, rfl⟩ := h
    cases hv with
    | closed hv =>
      cases hv with
      | cptr b o' off sh x val hfit hoff hc hr =>
        exact ⟨fits_shaped hfit, b, o', rfl, val, fun j hj => ⟨(hc j hj).2, fun q hq => .closed (hr j q hq)⟩⟩
  · rename_i t off
    split at h
    · rename_i sh' x' hg
      simp at h; obtain ⟨rfl, rfl, rfl⟩ := h
      obtain ⟨c, hc, hO⟩ := hS.at hg
      cases hv with
      | closed hv => cases hv
      | ref t off b hb =>
        rw [hc] at hb; cases hb
        cases hO with
        | var b arr E sh x hh hs hsh hr =>
          refine ⟨hsh, b, 0, by simp, fun j => arr.getD j undef, fun j hj => ?_⟩
          have hj' : j < arr.size := by rw [hs, ← shaped_len hsh]; exact hj
          refine ⟨by rw [cell?_cells hh]; simp [hj'], fun q hq => hr j q _ hq (by simp [hj'])⟩
    · simp at h
  · rename_i t n i off
    split at h
    · rename_i sh' xs hg
      split at h
      · rename_i hn
        simp only [Option.map_eq_some_iff] at h
        obtain ⟨x', hx, h⟩ := h
        simp at h; obtain ⟨rfl, rfl, rfl⟩ := h
        obtain ⟨c, hc, hO⟩ := hS.at hg
        cases hv with
        | closed hv => cases hv
        | eptr t n i off b hb =>
          rw [hc] at hb; cases hb
          cases hO with
          | row b cur E cap sh xs hh hs hm hl hfit hr =>
            subst hn
            have hfx := hfit x' (List.mem_of_getElem? hx)
            refine ⟨fits_shaped hfx, b, i * sh'.size, rfl, fun j => cur.getD (i * sh'.size + j) undef, fun j hj => ?_⟩
            have hil : i < xs.length := by
              rcases Nat.lt_or_ge i xs.length with h' | h'
              · exact h'
              · simp [List.getElem?_eq_none h'] at hx
            have hjs : j < sh'.size := by rw [← hfx.len]; exact hj
            have hlt : i * sh'.size + j < cur.size := by
              rw [hs]
              calc i * sh'.size + j < i * sh'.size + sh'.size := by omega
                _ = (i + 1) * sh'.size := by rw [Nat.add_mul]; omega
                _ ≤ cap * sh'.size := Nat.mul_le_mul_right _ (by omega)
            refine ⟨by rw [cell?_cells hh]; simp [hlt], fun q hq => .closed (hr (i * sh'.size + j) q _ ?_ (by simp [hlt]))⟩
            rw [flat_get hfit i j x' hx hjs]; exact hq
      · simp at h
    · simp at h
  · simp at h

theorem CellsAt.same {w' : World} {b o : Nat} {cs : List PV} {val : Nat → Value} (hs : Same w w') (h : ∀ j, j < cs.length → w.cell? ⟨b, o + j, none⟩ = some (val j)) :
    ∀ j, j < cs.length → w'.cell? ⟨b, o + j, none⟩ = some (val j) := fun j hj => hs.cell (h j hj)

/-- A load of a whole variable, or of a part of it. -/
theorem load_run {T : TypeId} {sh sh' : Sh} (hT : shOf P T = some sh) {x : PV} {b o o' : Nat} (hx : shaped sh' x) (hc : CellsAt w κ b o' x.cells)
    (hok : (o = 0 ∧ sh' = sh) ∨ o + sh.size ≤ x.cells.length) :
    ∃ v, Rep w (own κ) κ v (cut sh' sh x o) ∧ ∀ w', Same w w' → (loadVar T ⟨b, o' + o, none⟩).run P w' = .ok v w' := by
  obtain ⟨hsz, hag, -⟩ := shOf_spec hT
  obtain ⟨val, hval⟩ := hc
  have hlen := shaped_len hx
  have hin : o + sh.size ≤ x.cells.length := by
    rcases hok with ⟨rfl, rfl⟩ | h
    · rw [hlen]; omega
    · exact h
  have hcell : ∀ w', Same w w' → ∀ j, j < sh.size → w'.cell? ⟨b, o' + o + j, none⟩ = some (val (o + j)) := by
    intro w' hs j hj
    have := hs.cell (hval (o + j) (by omega)).1
    rwa [← Nat.add_assoc] at this
  cases sh with
  | none =>
    refine ⟨val o, ?_, fun w' hs => ?_⟩
    · unfold cut
      split
      · rename_i h
        obtain ⟨rfl, rfl⟩ := h
        have hxa : x.cells = [x] := by cases x <;> simp_all [shaped, PV.isAgg, PV.cells]
        exact (hval 0 (by rw [hxa]; simp)).2 x (by rw [hxa]; simp)
      · simp only [sub]
        have ho : o < x.cells.length := by simp [Sh.size] at hin; omega
        rw [List.getElem?_eq_getElem ho]
        exact (hval o ho).2 _ (List.getElem?_eq_getElem ho)
    · have := hcell w' hs 0 (by simp [Sh.size])
      simp only [Nat.add_zero] at this
      simp [loadVar, hag, this]
  | some n =>
    have hrun : ∀ w', Same w w' → (loadVar T ⟨b, o' + o, none⟩).run P w' = .ok (.agg ((List.range n).map fun j => val (o + j)).toArray) w' := by
      intro w' hs
      have hl := run_loadCells (P := P) w' ⟨b, o' + o, none⟩ n (fun j => val (o + j)) (fun j hj => by
        rw [Addr.add_lit]; exact hcell w' hs j hj)
      simp [loadVar, hag, hsz, Sh.size, hl]
    refine ⟨_, ?_, hrun⟩
    have hsub : Rep w (own κ) κ (.agg ((List.range n).map fun j => val (o + j)).toArray) (.agg ((x.cells.drop o).take n)) := by
      refine .agg _ _ (by simp [Sh.size] at hin ⊢; omega) (fun i v p hi hp => ?_)
      have hi' : i < n := by
        rcases Nat.lt_or_ge i n with h' | h'
        · exact h'
        · simp [h'] at hi
      simp [hi'] at hi; subst hi
      rw [List.getElem?_take_of_lt hi', List.getElem?_drop] at hp
      exact (hval (o + i) (by simp [Sh.size] at hin; omega)).2 p hp
    unfold cut
    split
    · rename_i h
      obtain ⟨rfl, rfl⟩ := h
      obtain ⟨cs, rfl, hcs⟩ := hx
      simp only [PV.cells, List.drop_zero] at hsub
      rwa [List.take_of_length_le (by omega)] at hsub
    · exact hsub


theorem sub_rep {vs : Array Value} {ps : List PV} (hs : vs.size = ps.length) (hr : ∀ (i : Nat) (v : Value) (p : PV), vs[i]? = some v → ps[i]? = some p → Rep w (own κ) κ v p)
    {T : TypeId} {sh : Sh} (hT : shOf P T = some sh) {off : Nat} (hok : off + sh.size ≤ ps.length) :
    ∃ v, Rep w (own κ) κ v (sub sh ps off) ∧ ∀ w', (part T vs off).run P w' = .ok v w' := by
  obtain ⟨hsz, hag, -⟩ := shOf_spec hT
  cases sh with
  | none =>
    have h1 : off < vs.size := by simp [Sh.size] at hok; omega
    have h2 : off < ps.length := by omega
    refine ⟨vs[off], ?_, fun w' => ?_⟩
    · simp only [sub, List.getElem?_eq_getElem h2]
      exact hr off _ _ (Array.getElem?_eq_getElem h1) (List.getElem?_eq_getElem h2)
    · simp [part, hag, h1]
  | some n =>
    simp only [Sh.size] at hok hsz
    refine ⟨.agg (vs.extract off (off + n)), ?_, fun w' => ?_⟩
    · refine .agg _ _ (by simp; omega) (fun i v p hv hp => ?_)
      have hi : i < n := by
        rcases Nat.lt_or_ge i n with h | h
        · exact h
        · rw [List.getElem?_eq_none (by simp; omega)] at hp; cases hp
      rw [List.getElem?_take_of_lt hi, List.getElem?_drop] at hp
      refine hr (off + i) v p ?_ hp
      rw [Array.getElem?_extract] at hv
      split at hv
      · exact hv
      · cases hv
    · simp [part, hag, hsz]

theorem rep_agg {v : Value} {ps : List PV} (h : Rep w (own κ) κ v (.agg ps)) :
    ∃ vs, v = .agg vs ∧ vs.size = ps.length ∧ ∀ (i : Nat) (v : Value) (p : PV), vs[i]? = some v → ps[i]? = some p → Rep w (own κ) κ v p := by
  cases h with
  | agg vs ps hs hr => exact ⟨vs, rfl, hs, hr⟩
  | closed h => cases h with | agg vs ps hs hr => exact ⟨vs, rfl, hs, fun i v p a b => .closed (hr i v p a b)⟩

theorem rep_tup {v : Value} {ps : List PV} (h : Rep w (own κ) κ v (.tup ps)) :
    ∃ vs, v = .tuple vs ∧ vs.size = ps.length ∧ ∀ (i : Nat) (v : Value) (p : PV), vs[i]? = some v → ps[i]? = some p → Rep w (own κ) κ v p := by
  cases h with
  | tup vs ps hs hr => exact ⟨vs, rfl, hs, hr⟩
  | closed h => cases h with | tup vs ps hs hr => exact ⟨vs, rfl, hs, fun i v p a b => .closed (hr i v p a b)⟩

/-- A value whose cells are known has as many. -/
theorem rep_part {v : Value} {p : PV} {size : Nat} {cs : List PV} (h : Rep w (own κ) κ v p) (hp : partOf p size = some cs) :
    v.cells.size = size ∧ cs.length = size ∧ ∀ (i : Nat) (u : Value) (q : PV), v.cells[i]? = some u → cs[i]? = some q → Rep w (own κ) κ u q := by
  unfold partOf at hp
  split at hp
  · split at hp
    · rename_i hl
      simp at hp; subst hp
      obtain ⟨vs, rfl, hs, hr⟩ := rep_agg h
      exact ⟨by simp [Value.cells, hs, hl], hl, hr⟩
    · simp at hp
  · split at hp
    · rename_i hna hc
      simp at hp; subst hp
      obtain ⟨hsc, rfl⟩ := hc
      have hva : v.cells = #[v] := by
        cases h with
        | junk v => simp [PV.scalar] at hsc
        | closed h => cases h <;> first | rfl | simp [PV.scalar] at hsc
        | agg => simp [PV.scalar] at hsc
        | cond => simp [PV.scalar] at hsc
        | _ => rfl
      refine ⟨by rw [hva]; rfl, rfl, fun i u q hu hq => ?_⟩
      rw [hva] at hu
      cases i with
      | zero => simp at hu hq; subst hu; subst hq; exact h
      | succ i => simp at hq
    · simp at hp

theorem foldl_set (vs : List Value) : ∀ (arr : Array Value) (off k0 : Nat), off + k0 + vs.length ≤ arr.size →
    let r := (vs.zipIdx k0).foldl (fun cs (c, j) => cs.setIfInBounds (off + j) c) arr
    r.size = arr.size ∧ ∀ i, r[i]? = if off + k0 ≤ i ∧ i < off + k0 + vs.length then vs[i - (off + k0)]? else arr[i]? := by
  induction vs with
  | nil => intro arr off k0 _; simp; intro i h1 h2; omega
  | cons v vs ih =>
    intro arr off k0 hle
    simp only [List.zipIdx_cons, List.foldl_cons, List.length_cons] at hle ⊢
    obtain ⟨h1, h2⟩ := ih (arr.setIfInBounds (off + k0) v) off (k0 + 1) (by simp; omega)
    refine ⟨by rw [h1]; simp, fun i => ?_⟩
    rw [h2]
    by_cases hi : i = off + k0
    · subst hi
      rw [if_neg (by omega), if_pos (by omega)]
      simp [Array.getElem?_setIfInBounds]; omega
    · have e1 : (arr.setIfInBounds (off + k0) v)[i]? = arr[i]? := by rw [Array.getElem?_setIfInBounds, if_neg (fun h => hi h.symm)]
      rw [e1]
      by_cases hc : off + (k0 + 1) ≤ i ∧ i < off + (k0 + 1) + vs.length
      · rw [if_pos hc, if_pos (by omega)]
        obtain ⟨d, hd⟩ : ∃ d, i - (off + k0) = d + 1 := ⟨i - (off + k0) - 1, by omega⟩
        rw [hd, List.getElem?_cons_succ]
        congr 1; omega
      · rw [if_neg hc, if_neg (by omega)]

theorem setAll_get (cs new : List PV) (off i : Nat) (h : off + new.length ≤ cs.length) :
    (setAll cs off new)[i]? = if off ≤ i ∧ i < off + new.length then new[i - off]? else cs[i]? := by
  unfold setAll
  rw [List.append_assoc]
  by_cases h1 : i < off
  · rw [List.getElem?_append_left (by simp; omega), if_neg (by omega), List.getElem?_take_of_lt h1]
  · rw [List.getElem?_append_right (by simp; omega)]
    simp only [List.length_take, Nat.min_eq_left (show off ≤ cs.length by omega)]
    by_cases h2 : i < off + new.length
    · rw [if_pos (by omega), List.getElem?_append_left (by omega)]
    · rw [if_neg (by omega), List.getElem?_append_right (by omega), List.getElem?_drop]
      congr 1; omega

theorem setAll_length (cs new : List PV) (off : Nat) (h : off + new.length ≤ cs.length) : (setAll cs off new).length = cs.length := by
  simp [setAll]; omega

/-- The model's filling of cells, part by part. -/
theorem fill_rep (place : Nat → Option (Nat × Nat)) : ∀ (parts : List (Nat × Value)) (offs : List (Nat × Nat)) (ps : List PV) (arr : Array Value) (cs : List PV),
    parts.map (fun x => place x.1) = offs.map some → parts.length = ps.length →
    (∀ (i : Nat) (x : Nat × Value) (p : PV), parts[i]? = some x → ps[i]? = some p → Rep w (own κ) κ x.2 p) →
    arr.size = cs.length → (∀ (i : Nat) (v : Value) (p : PV), arr[i]? = some v → cs[i]? = some p → Rep w (own κ) κ v p) →
    fillOk cs.length offs ps →
    ∃ arr', Instr.fill place arr parts = some arr' ∧ arr'.size = (fillP cs offs ps).length ∧ ∀ (i : Nat) (v : Value) (p : PV), arr'[i]? = some v → (fillP cs offs ps)[i]? = some p → Rep w (own κ) κ v p
  | [], offs, ps, arr, cs, hm, hl, hp, hs, hr, hok => by
    cases offs with
    | nil => cases ps with
      | nil => exact ⟨arr, rfl, by simpa [fillP] using hs, by simpa [fillP] using hr⟩
      | cons => simp at hl
    | cons => simp at hm
  | x :: parts, offs, ps, arr, cs, hm, hl, hp, hs, hr, hok => by
    cases offs with
    | nil => simp at hm
    | cons o offs =>
      cases ps with
      | nil => simp at hl
      | cons p ps =>
        obtain ⟨off, size⟩ := o
        simp only [List.map_cons, List.cons.injEq] at hm
        simp only [List.length_cons, Nat.add_right_cancel_iff] at hl
        obtain ⟨hp1, hp2, hp3⟩ := hok
        obtain ⟨new, hnew⟩ := Option.isSome_iff_exists.1 hp1
        have h0 : Rep w (own κ) κ x.2 p := hp 0 x p (by simp) (by simp)
        obtain ⟨hc1, hc2, hc3⟩ := rep_part h0 hnew
        have hfs := foldl_set x.2.cells.toList arr off 0 (by simp [hc1, hs]; omega)
        simp only [Nat.add_zero, Array.length_toList, hc1] at hfs
        have hfold : x.2.cells.zipIdx.foldl (fun cs (c, j) => cs.setIfInBounds (off + j) c) arr = (x.2.cells.toList.zipIdx 0).foldl (fun cs (c, j) => cs.setIfInBounds (off + j) c) arr := by
          rw [← Array.foldl_toList]; simp
        have hlen' := setAll_length cs new off (by omega)
        have := fill_rep place parts offs ps ((x.2.cells.toList.zipIdx 0).foldl (fun cs (c, j) => cs.setIfInBounds (off + j) c) arr) (setAll cs off new) hm.2 hl
          (fun i x p a b => hp (i + 1) x p (by simpa using a) (by simpa using b)) (by rw [hfs.1, hlen', hs]) (fun i v q hv hq => by
            rw [hfs.2] at hv
            rw [setAll_get _ _ _ _ (by omega), hc2] at hq
            split at hq
            · rename_i hin
              rw [if_pos hin] at hv
              exact hc3 _ v q (by simpa using hv) hq
            · rename_i hin
              rw [if_neg hin] at hv
              exact hr i v q hv hq) (by rw [hlen']; exact hp3)
        obtain ⟨arr', h1, h2, h3⟩ := this
        refine ⟨arr', ?_, ?_, ?_⟩
        · obtain ⟨i, v⟩ := x
          simp only [Instr.fill, hm.1]
          rw [if_neg (by simp [hc1, hs]; omega), hfold]
          exact h1
        · simpa [fillP, hnew] using h2
        · simpa [fillP, hnew] using h3

end
end PG
