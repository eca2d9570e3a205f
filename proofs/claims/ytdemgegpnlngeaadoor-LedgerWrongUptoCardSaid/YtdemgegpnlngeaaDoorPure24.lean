/-
  The pure layer: what is read of a call's arguments where their sizes are told.
-/
import Derived.Test.YtdemgegpnlngeaaDoorPure23
import Derived.Carry
import Derived.ProofKit
namespace PG
open Go
set_option linter.unusedSimpArgs false
set_option linter.unusedVariables false
/-- A size that is handed down to parts, and what it gives of lengths. -/
structure SzOk {H : Type} (Q : Nat → Prop) (Sz : DataW H → Prop) : Prop where
  zero : Q 0
  str : ∀ l, Sz (.lit (.string l)) → Q l.length
  slice : ∀ es sp, Sz (.slice es sp) → Q es.length ∧ ∀ e ∈ es, Sz e
  agg : ∀ ps, Sz (.agg ps) → ∀ p ∈ ps, Sz p
/-- The cells of a value of a type. -/
def ShZ (P : Program) (Q : Nat → Prop) : Nat → TypeId → List PV → Prop
  | 0, _, _ => False
  | n + 1, t, ps =>
    match P.underlying t with
    | some .bool => ∃ b, ps = [.bool b]
    | some (.int k) => ∃ m, ps = [.int k m] ∧ (Lit.int k m).wf = true
    | some .string => ∃ l, ps = [.str l] ∧ l.length ≤ maxLen ∧ Q l.length
    | some (.slice e) => ∃ sh xs, shOf P e = some sh ∧ ps = [.list sh xs] ∧ xs.length ≤ maxLen ∧ Q xs.length ∧ ∀ x ∈ xs, fits sh x ∧ ShZ P Q n e x.cells
    | some (.struct fs) => ps.length = P.cellsOf t ∧ ∀ f ∈ fs.toList, ShZ P Q n f.type ((ps.drop f.offset).take (P.cellsOf f.type))
    | _ => False

/-- A value of a type: a struct as a whole. -/
def ShB (P : Program) (Q : Nat → Prop) (n : Nat) (t : TypeId) (p : PV) : Prop :=
  match P.underlying t with
  | some (.struct _) => ∃ ps, p = .agg ps ∧ ShZ P Q n t ps
  | _ => ShZ P Q n t [p]

theorem read_repZ {H : Type} {Q : Nat → Prop} {Sz : DataW H → Prop} (hZ : SzOk Q Sz) {enc : TypeId × Value → H} {P : Program} {W : World} {sp : Nat → Bool} {hd : Bool} (hl : laidOutB P = true) : ∀ (n : Nat) (t : TypeId) (fuel : Nat) (cs : List Value) (x : DataW H × List MemPlace),
    t < P.types.size → plainT P n t = true → DataW.trod enc P W 0 sp hd fuel t cs = some x → Sz x.1 →
    ∃ ps : List PV, ps.length = cs.length ∧ (∀ (j : Nat) (v : Value) (p : PV), cs[j]? = some v → ps[j]? = some p → RepC W (fun _ => False) v p) ∧ (∀ p ∈ ps, p.scalar = true) ∧ ShZ P Q n t ps
  | 0, _, _, _, _, _, h, _, _ => by simp [plainT] at h
  | n + 1, t, fuel, cs, x, ht, hp, h, hz => by
    unfold plainT at hp
    split at hp
    · rename_i hu
      obtain ⟨b, rfl, -⟩ := DataW.trod_bool hu h
      refine ⟨[.bool b], rfl, fun j v p hv hq => ?_, by simp [PV.scalar], by unfold ShZ; rw [hu]; exact ⟨b, rfl⟩⟩
      cases j <;> simp at hv hq; subst hv; subst hq; exact .bool b
    · rename_i k hu
      obtain ⟨m, rfl, -, hw⟩ := DataW.trod_int hu h
      refine ⟨[.int k m], rfl, fun j v p hv hq => ?_, by simp [PV.scalar], by unfold ShZ; rw [hu]; exact ⟨m, rfl, hw⟩⟩
      cases j <;> simp at hv hq; subst hv; subst hq; exact .int k m
    · rename_i hu
      obtain ⟨s, rfl, hxe, hs⟩ := DataW.trod_string hu h
      rw [hxe] at hz
      refine ⟨[.str s.data.toList], rfl, fun j v p hv hq => ?_, by simp [PV.scalar], by unfold ShZ; rw [hu]; exact ⟨_, rfl, by simpa using hs, hZ.str _ hz⟩⟩
      cases j <;> simp at hv hq; subst hv; subst hq; exact .str s
    · rename_i e hu
      simp only [Bool.and_eq_true, decide_eq_true_eq] at hp
      obtain ⟨⟨hsh, hpos⟩, hpe⟩ := hp
      obtain ⟨sh, hsh⟩ := Option.isSome_iff_exists.1 hsh
      have hsz := shOf_size hsh
      have het : e < P.types.size := kid_slice hl ht hu
      rcases DataW.trod_slice hu h with ⟨rfl, -⟩ | ⟨a, len, cap, elems, rest, m, rfl, rfl, hxe, hb, hlc, hcm, hel, hr, -⟩
      · refine ⟨[.list sh []], rfl, fun j v p hv hq => ?_, by simp [PV.scalar], by unfold ShZ; rw [hu]; exact ⟨sh, [], hsh, rfl, Nat.zero_le _, hZ.zero, by simp⟩⟩
        cases j <;> simp at hv hq; subst hv; subst hq
        exact .list none 0 0 sh [] 0 0 (fun _ => undef) rfl (Nat.le_refl _) (Nat.zero_le _) (by simp) (by simp) (fun j hj => by simp [flat] at hj) (fun j p hp => by simp [flat] at hp)
      · rw [hxe] at hz
        obtain ⟨hz1, hz2⟩ := hZ.slice _ _ hz
        have key : ∀ i, i < len → ∃ y : PV, fits sh y ∧ ShZ P Q n e y.cells ∧ ∀ j, j < sh.size → ∃ v p, W.cell? ((a.add (i * P.cellsOf e)).add j) = some v ∧ y.cells[j]? = some p ∧ RepC W (fun _ => False) v p := by
          intro i hi
          have h1 := hr i hi
          rw [List.getElem?_eq_getElem (by omega : i < elems.length), Option.bind_eq_some_iff] at h1
          obtain ⟨cs', hc1, hc2⟩ := h1
          obtain ⟨-, hcl, hcg⟩ := World.cells?_some hc1
          obtain ⟨ps, p1, p2, p3, p4⟩ := read_repZ hZ hl n e m cs' _ het hpe hc2 (hz2 _ (List.mem_map.2 ⟨_, List.getElem_mem (by omega), rfl⟩))
          have cells : ∀ y : PV, y.cells = ps → ∀ j, j < sh.size → ∃ v p, W.cell? ((a.add (i * P.cellsOf e)).add j) = some v ∧ y.cells[j]? = some p ∧ RepC W (fun _ => False) v p := by
            intro y hy j hj
            have hjc : j < cs'.length := by omega
            have hjp : j < ps.length := by omega
            refine ⟨cs'[j], ps[j], ?_, by rw [hy]; simp [hjp], p2 j _ _ (List.getElem?_eq_getElem hjc) (List.getElem?_eq_getElem hjp)⟩
            rw [hcg j (by omega)]; simp [hjc]
          cases hs : sh with
          | some k =>
            refine ⟨.agg ps, ⟨ps, rfl, ?_, p3⟩, p4, ?_⟩
            · rw [hs] at hsz; simp [Sh.size] at hsz; omega
            · rw [← hs]; exact cells _ rfl
          | none =>
            have h1 : ps.length = 1 := by rw [hs] at hsz; simp [Sh.size] at hsz; omega
            obtain ⟨q, rfl⟩ : ∃ q, ps = [q] := by
              match ps, h1 with
              | [q], _ => exact ⟨q, rfl⟩
            have hq := p3 q (by simp)
            have hqc : q.cells = [q] := by cases q <;> simp_all [PV.cells, PV.scalar]
            refine ⟨q, hq, by rw [hqc]; exact p4, ?_⟩
            rw [← hs]; exact cells _ hqc
        obtain ⟨xs, x1, x2⟩ := exists_list len key
        have hfit : ∀ y ∈ xs, fits sh y := fun y hy => by
          obtain ⟨i, hi⟩ := List.mem_iff_getElem?.1 hy
          exact (x2 i y hi).1
        have hfl := flat_length hfit
        have hspos : 0 < sh.size := by omega
        have hcell : ∀ j, j < (flat xs).length → ∃ v p, W.cell? ⟨a.block, a.off + j, none⟩ = some v ∧ (flat xs)[j]? = some p ∧ RepC W (fun _ => False) v p := by
          intro j hj
          have hjd : j = (j / sh.size) * sh.size + j % sh.size := by rw [Nat.mul_comm]; exact (Nat.div_add_mod _ _).symm
          have hjm : j % sh.size < sh.size := Nat.mod_lt _ hspos
          have hji : j / sh.size < xs.length := by rw [Nat.div_lt_iff_lt_mul hspos]; omega
          obtain ⟨v, p, c1, c2, c3⟩ := (x2 _ _ (List.getElem?_eq_getElem hji)).2.2 _ hjm
          refine ⟨v, p, ?_, ?_, c3⟩
          · rw [← c1]
            have hnsp : ((a.add (j / sh.size * P.cellsOf e)).add (j % sh.size)).spot = none := by
              unfold World.cell? at c1
              split at c1
              · split at c1
                · cases c1
                · rename_i hns; simpa using hns
              · cases c1
            have : ((a.add (j / sh.size * P.cellsOf e)).add (j % sh.size)) = ⟨a.block, a.off + j, none⟩ := by
              have e1 : ((a.add (j / sh.size * P.cellsOf e)).add (j % sh.size)).block = a.block := by unfold Addr.add; split <;> split <;> rfl
              have e2 : ((a.add (j / sh.size * P.cellsOf e)).add (j % sh.size)).off = a.off + j := by
                rw [← hsz]
                have ea : ∀ (b : Addr) (k : Nat), (b.add k).off = b.off + k := by
                  intro b k; unfold Addr.add; split
                  · rename_i h0; rw [h0]; rfl
                  · rfl
                rw [ea, ea]; omega
              generalize ((a.add (j / sh.size * P.cellsOf e)).add (j % sh.size)) = z at hnsp e1 e2
              obtain ⟨z1, z2, z3⟩ := z
              simp only at hnsp e1 e2
              rw [hnsp, e1, e2]
            rw [this]
          · rw [hjd, flat_get hfit _ _ _ (List.getElem?_eq_getElem hji) hjm]; exact c2
        have hch : ∀ j, ∃ v, j < (flat xs).length → W.cell? ⟨a.block, a.off + j, none⟩ = some v ∧ ∃ p, (flat xs)[j]? = some p ∧ RepC W (fun _ => False) v p := by
          intro j
          by_cases hj : j < (flat xs).length
          · obtain ⟨v, p, c1, c2, c3⟩ := hcell j hj
            exact ⟨v, fun _ => ⟨c1, p, c2, c3⟩⟩
          · exact ⟨undef, fun h => absurd h hj⟩
        have ha : xs ≠ [] → (some a : Option Addr) = some ⟨a.block, a.off, none⟩ := by
          intro hne
          have hl0 : 0 < xs.length := List.length_pos_iff.2 hne
          obtain ⟨v, p, c1, -, -⟩ := (x2 0 _ (List.getElem?_eq_getElem hl0)).2.2 0 hspos
          simp only [Nat.zero_mul, Addr.add, if_true] at c1
          have hsp : a.spot = none := by
            unfold World.cell? at c1
            split at c1
            · split at c1
              · cases c1
              · rename_i hns; simpa using hns
            · cases c1
          obtain ⟨a1, a2, a3⟩ := a
          simp only at hsp
          rw [hsp]
        refine ⟨[.list sh xs], rfl, fun j v p hv hq => ?_, by simp [PV.scalar], ?_⟩
        · cases j <;> simp at hv hq; subst hv; subst hq
          refine .list (some a) len cap sh xs a.block a.off (fun j => (hch j).choose) x1.symm hlc hcm hfit ha (fun j hj => ⟨fun h => h, ((hch j).choose_spec hj).1⟩) (fun j p hp => ?_)
          have hj := (List.getElem?_eq_some_iff.1 hp).1
          obtain ⟨p', c2, c3⟩ := ((hch j).choose_spec hj).2
          rw [hp] at c2; cases c2; exact c3
        · unfold ShZ; rw [hu]
          refine ⟨sh, xs, hsh, rfl, by omega, by rw [List.length_map] at hz1; rw [x1, ← hel]; exact hz1, fun y hy => ?_⟩
          obtain ⟨i, hi⟩ := List.mem_iff_getElem?.1 hy
          exact ⟨(x2 i y hi).1, (x2 i y hi).2.1⟩
    · rename_i fs hu
      obtain ⟨k1, k2, k3⟩ := kid_struct hl ht hu
      obtain ⟨xs, m, rfl, hxe, hcl, hxl, hf⟩ := DataW.trod_struct hu h
      rw [hxe] at hz
      have hz2 := hZ.agg _ hz
      simp only [List.all_eq_true] at hp
      have key : ∀ f ∈ fs.toList, ∃ ps : List PV, ps.length = ((cs.drop f.offset).take (P.cellsOf f.type)).length ∧ (∀ (j : Nat) (v : Value) (p : PV), ((cs.drop f.offset).take (P.cellsOf f.type))[j]? = some v → ps[j]? = some p → RepC W (fun _ => False) v p ∧ p.scalar = true) ∧ ShZ P Q n f.type ps := by
        intro f hfm
        obtain ⟨i, hi⟩ := List.mem_iff_getElem?.1 hfm
        have h1 := hf i f (by simpa using hi)
        have hsome : ∃ y, xs[i]? = some y := by
          cases hx : xs[i]? with
          | some y => exact ⟨y, rfl⟩
          | none =>
            exfalso
            have hi' := (List.getElem?_eq_some_iff.1 hi).1
            rw [List.getElem?_eq_none_iff] at hx
            simp at hi'; omega
        obtain ⟨y, hy⟩ := hsome
        rw [hy] at h1
        obtain ⟨ps, p1, p2, p3, p4⟩ := read_repZ hZ hl n f.type m _ _ (k1 f hfm) (hp f hfm) h1 (hz2 _ (List.mem_map.2 ⟨_, List.mem_of_getElem? hy, rfl⟩))
        exact ⟨ps, p1, fun j v p a b => ⟨p2 j v p a b, p3 p (List.mem_of_getElem? b)⟩, p4⟩
      obtain ⟨qs, q1, q2, q3⟩ := tile (R := fun v p => RepC W (fun _ => False) v p ∧ p.scalar = true) (S := fun f ps => ShZ P Q n f.type ps) fs.toList 0 (fun j f hj => by rw [Nat.zero_add]; exact k3 j f hj) (by rw [← k2]; omega) key
      have hql : qs.length = cs.length := by rw [q1, ← k2]; omega
      refine ⟨qs, hql, fun j v p a b => (q2 j v p (by simpa using a) b).1, fun p hp' => ?_, by unfold ShZ; rw [hu]; exact ⟨by omega, fun f hf => by simpa using q3 f hf⟩⟩
      obtain ⟨i, hi⟩ := List.mem_iff_getElem?.1 hp'
      have hil := (List.getElem?_eq_some_iff.1 hi).1
      exact (q2 i _ p (by simpa using List.getElem?_eq_getElem (by omega : i < cs.length)) hi).2
    · cases hp

/-- A value that is well formed and reads, as a pure one. -/
theorem read_argZ {H : Type} {Q : Nat → Prop} {Sz : DataW H → Prop} (hZ : SzOk Q Sz) {enc : TypeId × Value → H} {P : Program} {W : World} {sp : Nat → Bool} {hd : Bool} {base : Nat} (hl : laidOutB P = true) {n : Nat} {t : TypeId} {v : Value} {d : DataW H} {p : List MemPlace}
    (ht : t < P.types.size) (hp : plainT P n t = true) (hv : Value.okWide P W .any base t v) (h : DataW.Trod enc P W 0 sp hd t v d p) (hz : Sz d) : ∃ q, RepC W (fun _ => False) v q ∧ ShB P Q n t q := by
  obtain ⟨fuel, h⟩ := h
  obtain ⟨ps, h1, h2, -, h3⟩ := read_repZ hZ hl n t fuel _ _ ht hp h hz
  unfold ShB
  cases n with
  | zero => cases hp
  | succ n =>
  unfold Value.okWide at hv
  unfold plainT at hp
  cases hu : P.underlying t with
  | none => rw [hu] at hp; cases hp
  | some u =>
    rw [hu] at hv hp
    have one : ∀ v : Value, v.cells.toList = [v] → ps.length = v.cells.toList.length → (∀ (j : Nat) (x : Value) (p : PV), v.cells.toList[j]? = some x → ps[j]? = some p → RepC W (fun _ => False) x p) → ∃ q, ps = [q] ∧ RepC W (fun _ => False) v q := by
      intro v hc h1 h2
      rw [hc] at h1 h2
      match ps, h1, h2 with
      | [q], _, h2 => exact ⟨q, rfl, h2 0 v q rfl rfl⟩
    have fin : (∃ q, ps = [q] ∧ RepC W (fun _ => False) v q) → ∃ q, RepC W (fun _ => False) v q ∧ ShZ P Q (n + 1) t [q] := by
      rintro ⟨q, rfl, hq⟩
      exact ⟨q, hq, h3⟩
    cases u with
    | struct fs =>
      obtain ⟨cs, rfl, -, -⟩ := hv
      refine ⟨.agg ps, .agg cs ps ?_ ?_, ps, rfl, h3⟩
      · simpa [Value.cells] using h1.symm
      · simpa [Value.cells] using h2
    | _ =>
      simp only at hp
      first
        | (cases hp; done)
        | (refine fin (one v ?_ h1 h2)
           unfold Cell.okWide Cell.ok at hv
           rw [hu] at hv
           cases v <;> first | rfl | (simp at hv; done))

def ShBs (P : Program) (Q : Nat → Prop) (n : Nat) : List TypeId → List PV → Prop
  | [], [] => True
  | t :: ts, p :: ps => ShB P Q n t p ∧ ShBs P Q n ts ps
  | _, _ => False

theorem read_argsZ {H : Type} {Q : Nat → Prop} {Sz : DataW H → Prop} (hZ : SzOk Q Sz) {enc : TypeId × Value → H} {P : Program} {W : World} {sp : Nat → Bool} {hd : Bool} {base : Nat} (hl : laidOutB P = true) {n : Nat} : ∀ (ts : List TypeId) (vs : List Value) (ds : List (DataW H)) (p : List MemPlace),
    (∀ t ∈ ts, t < P.types.size ∧ plainT P n t = true) → (∀ (j : Nat) t v, ts[j]? = some t → vs[j]? = some v → Value.okWide P W .any base t v) → DataW.TrodAll enc P W 0 sp hd ts vs ds p → (∀ d ∈ ds, Sz d) →
    ∃ qs : List PV, qs.length = vs.length ∧ (∀ (i : Nat) (v : Value) (q : PV), vs[i]? = some v → qs[i]? = some q → RepC W (fun _ => False) v q) ∧ ShBs P Q n ts qs
  | [], [], _, _, _, _, _, _ => ⟨[], rfl, fun i v q h => by simp at h, trivial⟩
  | [], v :: vs, ds, _, _, _, h, _ => by cases ds <;> exact h.elim
  | t :: ts, [], ds, _, _, _, h, _ => by cases ds <;> exact h.elim
  | t :: ts, v :: vs, [], _, _, _, h, _ => h.elim
  | t :: ts, v :: vs, d :: ds, _, ht, hv, ⟨p, q, h1, h2, _⟩, hz => by
    obtain ⟨a, ha, hs⟩ := read_argZ hZ hl (ht t (by simp)).1 (ht t (by simp)).2 (hv 0 t v rfl rfl) h1 (hz d (by simp))
    obtain ⟨qs, q1, q2, q3⟩ := read_argsZ hZ hl ts vs ds q (fun t h => ht t (by simp [h])) (fun j t v a b => hv (j + 1) t v (by simpa using a) (by simpa using b)) h2 (fun d h => hz d (by simp [h]))
    refine ⟨a :: qs, by simp [q1], fun i v q hv hq => ?_, hs, q3⟩
    cases i with
    | zero => simp at hv hq; subst hv; subst hq; exact ha
    | succ i => exact q2 i v q (by simpa using hv) (by simpa using hq)

section
open Go.RowKit Go.WideShapes Go.ChangeShapes
variable {H : Type} {enc : TypeId × Value → H} {P : Program}
/-- A law by value, as its row asks for it: no package-level variable is listed. -/
theorem law_of_Z {Q : Nat → Prop} {Sz : DataW H → Prop} (hZ : SzOk Q Sz) {fn : Func} {f : Nat} {s : ChangeSpec} {apart fresh handsOn again : Bool} {G : Globs} {n : Nat} {tb : TypeId} (hl : laidOutB P = true) (hpl : (fn.params.toList.all fun t => decide (t < P.types.size) && plainT P n t && P.readableRec t) = true)
    (hvars : s.vars = []) (hs : ∀ ds : List (DataW H), ds.length = fn.params.toList.length → s.fn H ds = { results := [.lit (.bool true)], args := ds }) (hres : fn.resultTypes = #[tb]) (htb : P.underlying tb = some .bool)
    {W : World} (hG : GlobsIn W (fun _ => False) G) {base : Nat} {args : Array Value} {ds gs : List (DataW H)} {before : List MemPlace}
    (hV : ∀ ps, ShBs P Q n fn.params.toList ps → VCalls P G f ps (.bool true))
    (hval : ∀ (j : Nat) t v, fn.params[j]? = some t → args[j]? = some v → Value.okWide P W .any base t v)
    (hW : DataW.Whole enc P fn.params.toList s.vars apart W args.toList ds gs before) (hsz : ∀ d ∈ ds, Sz d) :
    Calls P f args W fun e W' => ∃ v, e = .returned v ∧ s.post enc P fn apart fresh handsOn again W args v W' := by
  simp only [List.all_eq_true, Bool.and_eq_true, decide_eq_true_eq] at hpl
  have hW0 := hW
  obtain ⟨p, q, hA, hVr, rfl, -, -⟩ := hW
  rw [hvars] at hVr
  obtain ⟨rfl, rfl⟩ := trodVars_none hVr
  obtain ⟨qs, q1, q2, q3⟩ := read_argsZ hZ hl fn.params.toList args.toList ds p (fun t h => ⟨(hpl t h).1.1, (hpl t h).1.2⟩) (fun j t v a b => hval j t v (by simpa using a) (by simpa using b)) hA hsz
  have hlen : ds.length = fn.params.toList.length := by
    have : ∀ (ts : List TypeId) (vs : List Value) (ds : List (DataW H)) (p : List MemPlace), DataW.TrodAll enc P W 0 (fun _ => true) true ts vs ds p → ds.length = ts.length := by
      intro ts
      induction ts with
      | nil => intro vs ds p h; cases vs <;> cases ds <;> first | rfl | exact h.elim
      | cons t ts ih =>
        intro vs ds p h
        cases vs <;> cases ds <;> first | exact h.elim | (obtain ⟨_, _, _, h2, _⟩ := h; simp [ih _ _ _ h2])
    exact this _ _ _ _ hA
  have hlt : ∀ x ∈ p, x.block < W.heap.size := fun x hx => hW0.lt x (by simpa using hx)
  refine (hV qs q3 W (fun _ => False) args (fun b h => h.elim) hG ⟨by simpa using q1.symm, fun i v p a b => q2 i v p (by simpa using a) b⟩).mono ?_
  rintro e W' ⟨v, rfl, hB, hr⟩
  cases hr with
  | bool b =>
  refine ⟨_, rfl, post_of_below (pa := p) (pv := []) hW0 (fun b sp hd => ?_) (fun sp hsp => ?_) (fun sp _ => ?_) rfl hB ?_⟩
  · rw [List.append_nil, hs ds hlen, hres]
    exact trodAll_mk1 (shut_bool htb _)
  · rw [List.append_nil, hs ds hlen]
    exact args_below hl hB _ _ _ _ sp (fun t h => ⟨(hpl t h).1.1, (hpl t h).2⟩) hA hlt (fun x hx => hsp x (by simpa using hx))
  · rw [hvars, List.append_nil, hs ds hlen]; rfl
  · exact ok_one hres rfl (okWide_bool_mk htb _)
end


section
variable {P : Program} {Q : Nat → Prop} {n : Nat} {t : TypeId} {ps : List PV}
theorem shZ_int {k : IntKind} (hu : P.underlying t = some (.int k)) (h : ShZ P Q (n + 1) t ps) : ∃ m, ps = [.int k m] ∧ k.min ≤ m ∧ m ≤ k.max := by
  unfold ShZ at h; rw [hu] at h
  obtain ⟨m, h1, h2⟩ := h
  simp only [Lit.wf, Bool.and_eq_true, decide_eq_true_eq] at h2
  exact ⟨m, h1, h2⟩
theorem shZ_str (hu : P.underlying t = some .string) (h : ShZ P Q (n + 1) t ps) : ∃ l, ps = [.str l] ∧ Q l.length := by
  unfold ShZ at h; rw [hu] at h
  obtain ⟨l, h1, -, h2⟩ := h
  exact ⟨l, h1, h2⟩
theorem shZ_bool (hu : P.underlying t = some .bool) (h : ShZ P Q (n + 1) t ps) : ∃ b, ps = [.bool b] := by
  unfold ShZ at h; rw [hu] at h
  exact h
theorem shZ_slice {e : TypeId} (hu : P.underlying t = some (.slice e)) (h : ShZ P Q (n + 1) t ps) : ∃ sh xs, shOf P e = some sh ∧ ps = [.list sh xs] ∧ Q xs.length ∧ ∀ x ∈ xs, fits sh x ∧ ShZ P Q n e x.cells := by
  unfold ShZ at h; rw [hu] at h
  obtain ⟨sh, xs, h1, h2, -, h3⟩ := h
  exact ⟨sh, xs, h1, h2, h3⟩
theorem shZ_struct {fs : Array Field} (hu : P.underlying t = some (.struct fs)) (h : ShZ P Q (n + 1) t ps) : ps.length = P.cellsOf t ∧ ∀ f ∈ fs.toList, ShZ P Q n f.type ((ps.drop f.offset).take (P.cellsOf f.type)) := by
  unfold ShZ at h; rw [hu] at h
  exact h
theorem shB_struct {fs : Array Field} {p : PV} (hu : P.underlying t = some (.struct fs)) (h : ShB P Q n t p) : ∃ ps, p = .agg ps ∧ ShZ P Q n t ps := by
  unfold ShB at h; rw [hu] at h; exact h
theorem shB_slice {e : TypeId} {p : PV} (hu : P.underlying t = some (.slice e)) (h : ShB P Q (n + 1) t p) : ∃ sh xs, shOf P e = some sh ∧ p = .list sh xs ∧ Q xs.length ∧ ∀ x ∈ xs, fits sh x ∧ ShZ P Q n e x.cells := by
  unfold ShB at h; rw [hu] at h
  obtain ⟨sh, xs, h1, h2, h3⟩ := shZ_slice hu h
  cases h2
  exact ⟨sh, xs, h1, rfl, h3⟩
theorem shB_int {k : IntKind} {p : PV} (hu : P.underlying t = some (.int k)) (h : ShB P Q (n + 1) t p) : ∃ m, p = .int k m ∧ k.min ≤ m ∧ m ≤ k.max := by
  unfold ShB at h; rw [hu] at h
  obtain ⟨m, h1, h2⟩ := shZ_int hu h
  cases h1; exact ⟨m, rfl, h2⟩
theorem shB_bool {p : PV} (hu : P.underlying t = some .bool) (h : ShB P Q (n + 1) t p) : ∃ b, p = .bool b := by
  unfold ShB at h; rw [hu] at h
  obtain ⟨m, h1⟩ := shZ_bool hu h
  cases h1; exact ⟨m, rfl⟩
theorem shB_str {p : PV} (hu : P.underlying t = some .string) (h : ShB P Q (n + 1) t p) : ∃ l, p = .str l ∧ Q l.length := by
  unfold ShB at h; rw [hu] at h
  obtain ⟨m, h1, h2⟩ := shZ_str hu h
  cases h1; exact ⟨m, rfl, h2⟩
end
end PG
