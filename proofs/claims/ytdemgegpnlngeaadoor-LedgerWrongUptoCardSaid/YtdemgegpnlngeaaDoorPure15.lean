/-
  The pure layer: what is read of a call's arguments, and how a law's row follows from a call by value.
-/
import Derived.Test.YtdemgegpnlngeaaDoorPure14
import Derived.Carry
import Derived.ProofKit
namespace PG
open Go

def plainT (P : Program) : Nat → TypeId → Bool
  | 0, _ => false
  | n + 1, t =>
    match P.underlying t with
    | some .bool | some (.int _) | some .string => true
    | some (.slice e) => (shOf P e).isSome && decide (0 < P.cellsOf e) && plainT P n e
    | some (.struct fs) => fs.toList.all fun f => plainT P n f.type
    | _ => false

/-- The cells of a value of a type. -/
def ShC (P : Program) : Nat → TypeId → List PV → Prop
  | 0, _, _ => False
  | n + 1, t, ps =>
    match P.underlying t with
    | some .bool => ∃ b, ps = [.bool b]
    | some (.int k) => ∃ m, ps = [.int k m] ∧ (Lit.int k m).wf = true
    | some .string => ∃ l, ps = [.str l] ∧ l.length ≤ maxLen
    | some (.slice e) => ∃ sh xs, shOf P e = some sh ∧ ps = [.list sh xs] ∧ xs.length ≤ maxLen ∧ ∀ x ∈ xs, fits sh x ∧ ShC P n e x.cells
    | some (.struct fs) => ps.length = P.cellsOf t ∧ ∀ f ∈ fs.toList, ShC P n f.type ((ps.drop f.offset).take (P.cellsOf f.type))
    | _ => False

/-- A value of a type: a struct as a whole. -/
def ShA (P : Program) (n : Nat) (t : TypeId) (p : PV) : Prop :=
  match P.underlying t with
  | some (.struct _) => ∃ ps, p = .agg ps ∧ ShC P n t ps
  | _ => ShC P n t [p]

theorem tile {R : Value → PV → Prop} {P : Program} {S : Field → List PV → Prop} {cs : List Value} : ∀ (fs : List Field) (o : Nat),
    (∀ (j : Nat) f, fs[j]? = some f → f.offset = o + ((fs.take j).map fun f => P.cellsOf f.type).sum) → o + (fs.map fun f => P.cellsOf f.type).sum ≤ cs.length →
    (∀ f ∈ fs, ∃ ps : List PV, ps.length = ((cs.drop f.offset).take (P.cellsOf f.type)).length ∧ (∀ (j : Nat) (v : Value) (p : PV), ((cs.drop f.offset).take (P.cellsOf f.type))[j]? = some v → ps[j]? = some p → R v p) ∧ S f ps) →
    ∃ qs : List PV, qs.length = (fs.map fun f => P.cellsOf f.type).sum ∧ (∀ (j : Nat) (v : Value) (p : PV), (cs.drop o)[j]? = some v → qs[j]? = some p → R v p) ∧ ∀ f ∈ fs, S f ((qs.drop (f.offset - o)).take (P.cellsOf f.type)) := by
  intro fs
  induction fs with
  | nil => intro o _ _ _; exact ⟨[], rfl, fun j v p _ h => by simp at h, fun f h => by cases h⟩
  | cons f fs ih =>
    intro o ho hl hf
    have hof : f.offset = o := by have := ho 0 f rfl; simpa using this
    obtain ⟨ps, h1, h2, h3⟩ := hf f (by simp)
    simp only [List.map_cons, List.sum_cons] at hl
    have hpl : ps.length = P.cellsOf f.type := by rw [h1, hof]; simp; omega
    obtain ⟨qs, q1, q2, q3⟩ := ih (o + P.cellsOf f.type) (fun j g hj => by have := ho (j + 1) g (by simpa using hj); simp only [List.take_succ_cons, List.map_cons, List.sum_cons] at this; rw [this, Nat.add_assoc]) (by omega) (fun g hg => hf g (by simp [hg]))
    have hoge : ∀ g ∈ fs, o + P.cellsOf f.type ≤ g.offset := by
      intro g hg
      obtain ⟨j, hj⟩ := List.mem_iff_getElem?.1 hg
      have := ho (j + 1) g (by simpa using hj)
      simp at this; omega
    refine ⟨ps ++ qs, by simp [hpl, q1], fun j v p hv hp => ?_, fun g hg => ?_⟩
    · rcases Nat.lt_or_ge j ps.length with hj | hj
      · rw [List.getElem?_append_left hj] at hp
        refine h2 j v p ?_ hp
        rw [hof, List.getElem?_take_of_lt (by omega)]; exact hv
      · rw [List.getElem?_append_right hj] at hp
        refine q2 (j - ps.length) v p ?_ hp
        rw [List.getElem?_drop] at hv ⊢
        rw [← hv]; congr 1; omega
    · rcases List.mem_cons.1 hg with rfl | hg
      · rw [hof, Nat.sub_self, List.drop_zero, List.take_append_of_le_length (by omega), List.take_of_length_le (by omega)]; exact h3
      · have h4 := hoge g hg
        have := q3 g hg
        rw [List.drop_append, List.drop_eq_nil_of_le (by omega), List.nil_append, hpl, show g.offset - o - P.cellsOf f.type = g.offset - (o + P.cellsOf f.type) by omega]
        exact this

theorem shOf_size {P : Program} {t : TypeId} {sh : Sh} (h : shOf P t = some sh) : sh.size = P.cellsOf t := by
  obtain ⟨-, -, i, h1, h2⟩ := shOf_spec h
  simp [Program.cellsOf, h1, h2]
theorem shOf_struct {P : Program} {t : TypeId} {fs : Array Field} {sh : Sh} (h : shOf P t = some sh) (hu : P.underlying t = some (.struct fs)) : sh = some (P.cellsOf t) := by
  have h1 := shOf_size h
  cases hi : P.info? t with
  | none => unfold shOf at h; rw [hu, hi] at h; cases h
  | some i =>
    unfold shOf at h; rw [hu, hi] at h
    simp only [Option.some.injEq] at h
    subst h; simp only [Sh.size] at h1; rw [h1]

theorem exists_list {Q : Nat → PV → Prop} : ∀ n, (∀ i, i < n → ∃ x, Q i x) → ∃ xs : List PV, xs.length = n ∧ ∀ (i : Nat) x, xs[i]? = some x → Q i x
  | 0, _ => ⟨[], rfl, fun i x h => by simp at h⟩
  | n + 1, h => by
    obtain ⟨xs, h1, h2⟩ := exists_list n (fun i hi => h i (by omega))
    obtain ⟨x, hx⟩ := h n (by omega)
    refine ⟨xs ++ [x], by simp [h1], fun i y hy => ?_⟩
    rcases Nat.lt_or_ge i xs.length with hi | hi
    · rw [List.getElem?_append_left hi] at hy; exact h2 i y hy
    · rw [List.getElem?_append_right hi] at hy
      have : i - xs.length = 0 := by
        have := (List.getElem?_eq_some_iff.1 hy).1
        simp at this; omega
      rw [this] at hy; simp at hy; subst hy
      rw [show i = n by omega]; exact hx

theorem read_repC {H : Type} {enc : TypeId × Value → H} {P : Program} {W : World} {sp : Nat → Bool} {hd : Bool} (hl : laidOutB P = true) : ∀ (n : Nat) (t : TypeId) (fuel : Nat) (cs : List Value) (x : DataW H × List MemPlace),
    t < P.types.size → plainT P n t = true → DataW.trod enc P W 0 sp hd fuel t cs = some x →
    ∃ ps : List PV, ps.length = cs.length ∧ (∀ (j : Nat) (v : Value) (p : PV), cs[j]? = some v → ps[j]? = some p → RepC W (fun _ => False) v p) ∧ (∀ p ∈ ps, p.scalar = true) ∧ ShC P n t ps
  | 0, _, _, _, _, _, h, _ => by simp [plainT] at h
  | n + 1, t, fuel, cs, x, ht, hp, h => by
    unfold plainT at hp
    split at hp
    · rename_i hu
      obtain ⟨b, rfl, -⟩ := DataW.trod_bool hu h
      refine ⟨[.bool b], rfl, fun j v p hv hq => ?_, by simp [PV.scalar], by unfold ShC; rw [hu]; exact ⟨b, rfl⟩⟩
      cases j <;> simp at hv hq; subst hv; subst hq; exact .bool b
    · rename_i k hu
      obtain ⟨m, rfl, -, hw⟩ := DataW.trod_int hu h
      refine ⟨[.int k m], rfl, fun j v p hv hq => ?_, by simp [PV.scalar], by unfold ShC; rw [hu]; exact ⟨m, rfl, hw⟩⟩
      cases j <;> simp at hv hq; subst hv; subst hq; exact .int k m
    · rename_i hu
      obtain ⟨s, rfl, -, hs⟩ := DataW.trod_string hu h
      refine ⟨[.str s.data.toList], rfl, fun j v p hv hq => ?_, by simp [PV.scalar], by unfold ShC; rw [hu]; exact ⟨_, rfl, by simpa using hs⟩⟩
      cases j <;> simp at hv hq; subst hv; subst hq; exact .str s
    · rename_i e hu
      simp only [Bool.and_eq_true, decide_eq_true_eq] at hp
      obtain ⟨⟨hsh, hpos⟩, hpe⟩ := hp
      obtain ⟨sh, hsh⟩ := Option.isSome_iff_exists.1 hsh
      have hsz := shOf_size hsh
      have het : e < P.types.size := kid_slice hl ht hu
      rcases DataW.trod_slice hu h with ⟨rfl, -⟩ | ⟨a, len, cap, elems, rest, m, rfl, rfl, -, hb, hlc, hcm, hel, hr, -⟩
      · refine ⟨[.list sh []], rfl, fun j v p hv hq => ?_, by simp [PV.scalar], by unfold ShC; rw [hu]; exact ⟨sh, [], hsh, rfl, Nat.zero_le _, by simp⟩⟩
        cases j <;> simp at hv hq; subst hv; subst hq
        exact .list none 0 0 sh [] 0 0 (fun _ => undef) rfl (Nat.le_refl _) (Nat.zero_le _) (by simp) (by simp) (fun j hj => by simp [flat] at hj) (fun j p hp => by simp [flat] at hp)
      · have key : ∀ i, i < len → ∃ y : PV, fits sh y ∧ ShC P n e y.cells ∧ ∀ j, j < sh.size → ∃ v p, W.cell? ((a.add (i * P.cellsOf e)).add j) = some v ∧ y.cells[j]? = some p ∧ RepC W (fun _ => False) v p := by
          intro i hi
          have h1 := hr i hi
          rw [List.getElem?_eq_getElem (by omega : i < elems.length), Option.bind_eq_some_iff] at h1
          obtain ⟨cs', hc1, hc2⟩ := h1
          obtain ⟨-, hcl, hcg⟩ := World.cells?_some hc1
          obtain ⟨ps, p1, p2, p3, p4⟩ := read_repC hl n e m cs' _ het hpe hc2
          have cells : ∀ y : PV, y.cells = ps → ∀ j, j < sh.size → ∃ v p, W.cell? ((a.add (i * P.cellsOf e)).add j) = some v ∧ y.cells[j]? = some p ∧ RepC W (fun _ => False) v p := by
            intro y hy j hj
            have hjc : j < cs'.length := by omega
            have hjp : j < ps.length := by omega
            refine ⟨cs'[j], ps[j], ?_, by rw [hy]; simp [hjp], p2 j _ _ (List.getElem?_eq_getElem hjc) (List.getElem?_eq_getElem hjp)⟩
            rw [hcg j (by omega)]; simp [hjc]
          cases hs : sh with
          | some k =>
            refine ⟨.agg ps, ⟨ps, rfl, ?_, p3⟩, p4, ?_⟩
            · rw [hs] at hsz; simp [Sh.size] at hsz; omega
            · rw [← hs]; exact cells _ rfl
          | none =>
            have h1 : ps.length = 1 := by rw [hs] at hsz; simp [Sh.size] at hsz; omega
            obtain ⟨q, rfl⟩ : ∃ q, ps = [q] := by
              match ps, h1 with
              | [q], _ => exact ⟨q, rfl⟩
            have hq := p3 q (by simp)
            have hqc : q.cells = [q] := by cases q <;> simp_all [PV.cells, PV.scalar]
            refine ⟨q, hq, by rw [hqc]; exact p4, ?_⟩
            rw [← hs]; exact cells _ hqc
        obtain ⟨xs, x1, x2⟩ := exists_list len key
        have hfit : ∀ y ∈ xs, fits sh y := fun y hy => by
          obtain ⟨i, hi⟩ := List.mem_iff_getElem?.1 hy
          exact (x2 i y hi).1
        have hfl := flat_length hfit
        have hspos : 0 < sh.size := by omega
        have hcell : ∀ j, j < (flat xs).length → ∃ v p, W.cell? ⟨a.block, a.off + j, none⟩ = some v ∧ (flat xs)[j]? = some p ∧ RepC W (fun _ => False) v p := by
          intro j hj
          have hjd : j = (j / sh.size) * sh.size + j % sh.size := by rw [Nat.mul_comm]; exact (Nat.div_add_mod _ _).symm
          have hjm : j % sh.size < sh.size := Nat.mod_lt _ hspos
          have hji : j / sh.size < xs.length := by rw [Nat.div_lt_iff_lt_mul hspos]; omega
          obtain ⟨v, p, c1, c2, c3⟩ := (x2 _ _ (List.getElem?_eq_getElem hji)).2.2 _ hjm
          refine ⟨v, p, ?_, ?_, c3⟩
          · rw [← c1]
            have hnsp : ((a.add (j / sh.size * P.cellsOf e)).add (j % sh.size)).spot = none := by
              unfold World.cell? at c1
              split at c1
              · split at c1
                · cases c1
                · rename_i hns; simpa using hns
              · cases c1
            have : ((a.add (j / sh.size * P.cellsOf e)).add (j % sh.size)) = ⟨a.block, a.off + j, none⟩ := by
              have e1 : ((a.add (j / sh.size * P.cellsOf e)).add (j % sh.size)).block = a.block := by unfold Addr.add; split <;> split <;> rfl
              have e2 : ((a.add (j / sh.size * P.cellsOf e)).add (j % sh.size)).off = a.off + j := by
                rw [← hsz]
                have ea : ∀ (b : Addr) (k : Nat), (b.add k).off = b.off + k := by
                  intro b k; unfold Addr.add; split
                  · rename_i h0; rw [h0]; rfl
                  · rfl
                rw [ea, ea]; omega
              generalize ((a.add (j / sh.size * P.cellsOf e)).add (j % sh.size)) = z at hnsp e1 e2
              obtain ⟨z1, z2, z3⟩ := z
              simp only at hnsp e1 e2
              rw [hnsp, e1, e2]
            rw [this]
          · rw [hjd, flat_get hfit _ _ _ (List.getElem?_eq_getElem hji) hjm]; exact c2
        have hch : ∀ j, ∃ v, j < (flat xs).length → W.cell? ⟨a.block, a.off + j, none⟩ = some v ∧ ∃ p, (flat xs)[j]? = some p ∧ RepC W (fun _ => False) v p := by
          intro j
          by_cases hj : j < (flat xs).length
          · obtain ⟨v, p, c1, c2, c3⟩ := hcell j hj
            exact ⟨v, fun _ => ⟨c1, p, c2, c3⟩⟩
          · exact ⟨undef, fun h => absurd h hj⟩
        have ha : xs ≠ [] → (some a : Option Addr) = some ⟨a.block, a.off, none⟩ := by
          intro hne
          have hl0 : 0 < xs.length := List.length_pos_iff.2 hne
          obtain ⟨v, p, c1, -, -⟩ := (x2 0 _ (List.getElem?_eq_getElem hl0)).2.2 0 hspos
          simp only [Nat.zero_mul, Addr.add, if_true] at c1
          have hsp : a.spot = none := by
            unfold World.cell? at c1
            split at c1
            · split at c1
              · cases c1
              · rename_i hns; simpa using hns
            · cases c1
          obtain ⟨a1, a2, a3⟩ := a
          simp only at hsp
          rw [hsp]
        refine ⟨[.list sh xs], rfl, fun j v p hv hq => ?_, by simp [PV.scalar], ?_⟩
        · cases j <;> simp at hv hq; subst hv; subst hq
          refine .list (some a) len cap sh xs a.block a.off (fun j => (hch j).choose) x1.symm hlc hcm hfit ha (fun j hj => ⟨fun h => h, ((hch j).choose_spec hj).1⟩) (fun j p hp => ?_)
          have hj := (List.getElem?_eq_some_iff.1 hp).1
          obtain ⟨p', c2, c3⟩ := ((hch j).choose_spec hj).2
          rw [hp] at c2; cases c2; exact c3
        · unfold ShC; rw [hu]
          refine ⟨sh, xs, hsh, rfl, by omega, fun y hy => ?_⟩
          obtain ⟨i, hi⟩ := List.mem_iff_getElem?.1 hy
          exact ⟨(x2 i y hi).1, (x2 i y hi).2.1⟩
    · rename_i fs hu
      obtain ⟨k1, k2, k3⟩ := kid_struct hl ht hu
      obtain ⟨xs, m, rfl, -, hcl, hxl, hf⟩ := DataW.trod_struct hu h
      simp only [List.all_eq_true] at hp
      have key : ∀ f ∈ fs.toList, ∃ ps : List PV, ps.length = ((cs.drop f.offset).take (P.cellsOf f.type)).length ∧ (∀ (j : Nat) (v : Value) (p : PV), ((cs.drop f.offset).take (P.cellsOf f.type))[j]? = some v → ps[j]? = some p → RepC W (fun _ => False) v p ∧ p.scalar = true) ∧ ShC P n f.type ps := by
        intro f hfm
        obtain ⟨i, hi⟩ := List.mem_iff_getElem?.1 hfm
        have h1 := hf i f (by simpa using hi)
        have hsome : ∃ y, xs[i]? = some y := by
          cases hx : xs[i]? with
          | some y => exact ⟨y, rfl⟩
          | none =>
            exfalso
            have hi' := (List.getElem?_eq_some_iff.1 hi).1
            rw [List.getElem?_eq_none_iff] at hx
            simp at hi'; omega
        obtain ⟨y, hy⟩ := hsome
        rw [hy] at h1
        obtain ⟨ps, p1, p2, p3, p4⟩ := read_repC hl n f.type m _ _ (k1 f hfm) (hp f hfm) h1
        exact ⟨ps, p1, fun j v p a b => ⟨p2 j v p a b, p3 p (List.mem_of_getElem? b)⟩, p4⟩
      obtain ⟨qs, q1, q2, q3⟩ := tile (R := fun v p => RepC W (fun _ => False) v p ∧ p.scalar = true) (S := fun f ps => ShC P n f.type ps) fs.toList 0 (fun j f hj => by rw [Nat.zero_add]; exact k3 j f hj) (by rw [← k2]; omega) key
      have hql : qs.length = cs.length := by rw [q1, ← k2]; omega
      refine ⟨qs, hql, fun j v p a b => (q2 j v p (by simpa using a) b).1, fun p hp' => ?_, by unfold ShC; rw [hu]; exact ⟨by omega, fun f hf => by simpa using q3 f hf⟩⟩
      obtain ⟨i, hi⟩ := List.mem_iff_getElem?.1 hp'
      have hil := (List.getElem?_eq_some_iff.1 hi).1
      exact (q2 i _ p (by simpa using List.getElem?_eq_getElem (by omega : i < cs.length)) hi).2
    · cases hp

/-- A value that is well formed and reads, as a pure one. -/
theorem read_arg {H : Type} {enc : TypeId × Value → H} {P : Program} {W : World} {sp : Nat → Bool} {hd : Bool} {base : Nat} (hl : laidOutB P = true) {n : Nat} {t : TypeId} {v : Value} {d : DataW H} {p : List MemPlace}
    (ht : t < P.types.size) (hp : plainT P n t = true) (hv : Value.okWide P W .any base t v) (h : DataW.Trod enc P W 0 sp hd t v d p) : ∃ q, RepC W (fun _ => False) v q ∧ ShA P n t q := by
  obtain ⟨fuel, h⟩ := h
  obtain ⟨ps, h1, h2, -, h3⟩ := read_repC hl n t fuel _ _ ht hp h
  unfold ShA
  cases n with
  | zero => cases hp
  | succ n =>
  unfold Value.okWide at hv
  unfold plainT at hp
  cases hu : P.underlying t with
  | none => rw [hu] at hp; cases hp
  | some u =>
    rw [hu] at hv hp
    have one : ∀ v : Value, v.cells.toList = [v] → ps.length = v.cells.toList.length → (∀ (j : Nat) (x : Value) (p : PV), v.cells.toList[j]? = some x → ps[j]? = some p → RepC W (fun _ => False) x p) → ∃ q, ps = [q] ∧ RepC W (fun _ => False) v q := by
      intro v hc h1 h2
      rw [hc] at h1 h2
      match ps, h1, h2 with
      | [q], _, h2 => exact ⟨q, rfl, h2 0 v q rfl rfl⟩
    have fin : (∃ q, ps = [q] ∧ RepC W (fun _ => False) v q) → ∃ q, RepC W (fun _ => False) v q ∧ ShC P (n + 1) t [q] := by
      rintro ⟨q, rfl, hq⟩
      exact ⟨q, hq, h3⟩
    cases u with
    | struct fs =>
      obtain ⟨cs, rfl, -, -⟩ := hv
      refine ⟨.agg ps, .agg cs ps ?_ ?_, ps, rfl, h3⟩
      · simpa [Value.cells] using h1.symm
      · simpa [Value.cells] using h2
    | _ =>
      simp only at hp
      first
        | (cases hp; done)
        | (refine fin (one v ?_ h1 h2)
           unfold Cell.okWide Cell.ok at hv
           rw [hu] at hv
           cases v <;> first | rfl | (simp at hv; done))

def ShAs (P : Program) (n : Nat) : List TypeId → List PV → Prop
  | [], [] => True
  | t :: ts, p :: ps => ShA P n t p ∧ ShAs P n ts ps
  | _, _ => False

theorem read_args {H : Type} {enc : TypeId × Value → H} {P : Program} {W : World} {sp : Nat → Bool} {hd : Bool} {base : Nat} (hl : laidOutB P = true) {n : Nat} : ∀ (ts : List TypeId) (vs : List Value) (ds : List (DataW H)) (p : List MemPlace),
    (∀ t ∈ ts, t < P.types.size ∧ plainT P n t = true) → (∀ (j : Nat) t v, ts[j]? = some t → vs[j]? = some v → Value.okWide P W .any base t v) → DataW.TrodAll enc P W 0 sp hd ts vs ds p →
    ∃ qs : List PV, qs.length = vs.length ∧ (∀ (i : Nat) (v : Value) (q : PV), vs[i]? = some v → qs[i]? = some q → RepC W (fun _ => False) v q) ∧ ShAs P n ts qs
  | [], [], _, _, _, _, _ => ⟨[], rfl, fun i v q h => by simp at h, trivial⟩
  | [], v :: vs, ds, _, _, _, h => by cases ds <;> exact h.elim
  | t :: ts, [], ds, _, _, _, h => by cases ds <;> exact h.elim
  | t :: ts, v :: vs, [], _, _, _, h => h.elim
  | t :: ts, v :: vs, d :: ds, _, ht, hv, ⟨p, q, h1, h2, _⟩ => by
    obtain ⟨a, ha, hs⟩ := read_arg hl (ht t (by simp)).1 (ht t (by simp)).2 (hv 0 t v rfl rfl) h1
    obtain ⟨qs, q1, q2, q3⟩ := read_args hl ts vs ds q (fun t h => ht t (by simp [h])) (fun j t v a b => hv (j + 1) t v (by simpa using a) (by simpa using b)) h2
    refine ⟨a :: qs, by simp [q1], fun i v q hv hq => ?_, hs, q3⟩
    cases i with
    | zero => simp at hv hq; subst hv; subst hq; exact ha
    | succ i => exact q2 i v q (by simpa using hv) (by simpa using hq)

/-- Behind the call the arguments read as they did. -/
theorem args_below {H : Type} {enc : TypeId × Value → H} {P : Program} {W W' : World} (hl : laidOutB P = true) (hb : RowKit.Below W.heap.size W W') : ∀ (ts : List TypeId) (vs : List Value) (ds : List (DataW H)) (p : List MemPlace) (sp : Nat → Bool),
    (∀ t ∈ ts, t < P.types.size ∧ P.readableRec t = true) → DataW.TrodAll enc P W 0 (fun _ => true) true ts vs ds p → (∀ x ∈ p, x.block < W.heap.size) → (∀ x ∈ p, sp x.block = true) → DataW.TrodAll enc P W' 0 sp true ts vs ds p
  | [], [], [], _, _, _, h, _, _ => h
  | [], [], _ :: _, _, _, _, h, _, _ => h.elim
  | [], v :: vs, ds, _, _, _, h, _, _ => by cases ds <;> exact h.elim
  | t :: ts, [], ds, _, _, _, h, _, _ => by cases ds <;> exact h.elim
  | t :: ts, v :: vs, [], _, _, _, h, _, _ => h.elim
  | t :: ts, v :: vs, d :: ds, _, sp, ht, ⟨p, q, h1, h2, e⟩, hlt, hsp => by
    subst e
    exact ⟨p, q, WideElems.Trod_stays hl (ht t (by simp)).2 (ht t (by simp)).1 h1 (fun x hx => hb.same (hlt x (by simp [hx]))) (fun x hx => hsp x (by simp [hx])),
      args_below hl hb ts vs ds q sp (fun t h => ht t (by simp [h])) h2 (fun x hx => hlt x (by simp [hx])) (fun x hx => hsp x (by simp [hx])), rfl⟩

section
open Go.RowKit Go.WideShapes Go.ChangeShapes
variable {H : Type} {enc : TypeId × Value → H} {P : Program}
theorem post_of_below {f : Func} {s : ChangeSpec} {apart fresh handsOn again : Bool} {W W' : World} {args : Array Value} {v : Value} {ds gs : List (DataW H)} {before pa pv : List MemPlace}
    (hW : DataW.Whole enc P f.params.toList s.vars apart W args.toList ds gs before)
    (hres : ∀ (b : Nat) (sp : Nat → Bool) (hd : Bool), DataW.TrodAll enc P W' b sp hd f.resultTypes.toList (v.resultList f.resultTypes.size) (s.fn H (ds ++ gs)).results [])
    (hargs : ∀ sp : Nat → Bool, (∀ p ∈ before, sp p.block = true) → DataW.TrodAll enc P W' 0 sp true f.params.toList args.toList (s.fn H (ds ++ gs)).args pa)
    (hvars : ∀ sp : Nat → Bool, (∀ p ∈ before, sp p.block = true) → DataW.TrodVars enc P W' sp s.vars (s.fn H (ds ++ gs)).vars pv)
    (hps : before = pa ++ pv) (hb : Below W.heap.size W W')
    (hok : ∀ (j : Nat) (t : TypeId) (r : Value), f.resultTypes[j]? = some t → (v.resultList f.resultTypes.size)[j]? = some r → Value.okWide P W' .any 0 t r) :
    s.post enc P f apart fresh handsOn again W args v W' := by
  have hlt : ∀ p ∈ before, p.block < W.heap.size := fun p hp => hW.lt p hp
  have hold : ∀ p ∈ before, (fun b => decide (b < W.heap.size)) p.block = true := fun p hp => by simpa using hlt p hp
  refine ⟨ds, gs, before, [], pa, pv, hW, hres _ _ _, hargs _ hold, hvars _ hold, World.keptBut_mono (fun p hp => ⟨hp, ?_⟩) (hb.frame (· ∈ before)), fun _ => ?_⟩
  · rw [hps, List.mem_append] at hp
    exact Or.inr hp
  · obtain ⟨_, _, _, _, _, hz, hn⟩ := hW
    refine ⟨hok, _, _, ([] ++ pa) ++ pv, ⟨[] ++ pa, pv, trodAll_append (hargs _ (fun _ _ => rfl)) (hres _ _ _), hvars _ (fun _ _ => rfl), rfl, ?_, ?_⟩, ?_⟩
    · intro b off hp
      have hin : MemPlace.cell b off ∈ before := by rw [hps]; simpa using hp
      rw [hb.frozen (hlt _ hin)]
      exact hz b off hin
    · intro ha
      have := hn ha
      rw [hps] at this
      simpa using this
    · intro p hp _
      rw [hps]
      simpa using hp

/-- A law by value, as its row asks for it: no package-level variable is listed. -/
theorem law_of_V {fn : Func} {f : Nat} {s : ChangeSpec} {apart fresh handsOn again : Bool} {G : Globs} {n : Nat} {tb : TypeId} (hl : laidOutB P = true) (hpl : (fn.params.toList.all fun t => decide (t < P.types.size) && plainT P n t && P.readableRec t) = true)
    (hvars : s.vars = []) (hs : ∀ ds : List (DataW H), ds.length = fn.params.toList.length → s.fn H ds = { results := [.lit (.bool true)], args := ds }) (hres : fn.resultTypes = #[tb]) (htb : P.underlying tb = some .bool)
    {W : World} (hG : GlobsIn W (fun _ => False) G) {base : Nat} {args : Array Value} {ds gs : List (DataW H)} {before : List MemPlace}
    (hV : ∀ ps, ShAs P n fn.params.toList ps → VCalls P G f ps (.bool true))
    (hval : ∀ (j : Nat) t v, fn.params[j]? = some t → args[j]? = some v → Value.okWide P W .any base t v)
    (hW : DataW.Whole enc P fn.params.toList s.vars apart W args.toList ds gs before) :
    Calls P f args W fun e W' => ∃ v, e = .returned v ∧ s.post enc P fn apart fresh handsOn again W args v W' := by
  simp only [List.all_eq_true, Bool.and_eq_true, decide_eq_true_eq] at hpl
  have hW0 := hW
  obtain ⟨p, q, hA, hVr, rfl, -, -⟩ := hW
  rw [hvars] at hVr
  obtain ⟨rfl, rfl⟩ := trodVars_none hVr
  obtain ⟨qs, q1, q2, q3⟩ := read_args hl fn.params.toList args.toList ds p (fun t h => ⟨(hpl t h).1.1, (hpl t h).1.2⟩) (fun j t v a b => hval j t v (by simpa using a) (by simpa using b)) hA
  have hlen : ds.length = fn.params.toList.length := by
    have : ∀ (ts : List TypeId) (vs : List Value) (ds : List (DataW H)) (p : List MemPlace), DataW.TrodAll enc P W 0 (fun _ => true) true ts vs ds p → ds.length = ts.length := by
      intro ts
      induction ts with
      | nil => intro vs ds p h; cases vs <;> cases ds <;> first | rfl | exact h.elim
      | cons t ts ih =>
        intro vs ds p h
        cases vs <;> cases ds <;> first | exact h.elim | (obtain ⟨_, _, _, h2, _⟩ := h; simp [ih _ _ _ h2])
    exact this _ _ _ _ hA
  have hlt : ∀ x ∈ p, x.block < W.heap.size := fun x hx => hW0.lt x (by simpa using hx)
  refine (hV qs q3 W (fun _ => False) args (fun b h => h.elim) hG ⟨by simpa using q1.symm, fun i v p a b => q2 i v p (by simpa using a) b⟩).mono ?_
  rintro e W' ⟨v, rfl, hB, hr⟩
  cases hr with
  | bool b =>
  refine ⟨_, rfl, post_of_below (pa := p) (pv := []) hW0 (fun b sp hd => ?_) (fun sp hsp => ?_) (fun sp _ => ?_) rfl hB ?_⟩
  · rw [List.append_nil, hs ds hlen, hres]
    exact trodAll_mk1 (shut_bool htb _)
  · rw [List.append_nil, hs ds hlen]
    exact args_below hl hB _ _ _ _ sp (fun t h => ⟨(hpl t h).1.1, (hpl t h).2⟩) hA hlt (fun x hx => hsp x (by simpa using hx))
  · rw [hvars, List.append_nil, hs ds hlen]; rfl
  · exact ok_one hres rfl (okWide_bool_mk htb _)
end

theorem shA_str {P : Program} {n : Nat} {t : TypeId} {p : PV} (hu : P.underlying t = some .string) (h : ShA P (n + 1) t p) : ∃ l, p = .str l ∧ l.length ≤ maxLen := by
  unfold ShA at h; rw [hu] at h
  unfold ShC at h; rw [hu] at h
  obtain ⟨l, h1, h2⟩ := h
  cases h1; exact ⟨l, rfl, h2⟩
theorem shA_bool {P : Program} {n : Nat} {t : TypeId} {p : PV} (hu : P.underlying t = some .bool) (h : ShA P (n + 1) t p) : ∃ b, p = .bool b := by
  unfold ShA at h; rw [hu] at h
  unfold ShC at h; rw [hu] at h
  obtain ⟨l, h1⟩ := h
  cases h1; exact ⟨l, rfl⟩
theorem shA_int {P : Program} {n : Nat} {t : TypeId} {p : PV} {k : IntKind} (hu : P.underlying t = some (.int k)) (h : ShA P (n + 1) t p) : ∃ m, p = .int k m ∧ k.min ≤ m ∧ m ≤ k.max := by
  unfold ShA at h; rw [hu] at h
  unfold ShC at h; rw [hu] at h
  obtain ⟨l, h1, h2⟩ := h
  cases h1
  simp only [Lit.wf, Bool.and_eq_true, decide_eq_true_eq] at h2
  exact ⟨l, rfl, h2⟩
theorem maxLen_le {n : Nat} (h : n ≤ maxLen) : n ≤ 9223372036854775807 := by
  unfold maxLen at h; omega
end PG
