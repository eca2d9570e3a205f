import Derived.Test.YtjcoenideicmbaaQ13
import Derived.Test.YtjcoenideicmbaaQ14
namespace Go.Proofs.Ytjcoenideicmbaa
open Go PG Go.Proofs
set_option linter.unusedSimpArgs false
set_option linter.unusedVariables false
set_option maxHeartbeats 2000000
set_option maxRecDepth 100000
/-- The place of the fact that is in force. -/
def atM (l : List En) (d : Int) : Int := placeM (l.map knOf) d
theorem atM_in (l : List En) (d : Int) : -1 ≤ atM l d ∧ atM l d < l.length := by
  have := placeM_in (l.map knOf) d
  rw [List.length_map] at this; exact this
def vlE (l : List En) (p : Int) : Vl := if p < 0 then vl0 else vlOf (l.getD p.toNat default)
theorem valM_vlE (l : List En) (p : Int) (h : p < l.length) : valM (l.map knOf) p = vlE l p := by
  unfold vlE
  split
  · unfold valM; rw [if_pos (by assumption)]
  · rw [valM_kn l p (by omega) (by omega)]
    simp [List.getD, show p.toNat < l.length by omega]
def piE (l : List En) (x : St3) : PV := .agg [.int .i64 x.1, .int .i64 x.2.1, .int .i64 (vlE l x.2.2).n, .int .i64 (vlE l x.2.2).num, .str (vlE l x.2.2).text]
abbrev fullE (l : List En) (a b : Int) : List St3 := fullM (l.map knOf) a b
theorem piE_map (l : List En) (a b : Int) : (pcs (fullE l a b)).map (pieP (l.map knOf)) = (pcs (fullE l a b)).map (piE l) := by
  refine List.map_congr_left fun x hx => ?_
  obtain ⟨h1, h2, -⟩ := pcs_mem hx
  rw [List.length_map] at h2
  unfold pieP piE
  rw [valM_vlE l _ h2]
def numsE (l : List En) (a : Int) (n : Nat) : List Int := (List.range n).map fun (j : Nat) => (vlE l (atM l (a + j))).num
theorem numsE_eq (l : List En) (a : Int) (n : Nat) : numsU (l.map knOf) a n = numsE l a n := by
  unfold numsU numsE
  refine List.map_congr_left fun j _ => ?_
  rw [show placeM (l.map knOf) (a + j) = atM l (a + j) from rfl, valM_vlE l _ (atM_in l _).2]
/-- All that is told of a line of entries. -/
structure LineV (l : List En) (KV LV : PV) : Prop where
  kn : KV.noOwn = true
  ks : ∀ μ, PV.seen μ KV = true
  kw : ∀ μ, PV.view μ KV = KV
  known : VCalls Try.prog G0 20 [enL l] KV
  of : VCalls Try.prog G0 19 [KV] (.agg [LV])
  at_ : ∀ d, VCalls Try.prog G0 27 [.agg [LV], .int .i64 d] (.tup [vlP (vlE l (atM l d)), .bool (decide (0 ≤ atM l d))])
  over : ∀ a b, VCalls Try.prog G0 21 [.agg [LV], .agg [.int .i64 a, .int .i64 b]] (.list (some 5) ((pcs (fullE l a b)).map (piE l)))
  changes : ∀ a b, VCalls Try.prog G0 30 [.agg [LV], .agg [.int .i64 a, .int .i64 b]] (.list none ((chS a (fullE l a b)).map (PV.int .i64)))
  nums : ∀ a b, a ≤ b → b - a ≤ 4096 → -9223372036854775808 ≤ a → b ≤ 9223372036854775807 → VCalls Try.prog G0 29 [.agg [LV], .agg [.int .i64 a, .int .i64 b]] (.list none ((numsE l a (b - a).toNat).map (PV.int .i64)))
  nums0 : ∀ a b, b ≤ a → VCalls Try.prog G0 29 [.agg [LV], .agg [.int .i64 a, .int .i64 b]] .nilSl
  numsL : ∀ a b, a < b → 4096 < b - a → -9223372036854775808 ≤ a → b ≤ 9223372036854775807 → VCalls Try.prog G0 29 [.agg [LV], .agg [.int .i64 a, .int .i64 b]] .nilSl
  facts : VCalls Try.prog G0 23 [enL l] (enL l)
  place : ∀ d, VCalls Try.prog G0 28 [enL l, .int .i64 d] (.int .i64 (atM l d))
theorem lineV (l : List En) (hl : l.length ≤ 1000000000) : ∃ KV XX, LineV l KV (.list (some 9) XX) := by
  refine ⟨knV (l.map knOf), (l.map knOf).map knP, ?_, ?_, ?_, v20 l hl, v19 _ (by simpa using hl), fun d => ?_, fun a b => ?_, fun a b => v30 _ (by simpa using hl) a b, fun a b h1 h2 h3 h4 => ?_,
    fun a b h => v29n _ (by simpa using hl) a b h, fun a b h1 h2 h3 h4 => v29m _ (by simpa using hl) a b h1 h2 h3 h4, v23 l hl, v28 l hl⟩
  · unfold knV; split <;> simp [PV.noOwn]
  · intro μ; unfold knV; split <;> simp [PV.seen]
  · intro μ; unfold knV; split <;> simp [PV.view]
  · have h := v27 (l.map knOf) (by simpa using hl) d
    have e : valM (l.map knOf) (placeM (l.map knOf) d) = vlE l (atM l d) := valM_vlE l _ (atM_in l d).2
    rw [e] at h; exact h
  · have h := v21 (l.map knOf) (by simpa using hl) a b
    unfold ovP at h
    rw [show pcs (fullM (l.map knOf) a b) = pcs (fullE l a b) from rfl, piE_map] at h
    exact h
  · rcases Int.lt_or_eq_of_le h1 with h | h
    · have e := v29 (l.map knOf) (by simpa using hl) a b h h2 h3 h4
      rw [numsE_eq] at e; exact e
    · subst h
      refine VCalls.res (v29n _ (by simpa using hl) a a (by omega)) ?_
      rw [show (a - a).toNat = 0 by omega]
      exact .nil _
end Go.Proofs.Ytjcoenideicmbaa

namespace Go.Proofs.Ytjcoenideicmbaa
open Go PG Go.Proofs
set_option linter.unusedSimpArgs false
set_option linter.unusedVariables false
theorem _root_.PG.IsRuns.map {f g : Int → Int} {b a : Int} {R : List (Int × Int × Int)} (h : IsRuns f b a R) (hfg : ∀ d d', f d = f d' ↔ g d = g d') : IsRuns g b a (R.map fun x => (x.1, x.2.1, g x.1)) := by
  induction h with
  | one a h hf => exact .one a h fun d h1 h2 => (hfg _ _).1 (hf d h1 h2)
  | cons a c l h hf hn ht ih => exact .cons a c _ h (fun d h1 h2 => (hfg _ _).1 (hf d h1 h2)) (fun e => hn ((hfg _ _).2 e)) ih
/-- Cut within a stretch. -/
theorem _root_.PG.IsRuns.join {f : Int → Int} {b c a : Int} {l : List (Int × Int × Int)} (h : IsRuns f b a l) : ∀ {r : List (Int × Int × Int)}, IsRuns f c b r → f b = f (b - 1) →
    ∃ l0 x0 c2 r', l = l0 ++ [(x0, b, f b)] ∧ r = (b, c2, f b) :: r' ∧ IsRuns f c a (l0 ++ (x0, c2, f b) :: r') := by
  induction h with
  | one a h hf =>
    intro r hr hb
    have e : f b = f a := by rw [hb]; exact hf _ (by omega) (by omega)
    rw [e]
    have key : ∀ d, a ≤ d → d ≤ b → f d = f a := fun d h1 h2 => by
      rcases Int.lt_or_eq_of_le h2 with h' | h'
      · exact hf d h1 h'
      · rw [h', e]
    cases hr with
    | one _ h2 hf2 =>
      refine ⟨[], a, c, [], rfl, by rw [e], ?_⟩
      refine .one a (by omega) fun d h1 h3 => ?_
      rcases Int.lt_or_le d b with h' | h'
      · exact hf d h1 h'
      · rw [hf2 d h' h3, e]
    | cons _ c2 l2 h2 hf2 hn2 ht2 =>
      refine ⟨[], a, c2, l2, rfl, by rw [e], ?_⟩
      refine .cons a c2 l2 (by omega) (fun d h1 h3 => ?_) (by rw [← e]; exact hn2) ht2
      rcases Int.lt_or_le d b with h' | h'
      · exact hf d h1 h'
      · rw [hf2 d h' h3, e]
  | cons a c1 l h hf hn ht ih =>
    intro r hr hb
    obtain ⟨l0, x0, c2, r', rfl, rfl, h3⟩ := ih hr hb
    exact ⟨(a, c1, f a) :: l0, x0, c2, r', rfl, rfl, .cons a c1 _ h hf hn h3⟩
/-! What is in force -/
theorem placeN_spec (l : List Kn) (d : Int) : ∀ i : Nat, (placeN l d i < 0 → ∀ j < i, covB (l.getD j default) d = false) ∧
    (0 ≤ placeN l d i → covB (l.getD (placeN l d i).toNat default) d = true ∧ ∀ j < i, covB (l.getD j default) d = true → (l.getD j default).n ≤ (l.getD (placeN l d i).toNat default).n)
  | 0 => ⟨fun _ j h => by omega, fun h => by simp [placeN] at h⟩
  | i + 1 => by
    obtain ⟨h1, h2⟩ := placeN_spec l d i
    have lt : ∀ {j}, j < i + 1 → j < i ∨ j = i := fun h => by omega
    unfold placeN
    by_cases hc : covB (l.getD i default) d = true
    · by_cases hn : placeN l d i < 0
      · rw [if_pos (by rw [hc, decide_eq_true hn]; rfl)]
        refine ⟨fun h => by omega, fun _ => ⟨hc, fun j hj hcj => ?_⟩⟩
        rcases lt hj with hj | rfl
        · rw [h1 hn j hj] at hcj; cases hcj
        · simp
      · by_cases hm : (l.getD (placeN l d i).toNat default).n < (l.getD i default).n
        · rw [if_pos (by rw [hc, decide_eq_true hm]; simp)]
          refine ⟨fun h => by omega, fun _ => ⟨hc, fun j hj hcj => ?_⟩⟩
          rcases lt hj with hj | rfl
          · have := (h2 (by omega)).2 j hj hcj; simp only [Int.toNat_natCast]; omega
          · simp
        · rw [if_neg (by simp [hc]; simp at hm; omega)]
          refine ⟨fun h => absurd h hn, fun h => ⟨(h2 h).1, fun j hj hcj => ?_⟩⟩
          rcases lt hj with hj | rfl
          · exact (h2 h).2 j hj hcj
          · omega
    · rw [if_neg (by rw [Bool.and_eq_true]; exact fun h => hc h.1)]
      have hc : covB (l.getD i default) d = false := by simpa using hc
      refine ⟨fun h j hj => ?_, fun h => ⟨(h2 h).1, fun j hj hcj => ?_⟩⟩
      · rcases lt hj with hj | rfl
        · exact h1 h j hj
        · exact hc
      · rcases lt hj with hj | rfl
        · exact (h2 h).2 j hj hcj
        · rw [hc] at hcj; cases hcj
def cvE (e : En) (d : Int) : Bool := covB (knOf e) d
theorem kn_getE (l : List En) (j : Nat) (h : j < l.length) : (l.map knOf).getD j default = knOf l[j] := by simp [List.getD, h]
theorem at_none {l : List En} {d : Int} (h : atM l d < 0) : ∀ e ∈ l, cvE e d = false := by
  intro e he
  obtain ⟨j, hj, rfl⟩ := List.getElem_of_mem he
  have := (placeN_spec (l.map knOf) d (l.map knOf).length).1 h j (by simpa using hj)
  rw [kn_getE l j hj] at this; exact this
theorem at_some {l : List En} {d : Int} (h : 0 ≤ atM l d) : ∃ e, l[(atM l d).toNat]? = some e ∧ cvE e d = true ∧ ∀ e' ∈ l, cvE e' d = true → e'.n ≤ e.n := by
  have hlt := (atM_in l d).2
  have hlt' : (atM l d).toNat < l.length := by omega
  obtain ⟨h1, h2⟩ := (placeN_spec (l.map knOf) d (l.map knOf).length).2 h
  have hp : placeN (l.map knOf) d (l.map knOf).length = atM l d := rfl
  rw [hp, kn_getE l _ hlt'] at h1
  refine ⟨l[(atM l d).toNat], List.getElem?_eq_getElem hlt', h1, fun e' he' hc => ?_⟩
  obtain ⟨j, hj, rfl⟩ := List.getElem_of_mem he'
  have := h2 j (by simpa using hj) (by rw [kn_getE l j hj]; exact hc)
  rw [hp, kn_getE l _ hlt', kn_getE l j hj] at this
  exact this
def UnqN (l : List En) : Prop := ∀ (i j : Nat) (e e' : En), l[i]? = some e → l[j]? = some e' → e.n = e'.n → i = j
/-- The fact in force. -/
def entE (l : List En) (d : Int) : Option En := if atM l d < 0 then none else l[(atM l d).toNat]?
theorem ent_some {l : List En} {d : Int} (h : 0 ≤ atM l d) : ∃ e, entE l d = some e ∧ l[(atM l d).toNat]? = some e ∧ cvE e d = true ∧ ∀ e' ∈ l, cvE e' d = true → e'.n ≤ e.n := by
  obtain ⟨e, h1, h2, h3⟩ := at_some h
  exact ⟨e, by unfold entE; rw [if_neg (by omega), h1], h1, h2, h3⟩
theorem ent_none {l : List En} {d : Int} (h : atM l d < 0) : entE l d = none := by unfold entE; rw [if_pos h]
theorem ent_val (l : List En) (d : Int) : vlE l (atM l d) = match entE l d with | none => vl0 | some e => vlOf e := by
  rcases Int.lt_or_le (atM l d) 0 with h | h
  · rw [ent_none h]; unfold vlE; rw [if_pos h]
  · obtain ⟨e, h1, h2, -⟩ := ent_some h
    rw [h1]; unfold vlE; rw [if_neg (by omega)]; simp [List.getD, h2]
theorem ent_pos (l : List En) (d : Int) : 0 ≤ atM l d ↔ (entE l d).isSome = true := by
  rcases Int.lt_or_le (atM l d) 0 with h | h
  · rw [ent_none h]; simp; omega
  · obtain ⟨e, h1, -⟩ := ent_some h
    rw [h1]; simpa using h
theorem ent_at {l : List En} (hu : UnqN l) (d d' : Int) : atM l d = atM l d' ↔ entE l d = entE l d' := by
  constructor
  · intro h; unfold entE; rw [h]
  · intro h
    have i1 := atM_in l d
    have i2 := atM_in l d'
    rcases Int.lt_or_le (atM l d) 0 with h0 | h0
    · rw [ent_none h0] at h
      rcases Int.lt_or_le (atM l d') 0 with h1 | h1
      · omega
      · obtain ⟨e, e1, -⟩ := ent_some h1; rw [e1] at h; cases h
    · obtain ⟨e, e1, e2, -⟩ := ent_some h0
      rcases Int.lt_or_le (atM l d') 0 with h1 | h1
      · rw [ent_none h1, e1] at h; cases h
      · obtain ⟨e', e1', e2', -⟩ := ent_some h1
        rw [e1, e1'] at h; cases h
        have := hu _ _ _ _ e2 e2' rfl
        omega
theorem ent_perm {la lb : List En} (ua : UnqN la) (ub : UnqN lb) (hm : ∀ e, e ∈ la ↔ e ∈ lb) (d : Int) : entE la d = entE lb d := by
  rcases Int.lt_or_le (atM la d) 0 with h0 | h0
  · rcases Int.lt_or_le (atM lb d) 0 with h1 | h1
    · rw [ent_none h0, ent_none h1]
    · obtain ⟨e, -, e2, e3, -⟩ := ent_some h1
      have := at_none h0 e ((hm e).2 (List.mem_of_getElem? e2))
      rw [this] at e3; cases e3
  · obtain ⟨e, e1, e2, e3, e4⟩ := ent_some h0
    rcases Int.lt_or_le (atM lb d) 0 with h1 | h1
    · have := at_none h1 e ((hm e).1 (List.mem_of_getElem? e2))
      rw [this] at e3; cases e3
    · obtain ⟨e', e1', e2', e3', e4'⟩ := ent_some h1
      have m1 : e ∈ lb := (hm e).1 (List.mem_of_getElem? e2)
      have m2 : e' ∈ la := (hm e').2 (List.mem_of_getElem? e2')
      have hn : e.n = e'.n := Int.le_antisymm (e4' e m1 e3) (e4 e' m2 e3')
      obtain ⟨j, hj, hj'⟩ := List.getElem_of_mem m2
      have e5 : la[j]? = some e' := by rw [List.getElem?_eq_getElem hj, hj']
      have := ua _ _ _ _ e2 e5 hn
      subst this
      rw [e2] at e5; cases e5
      rw [e1, e1']
theorem over_alike {la lb : List En} (ua : UnqN la) (ub : UnqN lb) (hm : ∀ e, e ∈ la ↔ e ∈ lb) (a b : Int) : (pcs (fullE la a b)).map (piE la) = (pcs (fullE lb a b)).map (piE lb) := by
  rcases Int.lt_or_le a b with h | h
  · have r1 : IsRuns (atM la) b a (fullE la a b) := full_runs (la.map knOf) h
    have r2 : IsRuns (atM lb) b a (fullE lb a b) := full_runs (lb.map knOf) h
    have he := ent_perm ua ub hm
    have r3 := r1.map (g := atM lb) fun d d' => by rw [ent_at ua, ent_at ub, he, he]
    rw [r2.uniq r3]
    unfold pcs
    rw [List.filter_map, List.map_map]
    have hf : ∀ x ∈ fullE la a b, ((fun x : St3 => decide (0 ≤ x.2.2)) ∘ fun x => (x.1, x.2.1, atM lb x.1)) x = decide (0 ≤ x.2.2) := by
      intro x hx
      obtain ⟨e, -⟩ := runs_mem r1 x hx
      simp only [Function.comp_apply]
      rw [e, decide_eq_decide, ent_pos, ent_pos, he]
    rw [List.filter_congr hf]
    refine List.map_congr_left fun x hx => ?_
    obtain ⟨hx, -⟩ := List.mem_filter.1 hx
    obtain ⟨e, -⟩ := runs_mem r1 x hx
    simp only [Function.comp_apply, piE]
    rw [e, ent_val, ent_val, he]
  · rw [show fullE la a b = [] from full_none _ h, show fullE lb a b = [] from full_none _ h]; rfl
end Go.Proofs.Ytjcoenideicmbaa

