import Derived.Test.YtjcoenideicmbaaQ13
import Derived.Test.YtjcoenideicmbaaQ14
namespace Go.Proofs.Ytjcoenideicmbaa
open Go PG Go.Proofs
set_option linter.unusedSimpArgs false
set_option linter.unusedVariables false
set_option maxHeartbeats 2000000
set_option maxRecDepth 100000
/-- The place of the fact that is in force. -/
def atM (l : List En) (d : Int) : Int := placeM (l.map knOf) d
theorem atM_in (l : List En) (d : Int) : -1 ≤ atM l d ∧ atM l d < l.length := by
  have := placeM_in (l.map knOf) d
  rw [List.length_map] at this; exact this
def vlE (l : List En) (p : Int) : Vl := if p < 0 then vl0 else vlOf (l.getD p.toNat default)
theorem valM_vlE (l : List En) (p : Int) (h : p < l.length) : valM (l.map knOf) p = vlE l p := by
  unfold vlE
  split
  · unfold valM; rw [if_pos (by assumption)]
  · rw [valM_kn l p (by omega) (by omega)]
    simp [List.getD, show p.toNat < l.length by omega]
def piE (l : List En) (x : St3) : PV := .agg [.int .i64 x.1, .int .i64 x.2.1, .int .i64 (vlE l x.2.2).n, .int .i64 (vlE l x.2.2).num, .str (vlE l x.2.2).text]
abbrev fullE (l : List En) (a b : Int) : List St3 := fullM (l.map knOf) a b
theorem piE_map (l : List En) (a b : Int) : (pcs (fullE l a b)).map (pieP (l.map knOf)) = (pcs (fullE l a b)).map (piE l) := by
  refine List.map_congr_left fun x hx => ?_
  obtain ⟨h1, h2, -⟩ := pcs_mem hx
  rw [List.length_map] at h2
  unfold pieP piE
  rw [valM_vlE l _ h2]
def numsE (l : List En) (a : Int) (n : Nat) : List Int := (List.range n).map fun (j : Nat) => (vlE l (atM l (a + j))).num
theorem numsE_eq (l : List En) (a : Int) (n : Nat) : numsU (l.map knOf) a n = numsE l a n := by
  unfold numsU numsE
  refine List.map_congr_left fun j _ => ?_
  rw [show placeM (l.map knOf) (a + j) = atM l (a + j) from rfl, valM_vlE l _ (atM_in l _).2]
/-- All that is told of a line of entries. -/
structure LineV (l : List En) (KV LV : PV) : Prop where
  kn : KV.noOwn = true
  ks : ∀ μ, PV.seen μ KV = true
  kw : ∀ μ, PV.view μ KV = KV
  known : VCalls Try.prog G0 20 [enL l] KV
  of : VCalls Try.prog G0 19 [KV] (.agg [LV])
  at_ : ∀ d, VCalls Try.prog G0 27 [.agg [LV], .int .i64 d] (.tup [vlP (vlE l (atM l d)), .bool (decide (0 ≤ atM l d))])
  over : ∀ a b, VCalls Try.prog G0 21 [.agg [LV], .agg [.int .i64 a, .int .i64 b]] (.list (some 5) ((pcs (fullE l a b)).map (piE l)))
  changes : ∀ a b, VCalls Try.prog G0 30 [.agg [LV], .agg [.int .i64 a, .int .i64 b]] (.list none ((chS a (fullE l a b)).map (PV.int .i64)))
  nums : ∀ a b, a ≤ b → b - a ≤ 4096 → -9223372036854775808 ≤ a → b ≤ 9223372036854775807 → VCalls Try.prog G0 29 [.agg [LV], .agg [.int .i64 a, .int .i64 b]] (.list none ((numsE l a (b - a).toNat).map (PV.int .i64)))
  nums0 : ∀ a b, b ≤ a → VCalls Try.prog G0 29 [.agg [LV], .agg [.int .i64 a, .int .i64 b]] .nilSl
  numsL : ∀ a b, a < b → 4096 < b - a → -9223372036854775808 ≤ a → b ≤ 9223372036854775807 → VCalls Try.prog G0 29 [.agg [LV], .agg [.int .i64 a, .int .i64 b]] .nilSl
  facts : VCalls Try.prog G0 23 [enL l] (enL l)
  place : ∀ d, VCalls Try.prog G0 28 [enL l, .int .i64 d] (.int .i64 (atM l d))
theorem lineV (l : List En) (hl : l.length ≤ 1000000000) : ∃ KV XX, LineV l KV (.list (some 9) XX) := by
  refine ⟨knV (l.map knOf), (l.map knOf).map knP, ?_, ?_, ?_, v20 l hl, v19 _ (by simpa using hl), fun d => ?_, fun a b => ?_, fun a b => v30 _ (by simpa using hl) a b, fun a b h1 h2 h3 h4 => ?_,
    fun a b h => v29n _ (by simpa using hl) a b h, fun a b h1 h2 h3 h4 => v29m _ (by simpa using hl) a b h1 h2 h3 h4, v23 l hl, v28 l hl⟩
  · unfold knV; split <;> simp [PV.noOwn]
  · intro μ; unfold knV; split <;> simp [PV.seen]
  · intro μ; unfold knV; split <;> simp [PV.view]
  · have h := v27 (l.map knOf) (by simpa using hl) d
    have e : valM (l.map knOf) (placeM (l.map knOf) d) = vlE l (atM l d) := valM_vlE l _ (atM_in l d).2
    rw [e] at h; exact h
  · have h := v21 (l.map knOf) (by simpa using hl) a b
    unfold ovP at h
    rw [show pcs (fullM (l.map knOf) a b) = pcs (fullE l a b) from rfl, piE_map] at h
    exact h
  · rcases Int.lt_or_eq_of_le h1 with h | h
    · have e := v29 (l.map knOf) (by simpa using hl) a b h h2 h3 h4
      rw [numsE_eq] at e; exact e
    · subst h
      refine VCalls.res (v29n _ (by simpa using hl) a a (by omega)) ?_
      rw [show (a - a).toNat = 0 by omega]
      exact .nil _
end Go.Proofs.Ytjcoenideicmbaa

namespace Go.Proofs.Ytjcoenideicmbaa
open Go PG Go.Proofs
set_option linter.unusedSimpArgs false
set_option linter.unusedVariables false
theorem _root_.PG.IsRuns.map {f g : Int → Int} {b a : Int} {R : List (Int × Int × Int)} (h : IsRuns f b a R) (hfg : ∀ d d', f d = f d' ↔ g d = g d') : IsRuns g b a (R.map fun x => (x.1, x.2.1, g x.1)) := by
  induction h with
  | one a h hf => exact .one a h fun d h1 h2 => (hfg _ _).1 (hf d h1 h2)
  | cons a c l h hf hn ht ih => exact .cons a c _ h (fun d h1 h2 => (hfg _ _).1 (hf d h1 h2)) (fun e => hn ((hfg _ _).2 e)) ih
theorem runs_in {f : Int → Int} {b a : Int} {R : List (Int × Int × Int)} (h : IsRuns f b a R) : ∀ x ∈ R, ∀ d, x.1 ≤ d → d < x.2.1 → f d = x.2.2 := by
  induction h with
  | one a h hf => intro x hx; simp only [List.mem_cons, List.not_mem_nil, or_false] at hx; subst hx; exact hf
  | cons a c l h hf hn ht ih =>
    intro x hx
    rcases List.mem_cons.1 hx with rfl | hx
    · exact hf
    · exact ih x hx
/-- Cut within a stretch. -/
theorem _root_.PG.IsRuns.join {f : Int → Int} {b c a : Int} {l : List (Int × Int × Int)} (h : IsRuns f b a l) : ∀ {r : List (Int × Int × Int)}, IsRuns f c b r → f b = f (b - 1) →
    ∃ l0 x0 c2 r', l = l0 ++ [(x0, b, f b)] ∧ r = (b, c2, f b) :: r' ∧ IsRuns f c a (l0 ++ (x0, c2, f b) :: r') := by
  induction h with
  | one a h hf =>
    intro r hr hb
    have e : f b = f a := by rw [hb]; exact hf _ (by omega) (by omega)
    rw [e]
    have key : ∀ d, a ≤ d → d ≤ b → f d = f a := fun d h1 h2 => by
      rcases Int.lt_or_eq_of_le h2 with h' | h'
      · exact hf d h1 h'
      · rw [h', e]
    cases hr with
    | one _ h2 hf2 =>
      refine ⟨[], a, c, [], rfl, by rw [e], ?_⟩
      refine .one a (by omega) fun d h1 h3 => ?_
      rcases Int.lt_or_le d b with h' | h'
      · exact hf d h1 h'
      · rw [hf2 d h' h3, e]
    | cons _ c2 l2 h2 hf2 hn2 ht2 =>
      refine ⟨[], a, c2, l2, rfl, by rw [e], ?_⟩
      refine .cons a c2 l2 (by omega) (fun d h1 h3 => ?_) (by rw [← e]; exact hn2) ht2
      rcases Int.lt_or_le d b with h' | h'
      · exact hf d h1 h'
      · rw [hf2 d h' h3, e]
  | cons a c1 l h hf hn ht ih =>
    intro r hr hb
    obtain ⟨l0, x0, c2, r', rfl, rfl, h3⟩ := ih hr hb
    exact ⟨(a, c1, f a) :: l0, x0, c2, r', rfl, rfl, .cons a c1 _ h hf hn h3⟩
def UnqN (l : List En) : Prop := ∀ (i j : Nat) (e e' : En), l[i]? = some e → l[j]? = some e' → e.n = e'.n → i = j
/-! A span cut at a day -/
def lastX (L : List St3) : St3 := L.getD (L.length - 1) (0, 0, 0)
def merge1 (ok : Bool) (L : List St3) (r : St3) : List St3 := if ok then endL L r.2.1 else L ++ [r]
def mergeB (l : List En) (b : Int) (L : List St3) (r : St3) : Bool := decide (L ≠ []) && decide ((lastX L).2.1 = b) && decide (r.1 = b) && decide (vlE l (lastX L).2.2 = vlE l r.2.2)
def mergeM (l : List En) (b : Int) (L R : List St3) : List St3 := match R with
  | [] => L
  | r :: R => merge1 (mergeB l b L r) L r ++ R
theorem vl_inj {l : List En} (hu : UnqN l) {p q : Int} (hp : 0 ≤ p) (hp' : p < l.length) (hq : 0 ≤ q) (hq' : q < l.length) (h : vlE l p = vlE l q) : p = q := by
  unfold vlE at h
  rw [if_neg (by omega), if_neg (by omega)] at h
  have e1 : l[p.toNat]? = some (l.getD p.toNat default) := by simp [List.getD, show p.toNat < l.length by omega]
  have e2 : l[q.toNat]? = some (l.getD q.toNat default) := by simp [List.getD, show q.toNat < l.length by omega]
  have : (l.getD p.toNat default).n = (l.getD q.toNat default).n := congrArg Vl.n h
  have := hu _ _ _ _ e1 e2 this
  omega
theorem lastX_app (L : List St3) (x : St3) : lastX (L ++ [x]) = x := by
  unfold lastX
  rw [show (L ++ [x]).length - 1 = L.length by simp]; simp [List.getD]
theorem lastX_mem {L : List St3} (h : L ≠ []) : lastX L ∈ L := by
  obtain ⟨L0, x, rfl⟩ := List.eq_nil_or_concat L |>.resolve_left h
  rw [List.concat_eq_append, lastX_app]; simp
theorem pcs_mem' {f : Int → Int} {b a : Int} {R : List St3} (h : IsRuns f b a R) {x : St3} (hx : x ∈ pcs R) : 0 ≤ x.2.2 ∧ x.2.2 = f x.1 ∧ x.1 < x.2.1 ∧ f (x.2.1 - 1) = x.2.2 := by
  obtain ⟨h1, h2⟩ := List.mem_filter.1 hx
  obtain ⟨e1, e2, e3, e4⟩ := runs_mem h x h1
  exact ⟨by simpa using h2, e1, e3, runs_in h x h1 _ (by omega) (by omega)⟩
theorem cuts_merge {l : List En} (hu : UnqN l) {a b c : Int} (h1 : a ≤ b) (h2 : b ≤ c) : pcs (fullE l a c) = mergeM l b (pcs (fullE l a b)) (pcs (fullE l b c)) := by
  rcases Int.lt_or_eq_of_le h1 with h1 | h1
  case inr =>
    subst h1
    rw [show fullE l a a = [] from full_none _ (by omega)]
    unfold mergeM
    rw [show pcs [] = [] from rfl]
    cases pcs (fullE l a c) <;> simp [merge1, mergeB]
  rcases Int.lt_or_eq_of_le h2 with h2 | h2
  case inr =>
    subst h2
    rw [show fullE l b b = [] from full_none _ (by omega)]
    rfl
  have r1 : IsRuns (atM l) b a (fullE l a b) := full_runs (l.map knOf) h1
  have r2 : IsRuns (atM l) c b (fullE l b c) := full_runs (l.map knOf) h2
  have r3 : IsRuns (atM l) c a (fullE l a c) := full_runs (l.map knOf) (by omega)
  have hin := atM_in l
  have nomerge : ∀ r R, pcs (fullE l b c) = r :: R → mergeB l b (pcs (fullE l a b)) r = true → pcs (fullE l a b) ≠ [] ∧ (lastX (pcs (fullE l a b))).2.2 = atM l (b - 1) ∧ r.2.2 = atM l b ∧ 0 ≤ atM l b ∧ atM l b = atM l (b - 1) := by
    intro r R hr hm
    unfold mergeB at hm
    simp only [Bool.and_eq_true, decide_eq_true_eq] at hm
    obtain ⟨⟨⟨m1, m2⟩, m3⟩, m4⟩ := hm
    obtain ⟨p1, p2, p3, p4⟩ := pcs_mem' r1 (lastX_mem m1)
    obtain ⟨q1, q2, q3, q4⟩ := pcs_mem' r2 (x := r) (by rw [hr]; simp)
    rw [m2] at p4
    rw [m3] at q2
    have g1 := hin (b - 1)
    have g2 := hin b
    have := vl_inj hu p1 (by omega) q1 (by omega) m4
    exact ⟨m1, p4.symm, q2, by omega, by omega⟩
  by_cases hf : atM l b = atM l (b - 1)
  · obtain ⟨l0, x0, c2, r', e1, e2, e3⟩ := r1.join r2 hf
    rw [r3.uniq e3]
    by_cases hp : 0 ≤ atM l b
    · have pl : pcs (fullE l a b) = pcs l0 ++ [(x0, b, atM l b)] := by rw [e1, pcs_app, pcs_one, if_pos hp]
      have pr : pcs (fullE l b c) = (b, c2, atM l b) :: pcs r' := by rw [e2]; simp [pcs, hp]
      rw [pl, pr]
      have : pcs (l0 ++ (x0, c2, atM l b) :: r') = pcs l0 ++ (x0, c2, atM l b) :: pcs r' := by simp [pcs, hp]
      rw [this]
      unfold mergeM merge1
      simp only
      rw [if_pos (by unfold mergeB; rw [lastX_app]; simp), endL_app]
      simp
    · have pl : pcs (fullE l a b) = pcs l0 := by rw [e1, pcs_app, pcs_one, if_neg hp]; simp
      have pr : pcs (fullE l b c) = pcs r' := by rw [e2]; simp [pcs, hp]
      have : pcs (l0 ++ (x0, c2, atM l b) :: r') = pcs l0 ++ pcs r' := by simp [pcs, hp]
      rw [this, ← pl, ← pr]
      unfold mergeM
      split
      · simp_all
      · rename_i r R hR
        unfold merge1
        rw [if_neg]
        · rw [hR]; simp
        · intro hm
          exact hp (nomerge r R hR hm).2.2.2.1
  · rw [r3.uniq (r1.append r2 hf), pcs_app]
    unfold mergeM
    split
    · simp_all
    · rename_i r R hR
      unfold merge1
      rw [if_neg]
      · rw [hR]; simp
      · intro hm
        exact hf (nomerge r R hR hm).2.2.2.2
end Go.Proofs.Ytjcoenideicmbaa

