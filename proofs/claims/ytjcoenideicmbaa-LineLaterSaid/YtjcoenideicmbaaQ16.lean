import Derived.Test.YtjcoenideicmbaaProg
import Derived.KernelRfl
import Derived.Test.YtjcoenideicmbaaQ14
import Derived.Test.YtjcoenideicmbaaQ15
import Derived.Test.YtjcoenideicmbaaP3
import Derived.Test.YtjcoenideicmbaaP4
namespace Go.Proofs.Ytjcoenideicmbaa
open Go PG Go.Proofs
set_option linter.unusedSimpArgs false
set_option linter.unusedVariables false
set_option maxHeartbeats 2000000
set_option maxRecDepth 100000
/-- The place of the fact that is in force. -/
def atM (l : List En) (d : Int) : Int := placeM (l.map knOf) d
theorem atM_in (l : List En) (d : Int) : -1 ≤ atM l d ∧ atM l d < l.length := by
  have := placeM_in (l.map knOf) d
  rw [List.length_map] at this; exact this
def vlE (l : List En) (p : Int) : Vl := if p < 0 then vl0 else vlOf (l.getD p.toNat default)
theorem valM_vlE (l : List En) (p : Int) (h : p < l.length) : valM (l.map knOf) p = vlE l p := by
  unfold vlE
  split
  · unfold valM; rw [if_pos (by assumption)]
  · rw [valM_kn l p (by omega) (by omega)]
    simp [List.getD, show p.toNat < l.length by omega]
def piE (l : List En) (x : St3) : PV := .agg [.int .i64 x.1, .int .i64 x.2.1, .int .i64 (vlE l x.2.2).n, .int .i64 (vlE l x.2.2).num, .str (vlE l x.2.2).text]
abbrev fullE (l : List En) (a b : Int) : List St3 := fullM (l.map knOf) a b
theorem piE_map (l : List En) (a b : Int) : (pcs (fullE l a b)).map (pieP (l.map knOf)) = (pcs (fullE l a b)).map (piE l) := by
  refine List.map_congr_left fun x hx => ?_
  obtain ⟨h1, h2, -⟩ := pcs_mem hx
  rw [List.length_map] at h2
  unfold pieP piE
  rw [valM_vlE l _ h2]
def numsE (l : List En) (a : Int) (n : Nat) : List Int := (List.range n).map fun (j : Nat) => (vlE l (atM l (a + j))).num
theorem numsE_eq (l : List En) (a : Int) (n : Nat) : numsU (l.map knOf) a n = numsE l a n := by
  unfold numsU numsE
  refine List.map_congr_left fun j _ => ?_
  rw [show placeM (l.map knOf) (a + j) = atM l (a + j) from rfl, valM_vlE l _ (atM_in l _).2]
/-- All that is told of a line of entries. -/
structure LineV (l : List En) (KV LV : PV) : Prop where
  kn : KV.noOwn = true
  ks : ∀ μ, PV.seen μ KV = true
  kw : ∀ μ, PV.view μ KV = KV
  known : VCalls Try.prog G0 20 [enL l] KV
  of : VCalls Try.prog G0 19 [KV] (.agg [LV])
  at_ : ∀ d, VCalls Try.prog G0 27 [.agg [LV], .int .i64 d] (.tup [vlP (vlE l (atM l d)), .bool (decide (0 ≤ atM l d))])
  over : ∀ a b, VCalls Try.prog G0 21 [.agg [LV], .agg [.int .i64 a, .int .i64 b]] (.list (some 5) ((pcs (fullE l a b)).map (piE l)))
  changes : ∀ a b, VCalls Try.prog G0 30 [.agg [LV], .agg [.int .i64 a, .int .i64 b]] (.list none ((chS a (fullE l a b)).map (PV.int .i64)))
  nums : ∀ a b, a ≤ b → b - a ≤ 4096 → -9223372036854775808 ≤ a → b ≤ 9223372036854775807 → VCalls Try.prog G0 29 [.agg [LV], .agg [.int .i64 a, .int .i64 b]] (.list none ((numsE l a (b - a).toNat).map (PV.int .i64)))
  nums0 : ∀ a b, b ≤ a → VCalls Try.prog G0 29 [.agg [LV], .agg [.int .i64 a, .int .i64 b]] .nilSl
  numsL : ∀ a b, a < b → 4096 < b - a → -9223372036854775808 ≤ a → b ≤ 9223372036854775807 → VCalls Try.prog G0 29 [.agg [LV], .agg [.int .i64 a, .int .i64 b]] .nilSl
  facts : VCalls Try.prog G0 23 [enL l] (enL l)
  place : ∀ d, VCalls Try.prog G0 28 [enL l, .int .i64 d] (.int .i64 (atM l d))
theorem lineV (l : List En) (hl : l.length ≤ 1000000000) : ∃ KV XX, LineV l KV (.list (some 9) XX) := by
  refine ⟨knV (l.map knOf), (l.map knOf).map knP, ?_, ?_, ?_, v20 l hl, v19 _ (by simpa using hl), fun d => ?_, fun a b => ?_, fun a b => v30 _ (by simpa using hl) a b, fun a b h1 h2 h3 h4 => ?_,
    fun a b h => v29n _ (by simpa using hl) a b h, fun a b h1 h2 h3 h4 => v29m _ (by simpa using hl) a b h1 h2 h3 h4, v23 l hl, v28 l hl⟩
  · unfold knV; split <;> simp [PV.noOwn]
  · intro μ; unfold knV; split <;> simp [PV.seen]
  · intro μ; unfold knV; split <;> simp [PV.view]
  · have h := v27 (l.map knOf) (by simpa using hl) d
    have e : valM (l.map knOf) (placeM (l.map knOf) d) = vlE l (atM l d) := valM_vlE l _ (atM_in l d).2
    rw [e] at h; exact h
  · have h := v21 (l.map knOf) (by simpa using hl) a b
    unfold ovP at h
    rw [show pcs (fullM (l.map knOf) a b) = pcs (fullE l a b) from rfl, piE_map] at h
    exact h
  · rcases Int.lt_or_eq_of_le h1 with h | h
    · have e := v29 (l.map knOf) (by simpa using hl) a b h h2 h3 h4
      rw [numsE_eq] at e; exact e
    · subst h
      refine VCalls.res (v29n _ (by simpa using hl) a a (by omega)) ?_
      rw [show (a - a).toNat = 0 by omega]
      exact .nil _
end Go.Proofs.Ytjcoenideicmbaa

namespace Go.Proofs.Ytjcoenideicmbaa
open Go PG Go.Proofs
set_option linter.unusedSimpArgs false
set_option linter.unusedVariables false
theorem _root_.PG.IsRuns.map {f g : Int → Int} {b a : Int} {R : List (Int × Int × Int)} (h : IsRuns f b a R) (hfg : ∀ d d', f d = f d' ↔ g d = g d') : IsRuns g b a (R.map fun x => (x.1, x.2.1, g x.1)) := by
  induction h with
  | one a h hf => exact .one a h fun d h1 h2 => (hfg _ _).1 (hf d h1 h2)
  | cons a c l h hf hn ht ih => exact .cons a c _ h (fun d h1 h2 => (hfg _ _).1 (hf d h1 h2)) (fun e => hn ((hfg _ _).2 e)) ih
/-- Cut within a stretch. -/
theorem _root_.PG.IsRuns.join {f : Int → Int} {b c a : Int} {l : List (Int × Int × Int)} (h : IsRuns f b a l) : ∀ {r : List (Int × Int × Int)}, IsRuns f c b r → f b = f (b - 1) →
    ∃ l0 x0 c2 r', l = l0 ++ [(x0, b, f b)] ∧ r = (b, c2, f b) :: r' ∧ IsRuns f c a (l0 ++ (x0, c2, f b) :: r') := by
  induction h with
  | one a h hf =>
    intro r hr hb
    have e : f b = f a := by rw [hb]; exact hf _ (by omega) (by omega)
    rw [e]
    have key : ∀ d, a ≤ d → d ≤ b → f d = f a := fun d h1 h2 => by
      rcases Int.lt_or_eq_of_le h2 with h' | h'
      · exact hf d h1 h'
      · rw [h', e]
    cases hr with
    | one _ h2 hf2 =>
      refine ⟨[], a, c, [], rfl, by rw [e], ?_⟩
      refine .one a (by omega) fun d h1 h3 => ?_
      rcases Int.lt_or_le d b with h' | h'
      · exact hf d h1 h'
      · rw [hf2 d h' h3, e]
    | cons _ c2 l2 h2 hf2 hn2 ht2 =>
      refine ⟨[], a, c2, l2, rfl, by rw [e], ?_⟩
      refine .cons a c2 l2 (by omega) (fun d h1 h3 => ?_) (by rw [← e]; exact hn2) ht2
      rcases Int.lt_or_le d b with h' | h'
      · exact hf d h1 h'
      · rw [hf2 d h' h3, e]
  | cons a c1 l h hf hn ht ih =>
    intro r hr hb
    obtain ⟨l0, x0, c2, r', rfl, rfl, h3⟩ := ih hr hb
    exact ⟨(a, c1, f a) :: l0, x0, c2, r', rfl, rfl, .cons a c1 _ h hf hn h3⟩
def cvE (e : En) (d : Int) : Bool := covB (knOf e) d
theorem kn_getE (l : List En) (j : Nat) (h : j < l.length) : (l.map knOf).getD j default = knOf l[j] := by simp [List.getD, h]
/-! One fact more, with a greater number -/
theorem at_later {l : List En} {m : En} (hn : ∀ e ∈ l, e.n < m.n) (d : Int) : atM (l ++ [m]) d = if cvE m d = true then (l.length : Int) else atM l d := by
  have hpre : ∀ i, i ≤ l.length → placeN ((l ++ [m]).map knOf) d i = placeN (l.map knOf) d i := by
    intro i
    induction i with
    | zero => intro _; rfl
    | succ i ih =>
      intro hi
      have e := ih (by omega)
      have hin := placeN_in (l.map knOf) d i
      have g : ∀ j, j < l.length → ((l ++ [m]).map knOf).getD j default = (l.map knOf).getD j default := by
        intro j hj
        rw [kn_getE _ _ (by simp; omega), kn_getE _ _ hj, List.getElem_append_left hj]
      unfold placeN
      rw [e, g i (by omega)]
      by_cases h0 : placeN (l.map knOf) d i < 0
      · simp [h0]
      · rw [g _ (by omega)]
  show placeN _ d _ = _
  rw [show ((l ++ [m]).map knOf).length = l.length + 1 by simp]
  unfold placeN
  rw [hpre l.length (Nat.le_refl _), show ((l ++ [m]).map knOf).getD l.length default = knOf m by simp [List.getD]]
  have hl : placeN (l.map knOf) d l.length = atM l d := by unfold atM placeM; rw [List.length_map]
  rw [hl]
  by_cases hc : cvE m d = true
  · rw [if_pos hc, if_pos]
    have hc' : covB (knOf m) d = true := hc
    rw [hc', Bool.true_and, Bool.or_eq_true, decide_eq_true_eq, decide_eq_true_eq]
    rcases Int.lt_or_le (atM l d) 0 with h0 | h0
    · exact .inl h0
    · refine .inr ?_
      have := atM_in l d
      have hj : (atM l d).toNat < l.length := by omega
      rw [kn_getE _ _ (by simp; omega), List.getElem_append_left hj]
      exact hn _ (List.getElem_mem hj)
  · rw [if_neg hc, if_neg]
    have hc' : ¬ covB (knOf m) d = true := hc
    simp [hc']
end Go.Proofs.Ytjcoenideicmbaa

namespace Go.Proofs.Ytjcoenideicmbaa
open PG Go.Proofs
-- wagebook/wagebooklaw10.LineLater
def L7 : List Nat := [0, 1, 2, 4, 6, 7, 8, 9, 10, 11, 14, 20, 28, 75]
end Go.Proofs.Ytjcoenideicmbaa

namespace Go.Proofs.Ytjcoenideicmbaa
open PG Go.Proofs
def o7_2 : List CO := [⟨some 50, none, .rd .mov [.tmp 0]⟩,
  ⟨some 57, none, .rd .mov [.tmp 2]⟩,
  ⟨some 49, none, .eff (.lit (some 5) true) []⟩,
  ⟨some 51, none, .eff (.append (some 5) 48) [.tmp 49, .tmp 50]⟩,
  ⟨some 52, none, .rd (.load (some 5)) [.tmp 4]⟩,
  ⟨some 53, none, .eff (.lit (some 5) false) [.tmp 52]⟩,
  ⟨some 54, none, .eff (.append (some 5) 48) [.tmp 51, .tmp 53]⟩,
  ⟨some 55, none, .call (.pv (.fn 20 [] [])) [.tmp 54]⟩,
  ⟨some 56, none, .call (.pv (.fn 19 [] [])) [.tmp 55]⟩,
  ⟨some 58, none, .call (.pv (.fn 27 [] [])) [.tmp 56, .tmp 57]⟩,
  ⟨some 48, none, .rd .mov [.tmp 58]⟩,
  ⟨some 59, none, .rd (.ext 0) [.tmp 48]⟩,
  ⟨some 60, none, .rd (.ext 1) [.tmp 48]⟩,
  ⟨some 10, none, .eff (.alloc (some 3) (.agg [(.int .i64 0), (.int .i64 0), (.str [])])) []⟩,
  ⟨none, none, .eff (.store (some 3)) [.tmp 10, .tmp 59]⟩,
  ⟨some 11, none, .rd .mov [.tmp 60]⟩]
def t7_2 : IS := (.alt [0, 1] (.alt [2] (.alt [3] (.alt [4] (.alt [5] (.alt [6] (.alt [7] (.alt [8] (.alt [9, 10, 11, 12, 13, 14, 15] .done (.alt [13, 9, 10, 11, 12, 14, 15] .done .stop)) (.alt [13, 8, 9, 10, 11, 12, 14, 15] .done .stop)) (.alt [13, 7, 8, 9, 10, 11, 12, 14, 15] .done .stop)) (.alt [13, 6, 7, 8, 9, 10, 11, 12, 14, 15] .done .stop)) (.alt [13, 5, 6, 7, 8, 9, 10, 11, 12, 14, 15] .done .stop)) (.alt [13, 4, 5, 6, 7, 8, 9, 10, 11, 12, 14, 15] .done .stop)) (.alt [4] (.alt [3] (.alt [5] (.alt [6] (.alt [7] (.alt [8] (.alt [9, 10, 11, 12, 13, 14, 15] .done (.alt [13, 9, 10, 11, 12, 14, 15] .done .stop)) (.alt [13, 8, 9, 10, 11, 12, 14, 15] .done .stop)) (.alt [13, 7, 8, 9, 10, 11, 12, 14, 15] .done .stop)) (.alt [13, 6, 7, 8, 9, 10, 11, 12, 14, 15] .done .stop)) (.alt [13, 5, 6, 7, 8, 9, 10, 11, 12, 14, 15] .done .stop)) (.alt [5] (.alt [3] (.alt [6] (.alt [7] (.alt [8] (.alt [9, 10, 11, 12, 13, 14, 15] .done (.alt [13, 9, 10, 11, 12, 14, 15] .done .stop)) (.alt [13, 8, 9, 10, 11, 12, 14, 15] .done .stop)) (.alt [13, 7, 8, 9, 10, 11, 12, 14, 15] .done .stop)) (.alt [13, 6, 7, 8, 9, 10, 11, 12, 14, 15] .done .stop)) (.alt [13, 3, 6, 7, 8, 9, 10, 11, 12, 14, 15] .done .stop)) (.alt [13] (.alt [3, 5, 6, 7, 8, 9, 10, 11, 12, 14, 15] .done (.alt [5, 3, 6, 7, 8, 9, 10, 11, 12, 14, 15] .done .stop)) .stop))) (.alt [13] (.alt [3, 4, 5, 6, 7, 8, 9, 10, 11, 12, 14, 15] .done (.alt [4] (.alt [3, 5, 6, 7, 8, 9, 10, 11, 12, 14, 15] .done (.alt [5, 3, 6, 7, 8, 9, 10, 11, 12, 14, 15] .done .stop)) .stop)) .stop))) (.alt [4] (.alt [2] (.alt [3] (.alt [5] (.alt [6] (.alt [7] (.alt [8] (.alt [9, 10, 11, 12, 13, 14, 15] .done (.alt [13, 9, 10, 11, 12, 14, 15] .done .stop)) (.alt [13, 8, 9, 10, 11, 12, 14, 15] .done .stop)) (.alt [13, 7, 8, 9, 10, 11, 12, 14, 15] .done .stop)) (.alt [13, 6, 7, 8, 9, 10, 11, 12, 14, 15] .done .stop)) (.alt [13, 5, 6, 7, 8, 9, 10, 11, 12, 14, 15] .done .stop)) (.alt [5] (.alt [3] (.alt [6] (.alt [7] (.alt [8] (.alt [9, 10, 11, 12, 13, 14, 15] .done (.alt [13, 9, 10, 11, 12, 14, 15] .done .stop)) (.alt [13, 8, 9, 10, 11, 12, 14, 15] .done .stop)) (.alt [13, 7, 8, 9, 10, 11, 12, 14, 15] .done .stop)) (.alt [13, 6, 7, 8, 9, 10, 11, 12, 14, 15] .done .stop)) (.alt [13, 3, 6, 7, 8, 9, 10, 11, 12, 14, 15] .done .stop)) (.alt [13] (.alt [3, 5, 6, 7, 8, 9, 10, 11, 12, 14, 15] .done (.alt [5, 3, 6, 7, 8, 9, 10, 11, 12, 14, 15] .done .stop)) .stop))) (.alt [5] (.alt [2] (.alt [3] (.alt [6] (.alt [7] (.alt [8] (.alt [9, 10, 11, 12, 13, 14, 15] .done (.alt [13, 9, 10, 11, 12, 14, 15] .done .stop)) (.alt [13, 8, 9, 10, 11, 12, 14, 15] .done .stop)) (.alt [13, 7, 8, 9, 10, 11, 12, 14, 15] .done .stop)) (.alt [13, 6, 7, 8, 9, 10, 11, 12, 14, 15] .done .stop)) (.alt [13, 3, 6, 7, 8, 9, 10, 11, 12, 14, 15] .done .stop)) (.alt [13, 2, 3, 6, 7, 8, 9, 10, 11, 12, 14, 15] .done .stop)) (.alt [13] (.alt [2] (.alt [3, 5, 6, 7, 8, 9, 10, 11, 12, 14, 15] .done (.alt [5, 3, 6, 7, 8, 9, 10, 11, 12, 14, 15] .done .stop)) (.alt [5, 2, 3, 6, 7, 8, 9, 10, 11, 12, 14, 15] .done .stop)) .stop))) (.alt [13] (.alt [2] (.alt [3, 4, 5, 6, 7, 8, 9, 10, 11, 12, 14, 15] .done (.alt [4] (.alt [3, 5, 6, 7, 8, 9, 10, 11, 12, 14, 15] .done (.alt [5, 3, 6, 7, 8, 9, 10, 11, 12, 14, 15] .done .stop)) .stop)) (.alt [4] (.alt [2] (.alt [3, 5, 6, 7, 8, 9, 10, 11, 12, 14, 15] .done (.alt [5, 3, 6, 7, 8, 9, 10, 11, 12, 14, 15] .done .stop)) (.alt [5, 2, 3, 6, 7, 8, 9, 10, 11, 12, 14, 15] .done .stop)) .stop)) .stop))) .stop)
def c7d : CF := ⟨102,
  .seq (.region false [⟨some 4, none, .eff (.box (some 5)) [.tmp 1]⟩,
     ⟨some 6, none, .rd .mov [.pv (.bool false)]⟩] L7)
  (.seq (.seq (.region false [⟨some 12, none, .rd .mov [.tmp 0]⟩,
      ⟨some 13, none, .rd .lenL [.tmp 12]⟩,
      ⟨some 14, none, .rd (.bin .gtr) [.tmp 13, .pv (.int .i64 60)]⟩] L7)
   (.cond (.tmp 14)
    (.seq (.region false [⟨some 15, none, .call (.pv (.fn 17 [] [])) []⟩,
        ⟨some 6, none, .rd .mov [.tmp 15]⟩] L7)
     (.ret))
    (.skip)))
  (.seq (.region false [⟨some 16, none, .rd (.fldAddr 0) [.tmp 4]⟩,
     ⟨none, none, .eff (.store none) [.tmp 16, .pv (.int .i64 1)]⟩] L7)
  (.seq (.seq (.region false [⟨some 7, none, .rd .mov [.pv (.int .i64 0)]⟩] L7)
   (.block 0
    (.loop
      (.seq (.seq (.region false [⟨some 17, none, .rd .mov [.tmp 7]⟩,
           ⟨some 18, none, .rd .mov [.tmp 0]⟩,
           ⟨some 19, none, .rd .lenL [.tmp 18]⟩,
           ⟨some 20, none, .rd (.bin .lss) [.tmp 17, .tmp 19]⟩] L7)
        (.cond (.tmp 20)
         (.skip)
         (.exit 0)))
       (.seq (.block 1
         (.seq (.seq (.region false [⟨some 23, none, .rd .mov [.tmp 0]⟩,
              ⟨some 24, none, .rd .mov [.tmp 7]⟩,
              ⟨some 25, none, .rd (.idxAddr (some 5)) [.tmp 23, .tmp 24]⟩,
              ⟨some 26, none, .rd (.fldAddr 0) [.tmp 25]⟩,
              ⟨some 27, none, .rd (.load none) [.tmp 26]⟩,
              ⟨some 28, none, .rd (.bin .geq) [.tmp 27, .pv (.int .i64 1152921504606846976)]⟩] L7)
           (.cond (.tmp 28)
            (.seq (.region false [⟨some 29, none, .call (.pv (.fn 17 [] [])) []⟩,
                ⟨some 6, none, .rd .mov [.tmp 29]⟩] L7)
             (.ret))
            (.skip)))
          (.regionA (.alt [⟨some 30, none, .rd (.fldAddr 0) [.tmp 4]⟩,
             ⟨some 32, none, .rd .mov [.tmp 0]⟩,
             ⟨some 33, none, .rd .mov [.tmp 7]⟩,
             ⟨some 34, none, .rd (.idxAddr (some 5)) [.tmp 32, .tmp 33]⟩,
             ⟨some 35, none, .rd (.fldAddr 0) [.tmp 34]⟩]
            (.alt [⟨some 31, none, .rd (.load none) [.tmp 30]⟩,
              ⟨some 36, none, .rd (.load none) [.tmp 35]⟩,
              ⟨some 37, none, .rd (.bin .add) [.tmp 36, .pv (.int .i64 1)]⟩,
              ⟨some 38, none, .rd .max [.tmp 31, .tmp 37]⟩,
              ⟨some 39, none, .rd (.fldAddr 0) [.tmp 4]⟩,
              ⟨none, none, .eff (.store none) [.tmp 39, .tmp 38]⟩]
             .done
             (.alt [⟨some 36, none, .rd (.load none) [.tmp 35]⟩,
               ⟨some 37, none, .rd (.bin .add) [.tmp 36, .pv (.int .i64 1)]⟩,
               ⟨some 31, none, .rd (.load none) [.tmp 30]⟩,
               ⟨some 38, none, .rd .max [.tmp 31, .tmp 37]⟩,
               ⟨some 39, none, .rd (.fldAddr 0) [.tmp 4]⟩,
               ⟨none, none, .eff (.store none) [.tmp 39, .tmp 38]⟩]
              .done
              .stop))
            .stop) L7)))
       (.region false [⟨some 21, none, .rd .mov [.tmp 7]⟩,
         ⟨some 22, none, .rd (.bin .add) [.tmp 21, .pv (.int .i64 1)]⟩,
         ⟨some 7, none, .rd .mov [.tmp 22]⟩] L7))))))
  (.seq (.region false [⟨some 41, none, .rd .mov [.tmp 0]⟩,
     ⟨some 42, none, .call (.pv (.fn 20 [] [])) [.tmp 41]⟩,
     ⟨some 43, none, .call (.pv (.fn 19 [] [])) [.tmp 42]⟩,
     ⟨some 44, none, .rd .mov [.tmp 2]⟩,
     ⟨some 45, none, .call (.pv (.fn 27 [] [])) [.tmp 43, .tmp 44]⟩,
     ⟨some 40, none, .rd .mov [.tmp 45]⟩,
     ⟨some 46, none, .rd (.ext 0) [.tmp 40]⟩,
     ⟨some 47, none, .rd (.ext 1) [.tmp 40]⟩,
     ⟨some 8, none, .eff (.alloc (some 3) (.agg [(.int .i64 0), (.int .i64 0), (.str [])])) []⟩,
     ⟨none, none, .eff (.store (some 3)) [.tmp 8, .tmp 46]⟩,
     ⟨some 9, none, .rd .mov [.tmp 47]⟩] L7)
  (.seq (.regionA (IS.toS o7_2 t7_2) L7)
  (.seq (.seq (.region false [⟨some 61, none, .rd (.fldAddr 1) [.tmp 4]⟩,
      ⟨some 62, none, .rd (.load none) [.tmp 61]⟩,
      ⟨some 63, none, .rd .mov [.tmp 2]⟩,
      ⟨some 64, none, .rd (.bin .leq) [.tmp 62, .tmp 63]⟩,
      ⟨some 65, none, .rd .mov [.tmp 64]⟩,
      ⟨some 66, some (65, true), .rd (.fldAddr 2) [.tmp 4]⟩,
      ⟨some 67, some (65, true), .rd (.load none) [.tmp 66]⟩,
      ⟨some 68, some (65, true), .rd (.bin .eql) [.tmp 67, .pv (.int .i64 0)]⟩,
      ⟨some 69, some (65, true), .rd .mov [.tmp 68]⟩,
      ⟨some 70, some (69, false), .rd .mov [.tmp 2]⟩,
      ⟨some 71, some (69, false), .rd (.fldAddr 2) [.tmp 4]⟩,
      ⟨some 72, some (69, false), .rd (.load none) [.tmp 71]⟩,
      ⟨some 73, some (69, false), .rd (.bin .lss) [.tmp 70, .tmp 72]⟩,
      ⟨some 74, some (65, true), .rd .pick [.tmp 69, .pv (.bool true), .tmp 73]⟩,
      ⟨some 75, none, .rd .pick [.tmp 65, .tmp 74, .pv (.bool false)]⟩] L7)
   (.cond (.tmp 75)
    (.seq (.region false [⟨some 76, none, .rd .mov [.tmp 11]⟩,
        ⟨some 77, none, .rd .mov [.tmp 76]⟩,
        ⟨some 78, some (77, true), .rd (.load (some 3)) [.tmp 10]⟩,
        ⟨some 79, some (77, true), .rd (.fldAddr 0) [.tmp 4]⟩,
        ⟨some 80, some (77, true), .rd (.load none) [.tmp 79]⟩,
        ⟨some 81, some (77, true), .rd (.fldAddr 3) [.tmp 4]⟩,
        ⟨some 82, some (77, true), .rd (.load none) [.tmp 81]⟩,
        ⟨some 83, some (77, true), .rd (.fldAddr 4) [.tmp 4]⟩,
        ⟨some 84, some (77, true), .rd (.load none) [.tmp 83]⟩,
        ⟨some 85, some (77, true), .rd (.build [(.int .i64 0), (.int .i64 0), (.str [])] [(0, 1), (1, 1), (2, 1)]) [.tmp 80, .tmp 82, .tmp 84]⟩,
        ⟨some 86, some (77, true), .rd (.eqA false [0, 0, 2]) [.tmp 78, .tmp 85]⟩,
        ⟨some 87, none, .rd .pick [.tmp 77, .tmp 86, .pv (.bool false)]⟩,
        ⟨some 88, none, .rd .mov [.tmp 87]⟩,
        ⟨some 89, some (88, true), .call (.pv (.fn 17 [] [])) []⟩,
        ⟨some 90, none, .rd .pick [.tmp 88, .tmp 89, .pv (.bool false)]⟩,
        ⟨some 6, none, .rd .mov [.tmp 90]⟩] L7)
     (.ret))
    (.skip)))
  (.seq (.region false [⟨some 91, none, .rd (.load (some 3)) [.tmp 10]⟩,
     ⟨some 92, none, .rd (.load (some 3)) [.tmp 8]⟩,
     ⟨some 93, none, .rd (.eqA false [0, 0, 2]) [.tmp 91, .tmp 92]⟩,
     ⟨some 94, none, .rd .mov [.tmp 93]⟩,
     ⟨some 95, some (94, true), .rd .mov [.tmp 9]⟩,
     ⟨some 96, some (94, true), .rd .mov [.tmp 11]⟩,
     ⟨some 97, some (94, true), .rd (.eqB false) [.tmp 95, .tmp 96]⟩,
     ⟨some 98, none, .rd .pick [.tmp 94, .tmp 97, .pv (.bool false)]⟩,
     ⟨some 99, none, .rd .mov [.tmp 98]⟩,
     ⟨some 100, some (99, true), .call (.pv (.fn 17 [] [])) []⟩,
     ⟨some 101, none, .rd .pick [.tmp 99, .tmp 100, .pv (.bool false)]⟩,
     ⟨some 6, none, .rd .mov [.tmp 101]⟩] L7)
  (.ret)))))))),
  [.tmp 6]⟩
theorem k7d : compileF Try.prog [999999] L7 Try.f7 = some c7d := by kernel_rfl
end Go.Proofs.Ytjcoenideicmbaa

