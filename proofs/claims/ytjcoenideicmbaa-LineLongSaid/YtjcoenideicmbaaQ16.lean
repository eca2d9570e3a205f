import Derived.KernelRfl
import Derived.Test.YtjcoenideicmbaaQ14
import Derived.Test.YtjcoenideicmbaaQ15
import Derived.Test.YtjcoenideicmbaaP4
namespace Go.Proofs.Ytjcoenideicmbaa
open Go PG Go.Proofs
set_option linter.unusedSimpArgs false
set_option linter.unusedVariables false
set_option maxHeartbeats 2000000
set_option maxRecDepth 100000
/-- The place of the fact that is in force. -/
def atM (l : List En) (d : Int) : Int := placeM (l.map knOf) d
theorem atM_in (l : List En) (d : Int) : -1 ≤ atM l d ∧ atM l d < l.length := by
  have := placeM_in (l.map knOf) d
  rw [List.length_map] at this; exact this
def vlE (l : List En) (p : Int) : Vl := if p < 0 then vl0 else vlOf (l.getD p.toNat default)
theorem valM_vlE (l : List En) (p : Int) (h : p < l.length) : valM (l.map knOf) p = vlE l p := by
  unfold vlE
  split
  · unfold valM; rw [if_pos (by assumption)]
  · rw [valM_kn l p (by omega) (by omega)]
    simp [List.getD, show p.toNat < l.length by omega]
def piE (l : List En) (x : St3) : PV := .agg [.int .i64 x.1, .int .i64 x.2.1, .int .i64 (vlE l x.2.2).n, .int .i64 (vlE l x.2.2).num, .str (vlE l x.2.2).text]
abbrev fullE (l : List En) (a b : Int) : List St3 := fullM (l.map knOf) a b
theorem piE_map (l : List En) (a b : Int) : (pcs (fullE l a b)).map (pieP (l.map knOf)) = (pcs (fullE l a b)).map (piE l) := by
  refine List.map_congr_left fun x hx => ?_
  obtain ⟨h1, h2, -⟩ := pcs_mem hx
  rw [List.length_map] at h2
  unfold pieP piE
  rw [valM_vlE l _ h2]
def numsE (l : List En) (a : Int) (n : Nat) : List Int := (List.range n).map fun (j : Nat) => (vlE l (atM l (a + j))).num
theorem numsE_len (l : List En) (a : Int) (n : Nat) : (numsE l a n).length = n := by simp [numsE]
theorem numsE_eq (l : List En) (a : Int) (n : Nat) : numsU (l.map knOf) a n = numsE l a n := by
  unfold numsU numsE
  refine List.map_congr_left fun j _ => ?_
  rw [show placeM (l.map knOf) (a + j) = atM l (a + j) from rfl, valM_vlE l _ (atM_in l _).2]
/-- All that is told of a line of entries. -/
structure LineV (l : List En) (KV LV : PV) : Prop where
  kn : KV.noOwn = true
  ks : ∀ μ, PV.seen μ KV = true
  kw : ∀ μ, PV.view μ KV = KV
  known : VCalls Try.prog G0 20 [enL l] KV
  of : VCalls Try.prog G0 19 [KV] (.agg [LV])
  at_ : ∀ d, VCalls Try.prog G0 27 [.agg [LV], .int .i64 d] (.tup [vlP (vlE l (atM l d)), .bool (decide (0 ≤ atM l d))])
  over : ∀ a b, VCalls Try.prog G0 21 [.agg [LV], .agg [.int .i64 a, .int .i64 b]] (.list (some 5) ((pcs (fullE l a b)).map (piE l)))
  changes : ∀ a b, VCalls Try.prog G0 30 [.agg [LV], .agg [.int .i64 a, .int .i64 b]] (.list none ((chS a (fullE l a b)).map (PV.int .i64)))
  nums : ∀ a b, a ≤ b → b - a ≤ 4096 → -9223372036854775808 ≤ a → b ≤ 9223372036854775807 → VCalls Try.prog G0 29 [.agg [LV], .agg [.int .i64 a, .int .i64 b]] (.list none ((numsE l a (b - a).toNat).map (PV.int .i64)))
  nums0 : ∀ a b, b ≤ a → VCalls Try.prog G0 29 [.agg [LV], .agg [.int .i64 a, .int .i64 b]] .nilSl
  numsL : ∀ a b, a < b → 4096 < b - a → -9223372036854775808 ≤ a → b ≤ 9223372036854775807 → VCalls Try.prog G0 29 [.agg [LV], .agg [.int .i64 a, .int .i64 b]] .nilSl
  facts : VCalls Try.prog G0 23 [enL l] (enL l)
  place : ∀ d, VCalls Try.prog G0 28 [enL l, .int .i64 d] (.int .i64 (atM l d))
theorem lineV (l : List En) (hl : l.length ≤ 1000000000) : ∃ KV XX, LineV l KV (.list (some 9) XX) := by
  refine ⟨knV (l.map knOf), (l.map knOf).map knP, ?_, ?_, ?_, v20 l hl, v19 _ (by simpa using hl), fun d => ?_, fun a b => ?_, fun a b => v30 _ (by simpa using hl) a b, fun a b h1 h2 h3 h4 => ?_,
    fun a b h => v29n _ (by simpa using hl) a b h, fun a b h1 h2 h3 h4 => v29m _ (by simpa using hl) a b h1 h2 h3 h4, v23 l hl, v28 l hl⟩
  · unfold knV; split <;> simp [PV.noOwn]
  · intro μ; unfold knV; split <;> simp [PV.seen]
  · intro μ; unfold knV; split <;> simp [PV.view]
  · have h := v27 (l.map knOf) (by simpa using hl) d
    have e : valM (l.map knOf) (placeM (l.map knOf) d) = vlE l (atM l d) := valM_vlE l _ (atM_in l d).2
    rw [e] at h; exact h
  · have h := v21 (l.map knOf) (by simpa using hl) a b
    unfold ovP at h
    rw [show pcs (fullM (l.map knOf) a b) = pcs (fullE l a b) from rfl, piE_map] at h
    exact h
  · rcases Int.lt_or_eq_of_le h1 with h | h
    · have e := v29 (l.map knOf) (by simpa using hl) a b h h2 h3 h4
      rw [numsE_eq] at e; exact e
    · subst h
      refine VCalls.res (v29n _ (by simpa using hl) a a (by omega)) ?_
      rw [show (a - a).toNat = 0 by omega]
      exact .nil _
end Go.Proofs.Ytjcoenideicmbaa

namespace Go.Proofs.Ytjcoenideicmbaa
open Go PG Go.Proofs
set_option linter.unusedSimpArgs false
set_option linter.unusedVariables false
theorem _root_.PG.IsRuns.map {f g : Int → Int} {b a : Int} {R : List (Int × Int × Int)} (h : IsRuns f b a R) (hfg : ∀ d d', f d = f d' ↔ g d = g d') : IsRuns g b a (R.map fun x => (x.1, x.2.1, g x.1)) := by
  induction h with
  | one a h hf => exact .one a h fun d h1 h2 => (hfg _ _).1 (hf d h1 h2)
  | cons a c l h hf hn ht ih => exact .cons a c _ h (fun d h1 h2 => (hfg _ _).1 (hf d h1 h2)) (fun e => hn ((hfg _ _).2 e)) ih
theorem _root_.PG.IsRuns.head {f : Int → Int} {b a : Int} {R : List (Int × Int × Int)} (h : IsRuns f b a R) : ∃ c R', R = (a, c, f a) :: R' ∧ a < c := by
  cases h with
  | one _ h hf => exact ⟨b, [], rfl, h⟩
  | cons _ c l h hf hn ht => exact ⟨c, l, rfl, h⟩
/-- Cut within a stretch. -/
theorem _root_.PG.IsRuns.join {f : Int → Int} {b c a : Int} {l : List (Int × Int × Int)} (h : IsRuns f b a l) : ∀ {r : List (Int × Int × Int)}, IsRuns f c b r → f b = f (b - 1) →
    ∃ l0 x0 c2 r', l = l0 ++ [(x0, b, f b)] ∧ r = (b, c2, f b) :: r' ∧ IsRuns f c a (l0 ++ (x0, c2, f b) :: r') := by
  induction h with
  | one a h hf =>
    intro r hr hb
    have e : f b = f a := by rw [hb]; exact hf _ (by omega) (by omega)
    rw [e]
    have key : ∀ d, a ≤ d → d ≤ b → f d = f a := fun d h1 h2 => by
      rcases Int.lt_or_eq_of_le h2 with h' | h'
      · exact hf d h1 h'
      · rw [h', e]
    cases hr with
    | one _ h2 hf2 =>
      refine ⟨[], a, c, [], rfl, by rw [e], ?_⟩
      refine .one a (by omega) fun d h1 h3 => ?_
      rcases Int.lt_or_le d b with h' | h'
      · exact hf d h1 h'
      · rw [hf2 d h' h3, e]
    | cons _ c2 l2 h2 hf2 hn2 ht2 =>
      refine ⟨[], a, c2, l2, rfl, by rw [e], ?_⟩
      refine .cons a c2 l2 (by omega) (fun d h1 h3 => ?_) (by rw [← e]; exact hn2) ht2
      rcases Int.lt_or_le d b with h' | h'
      · exact hf d h1 h'
      · rw [hf2 d h' h3, e]
  | cons a c1 l h hf hn ht ih =>
    intro r hr hb
    obtain ⟨l0, x0, c2, r', rfl, rfl, h3⟩ := ih hr hb
    exact ⟨(a, c1, f a) :: l0, x0, c2, r', rfl, rfl, .cons a c1 _ h hf hn h3⟩
/-! Long spans -/
def PcsOk (f : Int → Int) (s0 b : Int) : Int → List St3 → Prop
  | e, [] => e < b → f e < 0 ∧ f (b - 1) < 0
  | e, x :: P => e ≤ x.1 ∧ x.1 < x.2.1 ∧ x.2.1 ≤ b ∧ 0 ≤ x.2.2 ∧ f x.1 = x.2.2 ∧ f (x.2.1 - 1) = x.2.2 ∧ (x.2.1 < b → f x.2.1 ≠ x.2.2) ∧ (s0 < x.1 → f (x.1 - 1) ≠ x.2.2) ∧ (e < x.1 → f e < 0 ∧ f (x.1 - 1) < 0) ∧ PcsOk f s0 b x.2.1 P
theorem pcs_ok {f : Int → Int} (hf1 : ∀ d, -1 ≤ f d) {b s0 a : Int} {R : List St3} (h : IsRuns f b a R) : (a = s0 ∨ f (a - 1) ≠ f a) → s0 ≤ a → PcsOk f s0 b a (pcs R) := by
  induction h with
  | one a h hf =>
    intro hs hle
    rw [pcs_one]
    split
    · rename_i hp
      refine ⟨by simp, h, by simp, hp, rfl, hf (b - 1) (by omega) (by omega), fun h => by simp at h, fun h => ?_, fun h => by simp at h, fun h => by simp at h⟩
      rcases hs with hs | hs
      · simp at h; omega
      · exact hs
    · intro _
      rw [hf (b - 1) (by omega) (by omega)]; omega
  | cons a c l h hf hn ht ih =>
    intro hs hle
    have e : f (c - 1) = f a := hf _ (by omega) (by omega)
    have ih' := ih (.inr (by rw [e]; exact fun h => hn h.symm)) (by omega)
    by_cases hp : 0 ≤ f a
    · rw [show pcs ((a, c, f a) :: l) = (a, c, f a) :: pcs l by simp [pcs, hp]]
      have := ht.lt
      refine ⟨by simp, h, by simp; omega, hp, rfl, e, fun _ => hn, fun h => ?_, fun h => by simp at h, ih'⟩
      rcases hs with hs | hs
      · simp at h; omega
      · exact hs
    · rw [show pcs ((a, c, f a) :: l) = pcs l by simp [pcs, hp]]
      obtain ⟨c2, R', rfl, hc2⟩ := ht.head
      have g1 := hf1 a
      have g2 := hf1 c
      have hpc : 0 ≤ f c := by omega
      rw [show pcs ((c, c2, f c) :: R') = (c, c2, f c) :: pcs R' by simp [pcs, hpc]] at ih' ⊢
      obtain ⟨i1, i2, i3, i4, i5, i6, i7, i8, i9, i10⟩ := ih'
      exact ⟨by simp; omega, i2, i3, i4, i5, i6, i7, i8, fun _ => by simp only; rw [e]; omega, i10⟩
end Go.Proofs.Ytjcoenideicmbaa

namespace Go.Proofs.Ytjcoenideicmbaa
open PG Go.Proofs
def o9_1 : List CO := [⟨some 60, none, .rd .mov [.tmp 7]⟩,
  ⟨some 61, none, .rd .mov [.tmp 9]⟩,
  ⟨some 62, none, .rd (.idxAddr (some 5)) [.tmp 60, .tmp 61]⟩,
  ⟨some 63, none, .rd (.fldAddr 0) [.tmp 62]⟩,
  ⟨some 64, none, .rd (.fldAddr 0) [.tmp 63]⟩,
  ⟨some 66, none, .rd .mov [.tmp 7]⟩,
  ⟨some 67, none, .rd .mov [.tmp 9]⟩,
  ⟨some 68, none, .rd (.idxAddr (some 5)) [.tmp 66, .tmp 67]⟩,
  ⟨some 69, none, .rd (.fldAddr 0) [.tmp 68]⟩,
  ⟨some 70, none, .rd (.fldAddr 1) [.tmp 69]⟩,
  ⟨some 65, none, .rd (.load none) [.tmp 64]⟩,
  ⟨some 10, none, .rd .mov [.tmp 65]⟩,
  ⟨some 71, none, .rd (.load none) [.tmp 70]⟩,
  ⟨some 11, none, .rd .mov [.tmp 71]⟩]
def t9_1 : IS := (.alt [0, 1, 2, 3, 4, 5, 6, 7, 8, 9] (.alt [10, 11, 12, 13] .done (.alt [12, 10, 11, 13] .done .stop)) .stop)
def g9_1 : Dg := ⟨o9_1, [(0, 0, 0), (1, 0, 0), (2, 0, 0), (3, 0, 0), (4, 0, 0), (5, 0, 0), (6, 0, 0), (7, 0, 0), (8, 0, 0), (9, 0, 0), (10, 0, 0), (12, 0, 0), (11, 0, 1), (13, 1, 2), (12, 1, 1)], [0, 1, 3, 4, 5, 6, 7, 8, 9, 10, 11, 12, 15, 24, 57, 85, 138, 154, 173, 189], [[0, 1, 3, 4, 5, 6, 7, 8, 9, 10, 11, 12, 15, 24, 57, 60, 61, 62, 63, 64, 65, 66, 67, 68, 69, 70, 71, 85, 138, 154, 173, 189], [0, 1, 3, 4, 5, 6, 7, 8, 9, 10, 11, 12, 15, 24, 57, 60, 61, 62, 63, 64, 65, 66, 67, 68, 69, 70, 71, 85, 138, 154, 173, 189], [0, 1, 3, 4, 5, 6, 7, 8, 9, 10, 11, 12, 15, 24, 57, 60, 61, 62, 63, 64, 65, 66, 67, 68, 69, 70, 71, 85, 138, 154, 173, 189]], 2, []⟩
def o9_2 : List CO := [⟨some 89, none, .rd .mov [.tmp 12]⟩,
  ⟨some 90, none, .rd (.bin .lss) [.tmp 89, .pv (.int .i64 0)]⟩,
  ⟨some 91, none, .rd .mov [.tmp 90]⟩,
  ⟨some 92, some (91, false), .rd .mov [.tmp 7]⟩,
  ⟨some 93, some (91, false), .rd .mov [.tmp 9]⟩,
  ⟨some 94, some (91, false), .rd (.idxAddr (some 5)) [.tmp 92, .tmp 93]⟩,
  ⟨some 95, some (91, false), .rd (.fldAddr 2) [.tmp 94]⟩,
  ⟨some 97, some (91, false), .rd .mov [.tmp 6]⟩,
  ⟨some 98, some (91, false), .rd .mov [.tmp 12]⟩,
  ⟨some 99, some (91, false), .rd (.idxAddr (some 5)) [.tmp 97, .tmp 98]⟩,
  ⟨some 96, some (91, false), .rd (.load (some 3)) [.tmp 95]⟩,
  ⟨some 100, some (91, false), .rd (.load (some 5)) [.tmp 99]⟩,
  ⟨some 101, some (91, false), .call (.pv (.fn 24 [] [])) [.tmp 100]⟩,
  ⟨some 102, some (91, false), .rd (.eqA true [0, 0, 2]) [.tmp 96, .tmp 101]⟩,
  ⟨some 103, none, .rd .pick [.tmp 91, .pv (.bool true), .tmp 102]⟩,
  ⟨some 104, none, .rd .mov [.tmp 103]⟩,
  ⟨some 105, some (104, false), .rd .mov [.tmp 6]⟩,
  ⟨some 106, some (104, false), .rd .mov [.tmp 11]⟩,
  ⟨some 107, some (104, false), .rd (.bin .sub) [.tmp 106, .pv (.int .i64 1)]⟩,
  ⟨some 109, some (104, false), .rd .mov [.tmp 12]⟩,
  ⟨some 108, some (104, false), .call (.pv (.fn 28 [] [])) [.tmp 105, .tmp 107]⟩,
  ⟨some 110, some (104, false), .rd (.bin .neq) [.tmp 108, .tmp 109]⟩,
  ⟨some 111, none, .rd .pick [.tmp 104, .pv (.bool true), .tmp 110]⟩,
  ⟨some 112, none, .rd .mov [.tmp 111]⟩,
  ⟨some 113, some (112, false), .rd .mov [.tmp 11]⟩,
  ⟨some 114, some (112, false), .rd (.fldAddr 1) [.tmp 3]⟩,
  ⟨some 115, some (112, false), .rd (.load none) [.tmp 114]⟩,
  ⟨some 116, some (112, false), .rd (.bin .lss) [.tmp 113, .tmp 115]⟩,
  ⟨some 117, some (112, false), .rd .mov [.tmp 116]⟩,
  ⟨some 118, some (117, true), .rd .mov [.tmp 6]⟩,
  ⟨some 119, some (117, true), .rd .mov [.tmp 11]⟩,
  ⟨some 121, some (117, true), .rd .mov [.tmp 12]⟩,
  ⟨some 120, some (117, true), .call (.pv (.fn 28 [] [])) [.tmp 118, .tmp 119]⟩,
  ⟨some 122, some (117, true), .rd (.bin .eql) [.tmp 120, .tmp 121]⟩,
  ⟨some 123, some (112, false), .rd .pick [.tmp 117, .tmp 122, .pv (.bool false)]⟩,
  ⟨some 124, none, .rd .pick [.tmp 112, .pv (.bool true), .tmp 123]⟩,
  ⟨some 125, none, .rd .mov [.tmp 124]⟩,
  ⟨some 126, some (125, false), .rd .mov [.tmp 10]⟩,
  ⟨some 127, some (125, false), .rd (.fldAddr 0) [.tmp 3]⟩,
  ⟨some 128, some (125, false), .rd (.load none) [.tmp 127]⟩,
  ⟨some 129, some (125, false), .rd (.bin .gtr) [.tmp 126, .tmp 128]⟩,
  ⟨some 130, some (125, false), .rd .mov [.tmp 129]⟩,
  ⟨some 131, some (130, true), .rd .mov [.tmp 6]⟩,
  ⟨some 132, some (130, true), .rd .mov [.tmp 10]⟩,
  ⟨some 133, some (130, true), .rd (.bin .sub) [.tmp 132, .pv (.int .i64 1)]⟩,
  ⟨some 135, some (130, true), .rd .mov [.tmp 12]⟩,
  ⟨some 134, some (130, true), .call (.pv (.fn 28 [] [])) [.tmp 131, .tmp 133]⟩,
  ⟨some 136, some (130, true), .rd (.bin .eql) [.tmp 134, .tmp 135]⟩,
  ⟨some 137, some (125, false), .rd .pick [.tmp 130, .tmp 136, .pv (.bool false)]⟩,
  ⟨some 138, none, .rd .pick [.tmp 125, .pv (.bool true), .tmp 137]⟩]
def t9_2 : IS := (.alt [0, 1, 2, 3, 4, 5, 6, 7, 8, 9] (.alt [10, 11, 12, 13, 14, 15, 16, 17, 18, 19, 20, 21, 22, 23, 24, 25, 26, 27, 28, 29, 30, 31, 32, 33, 34, 35, 36, 37, 38, 39, 40, 41, 42, 43, 44, 45, 46, 47, 48, 49] .done (.alt [11] (.alt [10, 12, 13, 14, 15, 16, 17, 18, 19, 20, 21, 22, 23, 24, 25, 26, 27, 28, 29, 30, 31, 32, 33, 34, 35, 36, 37, 38, 39, 40, 41, 42, 43, 44, 45, 46, 47, 48, 49] .done (.alt [12, 10, 13, 14, 15, 16, 17, 18, 19, 20, 21, 22, 23, 24, 25, 26, 27, 28, 29, 30, 31, 32, 33, 34, 35, 36, 37, 38, 39, 40, 41, 42, 43, 44, 45, 46, 47, 48, 49] .done .stop)) .stop)) .stop)
def g9_2 : Dg := ⟨o9_2, [(0, 0, 0), (1, 0, 0), (2, 0, 0), (3, 0, 0), (4, 0, 0), (5, 0, 0), (6, 0, 0), (7, 0, 0), (8, 0, 0), (9, 0, 0), (10, 0, 0), (11, 0, 0), (12, 0, 0), (13, 0, 0), (14, 0, 0), (15, 0, 0), (16, 0, 0), (17, 0, 0), (18, 0, 0), (19, 0, 0), (20, 0, 0), (21, 0, 0), (22, 0, 0), (23, 0, 0), (24, 0, 0), (25, 0, 0), (26, 0, 0), (27, 0, 0), (28, 0, 0), (29, 0, 0), (30, 0, 0), (31, 0, 0), (32, 0, 0), (33, 0, 0), (34, 0, 0), (35, 0, 0), (36, 0, 0), (37, 0, 0), (38, 0, 0), (39, 0, 0), (40, 0, 0), (41, 0, 0), (42, 0, 0), (43, 0, 0), (44, 0, 0), (45, 0, 0), (46, 0, 0), (47, 0, 0), (48, 0, 0), (49, 0, 1)], [0, 1, 3, 4, 5, 6, 7, 8, 9, 10, 11, 12, 15, 24, 57, 85, 138, 154, 173, 189], [[0, 1, 3, 4, 5, 6, 7, 8, 9, 10, 11, 12, 15, 24, 57, 85, 89, 90, 91, 92, 93, 94, 95, 96, 97, 98, 99, 100, 101, 102, 103, 104, 105, 106, 107, 108, 109, 110, 111, 112, 113, 114, 115, 116, 117, 118, 119, 120, 121, 122, 123, 124, 125, 126, 127, 128, 129, 130, 131, 132, 133, 134, 135, 136, 137, 138, 154, 173, 189], [0, 1, 3, 4, 5, 6, 7, 8, 9, 10, 11, 12, 15, 24, 57, 85, 89, 90, 91, 92, 93, 94, 95, 96, 97, 98, 99, 100, 101, 102, 103, 104, 105, 106, 107, 108, 109, 110, 111, 112, 113, 114, 115, 116, 117, 118, 119, 120, 121, 122, 123, 124, 125, 126, 127, 128, 129, 130, 131, 132, 133, 134, 135, 136, 137, 138, 154, 173, 189]], 1, []⟩
def o9_3 : List CO := [⟨some 207, none, .rd (.fldAddr 1) [.tmp 3]⟩,
  ⟨some 209, none, .rd (.fldAddr 0) [.tmp 3]⟩,
  ⟨some 203, none, .rd (.load (some 1)) [.tmp 5]⟩,
  ⟨some 204, none, .rd (.load (some 2)) [.tmp 3]⟩,
  ⟨some 205, none, .call (.pv (.fn 29 [] [])) [.tmp 203, .tmp 204]⟩,
  ⟨some 206, none, .rd .lenL [.tmp 205]⟩,
  ⟨some 208, none, .rd (.load none) [.tmp 207]⟩,
  ⟨some 210, none, .rd (.load none) [.tmp 209]⟩,
  ⟨some 211, none, .rd (.bin .sub) [.tmp 208, .tmp 210]⟩,
  ⟨some 212, none, .rd (.bin .eql) [.tmp 206, .tmp 211]⟩,
  ⟨some 213, none, .rd .mov [.tmp 212]⟩,
  ⟨some 214, some (213, true), .call (.pv (.fn 17 [] [])) []⟩,
  ⟨some 215, none, .rd .pick [.tmp 213, .tmp 214, .pv (.bool false)]⟩,
  ⟨some 4, none, .rd .mov [.tmp 215]⟩]
def t9_3 : IS := (.alt [0, 1] (.alt [2] (.alt [3] (.alt [4, 5] (.alt [6, 7, 8, 9, 10, 11, 12, 13] .done (.alt [7, 6, 8, 9, 10, 11, 12, 13] .done .stop)) (.alt [6] (.alt [4, 5, 7, 8, 9, 10, 11, 12, 13] .done (.alt [7, 8, 4, 5, 9, 10, 11, 12, 13] .done .stop)) (.alt [7] (.alt [4, 5, 6, 8, 9, 10, 11, 12, 13] .done (.alt [6, 8, 4, 5, 9, 10, 11, 12, 13] .done .stop)) .stop))) (.alt [6] (.alt [3] (.alt [4, 5, 7, 8, 9, 10, 11, 12, 13] .done (.alt [7, 8, 4, 5, 9, 10, 11, 12, 13] .done .stop)) (.alt [7, 8, 3, 4, 5, 9, 10, 11, 12, 13] .done .stop)) (.alt [7] (.alt [3] (.alt [4, 5, 6, 8, 9, 10, 11, 12, 13] .done (.alt [6, 8, 4, 5, 9, 10, 11, 12, 13] .done .stop)) (.alt [6, 8, 3, 4, 5, 9, 10, 11, 12, 13] .done .stop)) .stop))) (.alt [3] (.alt [2] (.alt [4, 5] (.alt [6, 7, 8, 9, 10, 11, 12, 13] .done (.alt [7, 6, 8, 9, 10, 11, 12, 13] .done .stop)) (.alt [6] (.alt [4, 5, 7, 8, 9, 10, 11, 12, 13] .done (.alt [7, 8, 4, 5, 9, 10, 11, 12, 13] .done .stop)) (.alt [7] (.alt [4, 5, 6, 8, 9, 10, 11, 12, 13] .done (.alt [6, 8, 4, 5, 9, 10, 11, 12, 13] .done .stop)) .stop))) (.alt [6] (.alt [2] (.alt [4, 5, 7, 8, 9, 10, 11, 12, 13] .done (.alt [7, 8, 4, 5, 9, 10, 11, 12, 13] .done .stop)) (.alt [7, 8, 2, 4, 5, 9, 10, 11, 12, 13] .done .stop)) (.alt [7] (.alt [2] (.alt [4, 5, 6, 8, 9, 10, 11, 12, 13] .done (.alt [6, 8, 4, 5, 9, 10, 11, 12, 13] .done .stop)) (.alt [6, 8, 2, 4, 5, 9, 10, 11, 12, 13] .done .stop)) .stop))) (.alt [6] (.alt [2] (.alt [3] (.alt [4, 5, 7, 8, 9, 10, 11, 12, 13] .done (.alt [7, 8, 4, 5, 9, 10, 11, 12, 13] .done .stop)) (.alt [7, 8, 3, 4, 5, 9, 10, 11, 12, 13] .done .stop)) (.alt [3] (.alt [2] (.alt [4, 5, 7, 8, 9, 10, 11, 12, 13] .done (.alt [7, 8, 4, 5, 9, 10, 11, 12, 13] .done .stop)) (.alt [7, 8, 2, 4, 5, 9, 10, 11, 12, 13] .done .stop)) (.alt [7, 8] (.alt [2, 3, 4, 5, 9, 10, 11, 12, 13] .done (.alt [3, 2, 4, 5, 9, 10, 11, 12, 13] .done .stop)) .stop))) (.alt [7] (.alt [2] (.alt [3] (.alt [4, 5, 6, 8, 9, 10, 11, 12, 13] .done (.alt [6, 8, 4, 5, 9, 10, 11, 12, 13] .done .stop)) (.alt [6, 8, 3, 4, 5, 9, 10, 11, 12, 13] .done .stop)) (.alt [3] (.alt [2] (.alt [4, 5, 6, 8, 9, 10, 11, 12, 13] .done (.alt [6, 8, 4, 5, 9, 10, 11, 12, 13] .done .stop)) (.alt [6, 8, 2, 4, 5, 9, 10, 11, 12, 13] .done .stop)) (.alt [6, 8] (.alt [2, 3, 4, 5, 9, 10, 11, 12, 13] .done (.alt [3, 2, 4, 5, 9, 10, 11, 12, 13] .done .stop)) .stop))) .stop)))) .stop)
def g9_3 : Dg := ⟨o9_3, [(0, 0, 0), (1, 0, 0), (2, 0, 0), (3, 0, 0), (4, 0, 0), (5, 0, 0), (6, 0, 0), (7, 0, 0), (8, 0, 0), (9, 0, 0), (10, 0, 0), (11, 0, 0), (12, 0, 0), (13, 0, 1)], [0, 1, 3, 4, 5, 6, 7, 8, 9, 10, 11, 12, 15, 24, 57, 85, 138, 154, 173, 189], [[0, 1, 3, 4, 5, 6, 7, 8, 9, 10, 11, 12, 15, 24, 57, 85, 138, 154, 173, 189, 203, 204, 205, 206, 207, 208, 209, 210, 211, 212, 213, 214, 215], [0, 1, 3, 4, 5, 6, 7, 8, 9, 10, 11, 12, 15, 24, 57, 85, 138, 154, 173, 189, 203, 204, 205, 206, 207, 208, 209, 210, 211, 212, 213, 214, 215]], 1, []⟩
def c9d : CF := ⟨216,
  .seq (.region false [⟨some 3, none, .eff (.box (some 2)) [.tmp 1]⟩,
     ⟨some 4, none, .rd .mov [.pv (.bool false)]⟩] L9)
  (.seq (.seq (.region false [⟨some 13, none, .rd .mov [.tmp 0]⟩,
      ⟨some 14, none, .rd .lenL [.tmp 13]⟩,
      ⟨some 15, none, .rd (.bin .gtr) [.tmp 14, .pv (.int .i64 30)]⟩] L9)
   (.cond (.tmp 15)
    (.seq (.region false [⟨some 16, none, .call (.pv (.fn 17 [] [])) []⟩,
        ⟨some 4, none, .rd .mov [.tmp 16]⟩] L9)
     (.ret))
    (.skip)))
  (.seq (.region false [⟨some 17, none, .rd .mov [.tmp 0]⟩,
     ⟨some 18, none, .call (.pv (.fn 20 [] [])) [.tmp 17]⟩,
     ⟨some 19, none, .call (.pv (.fn 19 [] [])) [.tmp 18]⟩,
     ⟨some 5, none, .eff (.alloc (some 1) (.agg [.nilSl])) []⟩,
     ⟨none, none, .eff (.store (some 1)) [.tmp 5, .tmp 19]⟩] L9)
  (.seq (.seq (.region false [⟨some 20, none, .rd (.fldAddr 1) [.tmp 3]⟩,
      ⟨some 21, none, .rd (.load none) [.tmp 20]⟩,
      ⟨some 22, none, .rd (.fldAddr 0) [.tmp 3]⟩,
      ⟨some 23, none, .rd (.load none) [.tmp 22]⟩,
      ⟨some 24, none, .rd (.bin .leq) [.tmp 21, .tmp 23]⟩] L9)
   (.cond (.tmp 24)
    (.seq (.region false [⟨some 25, none, .rd (.load (some 1)) [.tmp 5]⟩,
        ⟨some 26, none, .rd (.load (some 2)) [.tmp 3]⟩,
        ⟨some 27, none, .call (.pv (.fn 21 [] [])) [.tmp 25, .tmp 26]⟩,
        ⟨some 28, none, .rd .lenL [.tmp 27]⟩,
        ⟨some 29, none, .rd (.bin .eql) [.tmp 28, .pv (.int .i64 0)]⟩,
        ⟨some 30, none, .rd .mov [.tmp 29]⟩,
        ⟨some 31, some (30, true), .rd (.load (some 1)) [.tmp 5]⟩,
        ⟨some 32, some (30, true), .rd (.load (some 2)) [.tmp 3]⟩,
        ⟨some 33, some (30, true), .call (.pv (.fn 29 [] [])) [.tmp 31, .tmp 32]⟩,
        ⟨some 34, some (30, true), .rd .lenL [.tmp 33]⟩,
        ⟨some 35, some (30, true), .rd (.bin .eql) [.tmp 34, .pv (.int .i64 0)]⟩,
        ⟨some 36, none, .rd .pick [.tmp 30, .tmp 35, .pv (.bool false)]⟩,
        ⟨some 37, none, .rd .mov [.tmp 36]⟩,
        ⟨some 38, some (37, true), .rd (.load (some 1)) [.tmp 5]⟩,
        ⟨some 39, some (37, true), .rd (.load (some 2)) [.tmp 3]⟩,
        ⟨some 40, some (37, true), .call (.pv (.fn 30 [] [])) [.tmp 38, .tmp 39]⟩,
        ⟨some 41, some (37, true), .rd .lenL [.tmp 40]⟩,
        ⟨some 42, some (37, true), .rd (.bin .eql) [.tmp 41, .pv (.int .i64 0)]⟩,
        ⟨some 43, none, .rd .pick [.tmp 37, .tmp 42, .pv (.bool false)]⟩,
        ⟨some 44, none, .rd .mov [.tmp 43]⟩,
        ⟨some 45, some (44, true), .call (.pv (.fn 17 [] [])) []⟩,
        ⟨some 46, none, .rd .pick [.tmp 44, .tmp 45, .pv (.bool false)]⟩,
        ⟨some 4, none, .rd .mov [.tmp 46]⟩] L9)
     (.ret))
    (.skip)))
  (.seq (.region false [⟨some 47, none, .rd .mov [.tmp 0]⟩,
     ⟨some 48, none, .call (.pv (.fn 23 [] [])) [.tmp 47]⟩,
     ⟨some 6, none, .rd .mov [.tmp 48]⟩] L9)
  (.seq (.region false [⟨some 49, none, .rd (.load (some 1)) [.tmp 5]⟩,
     ⟨some 50, none, .rd (.load (some 2)) [.tmp 3]⟩,
     ⟨some 51, none, .call (.pv (.fn 21 [] [])) [.tmp 49, .tmp 50]⟩,
     ⟨some 7, none, .rd .mov [.tmp 51]⟩] L9)
  (.seq (.region false [⟨some 52, none, .rd (.fldAddr 0) [.tmp 3]⟩,
     ⟨some 53, none, .rd (.load none) [.tmp 52]⟩,
     ⟨some 8, none, .rd .mov [.tmp 53]⟩] L9)
  (.seq (.seq (.region false [⟨some 9, none, .rd .mov [.pv (.int .i64 0)]⟩] L9)
   (.block 0
    (.loop
      (.seq (.seq (.region false [⟨some 54, none, .rd .mov [.tmp 9]⟩,
           ⟨some 55, none, .rd .mov [.tmp 7]⟩,
           ⟨some 56, none, .rd .lenL [.tmp 55]⟩,
           ⟨some 57, none, .rd (.bin .lss) [.tmp 54, .tmp 56]⟩] L9)
        (.cond (.tmp 57)
         (.skip)
         (.exit 0)))
       (.seq (.block 1
         (.seq (.regionA (IS.toS o9_1 t9_1) L9)
          (.seq (.seq (.region false [⟨some 72, none, .rd .mov [.tmp 10]⟩,
              ⟨some 73, none, .rd .mov [.tmp 8]⟩,
              ⟨some 74, none, .rd (.bin .lss) [.tmp 72, .tmp 73]⟩,
              ⟨some 75, none, .rd .mov [.tmp 74]⟩,
              ⟨some 76, some (75, false), .rd .mov [.tmp 11]⟩,
              ⟨some 77, some (75, false), .rd .mov [.tmp 10]⟩,
              ⟨some 78, some (75, false), .rd (.bin .leq) [.tmp 76, .tmp 77]⟩,
              ⟨some 79, none, .rd .pick [.tmp 75, .pv (.bool true), .tmp 78]⟩,
              ⟨some 80, none, .rd .mov [.tmp 79]⟩,
              ⟨some 81, some (80, false), .rd .mov [.tmp 11]⟩,
              ⟨some 82, some (80, false), .rd (.fldAddr 1) [.tmp 3]⟩,
              ⟨some 83, some (80, false), .rd (.load none) [.tmp 82]⟩,
              ⟨some 84, some (80, false), .rd (.bin .gtr) [.tmp 81, .tmp 83]⟩,
              ⟨some 85, none, .rd .pick [.tmp 80, .pv (.bool true), .tmp 84]⟩] L9)
           (.cond (.tmp 85)
            (.seq (.region false [⟨some 4, none, .rd .mov [.pv (.bool false)]⟩] L9)
             (.ret))
            (.skip)))
          (.seq (.region false [⟨some 86, none, .rd .mov [.tmp 6]⟩,
             ⟨some 87, none, .rd .mov [.tmp 10]⟩,
             ⟨some 88, none, .call (.pv (.fn 28 [] [])) [.tmp 86, .tmp 87]⟩,
             ⟨some 12, none, .rd .mov [.tmp 88]⟩] L9)
          (.seq (.seq (.regionA (IS.toS o9_2 t9_2) L9)
           (.cond (.tmp 138)
            (.seq (.region false [⟨some 4, none, .rd .mov [.pv (.bool false)]⟩] L9)
             (.ret))
            (.skip)))
          (.seq (.seq (.region false [⟨some 139, none, .rd .mov [.tmp 10]⟩,
              ⟨some 140, none, .rd .mov [.tmp 8]⟩,
              ⟨some 141, none, .rd (.bin .gtr) [.tmp 139, .tmp 140]⟩,
              ⟨some 142, none, .rd .mov [.tmp 141]⟩,
              ⟨some 143, some (142, true), .rd .mov [.tmp 6]⟩,
              ⟨some 144, some (142, true), .rd .mov [.tmp 8]⟩,
              ⟨some 145, some (142, true), .call (.pv (.fn 28 [] [])) [.tmp 143, .tmp 144]⟩,
              ⟨some 146, some (142, true), .rd (.bin .geq) [.tmp 145, .pv (.int .i64 0)]⟩,
              ⟨some 147, some (142, true), .rd .mov [.tmp 146]⟩,
              ⟨some 148, some (147, false), .rd .mov [.tmp 6]⟩,
              ⟨some 149, some (147, false), .rd .mov [.tmp 10]⟩,
              ⟨some 150, some (147, false), .rd (.bin .sub) [.tmp 149, .pv (.int .i64 1)]⟩,
              ⟨some 151, some (147, false), .call (.pv (.fn 28 [] [])) [.tmp 148, .tmp 150]⟩,
              ⟨some 152, some (147, false), .rd (.bin .geq) [.tmp 151, .pv (.int .i64 0)]⟩,
              ⟨some 153, some (142, true), .rd .pick [.tmp 147, .pv (.bool true), .tmp 152]⟩,
              ⟨some 154, none, .rd .pick [.tmp 142, .tmp 153, .pv (.bool false)]⟩] L9)
           (.cond (.tmp 154)
            (.seq (.region false [⟨some 4, none, .rd .mov [.pv (.bool false)]⟩] L9)
             (.ret))
            (.skip)))
          (.region false [⟨some 155, none, .rd .mov [.tmp 11]⟩,
            ⟨some 8, none, .rd .mov [.tmp 155]⟩] L9)))))))
       (.region false [⟨some 58, none, .rd .mov [.tmp 9]⟩,
         ⟨some 59, none, .rd (.bin .add) [.tmp 58, .pv (.int .i64 1)]⟩,
         ⟨some 9, none, .rd .mov [.tmp 59]⟩] L9))))))
  (.seq (.seq (.region false [⟨some 156, none, .rd .mov [.tmp 8]⟩,
      ⟨some 157, none, .rd (.fldAddr 1) [.tmp 3]⟩,
      ⟨some 158, none, .rd (.load none) [.tmp 157]⟩,
      ⟨some 159, none, .rd (.bin .lss) [.tmp 156, .tmp 158]⟩,
      ⟨some 160, none, .rd .mov [.tmp 159]⟩,
      ⟨some 161, some (160, true), .rd .mov [.tmp 6]⟩,
      ⟨some 162, some (160, true), .rd .mov [.tmp 8]⟩,
      ⟨some 163, some (160, true), .call (.pv (.fn 28 [] [])) [.tmp 161, .tmp 162]⟩,
      ⟨some 164, some (160, true), .rd (.bin .geq) [.tmp 163, .pv (.int .i64 0)]⟩,
      ⟨some 165, some (160, true), .rd .mov [.tmp 164]⟩,
      ⟨some 166, some (165, false), .rd .mov [.tmp 6]⟩,
      ⟨some 167, some (165, false), .rd (.fldAddr 1) [.tmp 3]⟩,
      ⟨some 168, some (165, false), .rd (.load none) [.tmp 167]⟩,
      ⟨some 169, some (165, false), .rd (.bin .sub) [.tmp 168, .pv (.int .i64 1)]⟩,
      ⟨some 170, some (165, false), .call (.pv (.fn 28 [] [])) [.tmp 166, .tmp 169]⟩,
      ⟨some 171, some (165, false), .rd (.bin .geq) [.tmp 170, .pv (.int .i64 0)]⟩,
      ⟨some 172, some (160, true), .rd .pick [.tmp 165, .pv (.bool true), .tmp 171]⟩,
      ⟨some 173, none, .rd .pick [.tmp 160, .tmp 172, .pv (.bool false)]⟩] L9)
   (.cond (.tmp 173)
    (.seq (.region false [⟨some 4, none, .rd .mov [.pv (.bool false)]⟩] L9)
     (.ret))
    (.skip)))
  (.seq (.seq (.region false [⟨some 174, none, .rd (.fldAddr 0) [.tmp 3]⟩,
      ⟨some 175, none, .rd (.load none) [.tmp 174]⟩,
      ⟨some 176, none, .rd (.bin .lss) [.tmp 175, .pv (.int .i64 (-1099511627776))]⟩,
      ⟨some 177, none, .rd .mov [.tmp 176]⟩,
      ⟨some 178, some (177, false), .rd (.fldAddr 1) [.tmp 3]⟩,
      ⟨some 179, some (177, false), .rd (.load none) [.tmp 178]⟩,
      ⟨some 180, some (177, false), .rd (.bin .gtr) [.tmp 179, .pv (.int .i64 1099511627776)]⟩,
      ⟨some 181, none, .rd .pick [.tmp 177, .pv (.bool true), .tmp 180]⟩,
      ⟨some 182, none, .rd .mov [.tmp 181]⟩,
      ⟨some 183, some (182, false), .rd (.fldAddr 1) [.tmp 3]⟩,
      ⟨some 184, some (182, false), .rd (.load none) [.tmp 183]⟩,
      ⟨some 185, some (182, false), .rd (.fldAddr 0) [.tmp 3]⟩,
      ⟨some 186, some (182, false), .rd (.load none) [.tmp 185]⟩,
      ⟨some 187, some (182, false), .rd (.bin .sub) [.tmp 184, .tmp 186]⟩,
      ⟨some 188, some (182, false), .rd (.bin .gtr) [.tmp 187, .pv (.int .i64 4096)]⟩,
      ⟨some 189, none, .rd .pick [.tmp 182, .pv (.bool true), .tmp 188]⟩] L9)
   (.cond (.tmp 189)
    (.seq (.region false [⟨some 190, none, .rd (.load (some 1)) [.tmp 5]⟩,
        ⟨some 191, none, .rd (.load (some 2)) [.tmp 3]⟩,
        ⟨some 192, none, .call (.pv (.fn 29 [] [])) [.tmp 190, .tmp 191]⟩,
        ⟨some 193, none, .rd .lenL [.tmp 192]⟩,
        ⟨some 194, none, .rd (.bin .eql) [.tmp 193, .pv (.int .i64 0)]⟩,
        ⟨some 195, none, .rd .mov [.tmp 194]⟩,
        ⟨some 196, some (195, false), .rd (.fldAddr 1) [.tmp 3]⟩,
        ⟨some 197, some (195, false), .rd (.load none) [.tmp 196]⟩,
        ⟨some 198, some (195, false), .rd (.fldAddr 0) [.tmp 3]⟩,
        ⟨some 199, some (195, false), .rd (.load none) [.tmp 198]⟩,
        ⟨some 200, some (195, false), .rd (.bin .sub) [.tmp 197, .tmp 199]⟩,
        ⟨some 201, some (195, false), .rd (.bin .leq) [.tmp 200, .pv (.int .i64 4096)]⟩,
        ⟨some 202, none, .rd .pick [.tmp 195, .pv (.bool true), .tmp 201]⟩,
        ⟨some 4, none, .rd .mov [.tmp 202]⟩] L9)
     (.ret))
    (.skip)))
  (.seq (.regionA (IS.toS o9_3 t9_3) L9)
  (.ret))))))))))),
  [.tmp 4]⟩
theorem k9d : compileF Try.prog [999999] L9 Try.f9 = some c9d := by kernel_rfl
end Go.Proofs.Ytjcoenideicmbaa

namespace Go.Proofs.Ytjcoenideicmbaa
open Go PG Go.Proofs
set_option linter.unusedSimpArgs false
set_option linter.unusedVariables false
set_option maxHeartbeats 4000000
set_option maxRecDepth 100000
theorem cut55 (x : PV) : cut (some 5) (some 5) x 0 = x := by simp [cut]
theorem r9_2 (l : List En) (PL : List PV) (XX : List PV) (a b en : Int) (i : Nat) (x1 x2 k k3 k4 : Int) (n num : Int) (text : List UInt8) (e : En) (j57 j85 : PV) (en' : e.n = n) (enum : e.num = num) (etext : e.text = text) (Q : Post) (hi : i < PL.length) (hk : k.toNat < l.length) (hk0 : 0 ≤ k)
    (hg : PL.getD i .junk = PV.agg [.int .i64 x1, .int .i64 x2, .int .i64 n, .int .i64 num, .str text])
    (he : (l.map enP).getD k.toNat .junk = PV.agg [.int .i64 n, .int .i64 e.fr, .int .i64 e.to, .int .i64 num, .str text])
    (h24 : VCalls Try.prog G0 24 [PV.agg [.int .i64 n, .int .i64 e.fr, .int .i64 e.to, .int .i64 num, .str text]] (PV.agg [.int .i64 n, .int .i64 num, .str text]))
    (hw : IntKind.i64.wrap (x2 - 1) = x2 - 1) (p2 : VCalls Try.prog G0 28 [enL l, .int .i64 (x2 - 1)] (.int .i64 k))
    (p3 : VCalls Try.prog G0 28 [enL l, .int .i64 x2] (.int .i64 k3))
    (p4 : VCalls Try.prog G0 28 [enL l, .int .i64 (IntKind.i64.wrap (x1 - 1))] (.int .i64 k4))
    (hQ : Q .normal [(0, PV.junk), (1, PV.junk), (3, PV.ref 0 0), (4, PV.bool false), (5, PV.ref 1 0), (6, enL l), (7, PV.list (some 5) PL), (8, PV.int IntKind.i64 en), (9, PV.int IntKind.i64 i), (10, PV.int IntKind.i64 x1), (11, PV.int IntKind.i64 x2), (12, PV.int IntKind.i64 k), (15, PV.junk), (24, PV.junk), (57, j57), (85, j85), (138, PV.bool (decide (x2 < b) && decide (k3 = k) || decide (a < x1) && decide (k4 = k))), (154, PV.junk), (173, PV.junk), (189, PV.junk)]
      [some (MObj.var (some 2) (PV.agg [PV.int IntKind.i64 a, PV.int IntKind.i64 b])), some (MObj.var (some 1) (PV.agg [PV.list (some 9) XX]))]) :
    PW Try.prog G0 216 (fun _ => true) (.regionA (IS.toS o9_2 t9_2) L9) [(0, PV.junk), (1, PV.junk), (3, PV.ref 0 0), (4, PV.bool false), (5, PV.ref 1 0), (6, enL l), (7, PV.list (some 5) PL), (8, PV.int IntKind.i64 en), (9, PV.int IntKind.i64 i), (10, PV.int IntKind.i64 x1), (11, PV.int IntKind.i64 x2), (12, PV.int IntKind.i64 k), (15, PV.junk), (24, PV.junk), (57, j57), (85, j85), (138, PV.junk), (154, PV.junk), (173, PV.junk), (189, PV.junk)]
      [some (MObj.var (some 2) (PV.agg [PV.int IntKind.i64 a, PV.int IntKind.i64 b])), some (MObj.var (some 1) (PV.agg [PV.list (some 9) XX]))] Q := by
  have hlm : ((l.map enP).length : Nat) = l.length := by simp
  have y1 : decide (n = n) = true := by simp
  have y2 : decide (num = num) = true := by simp
  have y3 : decide (text = text) = true := by simp
  have y4 : decide (k = k) = true := by simp
  have z4 : decide (k < 0) = false := by simp only [decide_eq_false_iff_not]; omega
  refine PW.regionD g9_2 t9_2 [[], [(138, ?u138)]] [(89, ?u89), (90, ?u90), (91, ?u91), (92, ?u92), (93, ?u93), (94, ?u94), (95, ?u95), (97, ?u97), (98, ?u98), (99, ?u99), (96, ?u96), (100, ?u100), (101, ?u101), (102, ?u102), (103, ?u103), (104, ?u104), (105, ?u105), (106, ?u106), (107, ?u107), (109, ?u109), (108, ?u108), (110, ?u110), (111, ?u111), (112, ?u112), (113, ?u113), (114, ?u114), (115, ?u115), (116, ?u116), (117, ?u117), (118, ?u118), (119, ?u119), (121, ?u121), (120, ?u120), (122, ?u122), (123, ?u123), (124, ?u124), (125, ?u125), (126, ?u126), (127, ?u127), (128, ?u128), (129, ?u129), (130, ?u130), (131, ?u131), (132, ?u132), (133, ?u133), (135, ?u135), (134, ?u134), (136, ?u136), (137, ?u137)] rfl (by kernel_rfl) ?hB ?hO ?h
  case hB => repeat' (first | exact trivial | refine ⟨rfl, ?_⟩)
  case hO => (repeat' (first | exact True.intro | exact Dg.obs_nil | (refine Dg.obsO_pure rfl rfl rfl rfl ?_ ?_; (intro env ha K hK; simp only [CO.tms, Agr, List.filterMap_cons, List.filterMap_nil, List.cons_append, List.nil_append, get_cons, Nat.reduceEqDiff, if_false, if_true, reduceIte, and_true] at ha)) | (refine Dg.obsO_over rfl rfl rfl rfl rfl (by repeat' (first | exact trivial | refine ⟨rfl, ?_⟩)) ?_ ?_; (intro env ha K hK; simp only [CO.tms, Agr, List.filterMap_cons, List.filterMap_nil, List.cons_append, List.nil_append, get_cons, Nat.reduceEqDiff, if_false, if_true, reduceIte, and_true] at ha)) | (refine hK _ ?_; (try simp only [List.cons_append, List.nil_append, get_cons, Nat.reduceEqDiff, if_false, if_true, reduceIte]) <;> rfl) | (refine PW.seqK ?_; intro K hK) | refine PW.block ?_ | refine PW.exit ?_ | refine PW.ret ?_ | refine PW.skip ?_ | refine seqK_n (by assumption) ?_ | refine seqK_r (by assumption) ?_ | refine seqK_e (by assumption) ?_ | refine PW.regionA ?_ | exact schedW_stop_i | refine schK_n (by assumption) ?_ | (refine schedW_alt_k ?_ ?_; focus (intro K hK; simp only [ha, hlm, hw, hg, he, y1, y2, y3, y4, z4, part_agg5, cut55, cut53, getC4, SS, SS2, SS3, SS4, Option.map_some, Bool.not_false, Bool.not_true, gArgs, gOk, Nat.reduceAdd, PV.shift, MObj.shift, rdV, rdD, reduceIte, Nat.reduceEqDiff, Nat.reduceBEq, PV.bin, PV.binOk, binI, binS, PV.withInt, PV.withIntP, okAll, PV.under, PV.okUnder, eq_self, implies_true, deadOk, ne_eq, allOk, RVar.val, RVar.ok, retV, PV.seen, PV.view, beq_self_eq_true, PV.flat, PV.noOwn, id_eq, behind, PV.kill, MObj.kill, killTag, reduceCtorEq, nilB]; (try go_unwrap; try simp only [ha, hlm, hw, hg, he, y1, y2, y3, y4, z4, part_agg5, cut55, cut53, getC4, toNat_add2, toNat_add1, Int.toNat_natCast, Bool.false_and, Bool.true_and, true_implies, true_and, Bool.false_eq_true, reduceCtorEq, false_implies, Bool.not_false, Bool.not_true, Bool.true_or, Bool.false_or]))) | (refine PW.cond rfl ?_ ?_ <;> intro hcond <;> (try contradiction) <;> try simp only [decide_eq_true_eq, decide_eq_false_iff_not] at hcond) | (apply goCallG_V e28; (case hV => (intro hg; simp only [hg, ha, hlm, hw, hg, he, y1, y2, y3, y4, z4, part_agg5, cut55, cut53, getC4, SS, SS2, SS3, SS4, Option.map_some, Bool.not_false, Bool.not_true, gArgs, gOk, Nat.reduceAdd, PV.shift, MObj.shift, rdV, rdD, reduceIte, Nat.reduceEqDiff, Nat.reduceBEq, PV.bin, PV.binOk, binI, binS, PV.withInt, PV.withIntP, okAll, PV.under, PV.okUnder, eq_self, implies_true, deadOk, ne_eq, allOk, RVar.val, RVar.ok, retV, PV.seen, PV.view, beq_self_eq_true, PV.flat, PV.noOwn, id_eq, behind, PV.kill, MObj.kill, killTag, reduceCtorEq, nilB]; (try go_unwrap; try simp only [ha, hlm, hw, hg, he, y1, y2, y3, y4, z4, part_agg5, cut55, cut53, getC4, toNat_add2, toNat_add1, Int.toNat_natCast, Bool.false_and, Bool.true_and, true_implies, true_and, Bool.false_eq_true, reduceCtorEq, false_implies, Bool.not_false, Bool.not_true, Bool.true_or, Bool.false_or]); exact p2)); (case hok => (intro hg; first | (simp only [hg, ha, hlm, hw, hg, he, y1, y2, y3, y4, z4, part_agg5, cut55, cut53, getC4, SS, SS2, SS3, SS4, Option.map_some, Bool.not_false, Bool.not_true, gArgs, gOk, Nat.reduceAdd, PV.shift, MObj.shift, rdV, rdD, reduceIte, Nat.reduceEqDiff, Nat.reduceBEq, PV.bin, PV.binOk, binI, binS, PV.withInt, PV.withIntP, okAll, PV.under, PV.okUnder, eq_self, implies_true, deadOk, ne_eq, allOk, RVar.val, RVar.ok, retV, PV.seen, PV.view, beq_self_eq_true, PV.flat, PV.noOwn, id_eq, behind, PV.kill, MObj.kill, killTag, reduceCtorEq, nilB]; done) | (simp_all [okAll, PV.okUnder]; done))); (case hs => (intro hg; simp only [hg, ha, hlm, hw, hg, he, y1, y2, y3, y4, z4, part_agg5, cut55, cut53, getC4, SS, SS2, SS3, SS4, Option.map_some, Bool.not_false, Bool.not_true, gArgs, gOk, Nat.reduceAdd, PV.shift, MObj.shift, rdV, rdD, reduceIte, Nat.reduceEqDiff, Nat.reduceBEq, PV.bin, PV.binOk, binI, binS, PV.withInt, PV.withIntP, okAll, PV.under, PV.okUnder, eq_self, implies_true, deadOk, ne_eq, allOk, RVar.val, RVar.ok, retV, PV.seen, PV.view, beq_self_eq_true, PV.flat, PV.noOwn, id_eq, behind, PV.kill, MObj.kill, killTag, reduceCtorEq, nilB])); (case hf => first | rfl | simp only [ha, hlm, hw, hg, he, y1, y2, y3, y4, z4, part_agg5, cut55, cut53, getC4, SS, SS2, SS3, SS4, Option.map_some, Bool.not_false, Bool.not_true, gArgs, gOk, Nat.reduceAdd, PV.shift, MObj.shift, rdV, rdD, reduceIte, Nat.reduceEqDiff, Nat.reduceBEq, PV.bin, PV.binOk, binI, binS, PV.withInt, PV.withIntP, okAll, PV.under, PV.okUnder, eq_self, implies_true, deadOk, ne_eq, allOk, RVar.val, RVar.ok, retV, PV.seen, PV.view, beq_self_eq_true, PV.flat, PV.noOwn, id_eq, behind, PV.kill, MObj.kill, killTag, reduceCtorEq, nilB]); (simp only [ha, hlm, hw, hg, he, y1, y2, y3, y4, z4, part_agg5, cut55, cut53, getC4, SS, SS2, SS3, SS4, Option.map_some, Bool.not_false, Bool.not_true, gArgs, gOk, Nat.reduceAdd, PV.shift, MObj.shift, rdV, rdD, reduceIte, Nat.reduceEqDiff, Nat.reduceBEq, PV.bin, PV.binOk, binI, binS, PV.withInt, PV.withIntP, okAll, PV.under, PV.okUnder, eq_self, implies_true, deadOk, ne_eq, allOk, RVar.val, RVar.ok, retV, PV.seen, PV.view, beq_self_eq_true, PV.flat, PV.noOwn, id_eq, behind, PV.kill, MObj.kill, killTag, reduceCtorEq, nilB]; (try go_unwrap; try simp only [ha, hlm, hw, hg, he, y1, y2, y3, y4, z4, part_agg5, cut55, cut53, getC4, toNat_add2, toNat_add1, Int.toNat_natCast, Bool.false_and, Bool.true_and, true_implies, true_and, Bool.false_eq_true, reduceCtorEq, false_implies, Bool.not_false, Bool.not_true, Bool.true_or, Bool.false_or]))) | (apply goCallG_V e28; (case hV => (intro hg; simp only [hg, ha, hlm, hw, hg, he, y1, y2, y3, y4, z4, part_agg5, cut55, cut53, getC4, SS, SS2, SS3, SS4, Option.map_some, Bool.not_false, Bool.not_true, gArgs, gOk, Nat.reduceAdd, PV.shift, MObj.shift, rdV, rdD, reduceIte, Nat.reduceEqDiff, Nat.reduceBEq, PV.bin, PV.binOk, binI, binS, PV.withInt, PV.withIntP, okAll, PV.under, PV.okUnder, eq_self, implies_true, deadOk, ne_eq, allOk, RVar.val, RVar.ok, retV, PV.seen, PV.view, beq_self_eq_true, PV.flat, PV.noOwn, id_eq, behind, PV.kill, MObj.kill, killTag, reduceCtorEq, nilB]; (try go_unwrap; try simp only [ha, hlm, hw, hg, he, y1, y2, y3, y4, z4, part_agg5, cut55, cut53, getC4, toNat_add2, toNat_add1, Int.toNat_natCast, Bool.false_and, Bool.true_and, true_implies, true_and, Bool.false_eq_true, reduceCtorEq, false_implies, Bool.not_false, Bool.not_true, Bool.true_or, Bool.false_or]); exact p3)); (case hok => (intro hg; first | (simp only [hg, ha, hlm, hw, hg, he, y1, y2, y3, y4, z4, part_agg5, cut55, cut53, getC4, SS, SS2, SS3, SS4, Option.map_some, Bool.not_false, Bool.not_true, gArgs, gOk, Nat.reduceAdd, PV.shift, MObj.shift, rdV, rdD, reduceIte, Nat.reduceEqDiff, Nat.reduceBEq, PV.bin, PV.binOk, binI, binS, PV.withInt, PV.withIntP, okAll, PV.under, PV.okUnder, eq_self, implies_true, deadOk, ne_eq, allOk, RVar.val, RVar.ok, retV, PV.seen, PV.view, beq_self_eq_true, PV.flat, PV.noOwn, id_eq, behind, PV.kill, MObj.kill, killTag, reduceCtorEq, nilB]; done) | (simp_all [okAll, PV.okUnder]; done))); (case hs => (intro hg; simp only [hg, ha, hlm, hw, hg, he, y1, y2, y3, y4, z4, part_agg5, cut55, cut53, getC4, SS, SS2, SS3, SS4, Option.map_some, Bool.not_false, Bool.not_true, gArgs, gOk, Nat.reduceAdd, PV.shift, MObj.shift, rdV, rdD, reduceIte, Nat.reduceEqDiff, Nat.reduceBEq, PV.bin, PV.binOk, binI, binS, PV.withInt, PV.withIntP, okAll, PV.under, PV.okUnder, eq_self, implies_true, deadOk, ne_eq, allOk, RVar.val, RVar.ok, retV, PV.seen, PV.view, beq_self_eq_true, PV.flat, PV.noOwn, id_eq, behind, PV.kill, MObj.kill, killTag, reduceCtorEq, nilB])); (case hf => first | rfl | simp only [ha, hlm, hw, hg, he, y1, y2, y3, y4, z4, part_agg5, cut55, cut53, getC4, SS, SS2, SS3, SS4, Option.map_some, Bool.not_false, Bool.not_true, gArgs, gOk, Nat.reduceAdd, PV.shift, MObj.shift, rdV, rdD, reduceIte, Nat.reduceEqDiff, Nat.reduceBEq, PV.bin, PV.binOk, binI, binS, PV.withInt, PV.withIntP, okAll, PV.under, PV.okUnder, eq_self, implies_true, deadOk, ne_eq, allOk, RVar.val, RVar.ok, retV, PV.seen, PV.view, beq_self_eq_true, PV.flat, PV.noOwn, id_eq, behind, PV.kill, MObj.kill, killTag, reduceCtorEq, nilB]); (simp only [ha, hlm, hw, hg, he, y1, y2, y3, y4, z4, part_agg5, cut55, cut53, getC4, SS, SS2, SS3, SS4, Option.map_some, Bool.not_false, Bool.not_true, gArgs, gOk, Nat.reduceAdd, PV.shift, MObj.shift, rdV, rdD, reduceIte, Nat.reduceEqDiff, Nat.reduceBEq, PV.bin, PV.binOk, binI, binS, PV.withInt, PV.withIntP, okAll, PV.under, PV.okUnder, eq_self, implies_true, deadOk, ne_eq, allOk, RVar.val, RVar.ok, retV, PV.seen, PV.view, beq_self_eq_true, PV.flat, PV.noOwn, id_eq, behind, PV.kill, MObj.kill, killTag, reduceCtorEq, nilB]; (try go_unwrap; try simp only [ha, hlm, hw, hg, he, y1, y2, y3, y4, z4, part_agg5, cut55, cut53, getC4, toNat_add2, toNat_add1, Int.toNat_natCast, Bool.false_and, Bool.true_and, true_implies, true_and, Bool.false_eq_true, reduceCtorEq, false_implies, Bool.not_false, Bool.not_true, Bool.true_or, Bool.false_or]))) | (apply goCallG_V e28; (case hV => (intro hg; simp only [hg, ha, hlm, hw, hg, he, y1, y2, y3, y4, z4, part_agg5, cut55, cut53, getC4, SS, SS2, SS3, SS4, Option.map_some, Bool.not_false, Bool.not_true, gArgs, gOk, Nat.reduceAdd, PV.shift, MObj.shift, rdV, rdD, reduceIte, Nat.reduceEqDiff, Nat.reduceBEq, PV.bin, PV.binOk, binI, binS, PV.withInt, PV.withIntP, okAll, PV.under, PV.okUnder, eq_self, implies_true, deadOk, ne_eq, allOk, RVar.val, RVar.ok, retV, PV.seen, PV.view, beq_self_eq_true, PV.flat, PV.noOwn, id_eq, behind, PV.kill, MObj.kill, killTag, reduceCtorEq, nilB]; (try go_unwrap; try simp only [ha, hlm, hw, hg, he, y1, y2, y3, y4, z4, part_agg5, cut55, cut53, getC4, toNat_add2, toNat_add1, Int.toNat_natCast, Bool.false_and, Bool.true_and, true_implies, true_and, Bool.false_eq_true, reduceCtorEq, false_implies, Bool.not_false, Bool.not_true, Bool.true_or, Bool.false_or]); exact p4)); (case hok => (intro hg; first | (simp only [hg, ha, hlm, hw, hg, he, y1, y2, y3, y4, z4, part_agg5, cut55, cut53, getC4, SS, SS2, SS3, SS4, Option.map_some, Bool.not_false, Bool.not_true, gArgs, gOk, Nat.reduceAdd, PV.shift, MObj.shift, rdV, rdD, reduceIte, Nat.reduceEqDiff, Nat.reduceBEq, PV.bin, PV.binOk, binI, binS, PV.withInt, PV.withIntP, okAll, PV.under, PV.okUnder, eq_self, implies_true, deadOk, ne_eq, allOk, RVar.val, RVar.ok, retV, PV.seen, PV.view, beq_self_eq_true, PV.flat, PV.noOwn, id_eq, behind, PV.kill, MObj.kill, killTag, reduceCtorEq, nilB]; done) | (simp_all [okAll, PV.okUnder]; done))); (case hs => (intro hg; simp only [hg, ha, hlm, hw, hg, he, y1, y2, y3, y4, z4, part_agg5, cut55, cut53, getC4, SS, SS2, SS3, SS4, Option.map_some, Bool.not_false, Bool.not_true, gArgs, gOk, Nat.reduceAdd, PV.shift, MObj.shift, rdV, rdD, reduceIte, Nat.reduceEqDiff, Nat.reduceBEq, PV.bin, PV.binOk, binI, binS, PV.withInt, PV.withIntP, okAll, PV.under, PV.okUnder, eq_self, implies_true, deadOk, ne_eq, allOk, RVar.val, RVar.ok, retV, PV.seen, PV.view, beq_self_eq_true, PV.flat, PV.noOwn, id_eq, behind, PV.kill, MObj.kill, killTag, reduceCtorEq, nilB])); (case hf => first | rfl | simp only [ha, hlm, hw, hg, he, y1, y2, y3, y4, z4, part_agg5, cut55, cut53, getC4, SS, SS2, SS3, SS4, Option.map_some, Bool.not_false, Bool.not_true, gArgs, gOk, Nat.reduceAdd, PV.shift, MObj.shift, rdV, rdD, reduceIte, Nat.reduceEqDiff, Nat.reduceBEq, PV.bin, PV.binOk, binI, binS, PV.withInt, PV.withIntP, okAll, PV.under, PV.okUnder, eq_self, implies_true, deadOk, ne_eq, allOk, RVar.val, RVar.ok, retV, PV.seen, PV.view, beq_self_eq_true, PV.flat, PV.noOwn, id_eq, behind, PV.kill, MObj.kill, killTag, reduceCtorEq, nilB]); (simp only [ha, hlm, hw, hg, he, y1, y2, y3, y4, z4, part_agg5, cut55, cut53, getC4, SS, SS2, SS3, SS4, Option.map_some, Bool.not_false, Bool.not_true, gArgs, gOk, Nat.reduceAdd, PV.shift, MObj.shift, rdV, rdD, reduceIte, Nat.reduceEqDiff, Nat.reduceBEq, PV.bin, PV.binOk, binI, binS, PV.withInt, PV.withIntP, okAll, PV.under, PV.okUnder, eq_self, implies_true, deadOk, ne_eq, allOk, RVar.val, RVar.ok, retV, PV.seen, PV.view, beq_self_eq_true, PV.flat, PV.noOwn, id_eq, behind, PV.kill, MObj.kill, killTag, reduceCtorEq, nilB]; (try go_unwrap; try simp only [ha, hlm, hw, hg, he, y1, y2, y3, y4, z4, part_agg5, cut55, cut53, getC4, toNat_add2, toNat_add1, Int.toNat_natCast, Bool.false_and, Bool.true_and, true_implies, true_and, Bool.false_eq_true, reduceCtorEq, false_implies, Bool.not_false, Bool.not_true, Bool.true_or, Bool.false_or]))) | (refine gd_i ?_; intro hg; try simp only [hg]) | refine goCallG_W e24 (h24) ?_ ?_ ?_ ?_ ?_ | ((first | show @LE.le Nat _ _ _ | show @LT.lt Nat _ _ _ | show @LE.le Int _ _ _ | show @LT.lt Int _ _ _ | show @Eq Nat _ _ | show @Eq Int _ _ | show @Eq Bool _ _ | show _ ∨ _ | show ¬ _); first | omega | (simp only [decide_eq_true_eq, decide_eq_false_iff_not, List.length_cons, List.length_nil, List.length_append, List.length_map, Sh.size] <;> omega) | (go_unwrap; omega)) | ((first | refine PW.region ?_ | refine PW.regionQ ?_ | refine schedW_done_i ?_ | show (_ : Post) _ _ _ | show @Eq (List PV) _ _ | show @Eq Bool _ _ | show opsW _ _ _ _ _ _ _ _ | show okAll _ | show @Eq Bool _ _ ∨ _); focus (simp only [ha, hlm, hw, hg, he, y1, y2, y3, y4, z4, part_agg5, cut55, cut53, getC4, SS, SS2, SS3, SS4, Option.map_some, Bool.not_false, Bool.not_true, gArgs, gOk, Nat.reduceAdd, PV.shift, MObj.shift, rdV, rdD, reduceIte, Nat.reduceEqDiff, Nat.reduceBEq, PV.bin, PV.binOk, binI, binS, PV.withInt, PV.withIntP, okAll, PV.under, PV.okUnder, eq_self, implies_true, deadOk, ne_eq, allOk, RVar.val, RVar.ok, retV, PV.seen, PV.view, beq_self_eq_true, PV.flat, PV.noOwn, id_eq, behind, PV.kill, MObj.kill, killTag, reduceCtorEq, nilB]; (try go_unwrap; try simp only [ha, hlm, hw, hg, he, y1, y2, y3, y4, z4, part_agg5, cut55, cut53, getC4, toNat_add2, toNat_add1, Int.toNat_natCast, Bool.false_and, Bool.true_and, true_implies, true_and, Bool.false_eq_true, reduceCtorEq, false_implies, Bool.not_false, Bool.not_true, Bool.true_or, Bool.false_or]))) | refine And.intro ?_ ?_ | exact Or.inr ⟨rfl, Nat.le_refl _⟩ | exact (fun h => Bool.noConfusion h)))
  case' h => simp only [List.map_cons, List.map_nil, List.getD_cons_zero, List.getD_cons_succ, List.cons_append, List.nil_append, get_cons, get_nil, Nat.reduceEqDiff, if_false, if_true, reduceIte, L9, g9_2]
  exact hQ
theorem wrap_sub_le {a b : Int} (ha : -1099511627776 ≤ a) (hb : b ≤ 1099511627776) (h : a ≤ b) : IntKind.i64.wrap (b - a) = b - a := IntWalk.i64_in _ (by omega)
theorem r9_3 (l : List En) (PL : List PV) (XX : List PV) (xs : List Int) (a b en : Int) (i : Nat) (j11 j12 j57 j173 j189 : PV) (Q : Post) (w : IntKind.i64.wrap (b - a) = b - a) (hx : ((xs.length : Nat) : Int) = b - a)
    (h29 : VCalls Try.prog G0 29 [.agg [.list (some 9) XX], .agg [.int .i64 a, .int .i64 b]] (.list none (xs.map (.int .i64))))
    (hQ : Q .normal [(0, PV.junk), (1, PV.junk), (3, PV.ref 0 0), (4, PV.bool true), (5, PV.ref 1 0), (6, enL l), (7, PV.list (some 5) PL), (8, PV.int IntKind.i64 en), (9, PV.int IntKind.i64 i), (10, PV.junk), (11, j11), (12, j12), (15, PV.junk), (24, PV.junk), (57, j57), (85, PV.junk), (138, PV.junk), (154, PV.junk), (173, j173), (189, j189)]
      [some (MObj.var (some 2) (PV.agg [PV.int IntKind.i64 a, PV.int IntKind.i64 b])), some (MObj.var (some 1) (PV.agg [PV.list (some 9) XX]))]) :
    PW Try.prog G0 216 (fun _ => true) (.regionA (IS.toS o9_3 t9_3) L9) [(0, PV.junk), (1, PV.junk), (3, PV.ref 0 0), (4, PV.bool false), (5, PV.ref 1 0), (6, enL l), (7, PV.list (some 5) PL), (8, PV.int IntKind.i64 en), (9, PV.int IntKind.i64 i), (10, PV.junk), (11, j11), (12, j12), (15, PV.junk), (24, PV.junk), (57, j57), (85, PV.junk), (138, PV.junk), (154, PV.junk), (173, j173), (189, j189)]
      [some (MObj.var (some 2) (PV.agg [PV.int IntKind.i64 a, PV.int IntKind.i64 b])), some (MObj.var (some 1) (PV.agg [PV.list (some 9) XX]))] Q := by
  have hl : (((xs.map (PV.int .i64)).length : Nat) : Int) = b - a := by simpa using hx
  have d1 : decide (b - a = b - a) = true := by simp
  refine PW.regionD g9_3 t9_3 [[], [(4, ?u4)]] [(207, ?u207), (209, ?u209), (203, ?u203), (204, ?u204), (205, ?u205), (206, ?u206), (208, ?u208), (210, ?u210), (211, ?u211), (212, ?u212), (213, ?u213), (214, ?u214), (215, ?u215)] rfl (by kernel_rfl) ?hB ?hO ?h
  case hB => repeat' (first | exact trivial | refine ⟨rfl, ?_⟩)
  case hO => (repeat' (first | exact True.intro | exact Dg.obs_nil | (refine Dg.obsO_pure rfl rfl rfl rfl ?_ ?_; (intro env ha K hK; simp only [CO.tms, Agr, List.filterMap_cons, List.filterMap_nil, List.cons_append, List.nil_append, get_cons, Nat.reduceEqDiff, if_false, if_true, reduceIte, and_true] at ha)) | (refine Dg.obsO_over rfl rfl rfl rfl rfl (by repeat' (first | exact trivial | refine ⟨rfl, ?_⟩)) ?_ ?_; (intro env ha K hK; simp only [CO.tms, Agr, List.filterMap_cons, List.filterMap_nil, List.cons_append, List.nil_append, get_cons, Nat.reduceEqDiff, if_false, if_true, reduceIte, and_true] at ha)) | (refine hK _ ?_; (try simp only [List.cons_append, List.nil_append, get_cons, Nat.reduceEqDiff, if_false, if_true, reduceIte]) <;> rfl) | (refine PW.seqK ?_; intro K hK) | refine PW.block ?_ | refine PW.exit ?_ | refine PW.ret ?_ | refine PW.skip ?_ | refine seqK_n (by assumption) ?_ | refine seqK_r (by assumption) ?_ | refine seqK_e (by assumption) ?_ | refine PW.regionA ?_ | exact schedW_stop_i | refine schK_n (by assumption) ?_ | (refine schedW_alt_k ?_ ?_; focus (intro K hK; simp only [ha, w, hl, d1, SS, SS2, SS3, SS4, Option.map_some, Bool.not_false, Bool.not_true, gArgs, gOk, Nat.reduceAdd, PV.shift, MObj.shift, rdV, rdD, reduceIte, Nat.reduceEqDiff, Nat.reduceBEq, PV.bin, PV.binOk, binI, binS, PV.withInt, PV.withIntP, okAll, PV.under, PV.okUnder, eq_self, implies_true, deadOk, ne_eq, allOk, RVar.val, RVar.ok, retV, PV.seen, PV.view, beq_self_eq_true, PV.flat, PV.noOwn, id_eq, behind, PV.kill, MObj.kill, killTag, reduceCtorEq, nilB]; (try go_unwrap; try simp only [ha, w, hl, d1, toNat_add2, toNat_add1, Int.toNat_natCast, Bool.false_and, Bool.true_and, true_implies, true_and, Bool.false_eq_true, reduceCtorEq, false_implies, Bool.not_false, Bool.not_true, Bool.true_or, Bool.false_or]))) | (refine PW.cond rfl ?_ ?_ <;> intro hcond <;> (try contradiction) <;> try simp only [decide_eq_true_eq, decide_eq_false_iff_not] at hcond) | (apply goCallG_N e29; (case hV => (intro hg; simp only [hg, ha, w, hl, d1, SS, SS2, SS3, SS4, Option.map_some, Bool.not_false, Bool.not_true, gArgs, gOk, Nat.reduceAdd, PV.shift, MObj.shift, rdV, rdD, reduceIte, Nat.reduceEqDiff, Nat.reduceBEq, PV.bin, PV.binOk, binI, binS, PV.withInt, PV.withIntP, okAll, PV.under, PV.okUnder, eq_self, implies_true, deadOk, ne_eq, allOk, RVar.val, RVar.ok, retV, PV.seen, PV.view, beq_self_eq_true, PV.flat, PV.noOwn, id_eq, behind, PV.kill, MObj.kill, killTag, reduceCtorEq, nilB]; (try go_unwrap; try simp only [ha, w, hl, d1, toNat_add2, toNat_add1, Int.toNat_natCast, Bool.false_and, Bool.true_and, true_implies, true_and, Bool.false_eq_true, reduceCtorEq, false_implies, Bool.not_false, Bool.not_true, Bool.true_or, Bool.false_or]); exact h29)); (case hok => (intro hg; first | (simp only [hg, ha, w, hl, d1, SS, SS2, SS3, SS4, Option.map_some, Bool.not_false, Bool.not_true, gArgs, gOk, Nat.reduceAdd, PV.shift, MObj.shift, rdV, rdD, reduceIte, Nat.reduceEqDiff, Nat.reduceBEq, PV.bin, PV.binOk, binI, binS, PV.withInt, PV.withIntP, okAll, PV.under, PV.okUnder, eq_self, implies_true, deadOk, ne_eq, allOk, RVar.val, RVar.ok, retV, PV.seen, PV.view, beq_self_eq_true, PV.flat, PV.noOwn, id_eq, behind, PV.kill, MObj.kill, killTag, reduceCtorEq, nilB]; done) | (simp_all [okAll, PV.okUnder]; done))); (case hs => (intro hg; simp only [hg, ha, w, hl, d1, SS, SS2, SS3, SS4, Option.map_some, Bool.not_false, Bool.not_true, gArgs, gOk, Nat.reduceAdd, PV.shift, MObj.shift, rdV, rdD, reduceIte, Nat.reduceEqDiff, Nat.reduceBEq, PV.bin, PV.binOk, binI, binS, PV.withInt, PV.withIntP, okAll, PV.under, PV.okUnder, eq_self, implies_true, deadOk, ne_eq, allOk, RVar.val, RVar.ok, retV, PV.seen, PV.view, beq_self_eq_true, PV.flat, PV.noOwn, id_eq, behind, PV.kill, MObj.kill, killTag, reduceCtorEq, nilB])); (case hn => (intro hg; simp only [hg, ha, w, hl, d1, SS, SS2, SS3, SS4, Option.map_some, Bool.not_false, Bool.not_true, gArgs, gOk, Nat.reduceAdd, PV.shift, MObj.shift, rdV, rdD, reduceIte, Nat.reduceEqDiff, Nat.reduceBEq, PV.bin, PV.binOk, binI, binS, PV.withInt, PV.withIntP, okAll, PV.under, PV.okUnder, eq_self, implies_true, deadOk, ne_eq, allOk, RVar.val, RVar.ok, retV, PV.seen, PV.view, beq_self_eq_true, PV.flat, PV.noOwn, id_eq, behind, PV.kill, MObj.kill, killTag, reduceCtorEq, nilB])); (case hq => rfl); (simp only [ha, w, hl, d1, SS, SS2, SS3, SS4, Option.map_some, Bool.not_false, Bool.not_true, gArgs, gOk, Nat.reduceAdd, PV.shift, MObj.shift, rdV, rdD, reduceIte, Nat.reduceEqDiff, Nat.reduceBEq, PV.bin, PV.binOk, binI, binS, PV.withInt, PV.withIntP, okAll, PV.under, PV.okUnder, eq_self, implies_true, deadOk, ne_eq, allOk, RVar.val, RVar.ok, retV, PV.seen, PV.view, beq_self_eq_true, PV.flat, PV.noOwn, id_eq, behind, PV.kill, MObj.kill, killTag, reduceCtorEq, nilB]; (try go_unwrap; try simp only [ha, w, hl, d1, toNat_add2, toNat_add1, Int.toNat_natCast, Bool.false_and, Bool.true_and, true_implies, true_and, Bool.false_eq_true, reduceCtorEq, false_implies, Bool.not_false, Bool.not_true, Bool.true_or, Bool.false_or]))) | (refine gd_i ?_; intro hg; try simp only [hg]) | refine goCall_W e29 (h29) ?_ ?_ ?_ ?_ | refine goCallG_W e17 (v17) ?_ ?_ ?_ ?_ ?_ | ((first | show @LE.le Nat _ _ _ | show @LT.lt Nat _ _ _ | show @LE.le Int _ _ _ | show @LT.lt Int _ _ _ | show @Eq Nat _ _ | show @Eq Int _ _ | show @Eq Bool _ _ | show _ ∨ _ | show ¬ _); first | omega | (simp only [decide_eq_true_eq, decide_eq_false_iff_not, List.length_cons, List.length_nil, List.length_append, List.length_map, Sh.size] <;> omega) | (go_unwrap; omega)) | ((first | refine PW.region ?_ | refine PW.regionQ ?_ | refine schedW_done_i ?_ | show (_ : Post) _ _ _ | show @Eq (List PV) _ _ | show @Eq Bool _ _ | show opsW _ _ _ _ _ _ _ _ | show okAll _ | show @Eq Bool _ _ ∨ _); focus (simp only [ha, w, hl, d1, SS, SS2, SS3, SS4, Option.map_some, Bool.not_false, Bool.not_true, gArgs, gOk, Nat.reduceAdd, PV.shift, MObj.shift, rdV, rdD, reduceIte, Nat.reduceEqDiff, Nat.reduceBEq, PV.bin, PV.binOk, binI, binS, PV.withInt, PV.withIntP, okAll, PV.under, PV.okUnder, eq_self, implies_true, deadOk, ne_eq, allOk, RVar.val, RVar.ok, retV, PV.seen, PV.view, beq_self_eq_true, PV.flat, PV.noOwn, id_eq, behind, PV.kill, MObj.kill, killTag, reduceCtorEq, nilB]; (try go_unwrap; try simp only [ha, w, hl, d1, toNat_add2, toNat_add1, Int.toNat_natCast, Bool.false_and, Bool.true_and, true_implies, true_and, Bool.false_eq_true, reduceCtorEq, false_implies, Bool.not_false, Bool.not_true, Bool.true_or, Bool.false_or]))) | refine And.intro ?_ ?_ | exact Or.inr ⟨rfl, Nat.le_refl _⟩ | exact (fun h => Bool.noConfusion h)))
  case' h => simp only [List.map_cons, List.map_nil, List.getD_cons_zero, List.getD_cons_succ, List.cons_append, List.nil_append, get_cons, get_nil, Nat.reduceEqDiff, if_false, if_true, reduceIte, L9, g9_3]
  exact hQ
end Go.Proofs.Ytjcoenideicmbaa

