import Derived.Test.YtjcoenideicmbaaQ9
namespace PG
/-- From a on, up to b: each stretch is as long as it can be. -/
inductive IsRuns (f : Int → Int) (b : Int) : Int → List (Int × Int × Int) → Prop
  | one (a : Int) (h : a < b) (hf : ∀ d, a ≤ d → d < b → f d = f a) : IsRuns f b a [(a, b, f a)]
  | cons (a c : Int) (l : List (Int × Int × Int)) (h : a < c) (hf : ∀ d, a ≤ d → d < c → f d = f a) (hn : f c ≠ f a) (ht : IsRuns f b c l) : IsRuns f b a ((a, c, f a) :: l)

theorem IsRuns.lt {f : Int → Int} {b a : Int} {l : List (Int × Int × Int)} (h : IsRuns f b a l) : a < b := by
  induction h with
  | one a h hf => exact h
  | cons a c l h hf hn ht ih => omega

theorem IsRuns.uniq {f : Int → Int} {b a : Int} {l : List (Int × Int × Int)} (h : IsRuns f b a l) : ∀ {l' : List (Int × Int × Int)}, IsRuns f b a l' → l = l' := by
  induction h with
  | one a h hf =>
    intro l' h'
    cases h' with
    | one _ _ _ => rfl
    | cons _ c l2 h1 hf1 hn ht => exact absurd (hf c (by omega) ht.lt) hn
  | cons a c l h hf hn ht ih =>
    intro l' h'
    cases h' with
    | one _ h1 hf1 => exact absurd (hf1 c (by omega) ht.lt) hn
    | cons _ c2 l2 h1 hf1 hn1 ht1 =>
      have : c = c2 := by
        rcases Int.lt_trichotomy c c2 with hc | hc | hc
        · exact absurd (hf1 c (by omega) hc) hn
        · exact hc
        · exact absurd (hf c2 (by omega) hc) hn1
      subst this
      rw [ih ht1]

/-- They hang on the function's values there alone. -/
theorem IsRuns.congr {f g : Int → Int} {b a : Int} {l : List (Int × Int × Int)} (h : IsRuns f b a l) : (∀ d, a ≤ d → d < b → f d = g d) → IsRuns g b a l := by
  induction h with
  | one a h hf =>
    intro hg
    rw [hg a (by omega) h]
    exact .one a h fun d h1 h2 => by rw [← hg d h1 h2, hf d h1 h2, hg a (by omega) h]
  | cons a c l h hf hn ht ih =>
    intro hg
    have hc := ht.lt
    have ha := hg a (by omega) (by omega)
    rw [ha]
    refine .cons a c l h (fun d h1 h2 => ?_) ?_ (ih fun d h1 h2 => hg d (by omega) h2)
    · rw [← hg d h1 (by omega), hf d h1 h2, ha]
    · rw [← hg c (by omega) hc, ← ha]; exact hn

/-- The stretches, by the days at which the function may change. -/
def cutR (f : Int → Int) (b : Int) : Int → Int → List Int → List (Int × Int × Int)
  | a, v, [] => [(a, b, v)]
  | a, v, d :: ds => if f d = v then cutR f b a v ds else (a, d, v) :: cutR f b d (f d) ds

theorem cutR_runs {f : Int → Int} {b : Int} : ∀ (ds : List Int) (a m : Int), a ≤ m → m < b → (∀ d, a ≤ d → d ≤ m → f d = f a) → ds.Pairwise (· < ·) → (∀ d ∈ ds, m < d ∧ d < b) →
    (∀ d, m < d → d < b → d ∉ ds → f d = f (d - 1)) → IsRuns f b a (cutR f b a (f a) ds)
  | [], a, m, h1, h2, h3, _, _, h6 => by
    refine .one a (by omega) fun d hd1 hd2 => ?_
    rcases Int.lt_or_le m d with hm | hm
    · obtain ⟨k, rfl⟩ : ∃ k : Nat, d = m + k := ⟨(d - m).toNat, by omega⟩
      clear hm hd1
      induction k with
      | zero => exact h3 _ (by simpa using h1) (by simp)
      | succ k ih =>
        rw [h6 (m + (k + 1 : Nat)) (by omega) hd2 (by simp)]
        rw [show m + ((k + 1 : Nat) : Int) - 1 = m + (k : Nat) by omega]
        exact ih (by omega)
    · exact h3 d hd1 hm
  | x :: ds, a, m, h1, h2, h3, h4, h5, h6 => by
    obtain ⟨hx1, hx2⟩ := h5 x (by simp)
    rw [List.pairwise_cons] at h4
    have hk : ∀ k : Nat, m + k < x → f (m + k) = f a := by
      intro k
      induction k with
      | zero => intro _; exact h3 _ (by simpa using h1) (by simp)
      | succ k ih =>
        intro hk
        rw [h6 (m + (k + 1 : Nat)) (by omega) (by omega) (by
          intro hm
          rcases List.mem_cons.1 hm with e | e
          · omega
          · have := h4.1 _ e; omega)]
        rw [show m + ((k + 1 : Nat) : Int) - 1 = m + (k : Nat) by omega]
        exact ih (by omega)
    have hc : ∀ d, a ≤ d → d < x → f d = f a := by
      intro d hd1 hd2
      rcases Int.lt_or_le m d with hm | hm
      · have := hk (d - m).toNat (by omega)
        rw [show m + (((d - m).toNat : Nat) : Int) = d by omega] at this
        exact this
      · exact h3 d hd1 hm
    have hr : ∀ d, x < d → d < b → d ∉ ds → f d = f (d - 1) := fun d e1 e2 e3 => h6 d (by omega) e2 (by simp; exact ⟨by omega, e3⟩)
    have hd : ∀ d ∈ ds, x < d ∧ d < b := fun d e => ⟨h4.1 d e, (h5 d (by simp [e])).2⟩
    unfold cutR
    split
    · rename_i he
      refine cutR_runs ds a x (by omega) hx2 (fun d e1 e2 => ?_) h4.2 hd hr
      rcases Int.lt_or_le d x with e | e
      · exact hc d e1 e
      · have : d = x := by omega
        subst this; exact he
    · rename_i he
      exact .cons a x _ (by omega) hc he (cutR_runs ds x x (by omega) hx2 (fun d e1 e2 => by rw [show d = x by omega]) h4.2 hd hr)

/-- Cut at a day. -/
theorem IsRuns.append {f : Int → Int} {b c a : Int} {l : List (Int × Int × Int)} (h : IsRuns f b a l) : ∀ {r : List (Int × Int × Int)}, IsRuns f c b r → f b ≠ f (b - 1) → IsRuns f c a (l ++ r) := by
  induction h with
  | one a h hf =>
    intro r hr hn
    refine .cons a b _ h hf ?_ hr
    rw [hf (b - 1) (by omega) (by omega)] at hn; exact hn
  | cons a c1 l h hf hn ht ih =>
    intro r hr hne
    exact .cons a c1 _ h hf hn (ih hr hne)

end PG

namespace Go.Proofs.Ytjcoenideicmbaa
open Go PG Go.Proofs
/-- A place hangs on what covers the day alone. -/
theorem placeN_congr (l : List Kn) (d d' : Int) : ∀ i : Nat, (∀ j < i, covB (l.getD j default) d = covB (l.getD j default) d') → placeN l d i = placeN l d' i
  | 0, _ => rfl
  | i + 1, h => by
    simp only [placeN]
    rw [placeN_congr l d d' i (fun j hj => h j (by omega)), h i (by omega)]
theorem placeM_step {l : List Kn} {a b d : Int} (h1 : a < d) (h2 : d < b) (h : d ∉ rawC l a b) : placeM l d = placeM l (d - 1) := by
  unfold placeM
  apply placeN_congr
  intro j hj
  have hm : l.getD j default ∈ l := by simp [List.getD, hj]
  generalize l.getD j default = k at hm
  have h3 : ∀ e, e = k.fr ∨ e = k.to → d ≠ e := by
    intro e he hde
    refine h ?_
    unfold rawC
    rw [List.mem_filter]
    refine ⟨List.mem_flatMap.2 ⟨k, hm, by rcases he with rfl | rfl <;> simp [hde]⟩, ?_⟩
    simp [inS, h1, h2]
  have e1 := h3 k.fr (.inl rfl)
  have e2 := h3 k.to (.inr rfl)
  have q1 : decide (k.fr ≤ d) = decide (k.fr ≤ d - 1) := by rw [decide_eq_decide]; omega
  have q2 : decide (d < k.to) = decide (d - 1 < k.to) := by rw [decide_eq_decide]; omega
  simp only [covB, q1, q2]
theorem cmp_props (d : Array Int) (hs : ∀ i j, i ≤ j → j < d.size → d[i]! ≤ d[j]!) : ∀ m, m ≤ d.size → (Lib.compactUpTo d m).Pairwise (· < ·) ∧ ∀ x, x ∈ Lib.compactUpTo d m ↔ ∃ j, j < m ∧ d[j]! = x
  | 0, _ => by simp [Lib.compactUpTo]
  | m + 1, hm => by
    obtain ⟨h1, h2⟩ := cmp_props d hs m (by omega)
    rw [Lib.compactUpTo_succ]
    by_cases hk : Lib.keeps d m = true
    · rw [if_pos hk]
      have hlt : ∀ x ∈ Lib.compactUpTo d m, x < d[m]! := by
        intro x hx
        obtain ⟨j, hj, rfl⟩ := (h2 x).1 hx
        have h3 := hs j (m - 1) (by omega) (by omega)
        have h4 := hs (m - 1) m (by omega) (by omega)
        have h5 : d[m]! ≠ d[m - 1]! := by
          unfold Lib.keeps at hk
          simp only [decide_eq_true_eq] at hk
          rcases hk with h | h
          · omega
          · exact h
        omega
      refine ⟨?_, fun x => ?_⟩
      · rw [List.pairwise_append]
        exact ⟨h1, by simp, fun x hx y hy => by simp at hy; subst hy; exact hlt x hx⟩
      · rw [List.mem_append, h2 x]
        simp only [List.mem_singleton]
        constructor
        · rintro (⟨j, hj, e⟩ | rfl)
          · exact ⟨j, by omega, e⟩
          · exact ⟨m, by omega, rfl⟩
        · rintro ⟨j, hj, e⟩
          rcases Nat.lt_or_ge j m with h | h
          · exact .inl ⟨j, h, e⟩
          · have : j = m := by omega
            subst this; exact .inr e.symm
    · rw [if_neg hk, List.append_nil]
      have hk' : m ≠ 0 ∧ d[m]! = d[m - 1]! := by
        unfold Lib.keeps at hk
        simp only [decide_eq_true_eq] at hk
        exact ⟨fun h => hk (.inl h), Classical.byContradiction fun h => hk (.inr h)⟩
      refine ⟨h1, fun x => ?_⟩
      rw [h2 x]
      constructor
      · rintro ⟨j, hj, e⟩; exact ⟨j, by omega, e⟩
      · rintro ⟨j, hj, e⟩
        rcases Nat.lt_or_ge j m with h | h
        · exact ⟨j, h, e⟩
        · have : j = m := by omega
          subst this
          exact ⟨j - 1, by omega, by rw [← hk'.2]; exact e⟩
theorem le_tr (a b c : Int) : decide (a ≤ b) = true → decide (b ≤ c) = true → decide (a ≤ c) = true := by simp only [decide_eq_true_eq]; omega
theorem le_tt (a b : Int) : (decide (a ≤ b) || decide (b ≤ a)) = true := by simp only [Bool.or_eq_true, decide_eq_true_eq]; omega
theorem cmp_sort (R : List Int) : (Lib.compact (sortL R)).Pairwise (· < ·) ∧ ∀ x, x ∈ Lib.compact (sortL R) ↔ x ∈ R := by
  have hp := List.pairwise_mergeSort (le := fun x y : Int => decide (x ≤ y)) le_tr le_tt R
  have hm : ∀ x, x ∈ sortL R ↔ x ∈ R := fun x => (List.mergeSort_perm R _).mem_iff
  have hs : ∀ i j, i ≤ j → j < (sortL R).toArray.size → (sortL R).toArray[i]! ≤ (sortL R).toArray[j]! := by
    intro i j hij hj
    have hj' : j < (sortL R).length := by rw [List.size_toArray] at hj; exact hj
    have hi' : i < (sortL R).length := by omega
    rw [getElem!_pos _ i (by rw [List.size_toArray]; exact hi'), getElem!_pos _ j (by rw [List.size_toArray]; exact hj')]
    rcases Nat.lt_or_ge i j with h | h
    · have := List.pairwise_iff_getElem.1 hp i j hi' hj' h
      simpa using this
    · have : i = j := by omega
      subst this; omega
  obtain ⟨h1, h2⟩ := cmp_props (sortL R).toArray hs (sortL R).length (by simp)
  refine ⟨h1, fun x => ?_⟩
  rw [← hm x]
  show x ∈ Lib.compactUpTo (sortL R).toArray (sortL R).length ↔ _
  rw [h2 x]
  constructor
  · rintro ⟨j, hj, rfl⟩
    rw [getElem!_pos _ j (by rw [List.size_toArray]; exact hj)]
    simp
  · intro h
    obtain ⟨j, hj, rfl⟩ := List.getElem_of_mem h
    exact ⟨j, hj, by rw [getElem!_pos _ j (by rw [List.size_toArray]; exact hj)]; simp⟩
theorem cut_mem {l : List Kn} {a b d : Int} : d ∈ cutsM l a b ↔ d ∈ rawC l a b := (cmp_sort _).2 d
theorem raw_in {l : List Kn} {a b d : Int} (h : d ∈ rawC l a b) : a < d ∧ d < b := by
  unfold rawC at h
  have := (List.mem_filter.1 h).2
  simpa [inS] using this
/-- The stretches of a span. -/
def fullM (l : List Kn) (a b : Int) : List (Int × Int × Int) := if b ≤ a then [] else cutR (placeM l) b a (placeM l a) (cutsM l a b)
theorem full_runs (l : List Kn) {a b : Int} (h : a < b) : IsRuns (placeM l) b a (fullM l a b) := by
  unfold fullM
  rw [if_neg (by omega)]
  exact cutR_runs (cutsM l a b) a a (by omega) h (fun d h1 h2 => by rw [show d = a by omega]) (cmp_sort _).1 (fun d hd => raw_in (cut_mem.1 hd))
    (fun d h1 h2 h3 => placeM_step h1 h2 fun hr => h3 (cut_mem.2 hr))
theorem cutR_length (f : Int → Int) (b : Int) : ∀ (ds : List Int) (a v : Int), (cutR f b a v ds).length ≤ ds.length + 1
  | [], a, v => by simp [cutR]
  | d :: ds, a, v => by
    unfold cutR; split
    · have := cutR_length f b ds a v; simp; omega
    · have := cutR_length f b ds d (f d); simp; omega
theorem cuts_len (l : List Kn) (a b : Int) : (cutsM l a b).length ≤ 2 * l.length := by
  unfold cutsM
  have h1 := compact_len (sortL (rawC l a b))
  have h2 : (sortL (rawC l a b)).length = (rawC l a b).length := List.length_mergeSort _
  have h3 := rawC_len l a b
  omega
theorem full_len (l : List Kn) (a b : Int) : (fullM l a b).length ≤ 2 * l.length + 1 := by
  unfold fullM
  split
  · simp
  · have h1 := cutR_length (placeM l) b (cutsM l a b) a (placeM l a)
    have h2 := cuts_len l a b
    omega
end Go.Proofs.Ytjcoenideicmbaa

namespace Go.Proofs.Ytjcoenideicmbaa
open Go PG Go.Proofs Go.RowKit Go.Shelf
attribute [local go_sem] Oper.semAt_some
set_option linter.unusedSimpArgs false
set_option linter.unusedVariables false
set_option maxRecDepth 100000
set_option maxHeartbeats 4000000
theorem cuts_w {W : World} {ex : Nat → Prop} (hex : ∀ b, ex b → b < W.heap.size) {fv : Value} {fs : List Kn} (hl : fs.length ≤ 1000000000) (h : RepC W ex fv (knL fs)) (a b : Int) :
    Calls Try.prog 61 #[.agg #[fv], .agg #[.int .i64 a, .int .i64 b]] W fun e W' => ∃ ad len cap, e = .returned (.slice ad len cap) ∧ Below W.heap.size W W' ∧ RepC W' ex (.slice ad len cap) (.list none ((cutsM fs a b).map (PV.int .i64))) := by
  refine (v61 fs hl a b W ex #[.agg #[fv], .agg #[.int .i64 a, .int .i64 b]] hex (globs0 _ _) (reps2 (repAgg1 h) (repAgg2 (.int _ _) (.int _ _)))).mono ?_
  rintro e W' ⟨v, rfl, hB, hr⟩
  have hr' := hr
  cases hr with
  | list ad len cap sh xs b off val hlen hcap hmax hfit ha hc hr => exact ⟨ad, len, cap, rfl, hB, hr'⟩
/-- What a closed list of numbers says of cells. -/
theorem list_cells {W : World} {ex : Nat → Prop} {ad : Option Addr} {len cap : Nat} {ds : List Int} (h : RepC W ex (.slice ad len cap) (.list none (ds.map (PV.int .i64)))) :
    len = ds.length ∧ len ≤ cap ∧ cap ≤ maxLen ∧ ∀ j (hj : j < ds.length), ∃ b off, ad = some ⟨b, off, none⟩ ∧ W.cell? ⟨b, off + j, none⟩ = some (.int .i64 ds[j]) := by
  cases h with
  | list _ _ _ _ _ b off val hlen hcap hmax hfit ha hc hr =>
    have hfl : flat (ds.map (PV.int .i64)) = ds.map (PV.int .i64) := flat_scal fun x hx => by obtain ⟨y, -, rfl⟩ := List.mem_map.1 hx; rfl
    refine ⟨by simpa using hlen, hcap, hmax, fun j hj => ⟨b, off, ha (by intro e; simp at e; subst e; simp at hj), ?_⟩⟩
    obtain ⟨-, h2⟩ := hc j (by rw [hfl]; simpa using hj)
    have h3 := hr j (.int .i64 ds[j]) (by rw [hfl]; simp [hj])
    rw [h2]
    cases h3' : val j <;> rw [h3'] at h3 <;> cases h3
    rfl
def strP (x : Int × Int × Int) : Array Value := #[.agg #[.int .i64 x.1, .int .i64 x.2.1], .int .i64 x.2.2]
theorem cutR_ne (f : Int → Int) (b : Int) : ∀ (ds : List Int) (a v : Int), cutR f b a v ds ≠ []
  | [], a, v => by simp [cutR]
  | d :: ds, a, v => by
    unfold cutR; split
    · exact cutR_ne f b ds a v
    · simp
abbrev St3 := Int × Int × Int
/-- A stretch whose place is one of l's. -/
abbrev StB (n : Nat) := { x : St3 // x.2.2 < (n : Int) }
def strB {n : Nat} (x : StB n) : Array Value := strP x.1
theorem place_it {n₀ B Bl Bs : Nat} {fv : Value} {fs : List Kn} (hl : fs.length ≤ 1000000000) {a b : Int} {W : World} (h : ItS n₀ B Bl Bs fv fs a b W) (d : Int) :
    Calls Try.prog 50 #[.agg #[fv], .int .i64 d] W fun e W' => e = .returned (.int .i64 (placeM fs d)) ∧ ItS n₀ B Bl Bs fv fs a b W' ∧ Below W.heap.size W W' := by
  refine (place_w (busy_lt h.hB) hl h.facts d).mono ?_
  rintro e W' ⟨rfl, hB⟩
  exact ⟨rfl, h.kp (KpB.below h.hB h.hn hB), hB⟩
theorem it_in (l n₀ B Bl Bs : Nat) (fv : Value) (fs : List Kn) (hl : fs.length ≤ 1000000000) (a b : Int) (J Jx : List (StB fs.length) → World → Prop) (W : World)
    (hJ : AbidesFrom W.heap.size J)
    (hY : ∀ pre x W1, J pre W1 → pre.length < (fullM fs a b).length → YieldAt Fence.wide 4 Try.prog l (strB x) W1 fun e W' => (e = .returned (.bool true) ∧ J (pre ++ [x]) W' ∧ KpB n₀ B W1 W') ∨ (e = .returned (.bool false) ∧ Jx (pre ++ [x]) W'))
    (hI : ItS n₀ B Bl Bs fv fs a b W) (h0 : J [] W) :
    CallsIn Fence.wide 5 Try.prog 60 #[.func (.yield l) #[] #[], .pointer (some ⟨Bs, 0, none⟩), .pointer (some ⟨Bl, 0, none⟩)] W fun e W' => (∃ v, e = .returned v) ∧
      ((∃ ys, ys.map (·.1) = fullM fs a b ∧ J ys W') ∨ (∃ pre, True ∧ Jx pre W')) := by
  refine callsIn_of_wp Try.func60 rfl trivial ?_ rfl
  simp only [Try.ntmps60, List.size_toArray, List.length_cons, List.length_nil, Nat.reduceAdd, Nat.reduceSub, Array.replicate_succ, Array.replicate_zero, List.push_toArray, List.append_toArray, List.nil_append, List.cons_append]
  have hcl := hI.cl
  have hc0 := hI.cs0
  have hc1 := hI.cs1
  refine wpIn_wide.2 (wp_scope_straight (wpIn_wide (n := 5).1 ?_))
  by_cases hba : b ≤ a
  · gi_wp2
    simp only [Exit.noGoto]
    refine bodyPost_ret (results_none rfl _ _ _) rfl ?_
    exact ⟨⟨_, rfl⟩, .inl ⟨[], by unfold fullM; rw [if_pos hba]; rfl, h0⟩⟩
  · have hba' : a < b := by omega
    have hmx := mix
    gi_wp2
    refine wpIn_mono (Q := Exit.then (fun a' w' => a' = { tmps := #[.func (.yield l) #[] #[], .pointer (some ⟨Bs, 0, none⟩), .pointer (some ⟨Bl, 0, none⟩), undef, .int .i64 a, .int .i64 (placeM fs a), undef, undef, undef, .pointer (some ⟨Bs, 1, none⟩), .int .i64 b, .pointer (some ⟨Bs, 0, none⟩), .int .i64 a, .bool false, .pointer (some ⟨Bs, 0, none⟩), .int .i64 a, .agg #[fv], .pointer (some ⟨Bs, 0, none⟩), .int .i64 a, .int .i64 (placeM fs a), undef, undef, undef, undef, undef, undef, undef, undef, undef, undef, undef, undef, undef, undef, undef, undef, undef, undef, undef, undef, undef, undef, undef, undef, undef, undef, undef, undef, undef, undef, undef], defers := [] } ∧ ItS n₀ B Bl Bs fv fs a b w' ∧ Below W.heap.size W w') (fun _ _ _ => False)) ?reg ?rest
    case reg =>
      gi_region_with_o (refine ⟨trivial, ?_⟩; gi_at_call 50; refine (callsIn_wide.2 (place_it hl (hI.kp (KpB.below hI.hB hI.hn (by first | exact Below.refl _ _ | exact (Below.refl _ _).drew))) a)).mono ?_; rintro e w' ⟨rfl, hI1, hB1⟩; have hx1 := hI1.cl; have hx2 := hI1.cs0; have hx3 := hI1.cs1)
      all_goals exact ⟨rfl, hI1, ⟨hB1.os, hB1.tape, hB1.output, hB1.size, hB1.block⟩⟩
    case rest =>
      intro e a' w' hq
      cases e <;> first | (exact hq.elim) | skip
      obtain ⟨rfl, hI1, hB1⟩ := hq
      have hx1 := hI1.cl
      have hx2 := hI1.cs0
      have hx3 := hI1.cs1
      dsimp only
      gi_wp2
      refine wpIn_label ?_
      gi_wp2_with (refine ⟨trivial, ?_⟩; gi_at_call 61; refine (callsIn_wide.2 (cuts_w (busy_lt hI1.hB) hl hI1.facts a b)).mono ?_; rintro e w2 ⟨ad, len, cap, rfl, hB2, hC2⟩)
      have hk2 := KpB.below (n₀ := n₀) hI1.hB hI1.hn hB2
      have hI2 := hI1.kp hk2
      have hC3 := list_busy (n₀ := n₀) hI1.hB hI1.wf hB2 hC2
      have hJ2 : J [] w2 := hJ [] W w2 none h0 (grownBy_below (hB1.trans (hB2.mono hB1.size))) (fun r e => by cases e)
      have hfull : cutR (placeM fs) b a (placeM fs a) (cutsM fs a b) = fullM fs a b := by unfold fullM; rw [if_neg (by omega)]
      have hlen := (list_cells hC3).1
      clear hC2 hx1 hx2 hx3 hB2 hB1 hk2
      generalize hDS : cutsM fs a b = ds at hC3 hfull hlen
      clear hcl hc0 hc1
      gi_loopw [4, 5, 24] (fun x y z wr => ∃ (k : Nat) (pre : List (StB fs.length)) (fr v : Int), v < fs.length ∧ x = .int .i64 fr ∧ y = .int .i64 v ∧ z = .int .i64 k ∧ k ≤ ds.length ∧ pre.map (·.1) ++ cutR (placeM fs) b fr v (ds.drop k) = fullM fs a b ∧ J pre wr ∧ ItS n₀ B Bl Bs fv fs a b wr ∧ RepC wr (busy n₀ B wr) (.slice ad len cap) (.list none (ds.map (PV.int .i64))))
        (fun x y z _ => ds.length - (intOf z).toNat)
      case atStart => exact ⟨0, [], a, placeM fs a, (placeM_in fs a).2, rfl, rfl, rfl, by omega, by simpa using hfull, hJ2, hI2, hC3⟩
      case round =>
        obtain ⟨k, pre, fr, v, hvl, rfl, rfl, rfl, hk, htot, hJr, hIr, hCr⟩ := hrel
        have hx1 := hIr.cl
        have hx2 := hIr.cs0
        have hx3 := hIr.cs1
        have hneC := cutR_ne (placeM fs) b (ds.drop k) fr v
        have hlt : pre.length < (fullM fs a b).length := by
          rw [← htot, List.length_append, List.length_map]
          have := List.length_pos_iff.2 hneC
          omega
        obtain ⟨hl1, hcap, hmaxL, hcells⟩ := list_cells hCr
        subst hl1
        have hw1 : k < ds.length → wrap64 ((k : Int) + 1) = (k : Int) + 1 := fun h => IntWalk.wrap64_in _ (by unfold maxLen at hmaxL; omega)
        by_cases hkl : k < ds.length
        · obtain ⟨b0, off, rfl, hcell⟩ := hcells k hkl
          have hdrop : ds.drop k = ds[k] :: ds.drop (k + 1) := List.drop_eq_getElem_cons hkl
          rw [hdrop] at htot
          generalize hd : ds[k] = d at hcell htot
          unfold cutR at htot
          by_cases hfd : placeM fs d = v
          · rw [if_pos hfd] at htot
            gi_wp2_with (refine ⟨trivial, ?_⟩; gi_at_call 50; refine (callsIn_wide.2 (place_it hl hIr d)).mono ?_; rintro e w3 ⟨rfl, hI3, hB3⟩)
            have hk3 := KpB.below (n₀ := n₀) hIr.hB hIr.hn hB3
            have hJ3 : J pre w3 := hJ pre wr w3 none hJr (grownBy_below hB3) (fun r e => by cases e)
            rw [hw1 hkl]
            exact ⟨⟨k + 1, pre, fr, v, hvl, rfl, rfl, by simp, by omega, htot, hJ3, hI3, hCr.mono hk3.agr⟩, by simp [intOf]; omega⟩
          · rw [if_neg hfd] at htot
            have hnf : ¬ v = placeM fs d := fun e => hfd e.symm
            gi_wp2_with (refine ⟨trivial, ?_⟩; gi_at_call 50; refine (callsIn_wide.2 (place_it hl hIr d)).mono ?_; rintro e w3 ⟨rfl, hI3, hB3⟩; obtain ⟨fn, tmps, assign, body, hy, hR⟩ := hY pre ⟨(fr, d, v), hvl⟩ w3 (hJ pre wr w3 none hJr (grownBy_below hB3) (fun r e => by cases e)) hlt; dsimp only [strB, strP] at hy)
            have hk3 := KpB.below (n₀ := n₀) hIr.hB hIr.hn hB3
            refine hR.mono ?_
            rintro e W4 (⟨rfl, hJ4, hk4⟩ | ⟨rfl, hx4⟩)
            · gi_wp2
              rw [hw1 hkl]
              exact ⟨⟨k + 1, pre ++ [⟨(fr, d, v), hvl⟩], d, placeM fs d, (placeM_in fs d).2, rfl, rfl, by simp, by omega, by rw [← htot]; simp, hJ4, hI3.kp hk4, hCr.mono (hk3.t hk4).agr⟩, by simp [intOf]; omega⟩
            · gi_wp2
              simp only [Exit.noGoto]
              refine bodyPost_ret (results_none rfl _ _ _) rfl ?_
              exact ⟨⟨_, rfl⟩, .inr ⟨_, trivial, hx4⟩⟩
        · obtain rfl : k = ds.length := by omega
          rw [List.drop_length] at htot
          simp only [cutR] at htot
          obtain ⟨fn, tmps, assign, body, hy, hR⟩ := hY pre ⟨(fr, b, v), hvl⟩ wr hJr hlt
          dsimp only [strB, strP] at hy
          gi_wp2
          refine hR.mono ?_
          rintro e W4 (⟨rfl, hJ4, hk4⟩ | ⟨rfl, hx4⟩)
          · gi_wp2
            simp only [Exit.noGoto]
            go_end0
            exact ⟨⟨_, rfl⟩, .inl ⟨_, by simpa using htot, hJ4⟩⟩
          · gi_wp2
            simp only [Exit.noGoto]
            go_end0
            exact ⟨⟨_, rfl⟩, .inr ⟨_, trivial, hx4⟩⟩
/-- What 'stretches' hands back, as an iterator. -/
theorem it_stops (n₀ B Bl Bs : Nat) (fv : Value) (fs : List Kn) (hl : fs.length ≤ 1000000000) (a b : Int) (w : World) (hI : ItS n₀ B Bl Bs fv fs a b w) :
    SeqStopsK Fence.wide 5 Try.prog 60 #[.pointer (some ⟨Bs, 0, none⟩), .pointer (some ⟨Bl, 0, none⟩)] (strB (n := fs.length)) (KpB n₀ B) (fun ys => ys.map (·.1) = fullM fs a b) (fun _ => True) (fullM fs a b).length w := fun l J Jx W hW hJ _ hY h0 =>
  it_in l n₀ B Bl Bs fv fs hl a b J Jx W hJ hY (hI.kp (KpB.below hI.hB hI.hn hW)) h0
end Go.Proofs.Ytjcoenideicmbaa

namespace Go.Proofs.Ytjcoenideicmbaa
open Go PG Go.Proofs Go.RowKit Go.Shelf
attribute [local go_sem] Oper.semAt_some
set_option linter.unusedSimpArgs false
set_option linter.unusedVariables false
set_option maxRecDepth 100000
set_option maxHeartbeats 4000000
/-- An append to a row of one's own: in place, or in a new block. -/
theorem run_append_own2 {P : Program} (w : World) (base : Nat) (t ty e : TypeId) (i : TypeInfo) (z : Value) (size bytes : Nat) (ht : P.underlying t = some (.slice e)) (hi : P.info? e = some i) (hz : i.zero = some z)
    (hsize : i.size = size) (hby : i.bytes = bytes) (hzs : z.cells.size = size) (hsz : 0 < size)
    (v : Value) (n : Nat) (xs : List Value) (hown : w.ownsRow base e size v n xs)
    (a : Addr) (m c : Nat) (news : List Value) (hl : news.length = m * size) (hnews : ∀ j u, news[j]? = some u → w.cell? (a.add j) = some u) (h1 : ∀ u ∈ news, u.oneCell' = true)
    (h63 : n + m ≤ maxLen) (hbytes : (n + m) * bytes ≤ 140737488355328) (hbase : base ≤ w.heap.size) :
    ∃ v' w', (Builtin.append_ #[t, t] ty #[v, .slice (some a) m c]).run P w = .ok v' w' ∧ w'.ownsRow base e size v' (n + m) (xs ++ news) ∧ w.grownBy w' v.ownBlock ∧
      (v'.ownBlock = v.ownBlock ∨ ∀ g, v'.ownBlock = some g → w.heap.size ≤ g) := by
  rcases hown.2 with ⟨rfl, hn⟩ | ⟨g, cap, cur, rfl, hbg, hg, hnc, hcm, hcs, htake⟩
  · subst hn
    have hx : xs = [] := List.eq_nil_of_length_eq_zero (by simpa using hown.1)
    subst hx
    obtain ⟨v', w', hr, ho, hgr, -⟩ := run_append_own (P := P) w w.heap.size t ty e i z size bytes ht hi hz hsize hby hzs hsz (.slice none 0 0) 0 [] (World.ownsRow_nil _ _ _ _) a m c news hl hnews h1 h63 hbytes (Nat.le_refl _)
    refine ⟨v', w', hr, ⟨ho.1, ho.2.imp id ?_⟩, hgr, .inr fun g hg => (ho.lt g hg).1⟩
    rintro ⟨g, cap, cur, h1, h2, h3⟩
    exact ⟨g, cap, cur, h1, Nat.le_trans hbase h2, h3⟩
  · by_cases hroom : n + m ≤ cap
    · have hfit : n * i.size + news.length ≤ cur.size := by rw [hl, hcs, hsize, ← Nat.add_mul]; exact Nat.mul_le_mul_right _ hroom
      obtain ⟨v', w', hr, ho, hgr, -⟩ := run_append_own (P := P) w base t ty e i z size bytes ht hi hz hsize hby hzs hsz _ n xs hown a m c news hl hnews h1 h63 hbytes hbase
      have hr2 := run_append_room (P := P) w t ty e i ht hi g n cap cur hg a m c news (by rw [hl, hsize]) hnews h1 hroom hfit
      rw [hr2] at hr
      cases hr
      exact ⟨_, _, hr2, ho, hgr, .inl rfl⟩
    · have holds := hown.cells (g := g) rfl
      obtain ⟨v', w', hr, ho, hgr⟩ := run_append_arg_grows (P := P) w t ty e i z size bytes ht hi hz hsize hby hzs hsz ⟨g, 0, none⟩ n cap xs hown.1 holds a m c news hl hnews (by omega) h63 hbytes
      refine ⟨v', w', hr, ⟨ho.1, ho.2.imp id ?_⟩, ⟨hgr.os, hgr.tape, hgr.output, hgr.size, fun k hk _ => hgr.block k hk (by simp)⟩, .inr fun g hg => (ho.lt g hg).1⟩
      rintro ⟨g, cap, cur, h1, h2, h3⟩
      exact ⟨g, cap, cur, h1, Nat.le_trans hbase h2, h3⟩
theorem wpListIn_append_own2 {F : Fence} {n : Nat} {P : Program} (w : World) {ops : Array Oper} {rest : List Oper} {o : Oper} {a : Act} {Q : Exit → Act → World → Prop}
    (hg : o.guard = none) (s x : Operand) (t : TypeId) (hop : o.op = Op.call { callee := Callee.builtin Builtin.append, args := #[s, x], argTypes := #[t, t] })
    (base : Nat) (e : TypeId) (i : TypeInfo) (z : Value) (size bytes : Nat) (h1 : P.underlying t = some (.slice e)) (h2 : P.info? e = some i) (h3 : i.zero = some z) (h4 : i.size = size) (h5 : i.bytes = bytes) (h6 : z.cells.size = size) (h7 : 0 < size)
    (v : Value) (k : Nat) (xs : List Value) (hs : a.eval s = v) (hown : w.ownsRow base e size v k xs) (ad : Addr) (m c : Nat) (news : List Value) (hx : a.eval x = .slice (some ad) m c) (hn : news.length = m * size)
    (hc : ∀ j u, news[j]? = some u → w.cell? (ad.add j) = some u) (h1c : ∀ u ∈ news, u.oneCell' = true) (b1 : k + m ≤ maxLen) (b2 : (k + m) * bytes ≤ 140737488355328) (b3 : base ≤ w.heap.size)
    (hK : ∀ v' w', w'.ownsRow base e size v' (k + m) (xs ++ news) → w.grownBy w' v.ownBlock → (v'.ownBlock = v.ownBlock ∨ ∀ g, v'.ownBlock = some g → w.heap.size ≤ g) → wpListIn F n P ops Q rest (a.put o.dst v') w') :
    wpListIn F n P ops Q (o :: rest) a w := by
  refine wpListIn_plain hg fun K hK' => ?_
  obtain ⟨v', w', hrun, r1, r2, r3⟩ := run_append_own2 (P := P) w base t o.type e i z size bytes h1 h2 h3 h4 h5 h6 h7 v k xs hown ad m c news hn hc h1c b1 b2 b3
  unfold Oper.wpIn
  refine ⟨?_, ?_⟩
  · simp [Oper.about, hop, resolve, Target.leads, Sem.run_pure]
  · rw [Oper.semAt_plain F _ _ (by rw [hop]; intro c hc'; cases hc')]
    simp [execOp, hop, resolve, invoke, builtin, hs, hx, hrun, Result.andThen]
    exact hK' _ _ (hK v' w' r1 r2 r3)
theorem operIn_append_own2 {F : Fence} {n : Nat} {P : Program} {w : World} {o : Oper} {a : Act} {K : Act → World → Prop} {Q : Exit → Act → World → Prop}
    (s x : Operand) (t : TypeId) (hop : o.op = Op.call { callee := Callee.builtin Builtin.append, args := #[s, x], argTypes := #[t, t] })
    (base : Nat) (e : TypeId) (i : TypeInfo) (z : Value) (size bytes : Nat) (h1 : P.underlying t = some (.slice e)) (h2 : P.info? e = some i) (h3 : i.zero = some z) (h4 : i.size = size) (h5 : i.bytes = bytes) (h6 : z.cells.size = size) (h7 : 0 < size)
    (v : Value) (k : Nat) (xs : List Value) (hs : a.eval s = v) (hown : w.ownsRow base e size v k xs) (ad : Addr) (m c : Nat) (news : List Value) (hx : a.eval x = .slice (some ad) m c) (hn : news.length = m * size)
    (hc : ∀ j u, news[j]? = some u → w.cell? (ad.add j) = some u) (h1c : ∀ u ∈ news, u.oneCell' = true) (b1 : k + m ≤ maxLen) (b2 : (k + m) * bytes ≤ 140737488355328) (b3 : base ≤ w.heap.size)
    (hK : ∀ v' w', w'.ownsRow base e size v' (k + m) (xs ++ news) → w.grownBy w' v.ownBlock → (v'.ownBlock = v.ownBlock ∨ ∀ g, v'.ownBlock = some g → w.heap.size ≤ g) → K (a.put o.dst v') w') :
    o.wpIn F n P a w K Q := by
  obtain ⟨v', w', hrun, r1, r2, r3⟩ := run_append_own2 (P := P) w base t o.type e i z size bytes h1 h2 h3 h4 h5 h6 h7 v k xs hown ad m c news hn hc h1c b1 b2 b3
  unfold Oper.wpIn
  refine ⟨?_, ?_⟩
  · simp [Oper.about, hop, resolve, Target.leads, Sem.run_pure]
  · rw [Oper.semAt_plain F _ _ (by rw [hop]; intro c hc'; cases hc')]
    simp [execOp, hop, resolve, invoke, builtin, hs, hx, hrun, Result.andThen]
    exact hK v' w' r1 r2 r3
theorem KpB.push {n₀ B : Nat} {W w1 : World} {t e : TypeId} {size : Nat} {v v' : Value} {k m : Nat} {xs ys : List Value} (hv : Boxed W B t v) (hte : t ≠ e) (hrow : W.ownsRow n₀ e size v k xs) (hn₀ : n₀ ≤ W.heap.size) (hB : n₀ ≤ B)
    (hown' : w1.ownsRow n₀ e size v' m ys) (hgrow : W.grownBy w1 v.ownBlock) (hfr : v'.ownBlock = v.ownBlock ∨ ∀ g, v'.ownBlock = some g → W.heap.size ≤ g) : KpB n₀ B W (w1.setCell ⟨B, 0, none⟩ v') := by
  have hlt := hv.lt
  have hc := hv.cell
  have hv1 : Boxed w1 B t v := hv.kept hgrow (hv.not_row hte hrow)
  have hv2 := hv1.set v'
  have hsz : (w1.setCell ⟨B, 0, none⟩ v').heap.size = w1.heap.size := by simp [World.setCell]
  have hrowb : ∀ g, v.ownBlock = some g → busy n₀ B W g := by
    intro g hg
    rcases hrow.2 with ⟨rfl, _⟩ | ⟨g2, cap, cur, rfl, h1, h2, h3⟩
    · simp [Value.ownBlock] at hg
    · obtain rfl : g2 = g := by simpa [Value.ownBlock] using hg
      exact .inr (.inl ⟨(Array.getElem?_eq_some_iff.1 h2).1, _, _, hc⟩)
  have hsame : ∀ b, b < W.heap.size → ¬ busy n₀ B W b → (w1.setCell ⟨B, 0, none⟩ v').heap[b]? = W.heap[b]? := by
    intro b hb hnb
    have h1 : b ≠ B := fun e => hnb (.inl e)
    rw [Below.heap_setCell w1 ⟨B, 0, none⟩ v' b h1]
    exact hgrow.block b hb (fun e => hnb (hrowb b e.symm))
  refine ⟨?_, ⟨hsame, fun b hb hnb hb' => ?_⟩, fun _ b len cap hcb => ?_⟩
  · refine ((Below.refl n₀ W).grown hgrow hn₀ fun j ej => ?_).setCell (p := ⟨B, 0, none⟩) hB v'
    rcases hrow.2 with ⟨rfl, _⟩ | ⟨g, cap, cur, rfl, hb, _, _⟩
    · simp [Value.ownBlock] at ej
    · obtain rfl : g = j := by simpa [Value.ownBlock] using ej
      exact hb
  · rcases hb' with rfl | ⟨_, len, cap, hcb⟩ | ⟨h1, o, h2, h3⟩
    · exact hnb (.inl rfl)
    · rw [hv2.cell] at hcb
      have hvb : v' = .slice (some ⟨b, 0, none⟩) len cap := by simpa using hcb
      rcases hfr with h | h
      · exact hnb (hrowb b (by rw [← h, hvb]; rfl))
      · have := h b (by rw [hvb]; rfl)
        omega
    · rw [hsame b hb hnb] at h2
      exact hnb (.inr (.inr ⟨h1, o, h2, h3⟩))
  · rw [hv2.cell] at hcb
    have hvb : v' = .slice (some ⟨b, 0, none⟩) len cap := by simpa using hcb
    rw [hsz]
    exact (hown'.lt b (by rw [hvb]; rfl)).2
theorem own_cells (B k : Nat) (c : Array Value) (t : TypeId) : OwnFrom B (fun (_ : Unit) W => W.heap[k]? = some (.cells c t (0, 0))) := fun _ X Y row hs hg hr =>
  (hg.block k (Array.getElem?_eq_some_iff.1 hs).1 (fun e => by
    obtain ⟨_, o, ho, hn⟩ := hr k e.symm
    rw [hs] at ho; cases ho; cases hn)).trans hs
end Go.Proofs.Ytjcoenideicmbaa

