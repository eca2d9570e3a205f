import Derived.Test.YthekpjhffciakaaDoorProg
import Derived.KernelRfl
import Derived.Test.YthekpjhffciakaaDoorQ17
import Derived.Test.YthekpjhffciakaaDoorP4
import Derived.Test.YthekpjhffciakaaDoorQ11
import Derived.Test.YthekpjhffciakaaDoorQ13
import Derived.Test.YthekpjhffciakaaDoorQ12
import Derived.Test.YthekpjhffciakaaDoorQ8
import Derived.Test.YthekpjhffciakaaDoorQ10
import Derived.Test.YthekpjhffciakaaDoorQ9
import Derived.Test.YthekpjhffciakaaDoorQ15
import Derived.Test.YthekpjhffciakaaDoorQ16
namespace Go.Proofs.YthekpjhffciakaaDoor
open Go PG Go.Proofs
set_option linter.unusedSimpArgs false
set_option linter.unusedVariables false
set_option maxRecDepth 100000
theorem tx_tr (a b c : List UInt8) : decide (a ≤ b) = true → decide (b ≤ c) = true → decide (a ≤ c) = true := by
  simp only [decide_eq_true_eq]; exact List.le_trans
theorem tx_tt (a b : List UInt8) : (decide (a ≤ b) || decide (b ≤ a)) = true := by
  simp only [Bool.or_eq_true, decide_eq_true_eq]; exact List.le_total a b
/-! Texts that rise, each once -/
abbrev Str (L : List (List UInt8)) : Prop := L.Pairwise (· < ·)
theorem lt_of {a b : List UInt8} (h : a ≤ b) (hn : a ≠ b) : a < b := by
  by_cases h1 : a < b
  · exact h1
  · exact absurd (List.le_antisymm h h1) hn
theorem lt_tr {a b c : List UInt8} (h : a < b) (k : b < c) : a < c := List.lt_trans h k
theorem Str.nodup {L : List (List UInt8)} (h : Str L) : L.Nodup := h.imp fun h e => by subst e; exact List.lt_irrefl _ h
theorem str_uniq {A B : List (List UInt8)} (ha : Str A) (hb : Str B) (h : ∀ x, x ∈ A ↔ x ∈ B) : A = B := by
  refine List.Perm.eq_of_pairwise (le := (· < ·)) (fun x y _ _ h1 h2 => absurd (lt_tr h1 h2) (List.lt_irrefl _)) ha hb ?_
  exact (List.perm_ext_iff_of_nodup ha.nodup hb.nodup).2 h
theorem sort_mem {L : List (List UInt8)} {x : List UInt8} : x ∈ sortT L ↔ x ∈ L := (List.mergeSort_perm L _).mem_iff
theorem cmpT_props (d : Array (List UInt8)) (hs : ∀ i j, i ≤ j → j < d.size → d[i]! ≤ d[j]!) : ∀ m, m ≤ d.size → Str (Lib.compactUpTo d m) ∧ ∀ x, x ∈ Lib.compactUpTo d m ↔ ∃ j, j < m ∧ d[j]! = x
  | 0, _ => by simp [Lib.compactUpTo, Str]
  | m + 1, hm => by
    obtain ⟨h1, h2⟩ := cmpT_props d hs m (by omega)
    rw [Lib.compactUpTo_succ]
    by_cases hk : Lib.keeps d m = true
    · rw [if_pos hk]
      have hlt : ∀ x ∈ Lib.compactUpTo d m, x < d[m]! := by
        intro x hx
        obtain ⟨j, hj, rfl⟩ := (h2 x).1 hx
        have h3 := hs j (m - 1) (by omega) (by omega)
        have h4 := hs (m - 1) m (by omega) (by omega)
        have h5 : d[m]! ≠ d[m - 1]! := by
          unfold Lib.keeps at hk
          simp only [decide_eq_true_eq] at hk
          rcases hk with h | h
          · omega
          · exact h
        refine lt_of (List.le_trans h3 h4) fun e => ?_
        rw [e] at h3
        exact h5 (List.le_antisymm h3 h4)
      refine ⟨?_, fun x => ?_⟩
      · refine List.pairwise_append.2 ⟨h1, by simp, fun x hx y hy => by simp at hy; subst hy; exact hlt x hx⟩
      · rw [List.mem_append, h2 x]
        simp only [List.mem_singleton]
        constructor
        · rintro (⟨j, hj, e⟩ | rfl)
          · exact ⟨j, by omega, e⟩
          · exact ⟨m, by omega, rfl⟩
        · rintro ⟨j, hj, e⟩
          rcases Nat.lt_or_ge j m with h | h
          · exact .inl ⟨j, h, e⟩
          · have : j = m := by omega
            subst this; exact .inr e.symm
    · rw [if_neg hk, List.append_nil]
      have hk' : m ≠ 0 ∧ d[m]! = d[m - 1]! := by
        unfold Lib.keeps at hk
        simp only [decide_eq_true_eq] at hk
        exact ⟨fun h => hk (.inl h), Classical.byContradiction fun h => hk (.inr h)⟩
      refine ⟨h1, fun x => ?_⟩
      rw [h2 x]
      constructor
      · rintro ⟨j, hj, e⟩; exact ⟨j, by omega, e⟩
      · rintro ⟨j, hj, e⟩
        rcases Nat.lt_or_ge j m with h | h
        · exact ⟨j, h, e⟩
        · have : j = m := by omega
          subst this
          exact ⟨j - 1, by omega, by rw [← hk'.2]; exact e⟩
theorem cmpT_sort (R : List (List UInt8)) : Str (Lib.compact (sortT R)) ∧ ∀ x, x ∈ Lib.compact (sortT R) ↔ x ∈ R := by
  have hp := List.pairwise_mergeSort tx_tr tx_tt R
  have hs : ∀ i j, i ≤ j → j < (sortT R).toArray.size → (sortT R).toArray[i]! ≤ (sortT R).toArray[j]! := by
    intro i j hij hj
    have hj' : j < (sortT R).length := by rw [List.size_toArray] at hj; exact hj
    have hi' : i < (sortT R).length := by omega
    rw [getElem!_pos _ i (by rw [List.size_toArray]; exact hi'), getElem!_pos _ j (by rw [List.size_toArray]; exact hj')]
    rcases Nat.lt_or_ge i j with h | h
    · have := List.pairwise_iff_getElem.1 hp i j hi' hj' h
      simpa using this
    · have : i = j := by omega
      subst this; exact List.le_refl _
  obtain ⟨h1, h2⟩ := cmpT_props (sortT R).toArray hs (sortT R).length (by simp)
  refine ⟨h1, fun x => ?_⟩
  rw [← sort_mem (L := R)]
  show x ∈ Lib.compactUpTo (sortT R).toArray (sortT R).length ↔ _
  rw [h2 x]
  constructor
  · rintro ⟨j, hj, rfl⟩
    rw [getElem!_pos _ j (by rw [List.size_toArray]; exact hj)]
    simp
  · intro h
    obtain ⟨j, hj, rfl⟩ := List.getElem_of_mem h
    exact ⟨j, hj, by rw [getElem!_pos _ j (by rw [List.size_toArray]; exact hj)]; simp⟩
/-! The variables of nodes: they rise, each once -/
theorem vars_spec (l : List Nd) : Str (varsM l) ∧ ∀ x, x ∈ varsM l ↔ x ∈ namesV l := cmpT_sort (namesV l)
/-! The names of two, together -/
theorem str_filter {L A : List (List UInt8)} (hL : Str L) (hA : Str A) (h : ∀ x ∈ A, x ∈ L) : A = L.filter fun x => decide (x ∈ A) := by
  refine str_uniq hA (List.Pairwise.filter _ hL) (fun x => ?_)
  rw [List.mem_filter]
  simp
  exact h x
/-- How many of a list stand ahead of a place of another. -/
def cntA (A L : List (List UInt8)) (n : Nat) : Nat := ((L.take n).filter fun x => decide (x ∈ A)).length
theorem cnt_succ {A L : List (List UInt8)} {n : Nat} (h : n < L.length) : cntA A L (n + 1) = cntA A L n + if L[n] ∈ A then 1 else 0 := by
  unfold cntA
  rw [List.take_succ_eq_append_getElem h, List.filter_append, List.length_append]
  by_cases hm : L[n] ∈ A <;> simp [hm]
theorem cnt_le {A L : List (List UInt8)} (hL : Str L) (hA : Str A) (h : ∀ x ∈ A, x ∈ L) (n : Nat) : cntA A L n ≤ A.length := by
  have e := congrArg List.length (str_filter hL hA h)
  rw [e, ← List.take_append_drop n L, List.filter_append, List.length_append]
  have : (L.take n).take n ++ (L.take n).drop n = L.take n := List.take_append_drop n _
  unfold cntA
  rw [List.take_append_drop]
  omega
theorem cnt_all {A L : List (List UInt8)} (hL : Str L) (hA : Str A) (h : ∀ x ∈ A, x ∈ L) : cntA A L L.length = A.length := by
  have e := congrArg List.length (str_filter hL hA h)
  unfold cntA
  rw [List.take_length, ← e]
theorem cnt_at {A L : List (List UInt8)} (hL : Str L) (hA : Str A) (h : ∀ x ∈ A, x ∈ L) {n : Nat} (hn : n < L.length) : (L[n] ∈ A → ∃ h : cntA A L n < A.length, A[cntA A L n] = L[n]) ∧ (L[n] ∉ A → ∀ h : cntA A L n < A.length, A[cntA A L n] ≠ L[n]) := by
  have e := str_filter hL hA h
  have e2 : A = (L.take n).filter (fun x => decide (x ∈ A)) ++ ((L.drop n).filter fun x => decide (x ∈ A)) := by
    rw [← List.filter_append, List.take_append_drop]; exact e
  rw [List.drop_eq_getElem_cons hn] at e2
  constructor
  · intro hm
    rw [List.filter_cons_of_pos (by simpa using hm)] at e2
    have hl := congrArg List.length e2
    simp only [List.length_append, List.length_cons] at hl
    have hc : cntA A L n = ((L.take n).filter fun x => decide (x ∈ A)).length := rfl
    refine ⟨by omega, ?_⟩
    have : (((L.take n).filter fun x => decide (x ∈ A)) ++ L[n] :: ((L.drop (n + 1)).filter fun x => decide (x ∈ A)))[cntA A L n]? = some L[n] := by
      rw [hc]; simp
    rw [← e2] at this
    rw [List.getElem?_eq_getElem (by omega)] at this
    exact Option.some.inj this
  · intro hm hh heq
    exact hm (heq ▸ List.getElem_mem hh)
end Go.Proofs.YthekpjhffciakaaDoor

namespace Go.Proofs.YthekpjhffciakaaDoor
open Go PG Go.Proofs
set_option linter.unusedSimpArgs false
set_option linter.unusedVariables false
set_option maxRecDepth 100000
/-! Two formulas with a sign between: their names -/
theorem names_app (a b : List Nd) : namesV (a ++ b) = namesV a ++ namesV b := by
  unfold namesV; rw [List.filter_append, List.map_append]
theorem names_one (o : Int) (k k' : List Int) : namesV [⟨o, 0, [], k⟩] = namesV [⟨o, 0, [], k'⟩] := by
  unfold namesV
  by_cases h : o = 1 <;> simp [h]
theorem names_shift : ∀ (e : Ex) (c d : Nat), namesV (e.nds c) = namesV (e.nds d)
  | .num _, _, _ => rfl
  | .var _, _, _ => rfl
  | .two o a b, c, d => by
    simp only [Ex.nds, names_app]
    rw [names_shift a c d, names_shift b (c + a.size) (d + a.size), names_one _ _ [a.root d, b.root (d + a.size)]]
  | .thr a b e, c, d => by
    simp only [Ex.nds, names_app]
    rw [names_shift a c d, names_shift b (c + a.size) (d + a.size), names_shift e (c + a.size + b.size) (d + a.size + b.size), names_one _ _ [a.root d, b.root (d + a.size), e.root (d + a.size + b.size)]]
theorem parse_minus {s r : List UInt8} {nd md kd : List Nd} (hs : parseS s = .ok nd) (hr : parseS r = .ok md) (h1 : s.length ≤ 300) (h2 : r.length ≤ 300) (hk : parseS ([40] ++ s ++ [41, 45, 40] ++ r ++ [41]) = .ok kd) : ∀ x, x ∈ namesV kd ↔ x ∈ namesV nd ∨ x ∈ namesV md := by
  obtain ⟨w, e, a1, a2, a3, a4, a5⟩ := of_parse hs
  obtain ⟨v, f, b1, b2, b3, b4, b5⟩ := of_parse hr
  obtain ⟨rfl, -, -⟩ := resX_ok a4
  obtain ⟨rfl, -, -⟩ := resX_ok b4
  have hl : lx ([40] ++ s ++ [41, 45, 40] ++ r ++ [41]) = some (((3, [40]) :: (w ++ [(3, [41])])) ++ (3, [45]) :: ((3, [40]) :: (v ++ [(3, [41])]))) := by
    have h6 := lx_par b2 lx_nil
    have h7 := lx_par (s := s) (r := 45 :: (40 :: (r ++ [41]))) a2 (by rw [lx_minus, h6]; rfl)
    simpa using h7
  have hD : D nmP 2 (((3, [40]) :: (w ++ [(3, [41])])) ++ (3, [45]) :: ((3, [40]) :: (v ++ [(3, [41])]))) (.two 3 e f) := .sub (.pro (.fac (.par a3))) (.fac (.par b3))
  rw [parseS_of (by simp; omega) hl hD] at hk
  obtain ⟨rfl, -, -⟩ := resX_ok hk
  intro x
  simp only [Ex.nds, names_app]
  rw [names_shift f (0 + e.size) 0]
  simp [namesV]
/-- The names of two are those of both. -/
theorem vars_sub {nd kd : List Nd} (h : ∀ x ∈ namesV nd, x ∈ namesV kd) : ∀ x ∈ varsM nd, x ∈ varsM kd := fun x hx => ((vars_spec kd).2 x).2 (h x (((vars_spec nd).2 x).1 hx))
theorem vars_len (l : List Nd) : (varsM l).length ≤ l.length := by
  have h1 := compactT_len (sortT (namesV l))
  have h2 := namesV_len l
  have h3 : (sortT (namesV l)).length = (namesV l).length := List.length_mergeSort _
  unfold varsM; omega
end Go.Proofs.YthekpjhffciakaaDoor

namespace Go.Proofs.YthekpjhffciakaaDoor
open PG Go.Proofs
-- wagebook/wagebooklaw13.ExprVars
def L11 : List Nat := [0, 1, 4, 5, 7, 8, 10, 11, 13, 14, 15, 16, 17, 18, 19, 20, 28, 62, 73, 90, 107, 111]
def c11 : CF := ⟨125,
 .seq (.region false [⟨some 4, none, .rd .mov [.pv (.bool false)]⟩] L11)
 (.seq (.seq (.region false [oM 21 0,
 ⟨some 22, none, .rd .lenS [.tmp 21]⟩,
 ⟨some 23, none, .rd (.bin .gtr) [.tmp 22, .pv (.int .i64 300)]⟩,
 oM 24 23,
 qM 24 false 25 1,
 ⟨some 26, some (24, false), .rd .lenS [.tmp 25]⟩,
 ⟨some 27, some (24, false), .rd (.bin .gtr) [.tmp 26, .pv (.int .i64 300)]⟩,
 ⟨some 28, none, .rd .pick [.tmp 24, .pv (.bool true), .tmp 27]⟩] L11)
 (.cond (.tmp 28)
 (.seq (.region false [⟨some 29, none, .call (.pv (.fn 17 [] [])) []⟩,
 oM 4 29] L11)
 (.ret))
 (.skip)))
 (.seq (.region false [oM 31 0,
 ⟨some 32, none, .call (.pv (.fn 18 [] [])) [.tmp 31]⟩,
 oM 30 32,
 ⟨some 33, none, .rd (.ext 0) [.tmp 30]⟩,
 ⟨some 34, none, .rd (.ext 1) [.tmp 30]⟩,
 ⟨some 35, none, .rd (.ext 2) [.tmp 30]⟩,
 ⟨some 5, none, .eff (.alloc (some 1) (.agg [.nilSl])) []⟩,
 ⟨none, none, .eff (.store (some 1)) [.tmp 5, .tmp 33]⟩,
 oM 6 34,
 oM 7 35] L11)
 (.seq (.region false [oM 37 1,
 ⟨some 38, none, .call (.pv (.fn 18 [] [])) [.tmp 37]⟩,
 oM 36 38,
 ⟨some 39, none, .rd (.ext 0) [.tmp 36]⟩,
 ⟨some 40, none, .rd (.ext 1) [.tmp 36]⟩,
 ⟨some 41, none, .rd (.ext 2) [.tmp 36]⟩,
 ⟨some 8, none, .eff (.alloc (some 1) (.agg [.nilSl])) []⟩,
 ⟨none, none, .eff (.store (some 1)) [.tmp 8, .tmp 39]⟩,
 oM 9 40,
 oM 10 41] L11)
 (.seq (.region false [oM 43 0,
 ⟨some 44, none, .rd (.bin .add) [.pv (.str [40]), .tmp 43]⟩,
 ⟨some 45, none, .rd (.bin .add) [.tmp 44, .pv (.str [41, 45, 40])]⟩,
 oM 46 1,
 ⟨some 47, none, .rd (.bin .add) [.tmp 45, .tmp 46]⟩,
 ⟨some 48, none, .rd (.bin .add) [.tmp 47, .pv (.str [41])]⟩,
 ⟨some 49, none, .call (.pv (.fn 18 [] [])) [.tmp 48]⟩,
 oM 42 49,
 ⟨some 50, none, .rd (.ext 0) [.tmp 42]⟩,
 ⟨some 51, none, .rd (.ext 1) [.tmp 42]⟩,
 ⟨some 52, none, .rd (.ext 2) [.tmp 42]⟩,
 ⟨some 11, none, .eff (.alloc (some 1) (.agg [.nilSl])) []⟩,
 ⟨none, none, .eff (.store (some 1)) [.tmp 11, .tmp 50]⟩,
 oM 12 51,
 oM 13 52] L11)
 (.seq (.seq (.region false [oM 53 7,
 ⟨some 54, none, .rd (.bin .neq) [.tmp 53, .pv (.int .i64 0)]⟩,
 oM 55 54,
 qM 55 false 56 10,
 ⟨some 57, some (55, false), .rd (.bin .neq) [.tmp 56, .pv (.int .i64 0)]⟩,
 ⟨some 58, none, .rd .pick [.tmp 55, .pv (.bool true), .tmp 57]⟩,
 oM 59 58,
 qM 59 false 60 13,
 ⟨some 61, some (59, false), .rd (.bin .neq) [.tmp 60, .pv (.int .i64 0)]⟩,
 ⟨some 62, none, .rd .pick [.tmp 59, .pv (.bool true), .tmp 61]⟩] L11)
 (.cond (.tmp 62)
 (.seq (.region false [⟨some 63, none, .call (.pv (.fn 17 [] [])) []⟩,
 oM 4 63] L11)
 (.ret))
 (.skip)))
 (.seq (.regionA (.alt [⟨some 64, none, .rd (.load (some 1)) [.tmp 5]⟩]
 (.alt [⟨some 65, none, .call (.pv (.fn 34 [] [])) [.tmp 64]⟩]
 (.alt [⟨some 66, none, .rd (.load (some 1)) [.tmp 8]⟩]
 (.alt [⟨some 67, none, .call (.pv (.fn 34 [] [])) [.tmp 66]⟩,
 ⟨some 68, none, .rd (.load (some 1)) [.tmp 11]⟩,
 ⟨some 69, none, .call (.pv (.fn 34 [] [])) [.tmp 68]⟩,
 oM 14 65,
 oM 15 67,
 oM 16 69]
 .done
 (.alt [⟨some 68, none, .rd (.load (some 1)) [.tmp 11]⟩,
 ⟨some 67, none, .call (.pv (.fn 34 [] [])) [.tmp 66]⟩,
 ⟨some 69, none, .call (.pv (.fn 34 [] [])) [.tmp 68]⟩,
 oM 14 65,
 oM 15 67,
 oM 16 69]
 .done
 .stop))
 (.alt [⟨some 68, none, .rd (.load (some 1)) [.tmp 11]⟩,
 ⟨some 66, none, .rd (.load (some 1)) [.tmp 8]⟩,
 ⟨some 67, none, .call (.pv (.fn 34 [] [])) [.tmp 66]⟩,
 ⟨some 69, none, .call (.pv (.fn 34 [] [])) [.tmp 68]⟩,
 oM 14 65,
 oM 15 67,
 oM 16 69]
 .done
 .stop))
 (.alt [⟨some 66, none, .rd (.load (some 1)) [.tmp 8]⟩]
 (.alt [⟨some 65, none, .call (.pv (.fn 34 [] [])) [.tmp 64]⟩]
 (.alt [⟨some 67, none, .call (.pv (.fn 34 [] [])) [.tmp 66]⟩,
 ⟨some 68, none, .rd (.load (some 1)) [.tmp 11]⟩,
 ⟨some 69, none, .call (.pv (.fn 34 [] [])) [.tmp 68]⟩,
 oM 14 65,
 oM 15 67,
 oM 16 69]
 .done
 (.alt [⟨some 68, none, .rd (.load (some 1)) [.tmp 11]⟩,
 ⟨some 67, none, .call (.pv (.fn 34 [] [])) [.tmp 66]⟩,
 ⟨some 69, none, .call (.pv (.fn 34 [] [])) [.tmp 68]⟩,
 oM 14 65,
 oM 15 67,
 oM 16 69]
 .done
 .stop))
 (.alt [⟨some 68, none, .rd (.load (some 1)) [.tmp 11]⟩,
 ⟨some 65, none, .call (.pv (.fn 34 [] [])) [.tmp 64]⟩,
 ⟨some 67, none, .call (.pv (.fn 34 [] [])) [.tmp 66]⟩,
 ⟨some 69, none, .call (.pv (.fn 34 [] [])) [.tmp 68]⟩,
 oM 14 65,
 oM 15 67,
 oM 16 69]
 .done
 .stop))
 (.alt [⟨some 68, none, .rd (.load (some 1)) [.tmp 11]⟩]
 (.alt [⟨some 65, none, .call (.pv (.fn 34 [] [])) [.tmp 64]⟩,
 ⟨some 66, none, .rd (.load (some 1)) [.tmp 8]⟩,
 ⟨some 67, none, .call (.pv (.fn 34 [] [])) [.tmp 66]⟩,
 ⟨some 69, none, .call (.pv (.fn 34 [] [])) [.tmp 68]⟩,
 oM 14 65,
 oM 15 67,
 oM 16 69]
 .done
 (.alt [⟨some 66, none, .rd (.load (some 1)) [.tmp 8]⟩,
 ⟨some 65, none, .call (.pv (.fn 34 [] [])) [.tmp 64]⟩,
 ⟨some 67, none, .call (.pv (.fn 34 [] [])) [.tmp 66]⟩,
 ⟨some 69, none, .call (.pv (.fn 34 [] [])) [.tmp 68]⟩,
 oM 14 65,
 oM 15 67,
 oM 16 69]
 .done
 .stop))
 .stop)))
 (.alt [⟨some 66, none, .rd (.load (some 1)) [.tmp 8]⟩]
 (.alt [⟨some 64, none, .rd (.load (some 1)) [.tmp 5]⟩]
 (.alt [⟨some 65, none, .call (.pv (.fn 34 [] [])) [.tmp 64]⟩]
 (.alt [⟨some 67, none, .call (.pv (.fn 34 [] [])) [.tmp 66]⟩,
 ⟨some 68, none, .rd (.load (some 1)) [.tmp 11]⟩,
 ⟨some 69, none, .call (.pv (.fn 34 [] [])) [.tmp 68]⟩,
 oM 14 65,
 oM 15 67,
 oM 16 69]
 .done
 (.alt [⟨some 68, none, .rd (.load (some 1)) [.tmp 11]⟩,
 ⟨some 67, none, .call (.pv (.fn 34 [] [])) [.tmp 66]⟩,
 ⟨some 69, none, .call (.pv (.fn 34 [] [])) [.tmp 68]⟩,
 oM 14 65,
 oM 15 67,
 oM 16 69]
 .done
 .stop))
 (.alt [⟨some 68, none, .rd (.load (some 1)) [.tmp 11]⟩,
 ⟨some 65, none, .call (.pv (.fn 34 [] [])) [.tmp 64]⟩,
 ⟨some 67, none, .call (.pv (.fn 34 [] [])) [.tmp 66]⟩,
 ⟨some 69, none, .call (.pv (.fn 34 [] [])) [.tmp 68]⟩,
 oM 14 65,
 oM 15 67,
 oM 16 69]
 .done
 .stop))
 (.alt [⟨some 68, none, .rd (.load (some 1)) [.tmp 11]⟩,
 ⟨some 64, none, .rd (.load (some 1)) [.tmp 5]⟩,
 ⟨some 65, none, .call (.pv (.fn 34 [] [])) [.tmp 64]⟩,
 ⟨some 67, none, .call (.pv (.fn 34 [] [])) [.tmp 66]⟩,
 ⟨some 69, none, .call (.pv (.fn 34 [] [])) [.tmp 68]⟩,
 oM 14 65,
 oM 15 67,
 oM 16 69]
 .done
 .stop))
 (.alt [⟨some 68, none, .rd (.load (some 1)) [.tmp 11]⟩]
 (.alt [⟨some 64, none, .rd (.load (some 1)) [.tmp 5]⟩]
 (.alt [⟨some 65, none, .call (.pv (.fn 34 [] [])) [.tmp 64]⟩,
 ⟨some 66, none, .rd (.load (some 1)) [.tmp 8]⟩,
 ⟨some 67, none, .call (.pv (.fn 34 [] [])) [.tmp 66]⟩,
 ⟨some 69, none, .call (.pv (.fn 34 [] [])) [.tmp 68]⟩,
 oM 14 65,
 oM 15 67,
 oM 16 69]
 .done
 (.alt [⟨some 66, none, .rd (.load (some 1)) [.tmp 8]⟩,
 ⟨some 65, none, .call (.pv (.fn 34 [] [])) [.tmp 64]⟩,
 ⟨some 67, none, .call (.pv (.fn 34 [] [])) [.tmp 66]⟩,
 ⟨some 69, none, .call (.pv (.fn 34 [] [])) [.tmp 68]⟩,
 oM 14 65,
 oM 15 67,
 oM 16 69]
 .done
 .stop))
 (.alt [⟨some 66, none, .rd (.load (some 1)) [.tmp 8]⟩,
 ⟨some 64, none, .rd (.load (some 1)) [.tmp 5]⟩,
 ⟨some 65, none, .call (.pv (.fn 34 [] [])) [.tmp 64]⟩,
 ⟨some 67, none, .call (.pv (.fn 34 [] [])) [.tmp 66]⟩,
 ⟨some 69, none, .call (.pv (.fn 34 [] [])) [.tmp 68]⟩,
 oM 14 65,
 oM 15 67,
 oM 16 69]
 .done
 .stop))
 .stop))) L11)
 (.seq (.region false [⟨some 17, none, .rd .mov [.pv (.int .i64 0)]⟩,
 ⟨some 18, none, .rd .mov [.pv (.int .i64 0)]⟩] L11)
 (.seq (.seq (.region false [⟨some 19, none, .rd .mov [.pv (.int .i64 0)]⟩] L11)
 (.block 0
 (.loop
 (.seq (.seq (.region false [oM 70 19,
 oM 71 16,
 ⟨some 72, none, .rd .lenL [.tmp 71]⟩,
 ⟨some 73, none, .rd (.bin .lss) [.tmp 70, .tmp 72]⟩] L11)
 (.cond (.tmp 73)
 (.skip)
 (.exit 0)))
 (.seq (.block 1
 (.seq (.region false [⟨some 20, none, .rd .mov [.pv (.bool false)]⟩] L11)
 (.seq (.seq (.region true [oM 76 17,
 oM 77 14,
 ⟨some 78, none, .rd .lenL [.tmp 77]⟩,
 ⟨some 79, none, .rd (.bin .lss) [.tmp 76, .tmp 78]⟩,
 oM 80 79,
 qM 80 true 81 14,
 qM 80 true 82 17,
 ⟨some 83, some (80, true), .rd (.idxAddr none) [.tmp 81, .tmp 82]⟩,
 qL 80 true 84 83,
 qM 80 true 85 16,
 qM 80 true 86 19,
 ⟨some 87, some (80, true), .rd (.idxAddr none) [.tmp 85, .tmp 86]⟩,
 qL 80 true 88 87,
 ⟨some 89, some (80, true), .rd (.bin .eql) [.tmp 84, .tmp 88]⟩,
 ⟨some 90, none, .rd .pick [.tmp 80, .tmp 89, .pv (.bool false)]⟩] L11)
 (.cond (.tmp 90)
 (.seq (.region false [oM 91 17,
 ⟨some 92, none, .rd (.bin .add) [.tmp 91, .pv (.int .i64 1)]⟩,
 oM 17 92] L11)
 (.region false [⟨some 20, none, .rd .mov [.pv (.bool true)]⟩] L11))
 (.skip)))
 (.seq (.seq (.region true [oM 93 18,
 oM 94 15,
 ⟨some 95, none, .rd .lenL [.tmp 94]⟩,
 ⟨some 96, none, .rd (.bin .lss) [.tmp 93, .tmp 95]⟩,
 oM 97 96,
 qM 97 true 98 15,
 qM 97 true 99 18,
 ⟨some 100, some (97, true), .rd (.idxAddr none) [.tmp 98, .tmp 99]⟩,
 qL 97 true 101 100,
 qM 97 true 102 16,
 qM 97 true 103 19,
 ⟨some 104, some (97, true), .rd (.idxAddr none) [.tmp 102, .tmp 103]⟩,
 qL 97 true 105 104,
 ⟨some 106, some (97, true), .rd (.bin .eql) [.tmp 101, .tmp 105]⟩,
 ⟨some 107, none, .rd .pick [.tmp 97, .tmp 106, .pv (.bool false)]⟩] L11)
 (.cond (.tmp 107)
 (.seq (.region false [oM 108 18,
 ⟨some 109, none, .rd (.bin .add) [.tmp 108, .pv (.int .i64 1)]⟩,
 oM 18 109] L11)
 (.region false [⟨some 20, none, .rd .mov [.pv (.bool true)]⟩] L11))
 (.skip)))
 (.seq (.region false [oM 110 20,
 ⟨some 111, none, .rd (.un .not) [.tmp 110]⟩] L11)
 (.cond (.tmp 111)
 (.seq (.region false [⟨some 4, none, .rd .mov [.pv (.bool false)]⟩] L11)
 (.ret))
 (.skip)))))))
 (.region false [oM 74 19,
 ⟨some 75, none, .rd (.bin .add) [.tmp 74, .pv (.int .i64 1)]⟩,
 oM 19 75] L11))))))
 (.seq (.region false [oM 112 17,
 oM 113 14,
 ⟨some 114, none, .rd .lenL [.tmp 113]⟩,
 ⟨some 115, none, .rd (.bin .eql) [.tmp 112, .tmp 114]⟩,
 oM 116 115,
 qM 116 true 117 18,
 qM 116 true 118 15,
 ⟨some 119, some (116, true), .rd .lenL [.tmp 118]⟩,
 ⟨some 120, some (116, true), .rd (.bin .eql) [.tmp 117, .tmp 119]⟩,
 ⟨some 121, none, .rd .pick [.tmp 116, .tmp 120, .pv (.bool false)]⟩,
 oM 122 121,
 ⟨some 123, some (122, true), .call (.pv (.fn 17 [] [])) []⟩,
 ⟨some 124, none, .rd .pick [.tmp 122, .tmp 123, .pv (.bool false)]⟩,
 oM 4 124] L11)
 (.ret)))))))))),
 [.tmp 4]⟩
theorem k11 : compileF Tryd.prog [700014] L11 Tryd.f11 = some c11 := by kernel_rfl
end Go.Proofs.YthekpjhffciakaaDoor

namespace Go.Proofs.YthekpjhffciakaaDoor
open Go PG Go.Proofs
set_option linter.unusedSimpArgs false
set_option linter.unusedVariables false
set_option maxHeartbeats 4000000
set_option maxRecDepth 100000
abbrev nmQ (t : List UInt8) : Int := (numOf t).1
abbrev wE (d : List Tok) (n : Nat) : List Tok := d ++ [(0, [], n)]
def dtP (t : Tok) : PV := .agg [.int .i64 t.1, .str t.2.1, .int .i64 (if t.1 = 2 then nmQ t.2.1 else 0), .int .i64 t.2.2]
abbrev dtsP (d : List Tok) : PV := .list (some 4) (d.map dtP)
def badP (d : List Tok) (n : Nat) (s : PS) : Int := if s.e = 0 then 0 else (tkAt (wE d n) s.at_).2.2
def rqP (d : List Tok) (n : Nat) (s : PS) : MObj := .var (some 6) (.agg [dtsP d, .int .i64 s.at_, .int .i64 n, .sl (some 4) 1 s.out.length, .int .i64 s.e, .int .i64 (badP d n s)])
def RqC (d : List Tok) (n : Nat) (f : Nat) (as_ : List PV) (ν : Mem) (s : PS) (r : Int × PS) : Prop :=
  PCalls Tryd.prog G0 f as_ (some (rqP d n s) :: some (rowO s) :: ν) (killTag 1) (fun p μ' => p = .int .i64 r.1 ∧ μ' = some (rqP d n r.2) :: some (rowO r.2) :: ν)
theorem RqC.frame {d : List Tok} {n : Nat} {f : Nat} {as_ : List PV} {s : PS} {r : Int × PS} (h : RqC d n f as_ [] s r) (ν : Mem) (hν : ν.map (Option.map (MObj.kill (killTag 1))) = ν) (ha : as_.map (PV.kill fun t => decide (2 ≤ t)) = as_) : RqC d n f as_ ν s r := by
  have := PCalls.frame h ν (by rintro p μ' ⟨-, rfl⟩; rfl) ha (by simp [rqP, rowO, MObj.kill, PV.kill]) hν
  intro w κ vs hS hG hr
  refine (this w κ vs hS hG hr).mono ?_
  rintro e w' ⟨v, p, μ', κ', rfl, ⟨μ1, ⟨rfl, rfl⟩, rfl⟩, hS', hv, hg⟩
  exact ⟨v, _, _, κ', rfl, ⟨rfl, rfl⟩, hS', hv, hg⟩
theorem r1 (a b c d e f : PV) (k : IntKind) (v : Int) : putPart (some 6) none (.agg [a, b, c, d, e, f]) 1 (.int k v) = .agg [a, .int k v, c, d, e, f] := rfl
end Go.Proofs.YthekpjhffciakaaDoor

namespace Go.Proofs.YthekpjhffciakaaDoor
open Go PG Go.Proofs
set_option linter.unusedSimpArgs false
set_option linter.unusedVariables false
set_option maxHeartbeats 4000000
set_option maxRecDepth 100000
end Go.Proofs.YthekpjhffciakaaDoor

namespace Go.Proofs.YthekpjhffciakaaDoor
open Go PG Go.Proofs
set_option linter.unusedSimpArgs false
set_option linter.unusedVariables false
set_option maxHeartbeats 4000000
set_option maxRecDepth 100000
end Go.Proofs.YthekpjhffciakaaDoor

namespace Go.Proofs.YthekpjhffciakaaDoor
open Go PG Go.Proofs
set_option linter.unusedSimpArgs false
set_option linter.unusedVariables false
set_option maxHeartbeats 4000000
set_option maxRecDepth 100000
end Go.Proofs.YthekpjhffciakaaDoor

namespace Go.Proofs.YthekpjhffciakaaDoor
open Go PG Go.Proofs
set_option linter.unusedSimpArgs false
set_option linter.unusedVariables false
set_option maxHeartbeats 4000000
set_option maxRecDepth 100000
variable {G : Globs}
end Go.Proofs.YthekpjhffciakaaDoor

namespace Go.Proofs.YthekpjhffciakaaDoor
open Go PG Go.Proofs
set_option linter.unusedSimpArgs false
set_option linter.unusedVariables false
set_option maxHeartbeats 4000000
set_option maxRecDepth 100000
end Go.Proofs.YthekpjhffciakaaDoor

namespace Go.Proofs.YthekpjhffciakaaDoor
open Go PG Go.Proofs
set_option linter.unusedSimpArgs false
set_option linter.unusedVariables false
set_option maxHeartbeats 4000000
set_option maxRecDepth 100000
variable {G : Globs}
end Go.Proofs.YthekpjhffciakaaDoor

namespace Go.Proofs.YthekpjhffciakaaDoor
open Go PG Go.Proofs
set_option linter.unusedSimpArgs false
set_option linter.unusedVariables false
set_option maxHeartbeats 4000000
set_option maxRecDepth 100000
variable {G : Globs}
end Go.Proofs.YthekpjhffciakaaDoor

namespace Go.Proofs.YthekpjhffciakaaDoor
open Go PG Go.Proofs
set_option linter.unusedSimpArgs false
set_option linter.unusedVariables false
set_option maxRecDepth 100000
/-! The examples -/
def sA : List UInt8 := [97, 43, 50, 42, 40, 98, 45, 99, 41]
def sB : List UInt8 := [97, 45, 40, 98, 43, 99, 41]
def sC : List UInt8 := [40, 97, 45, 98, 41, 43, 99]
def sC' : List UInt8 := [97, 45, 98, 43, 99]
def tA : List Nd := [⟨1, 0, [97], []⟩, ⟨0, 2000000, [], []⟩, ⟨1, 0, [98], []⟩, ⟨1, 0, [99], []⟩, ⟨3, 0, [], [2, 3]⟩, ⟨4, 0, [], [1, 4]⟩, ⟨2, 0, [], [0, 5]⟩]
def tB : List Nd := [⟨1, 0, [97], []⟩, ⟨1, 0, [98], []⟩, ⟨1, 0, [99], []⟩, ⟨2, 0, [], [1, 2]⟩, ⟨3, 0, [], [0, 3]⟩]
def tC : List Nd := [⟨1, 0, [97], []⟩, ⟨1, 0, [98], []⟩, ⟨3, 0, [], [0, 1]⟩, ⟨1, 0, [99], []⟩, ⟨2, 0, [], [2, 3]⟩]
def lA : List Tok := [(1, [97], 0), (3, [43], 1), (2, [50], 2), (3, [42], 3), (3, [40], 4), (1, [98], 5), (3, [45], 6), (1, [99], 7), (3, [41], 8), (0, [], 9)]
def lB : List Tok := [(1, [97], 0), (3, [45], 1), (3, [40], 2), (1, [98], 3), (3, [43], 4), (1, [99], 5), (3, [41], 6), (0, [], 7)]
def lC : List Tok := [(3, [40], 0), (1, [97], 1), (3, [45], 2), (1, [98], 3), (3, [41], 4), (3, [43], 5), (1, [99], 6), (0, [], 7)]
theorem allA : allE sA = .ok lA := by
  unfold allE sA
  rw [if_neg (by decide)]
  rw [scanA, if_neg (by decide), show tokE 0 [97, 43, 50, 42, 40, 98, 45, 99, 41] = .ok (1, 1) from rfl]
  simp only [List.drop_succ_cons, List.drop_zero, Nat.add_one_sub_one, Nat.reduceSub, List.take_succ_cons, List.take_zero, Nat.zero_add, Nat.reduceAdd, List.nil_append]
  rw [scanA, if_neg (by decide), show tokE 1 [43, 50, 42, 40, 98, 45, 99, 41] = .ok (3, 1) from rfl]
  simp only [List.drop_succ_cons, List.drop_zero, Nat.add_one_sub_one, Nat.reduceSub, List.take_succ_cons, List.take_zero, Nat.zero_add, Nat.reduceAdd, List.nil_append]
  rw [scanA, if_neg (by decide), show tokE 2 [50, 42, 40, 98, 45, 99, 41] = .ok (2, 1) from rfl]
  simp only [List.drop_succ_cons, List.drop_zero, Nat.add_one_sub_one, Nat.reduceSub, List.take_succ_cons, List.take_zero, Nat.zero_add, Nat.reduceAdd, List.nil_append]
  rw [scanA, if_neg (by decide), show tokE 3 [42, 40, 98, 45, 99, 41] = .ok (3, 1) from rfl]
  simp only [List.drop_succ_cons, List.drop_zero, Nat.add_one_sub_one, Nat.reduceSub, List.take_succ_cons, List.take_zero, Nat.zero_add, Nat.reduceAdd, List.nil_append]
  rw [scanA, if_neg (by decide), show tokE 4 [40, 98, 45, 99, 41] = .ok (3, 1) from rfl]
  simp only [List.drop_succ_cons, List.drop_zero, Nat.add_one_sub_one, Nat.reduceSub, List.take_succ_cons, List.take_zero, Nat.zero_add, Nat.reduceAdd, List.nil_append]
  rw [scanA, if_neg (by decide), show tokE 5 [98, 45, 99, 41] = .ok (1, 1) from rfl]
  simp only [List.drop_succ_cons, List.drop_zero, Nat.add_one_sub_one, Nat.reduceSub, List.take_succ_cons, List.take_zero, Nat.zero_add, Nat.reduceAdd, List.nil_append]
  rw [scanA, if_neg (by decide), show tokE 6 [45, 99, 41] = .ok (3, 1) from rfl]
  simp only [List.drop_succ_cons, List.drop_zero, Nat.add_one_sub_one, Nat.reduceSub, List.take_succ_cons, List.take_zero, Nat.zero_add, Nat.reduceAdd, List.nil_append]
  rw [scanA, if_neg (by decide), show tokE 7 [99, 41] = .ok (1, 1) from rfl]
  simp only [List.drop_succ_cons, List.drop_zero, Nat.add_one_sub_one, Nat.reduceSub, List.take_succ_cons, List.take_zero, Nat.zero_add, Nat.reduceAdd, List.nil_append]
  rw [scanA, if_neg (by decide), show tokE 8 [41] = .ok (3, 1) from rfl]
  simp only [List.drop_succ_cons, List.drop_zero, Nat.add_one_sub_one, Nat.reduceSub, List.take_succ_cons, List.take_zero, Nat.zero_add, Nat.reduceAdd, List.nil_append]
  rw [scanA]
  rfl
theorem allB : allE sB = .ok lB := by
  unfold allE sB
  rw [if_neg (by decide)]
  rw [scanA, if_neg (by decide), show tokE 0 [97, 45, 40, 98, 43, 99, 41] = .ok (1, 1) from rfl]
  simp only [List.drop_succ_cons, List.drop_zero, Nat.add_one_sub_one, Nat.reduceSub, List.take_succ_cons, List.take_zero, Nat.zero_add, Nat.reduceAdd, List.nil_append]
  rw [scanA, if_neg (by decide), show tokE 1 [45, 40, 98, 43, 99, 41] = .ok (3, 1) from rfl]
  simp only [List.drop_succ_cons, List.drop_zero, Nat.add_one_sub_one, Nat.reduceSub, List.take_succ_cons, List.take_zero, Nat.zero_add, Nat.reduceAdd, List.nil_append]
  rw [scanA, if_neg (by decide), show tokE 2 [40, 98, 43, 99, 41] = .ok (3, 1) from rfl]
  simp only [List.drop_succ_cons, List.drop_zero, Nat.add_one_sub_one, Nat.reduceSub, List.take_succ_cons, List.take_zero, Nat.zero_add, Nat.reduceAdd, List.nil_append]
  rw [scanA, if_neg (by decide), show tokE 3 [98, 43, 99, 41] = .ok (1, 1) from rfl]
  simp only [List.drop_succ_cons, List.drop_zero, Nat.add_one_sub_one, Nat.reduceSub, List.take_succ_cons, List.take_zero, Nat.zero_add, Nat.reduceAdd, List.nil_append]
  rw [scanA, if_neg (by decide), show tokE 4 [43, 99, 41] = .ok (3, 1) from rfl]
  simp only [List.drop_succ_cons, List.drop_zero, Nat.add_one_sub_one, Nat.reduceSub, List.take_succ_cons, List.take_zero, Nat.zero_add, Nat.reduceAdd, List.nil_append]
  rw [scanA, if_neg (by decide), show tokE 5 [99, 41] = .ok (1, 1) from rfl]
  simp only [List.drop_succ_cons, List.drop_zero, Nat.add_one_sub_one, Nat.reduceSub, List.take_succ_cons, List.take_zero, Nat.zero_add, Nat.reduceAdd, List.nil_append]
  rw [scanA, if_neg (by decide), show tokE 6 [41] = .ok (3, 1) from rfl]
  simp only [List.drop_succ_cons, List.drop_zero, Nat.add_one_sub_one, Nat.reduceSub, List.take_succ_cons, List.take_zero, Nat.zero_add, Nat.reduceAdd, List.nil_append]
  rw [scanA]
  rfl
theorem allC : allE sC = .ok lC := by
  unfold allE sC
  rw [if_neg (by decide)]
  rw [scanA, if_neg (by decide), show tokE 0 [40, 97, 45, 98, 41, 43, 99] = .ok (3, 1) from rfl]
  simp only [List.drop_succ_cons, List.drop_zero, Nat.add_one_sub_one, Nat.reduceSub, List.take_succ_cons, List.take_zero, Nat.zero_add, Nat.reduceAdd, List.nil_append]
  rw [scanA, if_neg (by decide), show tokE 1 [97, 45, 98, 41, 43, 99] = .ok (1, 1) from rfl]
  simp only [List.drop_succ_cons, List.drop_zero, Nat.add_one_sub_one, Nat.reduceSub, List.take_succ_cons, List.take_zero, Nat.zero_add, Nat.reduceAdd, List.nil_append]
  rw [scanA, if_neg (by decide), show tokE 2 [45, 98, 41, 43, 99] = .ok (3, 1) from rfl]
  simp only [List.drop_succ_cons, List.drop_zero, Nat.add_one_sub_one, Nat.reduceSub, List.take_succ_cons, List.take_zero, Nat.zero_add, Nat.reduceAdd, List.nil_append]
  rw [scanA, if_neg (by decide), show tokE 3 [98, 41, 43, 99] = .ok (1, 1) from rfl]
  simp only [List.drop_succ_cons, List.drop_zero, Nat.add_one_sub_one, Nat.reduceSub, List.take_succ_cons, List.take_zero, Nat.zero_add, Nat.reduceAdd, List.nil_append]
  rw [scanA, if_neg (by decide), show tokE 4 [41, 43, 99] = .ok (3, 1) from rfl]
  simp only [List.drop_succ_cons, List.drop_zero, Nat.add_one_sub_one, Nat.reduceSub, List.take_succ_cons, List.take_zero, Nat.zero_add, Nat.reduceAdd, List.nil_append]
  rw [scanA, if_neg (by decide), show tokE 5 [43, 99] = .ok (3, 1) from rfl]
  simp only [List.drop_succ_cons, List.drop_zero, Nat.add_one_sub_one, Nat.reduceSub, List.take_succ_cons, List.take_zero, Nat.zero_add, Nat.reduceAdd, List.nil_append]
  rw [scanA, if_neg (by decide), show tokE 6 [99] = .ok (1, 1) from rfl]
  simp only [List.drop_succ_cons, List.drop_zero, Nat.add_one_sub_one, Nat.reduceSub, List.take_succ_cons, List.take_zero, Nat.zero_add, Nat.reduceAdd, List.nil_append]
  rw [scanA]
  rfl
theorem pA : parseS sA = .ok tA := by
  unfold parseS; rw [allA]; rfl
theorem pB : parseS sB = .ok tB := by
  unfold parseS; rw [allB]; rfl
theorem pC : parseS sC = .ok tC := by
  unfold parseS; rw [allC]; rfl
end Go.Proofs.YthekpjhffciakaaDoor

namespace Go.Proofs.YthekpjhffciakaaDoor
open Go PG Go.Proofs
set_option linter.unusedSimpArgs false
set_option linter.unusedVariables false
set_option maxHeartbeats 4000000
set_option maxRecDepth 100000
def ndOkB (n : Nd) : Bool := decide (0 ≤ n.op) && (decide (n.op ≤ 9) && ((decide (n.op ≠ 0) || (decide (0 ≤ n.num) && decide (n.num ≤ 1000000000000000000))) && (decide (n.name.length ≤ 100) && (decide (n.kids.length ≤ 3) && (decide (n.op < 2) || (decide (4 < n.op) || decide (n.kids.length = 2)))))))
theorem ndOkB_ok {n : Nd} (h : ndOkB n = true) : NdOk n := by
  simp only [ndOkB, Bool.and_eq_true, Bool.or_eq_true, decide_eq_true_eq] at h
  obtain ⟨h1, h2, h3, h4, h5, h6⟩ := h
  exact ⟨h1, h2, fun e => by rcases h3 with h3 | h3; exact absurd e h3; exact h3, h4, h5, fun a b => by rcases h6 with h6 | h6 | h6; omega; omega; exact h6⟩
def fitsB (l : List Nd) : Nat → Int → Bool
  | 0, _ => false
  | k + 1, i => decide (0 ≤ i) && (decide (i.toNat < l.length) && (ndOkB (l.getD i.toNat default) && (l.getD i.toNat default).kids.all (fitsB l k)))
theorem fitsB_ok (l : List Nd) : ∀ (k : Nat) (i : Int), fitsB l k i = true → fitsD l k i
  | 0, _, h => by cases h
  | k + 1, i, h => by
    simp only [fitsB, Bool.and_eq_true, decide_eq_true_eq, List.all_eq_true] at h
    exact ⟨h.1, h.2.1, ndOkB_ok h.2.2.1, fun c hc => fitsB_ok l k c (h.2.2.2 c hc)⟩
theorem numT2 : numT 2000000 = [50] := by
  unfold numT
  rw [if_pos (by decide), digT, if_pos (by decide)]
  rfl
theorem txA : VCalls Tryd.prog G0 26 [treeP tA] (.str sA) := by
  have h := v26 tA (by decide) (by decide) (by rfl) (fitsB_ok _ _ _ rfl)
  have e : textM tA 16 ((tA.length : Int) - 1) 0 = sA := by
    simp [textM, tA, strongM, wordM, wordsL, sA, numT2, List.getD]
  rw [e] at h
  exact h
theorem txB : VCalls Tryd.prog G0 26 [treeP tB] (.str sB) :=
  v26 tB (by decide) (by decide) (by rfl) (fitsB_ok _ _ _ rfl)
theorem txC : VCalls Tryd.prog G0 26 [treeP tC] (.str sC') :=
  v26 tC (by decide) (by decide) (by rfl) (fitsB_ok _ _ _ rfl)
theorem v17 : VCalls Tryd.prog G0 17 [] (.bool true) := by
  refine VCalls.of_PW Tryd.func17 k17 mix (by simp [c17]) ?_
  simp only [c17, L17, CC, argE]
  have h1 := v18 sA (by decide)
  have h2 := v18 sB (by decide)
  have h3 := v18 sC (by decide)
  have t1 := txA
  have t2 := txB
  have t3 := txC
  rw [pA] at h1
  rw [pB] at h2
  rw [pC] at h3
  simp only [parsePV, treeP] at h1 h2 h3 t1 t2 t3
  have hA : ((tA.map ndP).length : Nat) = 7 := rfl
  generalize tA.map ndP = XA at *
  generalize tB.map ndP = XB at *
  generalize tC.map ndP = XC at *
  simp only [sA, sB, sC, sC'] at h1 h2 h3 t1 t2 t3
  repeat' (first | exact True.intro | (exact Or.inr ⟨rfl, by decide⟩) | (refine PW.seqK ?_; intro K hK) | refine pwB ?_ | refine pwS ?_ | refine pwL ?_ | refine pwE ?_ | refine pwR ?_ | refine pwK ?_ | refine seqK_n ‹_› ?_ | refine seqK_r ‹_› ?_ | refine seqK_e ‹_› ?_ | refine PW.regionA ?_ | exact schedW_stop_i | refine schK_n ‹_› ?_ | (refine schedW_alt_k ?_ ?_; focus (intro K hK; simp only [PV.bin, PV.binOk, binI, hA, SA, Nat.reduceAdd, reduceIte, Nat.reduceEqDiff, Nat.reduceBEq, reduceCtorEq]; (try go_unwrap; try simp only [PV.bin, PV.binOk, binI, hA, RR, reduceCtorEq]))) | (refine PW.cond rfl ?_ ?_ <;> intro hcond <;> (try contradiction) <;> try simp only [DD] at hcond) | (apply goCall_V e18; (case hV => (simp only [PV.bin, PV.binOk, binI, hA, SA, Nat.reduceAdd, reduceIte, Nat.reduceEqDiff, Nat.reduceBEq, reduceCtorEq]; (try go_unwrap; try simp only [PV.bin, PV.binOk, binI, hA, RR, reduceCtorEq]); exact h1)); (try (case hs => rfl)); (try (case hf => first | exact Or.inl rfl | exact Or.inr ⟨rfl, rfl⟩ | (refine Or.inl ?_; simp only [PV.bin, PV.binOk, binI, hA, SA, Nat.reduceAdd, reduceIte, Nat.reduceEqDiff, Nat.reduceBEq, reduceCtorEq]; done) | (refine Or.inr ⟨rfl, ?_⟩; simp only [PV.bin, PV.binOk, binI, hA, SA, Nat.reduceAdd, reduceIte, Nat.reduceEqDiff, Nat.reduceBEq, reduceCtorEq]; done))); all_goals (first | (simp only [PV.bin, PV.binOk, binI, hA, SA, Nat.reduceAdd, reduceIte, Nat.reduceEqDiff, Nat.reduceBEq, reduceCtorEq]; (try go_unwrap; try simp only [PV.bin, PV.binOk, binI, hA, RR, reduceCtorEq])) | (show Env; skip) | (show Mem; skip))) | (apply goCall_V e18; (case hV => (simp only [PV.bin, PV.binOk, binI, hA, SA, Nat.reduceAdd, reduceIte, Nat.reduceEqDiff, Nat.reduceBEq, reduceCtorEq]; (try go_unwrap; try simp only [PV.bin, PV.binOk, binI, hA, RR, reduceCtorEq]); exact h2)); (try (case hs => rfl)); (try (case hf => first | exact Or.inl rfl | exact Or.inr ⟨rfl, rfl⟩ | (refine Or.inl ?_; simp only [PV.bin, PV.binOk, binI, hA, SA, Nat.reduceAdd, reduceIte, Nat.reduceEqDiff, Nat.reduceBEq, reduceCtorEq]; done) | (refine Or.inr ⟨rfl, ?_⟩; simp only [PV.bin, PV.binOk, binI, hA, SA, Nat.reduceAdd, reduceIte, Nat.reduceEqDiff, Nat.reduceBEq, reduceCtorEq]; done))); all_goals (first | (simp only [PV.bin, PV.binOk, binI, hA, SA, Nat.reduceAdd, reduceIte, Nat.reduceEqDiff, Nat.reduceBEq, reduceCtorEq]; (try go_unwrap; try simp only [PV.bin, PV.binOk, binI, hA, RR, reduceCtorEq])) | (show Env; skip) | (show Mem; skip))) | (apply goCall_V e18; (case hV => (simp only [PV.bin, PV.binOk, binI, hA, SA, Nat.reduceAdd, reduceIte, Nat.reduceEqDiff, Nat.reduceBEq, reduceCtorEq]; (try go_unwrap; try simp only [PV.bin, PV.binOk, binI, hA, RR, reduceCtorEq]); exact h3)); (try (case hs => rfl)); (try (case hf => first | exact Or.inl rfl | exact Or.inr ⟨rfl, rfl⟩ | (refine Or.inl ?_; simp only [PV.bin, PV.binOk, binI, hA, SA, Nat.reduceAdd, reduceIte, Nat.reduceEqDiff, Nat.reduceBEq, reduceCtorEq]; done) | (refine Or.inr ⟨rfl, ?_⟩; simp only [PV.bin, PV.binOk, binI, hA, SA, Nat.reduceAdd, reduceIte, Nat.reduceEqDiff, Nat.reduceBEq, reduceCtorEq]; done))); all_goals (first | (simp only [PV.bin, PV.binOk, binI, hA, SA, Nat.reduceAdd, reduceIte, Nat.reduceEqDiff, Nat.reduceBEq, reduceCtorEq]; (try go_unwrap; try simp only [PV.bin, PV.binOk, binI, hA, RR, reduceCtorEq])) | (show Env; skip) | (show Mem; skip))) | (apply goCallG_V e26; (case hV => (intro hg; simp only [hg, PV.bin, PV.binOk, binI, hA, SA, Nat.reduceAdd, reduceIte, Nat.reduceEqDiff, Nat.reduceBEq, reduceCtorEq]; (try go_unwrap; try simp only [PV.bin, PV.binOk, binI, hA, RR, reduceCtorEq]); exact t1)); (case hok => (intro hg; first | (simp only [hg, PV.bin, PV.binOk, binI, hA, SA, Nat.reduceAdd, reduceIte, Nat.reduceEqDiff, Nat.reduceBEq, reduceCtorEq]; done) | (simp_all [okAll, PV.okUnder]; done))); (case hs => (intro hg; simp only [hg, PV.bin, PV.binOk, binI, hA, SA, Nat.reduceAdd, reduceIte, Nat.reduceEqDiff, Nat.reduceBEq, reduceCtorEq])); (case hf => first | rfl | simp only [PV.bin, PV.binOk, binI, hA, SA, Nat.reduceAdd, reduceIte, Nat.reduceEqDiff, Nat.reduceBEq, reduceCtorEq]); (simp only [PV.bin, PV.binOk, binI, hA, SA, Nat.reduceAdd, reduceIte, Nat.reduceEqDiff, Nat.reduceBEq, reduceCtorEq]; (try go_unwrap; try simp only [PV.bin, PV.binOk, binI, hA, RR, reduceCtorEq]))) | (apply goCallG_V e26; (case hV => (intro hg; simp only [hg, PV.bin, PV.binOk, binI, hA, SA, Nat.reduceAdd, reduceIte, Nat.reduceEqDiff, Nat.reduceBEq, reduceCtorEq]; (try go_unwrap; try simp only [PV.bin, PV.binOk, binI, hA, RR, reduceCtorEq]); exact t2)); (case hok => (intro hg; first | (simp only [hg, PV.bin, PV.binOk, binI, hA, SA, Nat.reduceAdd, reduceIte, Nat.reduceEqDiff, Nat.reduceBEq, reduceCtorEq]; done) | (simp_all [okAll, PV.okUnder]; done))); (case hs => (intro hg; simp only [hg, PV.bin, PV.binOk, binI, hA, SA, Nat.reduceAdd, reduceIte, Nat.reduceEqDiff, Nat.reduceBEq, reduceCtorEq])); (case hf => first | rfl | simp only [PV.bin, PV.binOk, binI, hA, SA, Nat.reduceAdd, reduceIte, Nat.reduceEqDiff, Nat.reduceBEq, reduceCtorEq]); (simp only [PV.bin, PV.binOk, binI, hA, SA, Nat.reduceAdd, reduceIte, Nat.reduceEqDiff, Nat.reduceBEq, reduceCtorEq]; (try go_unwrap; try simp only [PV.bin, PV.binOk, binI, hA, RR, reduceCtorEq]))) | (apply goCallG_V e26; (case hV => (intro hg; simp only [hg, PV.bin, PV.binOk, binI, hA, SA, Nat.reduceAdd, reduceIte, Nat.reduceEqDiff, Nat.reduceBEq, reduceCtorEq]; (try go_unwrap; try simp only [PV.bin, PV.binOk, binI, hA, RR, reduceCtorEq]); exact t3)); (case hok => (intro hg; first | (simp only [hg, PV.bin, PV.binOk, binI, hA, SA, Nat.reduceAdd, reduceIte, Nat.reduceEqDiff, Nat.reduceBEq, reduceCtorEq]; done) | (simp_all [okAll, PV.okUnder]; done))); (case hs => (intro hg; simp only [hg, PV.bin, PV.binOk, binI, hA, SA, Nat.reduceAdd, reduceIte, Nat.reduceEqDiff, Nat.reduceBEq, reduceCtorEq])); (case hf => first | rfl | simp only [PV.bin, PV.binOk, binI, hA, SA, Nat.reduceAdd, reduceIte, Nat.reduceEqDiff, Nat.reduceBEq, reduceCtorEq]); (simp only [PV.bin, PV.binOk, binI, hA, SA, Nat.reduceAdd, reduceIte, Nat.reduceEqDiff, Nat.reduceBEq, reduceCtorEq]; (try go_unwrap; try simp only [PV.bin, PV.binOk, binI, hA, RR, reduceCtorEq]))) | (refine gd_i ?_; intro hg; try simp only [hg]) | ((first | show (_ : Nat) ≤ _ | show (_ : Nat) < _ | show (_ : Int) ≤ _ | show (_ : Int) < _ | show (_ : Nat) = _ | show (_ : Int) = _ | show (_ : Bool) = _ | show _ ∨ _ | show ¬ _); first | omega | (simp only [DD, LL] <;> omega) | (go_unwrap; omega)) | ((first | refine PW.region ?_ | refine PW.regionQ ?_ | refine schedW_done_i ?_ | show (_ : Post) _ _ _ | show @Eq (List PV) _ _ | show @Eq Bool _ _ | show opsW _ _ _ _ _ _ _ _ | show okAll _ | show @Eq Bool _ _ ∨ _); focus (simp only [PV.bin, PV.binOk, binI, hA, SA, Nat.reduceAdd, reduceIte, Nat.reduceEqDiff, Nat.reduceBEq, reduceCtorEq]; (try go_unwrap; try simp only [PV.bin, PV.binOk, binI, hA, RR, reduceCtorEq]))) | refine And.intro ?_ ?_ | exact Or.inr ⟨rfl, Nat.le_refl _⟩ | exact (fun h => Bool.noConfusion h))
  all_goals rfl
end Go.Proofs.YthekpjhffciakaaDoor

namespace Go.Proofs.YthekpjhffciakaaDoor
open Go PG Go.Proofs
set_option linter.unusedSimpArgs false
set_option linter.unusedVariables false
set_option maxHeartbeats 4000000
set_option maxRecDepth 100000
theorem e17 : Ent Tryd.prog 17 := ⟨Tryd.f17, Tryd.func17, by kernel_rfl, by kernel_rfl⟩
end Go.Proofs.YthekpjhffciakaaDoor

