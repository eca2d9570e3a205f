import Derived.Test.YtedjaohonijemaaDoorQ10
namespace Go.Proofs.YtedjaohonijemaaDoor
open Go PG Go.Proofs
set_option linter.unusedSimpArgs false
set_option linter.unusedVariables false
set_option maxHeartbeats 4000000
set_option maxRecDepth 100000
variable {G : Globs}
theorem e53 : Ent Tryd.prog 53 := ⟨Tryd.f53, Tryd.func53, by kernel_rfl, by kernel_rfl⟩
theorem e55 : Ent Tryd.prog 55 := ⟨Tryd.f55, Tryd.func55, by kernel_rfl, by kernel_rfl⟩
theorem e38 : Ent Tryd.prog 38 := ⟨Tryd.f38, Tryd.func38, by kernel_rfl, by kernel_rfl⟩
theorem e54 : Ent Tryd.prog 54 := ⟨Tryd.f54, Tryd.func54, by kernel_rfl, by kernel_rfl⟩
theorem e37 : Ent Tryd.prog 37 := ⟨Tryd.f37, Tryd.func37, by kernel_rfl, by kernel_rfl⟩
theorem e36 : Ent Tryd.prog 36 := ⟨Tryd.f36, Tryd.func36, by kernel_rfl, by kernel_rfl⟩
theorem e20 : Ent Tryd.prog 20 := ⟨Tryd.f20, Tryd.func20, by kernel_rfl, by kernel_rfl⟩
theorem e21 : Ent Tryd.prog 21 := ⟨Tryd.f21, Tryd.func21, by kernel_rfl, by kernel_rfl⟩
theorem e8 : Ent Tryd.prog 8 := ⟨Tryd.f8, Tryd.func8, by kernel_rfl, by kernel_rfl⟩
theorem e9 : Ent Tryd.prog 9 := ⟨Tryd.f9, Tryd.func9, by kernel_rfl, by kernel_rfl⟩
theorem e7 : Ent Tryd.prog 7 := ⟨Tryd.f7, Tryd.func7, by kernel_rfl, by kernel_rfl⟩
theorem e4 : Ent Tryd.prog 4 := ⟨Tryd.f4, Tryd.func4, by kernel_rfl, by kernel_rfl⟩
theorem e19 : Ent Tryd.prog 19 := ⟨Tryd.f19, Tryd.func19, by kernel_rfl, by kernel_rfl⟩
theorem e22 : Ent Tryd.prog 22 := ⟨Tryd.f22, Tryd.func22, by kernel_rfl, by kernel_rfl⟩
/-! Days and dates -/
def monTab : List Int := [31, 28, 31, 30, 31, 30, 31, 31, 30, 31, 30, 31]
def monTabP : PV := .agg (monTab.map (PV.int .i64))
def perTab : List Int := [0, 14, 28]
def perTabP : PV := .agg (perTab.map (PV.int .i64))
abbrev GW : Globs := fun g => if g = 0 then some (some 3, perTabP) else if g = 1 then some (some 12, monTabP) else none
def leapM (y : Int) : Bool := decide (y % 4 = 0) && (!decide (y % 100 = 0) || decide (y % 400 = 0))
theorem v55 (y : Int) (h : 0 ≤ y) : VCalls Tryd.prog G 55 [.int .i64 y] (.bool (leapM y)) := by
  refine VCalls.of_PW Tryd.func55 k55 mix (by simp [c55]) ?_
  simp only [c55, L55, CC, argE]
  have q1 : y.tmod 4 = y % 4 := Int.tmod_eq_emod_of_nonneg h
  have q2 : y.tmod 100 = y % 100 := Int.tmod_eq_emod_of_nonneg h
  have q3 : y.tmod 400 = y % 400 := Int.tmod_eq_emod_of_nonneg h
  have w1 : IntKind.i64.wrap (y % 4) = y % 4 := IntWalk.i64_in _ (by omega)
  have w2 : IntKind.i64.wrap (y % 100) = y % 100 := IntWalk.i64_in _ (by omega)
  have w3 : IntKind.i64.wrap (y % 400) = y % 400 := IntWalk.i64_in _ (by omega)
  have z1 : ¬ (4 : Int) = 0 := by decide
  have z2 : ¬ (100 : Int) = 0 := by decide
  have z3 : ¬ (400 : Int) = 0 := by decide
  unfold leapM
  repeat' (first | exact True.intro | (refine PW.seqK ?_; intro K hK) | refine stp ?_ | refine seqK_n ‹_› ?_ | refine seqK_r ‹_› ?_ | refine seqK_e ‹_› ?_ | exact schedW_stop_i | refine schK_n ‹_› ?_ | (refine PW.cond rfl ?_ ?_ <;> intro hcond <;> (try contradiction) <;> try simp only [DD] at hcond) | (refine gd_i ?_; intro hg; try simp only [hg]) | (refine ari ?_; first | omega | (simp only [DD, LL] <;> omega) | (go_unwrap; omega)) | ((first | refine stq ?_ | show (_ : Post) _ _ _ | (refine schedW_alt_k ?_ ?_; intro K hK)); focus (simp only [PV.bin, PV.binOk, binI, q1, q2, q3, w1, w2, w3, z1, z2, z3, SA, Nat.reduceAdd, reduceIte, Nat.reduceEqDiff, Nat.reduceBEq, reduceCtorEq]; (try go_unwrap; try simp only [PV.bin, PV.binOk, binI, q1, q2, q3, w1, w2, w3, z1, z2, z3, RR, reduceCtorEq]))) | refine And.intro ?_ ?_ | exact Or.inr ⟨rfl, Nat.le_refl _⟩ | exact (fun h => Bool.noConfusion h))
def mdM (y m : Int) : Int := if m = 2 ∧ leapM y = true then 29 else monTab.getD (m - 1).toNat 0
theorem mon_get {m : Int} (h1 : 1 ≤ m) (h2 : m ≤ 12) : (monTab.map (PV.int .i64)).getD (0 + (m - 1).toNat * 1) .junk = .int .i64 (monTab.getD (m - 1).toNat 0) ∧ 28 ≤ monTab.getD (m - 1).toNat 0 ∧ monTab.getD (m - 1).toNat 0 ≤ 31 := by
  obtain ⟨k, rfl⟩ : ∃ k : Nat, m = k + 1 := ⟨(m - 1).toNat, by omega⟩
  have hk : k < 12 := by omega
  rw [show ((k : Int) + 1 - 1).toNat = k by omega]
  match k, hk with
  | 0, _ | 1, _ | 2, _ | 3, _ | 4, _ | 5, _ | 6, _ | 7, _ | 8, _ | 9, _ | 10, _ | 11, _ => exact ⟨rfl, by decide, by decide⟩
theorem md_in {y m : Int} (h1 : 1 ≤ m) (h2 : m ≤ 12) : 28 ≤ mdM y m ∧ mdM y m ≤ 31 := by
  unfold mdM
  split
  · omega
  · exact (mon_get h1 h2).2
theorem v38 (hG : G 1 = some (some 12, monTabP)) (y m : Int) (hy : 1900 ≤ y ∧ y ≤ 2199) (hm : 1 ≤ m ∧ m ≤ 12) : VCalls Tryd.prog G 38 [.int .i64 y, .int .i64 m] (.int .i64 (mdM y m)) := by
  refine VCalls.of_PW Tryd.func38 k38 mix (by simp [c38]) ?_
  simp only [c38, L38, CC, argE]
  have h55 := v55 (G := G) y (by omega)
  obtain ⟨hg, g1, g2⟩ := mon_get hm.1 hm.2
  have d1 : decide (y < 1900) = false := by simp only [decide_eq_false_iff_not]; omega
  have d2 : decide (2199 < y) = false := by simp only [decide_eq_false_iff_not]; omega
  have d3 : decide (m < 1) = false := by simp only [decide_eq_false_iff_not]; omega
  have d4 : decide (12 < m) = false := by simp only [decide_eq_false_iff_not]; omega
  have hi1 : 0 ≤ m - 1 ∧ m - 1 < ((12 : Nat) : Int) := by omega
  have hi2 : 0 + (m - 1).toNat * 1 ≤ 12 := by omega
  have hi3 : 0 + (m - 1).toNat * 1 + 1 ≤ (monTab.map (PV.int .i64)).length := by
    have : (monTab.map (PV.int .i64)).length = 12 := rfl
    omega
  unfold mdM
  generalize monTab.getD (m - 1).toNat 0 = r at *
  by_cases h2 : m = 2
  · have d5 : decide (m = 2) = true := decide_eq_true h2
    generalize leapM y = b at *
    cases b
    · rw [if_neg (by simp)]
      repeat' (first | exact True.intro | exact Or.inr True.intro | (refine PW.seqK ?_; intro K hK) | refine stp ?_ | refine seqK_n ‹_› ?_ | refine seqK_r ‹_› ?_ | refine seqK_e ‹_› ?_ | exact schedW_stop_i | refine schK_n ‹_› ?_ | (refine PW.cond rfl ?_ ?_ <;> intro hcond <;> (try contradiction) <;> try simp only [DD] at hcond) | (refine gd_i ?_; intro hg; try simp only [hg]) | refine goCallG_W e55 (h55) ?_ ?_ ?_ ?_ ?_ | (refine ari ?_; first | omega | (simp only [DD, LL] <;> omega) | (go_unwrap; omega)) | ((first | refine stq ?_ | show (_ : Post) _ _ _ | (refine schedW_alt_k ?_ ?_; intro K hK)); focus (simp only [d1, d2, d3, d4, d5, hG, evalO, monTabP, hg, hi2, hi3, hi1.1, hi1.2, SA, Nat.reduceAdd, reduceIte, Nat.reduceEqDiff, Nat.reduceBEq, reduceCtorEq]; (try go_unwrap; try simp only [d1, d2, d3, d4, d5, hG, evalO, monTabP, hg, hi2, hi3, hi1.1, hi1.2, RR, reduceCtorEq]))) | refine And.intro ?_ ?_ | exact Or.inr ⟨rfl, Nat.le_refl _⟩ | exact (fun h => Bool.noConfusion h))
    · rw [if_pos ⟨h2, rfl⟩]
      repeat' (first | exact True.intro | (refine PW.seqK ?_; intro K hK) | refine stp ?_ | refine seqK_n ‹_› ?_ | refine seqK_r ‹_› ?_ | refine seqK_e ‹_› ?_ | exact schedW_stop_i | refine schK_n ‹_› ?_ | (refine PW.cond rfl ?_ ?_ <;> intro hcond <;> (try contradiction) <;> try simp only [DD] at hcond) | (refine gd_i ?_; intro hg; try simp only [hg]) | refine goCallG_W e55 (h55) ?_ ?_ ?_ ?_ ?_ | (refine ari ?_; first | omega | (simp only [DD, LL] <;> omega) | (go_unwrap; omega)) | ((first | refine stq ?_ | show (_ : Post) _ _ _ | (refine schedW_alt_k ?_ ?_; intro K hK)); focus (simp only [d1, d2, d3, d4, d5, SA, Nat.reduceAdd, reduceIte, Nat.reduceEqDiff, Nat.reduceBEq, reduceCtorEq]; (try go_unwrap; try simp only [d1, d2, d3, d4, d5, RR, reduceCtorEq]))) | refine And.intro ?_ ?_ | exact Or.inr ⟨rfl, Nat.le_refl _⟩ | exact (fun h => Bool.noConfusion h))
  · have d5 : decide (m = 2) = false := decide_eq_false h2
    rw [if_neg (fun h => h2 h.1)]
    repeat' (first | exact True.intro | exact Or.inr True.intro | (refine PW.seqK ?_; intro K hK) | refine stp ?_ | refine seqK_n ‹_› ?_ | refine seqK_r ‹_› ?_ | refine seqK_e ‹_› ?_ | exact schedW_stop_i | refine schK_n ‹_› ?_ | (refine PW.cond rfl ?_ ?_ <;> intro hcond <;> (try contradiction) <;> try simp only [DD] at hcond) | (refine goCallG_skip rfl ?_; simp only [d1, d2, d3, d4, d5, hG, evalO, monTabP, hg, hi2, hi3, hi1.1, hi1.2, SA, Nat.reduceAdd, reduceIte, Nat.reduceEqDiff, Nat.reduceBEq, reduceCtorEq]; (try go_unwrap; try simp only [d1, d2, d3, d4, d5, hG, evalO, monTabP, hg, hi2, hi3, hi1.1, hi1.2, RR, reduceCtorEq])) | (refine gd_i ?_; intro hg; try simp only [hg]) | (refine ari ?_; first | omega | (simp only [DD, LL] <;> omega) | (go_unwrap; omega)) | ((first | refine stq ?_ | show (_ : Post) _ _ _ | (refine schedW_alt_k ?_ ?_; intro K hK)); focus (simp only [d1, d2, d3, d4, d5, hG, evalO, monTabP, hg, hi2, hi3, hi1.1, hi1.2, SA, Nat.reduceAdd, reduceIte, Nat.reduceEqDiff, Nat.reduceBEq, reduceCtorEq]; (try go_unwrap; try simp only [d1, d2, d3, d4, d5, hG, evalO, monTabP, hg, hi2, hi3, hi1.1, hi1.2, RR, reduceCtorEq]))) | refine And.intro ?_ ?_ | exact Or.inr ⟨rfl, Nat.le_refl _⟩ | exact (fun h => Bool.noConfusion h))
def startM (y : Int) : Int := 365 * (y - 1900) + (y - 1) / 4 - (y - 1) / 100 + (y - 1) / 400 - 460
theorem v53 (y : Int) (hy : 1900 ≤ y ∧ y ≤ 2300) : VCalls Tryd.prog G 53 [.int .i64 y] (.int .i64 (startM y)) := by
  refine VCalls.of_PW Tryd.func53 k53 mix (by simp [c53]) ?_
  simp only [c53, L53, CC, argE]
  have q1 : (y - 1).tdiv 4 = (y - 1) / 4 := Int.tdiv_eq_ediv_of_nonneg (by omega)
  have q2 : (y - 1).tdiv 100 = (y - 1) / 100 := Int.tdiv_eq_ediv_of_nonneg (by omega)
  have q3 : (y - 1).tdiv 400 = (y - 1) / 400 := Int.tdiv_eq_ediv_of_nonneg (by omega)
  have w0 : IntKind.i64.wrap (y - 1) = y - 1 := IntWalk.i64_in _ (by omega)
  have w1 : IntKind.i64.wrap ((y - 1) / 4) = (y - 1) / 4 := IntWalk.i64_in _ (by omega)
  have w2 : IntKind.i64.wrap ((y - 1) / 100) = (y - 1) / 100 := IntWalk.i64_in _ (by omega)
  have w3 : IntKind.i64.wrap ((y - 1) / 400) = (y - 1) / 400 := IntWalk.i64_in _ (by omega)
  have z1 : ¬ (4 : Int) = 0 := by decide
  have z2 : ¬ (100 : Int) = 0 := by decide
  have z3 : ¬ (400 : Int) = 0 := by decide
  unfold startM
  generalize hA : (y - 1) / 4 = A at *
  generalize hB : (y - 1) / 100 = B at *
  generalize hC : (y - 1) / 400 = C at *
  have a1 : 0 ≤ A ∧ A ≤ 600 := by omega
  have a2 : 0 ≤ B ∧ B ≤ 600 := by omega
  have a3 : 0 ≤ C ∧ C ≤ 600 := by omega
  clear hA hB hC
  have u1 : IntKind.i64.wrap (y - 1900) = y - 1900 := IntWalk.i64_in _ (by omega)
  have u2 : IntKind.i64.wrap (365 * (y - 1900)) = 365 * (y - 1900) := IntWalk.i64_in _ (by omega)
  have u3 : IntKind.i64.wrap (365 * (y - 1900) + A) = 365 * (y - 1900) + A := IntWalk.i64_in _ (by omega)
  have u4 : IntKind.i64.wrap (365 * (y - 1900) + A - B) = 365 * (y - 1900) + A - B := IntWalk.i64_in _ (by omega)
  have u5 : IntKind.i64.wrap (365 * (y - 1900) + A - B + C) = 365 * (y - 1900) + A - B + C := IntWalk.i64_in _ (by omega)
  have u6 : IntKind.i64.wrap (365 * (y - 1900) + A - B + C - 460) = 365 * (y - 1900) + A - B + C - 460 := IntWalk.i64_in _ (by omega)
  repeat' (first | exact True.intro | (refine PW.seqK ?_; intro K hK) | refine stp ?_ | refine seqK_n ‹_› ?_ | refine seqK_r ‹_› ?_ | refine seqK_e ‹_› ?_ | exact schedW_stop_i | refine schK_n ‹_› ?_ | (refine PW.cond rfl ?_ ?_ <;> intro hcond <;> (try contradiction) <;> try simp only [DD] at hcond) | (refine gd_i ?_; intro hg; try simp only [hg]) | (refine ari ?_; first | omega | (simp only [DD, LL] <;> omega) | (go_unwrap; omega)) | ((first | refine stq ?_ | show (_ : Post) _ _ _ | (refine schedW_alt_k ?_ ?_; intro K hK)); focus (simp only [PV.bin, PV.binOk, binI, w0, q1, q2, q3, w1, w2, w3, u1, u2, u3, u4, u5, u6, z1, z2, z3, SA, Nat.reduceAdd, reduceIte, Nat.reduceEqDiff, Nat.reduceBEq, reduceCtorEq]; (try go_unwrap; try simp only [PV.bin, PV.binOk, binI, w0, q1, q2, q3, w1, w2, w3, u1, u2, u3, u4, u5, u6, z1, z2, z3, RR, reduceCtorEq]))) | refine And.intro ?_ ?_ | exact Or.inr ⟨rfl, Nat.le_refl _⟩ | exact (fun h => Bool.noConfusion h))
theorem start_in {y : Int} (hy : 1900 ≤ y ∧ y ≤ 2300) : -1000 ≤ startM y ∧ startM y ≤ 200000 := by unfold startM; omega
theorem v54 (d : Int) : VCalls Tryd.prog G 54 [.int .i64 d] (.bool (decide (-25567 ≤ d) && decide (d < 84006))) := by
  refine VCalls.of_PW Tryd.func54 k54 mix (by simp [c54]) ?_
  simp only [c54, L54, CC, argE]
  repeat' (first | exact True.intro | (refine PW.seqK ?_; intro K hK) | refine stp ?_ | refine seqK_n ‹_› ?_ | refine seqK_r ‹_› ?_ | refine seqK_e ‹_› ?_ | exact schedW_stop_i | refine schK_n ‹_› ?_ | (refine PW.cond rfl ?_ ?_ <;> intro hcond <;> (try contradiction) <;> try simp only [DD] at hcond) | (refine gd_i ?_; intro hg; try simp only [hg]) | (refine ari ?_; first | omega | (simp only [DD, LL] <;> omega) | (go_unwrap; omega)) | ((first | refine stq ?_ | show (_ : Post) _ _ _ | (refine schedW_alt_k ?_ ?_; intro K hK)); focus (simp only [SA, Nat.reduceAdd, reduceIte, Nat.reduceEqDiff, Nat.reduceBEq, reduceCtorEq]; (try go_unwrap; try simp only [RR, reduceCtorEq]))) | refine And.intro ?_ ?_ | exact Or.inr ⟨rfl, Nat.le_refl _⟩ | exact (fun h => Bool.noConfusion h))
theorem v19 (d : Int) : VCalls Tryd.prog G 19 [.int .i64 d] (.bool (decide (-25567 ≤ d) && decide (d < 84006))) := by
  refine VCalls.of_PW Tryd.func19 k19 mix (by simp [c19]) ?_
  simp only [c19, L19, CC, argE]
  repeat' (first | exact True.intro | (refine PW.seqK ?_; intro K hK) | refine stp ?_ | refine seqK_n ‹_› ?_ | refine seqK_r ‹_› ?_ | refine seqK_e ‹_› ?_ | exact schedW_stop_i | refine schK_n ‹_› ?_ | (refine PW.cond rfl ?_ ?_ <;> intro hcond <;> (try contradiction) <;> try simp only [DD] at hcond) | (refine gd_i ?_; intro hg; try simp only [hg]) | (refine ari ?_; first | omega | (simp only [DD, LL] <;> omega) | (go_unwrap; omega)) | ((first | refine stq ?_ | show (_ : Post) _ _ _ | (refine schedW_alt_k ?_ ?_; intro K hK)); focus (simp only [SA, Nat.reduceAdd, reduceIte, Nat.reduceEqDiff, Nat.reduceBEq, reduceCtorEq]; (try go_unwrap; try simp only [RR, reduceCtorEq]))) | refine And.intro ?_ ?_ | exact Or.inr ⟨rfl, Nat.le_refl _⟩ | exact (fun h => Bool.noConfusion h))
theorem v22 (s : Sp) : VCalls Tryd.prog G 22 [spP s] (.bool (decide (-25567 ≤ s.1) && decide (s.2 ≤ 84006))) := by
  refine VCalls.of_PW Tryd.func22 k22 mix (by simp [c22]) ?_
  simp only [c22, L22, CC, argE, spP]
  repeat' (first | exact True.intro | (exact Or.inr ⟨rfl, by decide⟩) | (refine PW.seqK ?_; intro K hK) | refine stp ?_ | refine seqK_n ‹_› ?_ | refine seqK_r ‹_› ?_ | refine seqK_e ‹_› ?_ | exact schedW_stop_i | refine schK_n ‹_› ?_ | (refine PW.cond rfl ?_ ?_ <;> intro hcond <;> (try contradiction) <;> try simp only [DD] at hcond) | (refine gd_i ?_; intro hg; try simp only [hg]) | (refine ari ?_; first | omega | (simp only [DD, LL] <;> omega) | (go_unwrap; omega)) | ((first | refine stq ?_ | show (_ : Post) _ _ _ | (refine schedW_alt_k ?_ ?_; intro K hK)); focus (simp only [sub20, sub21, SA, Nat.reduceAdd, reduceIte, Nat.reduceEqDiff, Nat.reduceBEq, reduceCtorEq]; (try go_unwrap; try simp only [sub20, sub21, RR, reduceCtorEq]))) | refine And.intro ?_ ?_ | exact Or.inr ⟨rfl, Nat.le_refl _⟩ | exact (fun h => Bool.noConfusion h))
end Go.Proofs.YtedjaohonijemaaDoor

namespace Go.Proofs.YtedjaohonijemaaDoor
open Go PG Go.Proofs
set_option linter.unusedSimpArgs false
set_option linter.unusedVariables false
set_option maxHeartbeats 4000000
set_option maxRecDepth 100000
variable {G : Globs}
/-! The date of a day -/
def yearL : Nat → Int → Int → Option Int
  | 0, _, _ => none
  | k + 1, y, n => if 1900 ≤ y ∧ y ≤ 2199 then (if startM (y + 1) ≤ n then yearL k (y + 1) n else some y) else none
def monL : Nat → Int → Int → Int → Option (Int × Int)
  | 0, _, _, _ => none
  | k + 1, y, m, n => if 1 ≤ m ∧ m ≤ 12 then (if mdM y m ≤ n then monL k y (m + 1) (n - mdM y m) else some (m, n + 1)) else none
def toM (d : Int) : Option (Int × Int × Int) :=
  if -25567 ≤ d ∧ d < 84006 then
    match yearL 10 (1900 + (d + 25567) / 366) (d + 25567) with
    | none => none
    | some y => match monL 13 y 1 (d + 25567 - startM y) with
      | none => none
      | some (m, t) => some (y, m, t)
  else none
theorem yearL_in : ∀ {k : Nat} {y n r : Int}, yearL k y n = some r → 1900 ≤ r ∧ r ≤ 2199
  | 0, _, _, _, h => by cases h
  | k + 1, y, n, r, h => by
    rw [yearL] at h
    split at h
    · split at h
      · exact yearL_in h
      · cases h; assumption
    · cases h
theorem v37 (hG : G 1 = some (some 12, monTabP)) {d y m t : Int} (h : toM d = some (y, m, t)) : VCalls Tryd.prog G 37 [.int .i64 d] (.agg [.int .i64 y, .int .i64 m, .int .i64 t]) := by
  refine VCalls.of_PW Tryd.func37 k37 mix (by simp [c37]) ?_
  simp only [c37, L37, CC, argE]
  unfold toM at h
  split at h
  case isFalse => cases h
  rename_i hd
  cases hy : yearL 10 (1900 + (d + 25567) / 366) (d + 25567) with
  | none => rw [hy] at h; cases h
  | some y' =>
  rw [hy] at h
  simp only at h
  cases hm : monL 13 y' 1 (d + 25567 - startM y') with
  | none => rw [hm] at h; cases h
  | some q =>
  rw [hm] at h
  obtain ⟨m', t'⟩ := q
  simp only [Option.some.injEq, Prod.mk.injEq] at h
  obtain ⟨rfl, rfl, rfl⟩ := h
  have hyi := yearL_in hy
  have hst := start_in (y := y') (by omega)
  have h54 := v54 (G := G) d
  rw [decide_eq_true hd.1, decide_eq_true hd.2] at h54
  have hq : (d + 25567).tdiv 366 = (d + 25567) / 366 := Int.tdiv_eq_ediv_of_nonneg (by omega)
  have w0 : IntKind.i64.wrap (d - -25567) = d + 25567 := (IntWalk.i64_in _ (by omega)).trans (by omega)
  have w1 : IntKind.i64.wrap ((d + 25567) / 366) = (d + 25567) / 366 := IntWalk.i64_in _ (by omega)
  have w2 : IntKind.i64.wrap (1900 + (d + 25567) / 366) = 1900 + (d + 25567) / 366 := IntWalk.i64_in _ (by omega)
  have z1 : ¬ (366 : Int) = 0 := by decide
  have hnb : 0 ≤ d + 25567 ∧ d + 25567 ≤ 200000 := by omega
  repeat' (first | exact True.intro | (exact Or.inr ⟨rfl, by decide⟩) | (refine PW.seqK ?_; intro K hK) | refine stp ?_ | refine seqK_n ‹_› ?_ | refine seqK_r ‹_› ?_ | refine seqK_e ‹_› ?_ | exact schedW_stop_i | refine schK_n ‹_› ?_ | (refine PW.cond rfl ?_ ?_ <;> intro hcond <;> (try contradiction) <;> try simp only [DD] at hcond) | (refine gd_i ?_; intro hg; try simp only [hg]) | refine goCall_W e54 (h54) ?_ ?_ ?_ ?_ | (refine ari ?_; first | omega | (simp only [DD, LL] <;> omega) | (go_unwrap; omega)) | ((first | refine stq ?_ | show (_ : Post) _ _ _ | (refine schedW_alt_k ?_ ?_; intro K hK)); focus (simp only [PV.bin, PV.binOk, binI, hq, w0, w1, w2, z1, Bool.and_true, SA, Nat.reduceAdd, reduceIte, Nat.reduceEqDiff, Nat.reduceBEq, reduceCtorEq]; (try go_unwrap; try simp only [PV.bin, PV.binOk, binI, hq, w0, w1, w2, z1, Bool.and_true, RR, reduceCtorEq]))) | refine And.intro ?_ ?_ | exact Or.inr ⟨rfl, Nat.le_refl _⟩ | exact (fun h => Bool.noConfusion h))
  generalize 1900 + (d + 25567) / 366 = y0 at *
  generalize d + 25567 = n at *
  refine PW.loopG (σ := Nat × Int) 1 (fun _ _ => rfl) [2, 3, 4] (fun s => [.ref 0 0, .int .i64 n, .int .i64 s.2]) (fun _ => [some (.var (some 3) (.agg [.int .i64 0, .int .i64 0, .int .i64 0]))]) (fun s => yearL s.1 s.2 n = some y') (fun s => s.1) (10, y0) ?_ rfl hy ?_
  · simp only [SA, Nat.reduceAdd, reduceIte, Nat.reduceEqDiff, Nat.reduceBEq, reduceCtorEq]; rfl
  clear hq w0 w1 w2 hy
  rintro ⟨k, yy⟩ hy
  simp only at hy
  simp only [List.zip_cons_cons, List.zip_nil_left]
  cases k with
  | zero => cases hy
  | succ k =>
  rw [yearL] at hy
  split at hy
  case isFalse => cases hy
  rename_i hyy
  have h53 := v53 (G := G) (yy + 1) (by omega)
  by_cases hc : startM (yy + 1) ≤ n
  · rw [if_pos hc] at hy
    have d1 : decide (startM (yy + 1) ≤ n) = true := decide_eq_true hc
    repeat' (first | exact True.intro | (refine PW.seqK ?_; intro K hK) | refine stp ?_ | refine seqK_n ‹_› ?_ | refine seqK_r ‹_› ?_ | refine seqK_e ‹_› ?_ | exact schedW_stop_i | refine schK_n ‹_› ?_ | (refine PW.cond rfl ?_ ?_ <;> intro hcond <;> (try contradiction) <;> try simp only [DD] at hcond) | (refine gd_i ?_; intro hg; try simp only [hg]) | refine goCall_W e53 (h53) ?_ ?_ ?_ ?_ | (refine ari ?_; first | omega | (simp only [DD, LL] <;> omega) | (go_unwrap; omega)) | ((first | refine stq ?_ | show (_ : Post) _ _ _ | (refine schedW_alt_k ?_ ?_; intro K hK)); focus (simp only [d1, SA, Nat.reduceAdd, reduceIte, Nat.reduceEqDiff, Nat.reduceBEq, reduceCtorEq]; (try go_unwrap; try simp only [d1, RR, reduceCtorEq]))) | refine And.intro ?_ ?_ | exact Or.inr ⟨rfl, Nat.le_refl _⟩ | exact (fun h => Bool.noConfusion h))
    all_goals exact ⟨(k, yy + 1), (by first | rfl | (simp only [TT, MObj.kill, PV.kill, Nat.reduceLeDiff, reduceIte, Nat.le_refl, Nat.zero_le, Nat.not_le, Nat.lt_irrefl]; done) | (simp [trimE, trimM, MObj.kill, PV.kill]; done)), (by first | rfl | (simp only [TT, MObj.kill, PV.kill, Nat.reduceLeDiff, reduceIte, Nat.le_refl, Nat.zero_le, Nat.not_le, Nat.lt_irrefl]; done) | (simp [trimE, trimM, MObj.kill, PV.kill]; done)), hy, by simp only; omega⟩
  rw [if_neg hc] at hy
  cases hy
  have d1 : decide (startM (y' + 1) ≤ n) = false := decide_eq_false hc
  have h53' := v53 (G := G) y' (by omega)
  have w3 : IntKind.i64.wrap (n - startM y') = n - startM y' := IntWalk.i64_in _ (by omega)
  repeat' (first | exact True.intro | (refine PW.seqK ?_; intro K hK) | refine stp ?_ | refine seqK_n ‹_› ?_ | refine seqK_r ‹_› ?_ | refine seqK_e ‹_› ?_ | exact schedW_stop_i | refine schK_n ‹_› ?_ | (refine PW.cond rfl ?_ ?_ <;> intro hcond <;> (try contradiction) <;> try simp only [DD] at hcond) | (apply goCall_V e53; (case hV => (simp only [d1, w3, SA, Nat.reduceAdd, reduceIte, Nat.reduceEqDiff, Nat.reduceBEq, reduceCtorEq]; (try go_unwrap; try simp only [d1, w3, RR, reduceCtorEq]); exact h53)); (try (case hs => rfl)); (try (case hf => first | exact Or.inl rfl | exact Or.inr ⟨rfl, rfl⟩ | (refine Or.inl ?_; simp only [d1, w3, SA, Nat.reduceAdd, reduceIte, Nat.reduceEqDiff, Nat.reduceBEq, reduceCtorEq]; done) | (refine Or.inr ⟨rfl, ?_⟩; simp only [d1, w3, SA, Nat.reduceAdd, reduceIte, Nat.reduceEqDiff, Nat.reduceBEq, reduceCtorEq]; done))); all_goals (first | (simp only [d1, w3, SA, Nat.reduceAdd, reduceIte, Nat.reduceEqDiff, Nat.reduceBEq, reduceCtorEq]; (try go_unwrap; try simp only [d1, w3, RR, reduceCtorEq])) | (show Env; skip) | (show Mem; skip))) | (apply goCall_V e53; (case hV => (simp only [d1, w3, SA, Nat.reduceAdd, reduceIte, Nat.reduceEqDiff, Nat.reduceBEq, reduceCtorEq]; (try go_unwrap; try simp only [d1, w3, RR, reduceCtorEq]); exact h53')); (try (case hs => rfl)); (try (case hf => first | exact Or.inl rfl | exact Or.inr ⟨rfl, rfl⟩ | (refine Or.inl ?_; simp only [d1, w3, SA, Nat.reduceAdd, reduceIte, Nat.reduceEqDiff, Nat.reduceBEq, reduceCtorEq]; done) | (refine Or.inr ⟨rfl, ?_⟩; simp only [d1, w3, SA, Nat.reduceAdd, reduceIte, Nat.reduceEqDiff, Nat.reduceBEq, reduceCtorEq]; done))); all_goals (first | (simp only [d1, w3, SA, Nat.reduceAdd, reduceIte, Nat.reduceEqDiff, Nat.reduceBEq, reduceCtorEq]; (try go_unwrap; try simp only [d1, w3, RR, reduceCtorEq])) | (show Env; skip) | (show Mem; skip))) | (refine gd_i ?_; intro hg; try simp only [hg]) | (refine ari ?_; first | omega | (simp only [DD, LL] <;> omega) | (go_unwrap; omega)) | ((first | refine stq ?_ | show (_ : Post) _ _ _ | (refine schedW_alt_k ?_ ?_; intro K hK)); focus (simp only [d1, w3, SA, Nat.reduceAdd, reduceIte, Nat.reduceEqDiff, Nat.reduceBEq, reduceCtorEq]; (try go_unwrap; try simp only [d1, w3, RR, reduceCtorEq]))) | refine And.intro ?_ ?_ | exact Or.inr ⟨rfl, Nat.le_refl _⟩ | exact (fun h => Bool.noConfusion h))
  have hnb' : -300000 ≤ n - startM y' ∧ n - startM y' ≤ 300000 := by omega
  generalize n - startM y' = n' at *
  refine PW.loopG (σ := Nat × Int × Int) 1 (fun _ _ => rfl) [2, 3, 4, 5] (fun s => [.ref 0 0, .int .i64 s.2.2, .int .i64 y', .int .i64 s.2.1]) (fun _ => [some (.var (some 3) (.agg [.int .i64 0, .int .i64 0, .int .i64 0]))]) (fun s => monL s.1 y' s.2.1 s.2.2 = some (m', t') ∧ -300000 ≤ s.2.2 ∧ s.2.2 ≤ 300000) (fun s => s.1) (13, 1, n') ?_ rfl ⟨hm, hnb'.1, hnb'.2⟩ ?_
  · simp only [SA, Nat.reduceAdd, reduceIte, Nat.reduceEqDiff, Nat.reduceBEq, reduceCtorEq]; rfl
  clear hm h53 h53' d1 w3
  rintro ⟨k, mm, r⟩ ⟨hm, r1, r2⟩
  simp only at hm r1 r2
  simp only [List.zip_cons_cons, List.zip_nil_left]
  cases k with
  | zero => cases hm
  | succ k =>
  rw [monL] at hm
  split at hm
  case isFalse => cases hm
  rename_i hmm
  have h38 := v38 hG y' mm hyi hmm
  have hb := md_in (y := y') hmm.1 hmm.2
  generalize mdM y' mm = D at *
  by_cases hc : D ≤ r
  · rw [if_pos hc] at hm
    have d1 : decide (D ≤ r) = true := decide_eq_true hc
    repeat' (first | exact True.intro | (refine PW.seqK ?_; intro K hK) | refine stp ?_ | refine seqK_n ‹_› ?_ | refine seqK_r ‹_› ?_ | refine seqK_e ‹_› ?_ | exact schedW_stop_i | refine schK_n ‹_› ?_ | (refine PW.cond rfl ?_ ?_ <;> intro hcond <;> (try contradiction) <;> try simp only [DD] at hcond) | (refine gd_i ?_; intro hg; try simp only [hg]) | refine goCall_W e38 (h38) ?_ ?_ ?_ ?_ | (refine ari ?_; first | omega | (simp only [DD, LL] <;> omega) | (go_unwrap; omega)) | ((first | refine stq ?_ | show (_ : Post) _ _ _ | (refine schedW_alt_k ?_ ?_; intro K hK)); focus (simp only [d1, SA, Nat.reduceAdd, reduceIte, Nat.reduceEqDiff, Nat.reduceBEq, reduceCtorEq]; (try go_unwrap; try simp only [d1, RR, reduceCtorEq]))) | refine And.intro ?_ ?_ | exact Or.inr ⟨rfl, Nat.le_refl _⟩ | exact (fun h => Bool.noConfusion h))
    all_goals exact ⟨(k, mm + 1, r - D), (by first | rfl | (simp only [TT, MObj.kill, PV.kill, Nat.reduceLeDiff, reduceIte, Nat.le_refl, Nat.zero_le, Nat.not_le, Nat.lt_irrefl]; done) | (simp [trimE, trimM, MObj.kill, PV.kill]; done)), (by first | rfl | (simp only [TT, MObj.kill, PV.kill, Nat.reduceLeDiff, reduceIte, Nat.le_refl, Nat.zero_le, Nat.not_le, Nat.lt_irrefl]; done) | (simp [trimE, trimM, MObj.kill, PV.kill]; done)), ⟨hm, by simp only; omega, by simp only; omega⟩, by simp only; omega⟩
  rw [if_neg hc] at hm
  cases hm
  have d1 : decide (D ≤ r) = false := decide_eq_false hc
  repeat' (first | exact True.intro | (exact Or.inr ⟨rfl, by decide⟩) | (refine PW.seqK ?_; intro K hK) | refine stp ?_ | refine seqK_n ‹_› ?_ | refine seqK_r ‹_› ?_ | refine seqK_e ‹_› ?_ | exact schedW_stop_i | refine schK_n ‹_› ?_ | (refine PW.cond rfl ?_ ?_ <;> intro hcond <;> (try contradiction) <;> try simp only [DD] at hcond) | (refine gd_i ?_; intro hg; try simp only [hg]) | refine goCall_W e38 (h38) ?_ ?_ ?_ ?_ | (refine ari ?_; first | omega | (simp only [DD, LL] <;> omega) | (go_unwrap; omega)) | ((first | refine stq ?_ | show (_ : Post) _ _ _ | (refine schedW_alt_k ?_ ?_; intro K hK)); focus (simp only [d1, SA, Nat.reduceAdd, reduceIte, Nat.reduceEqDiff, Nat.reduceBEq, reduceCtorEq]; (try go_unwrap; try simp only [d1, RR, reduceCtorEq]))) | refine And.intro ?_ ?_ | exact Or.inr ⟨rfl, Nat.le_refl _⟩ | exact (fun h => Bool.noConfusion h))
theorem v36 (hG : G 1 = some (some 12, monTabP)) {y : Int} (hy : 1900 ≤ y ∧ y ≤ 2199) (h : toM (startM y - 25567) = some (y, 1, 1)) : VCalls Tryd.prog G 36 [.agg [.int .i64 y, .int .i64 1, .int .i64 1]] (.tup [.int .i64 (startM y - 25567), .int .i64 0]) := by
  refine VCalls.of_PW Tryd.func36 k36 mix (by simp [c36]) ?_
  simp only [c36, L36, CC, argE]
  have h38 := v38 hG y 1 hy (by omega)
  have h53 := v53 (G := G) y (by omega)
  have hb := md_in (y := y) (m := 1) (by omega) (by omega)
  have hs := start_in (y := y) (by omega)
  have h37 := v37 hG h
  generalize mdM y 1 = D at *
  generalize startM y = S at *
  have d1 : decide ((1 : Int) < 1) = false := rfl
  have d2 : decide (D < 1) = false := by simp only [decide_eq_false_iff_not]; omega
  have s0 : ∀ a b c : PV, sub none [a, b, c] 0 = a := fun _ _ _ => rfl
  have s1 : ∀ a b c : PV, sub none [a, b, c] 1 = b := fun _ _ _ => rfl
  have s2 : ∀ a b c : PV, sub none [a, b, c] 2 = c := fun _ _ _ => rfl
  have w1 : IntKind.i64.wrap (S + 1) = S + 1 := IntWalk.i64_in _ (by omega)
  have w2 : IntKind.i64.wrap (S + 1 - 1) = S := (IntWalk.i64_in _ (by omega)).trans (by omega)
  have w3 : IntKind.i64.wrap (S + -25567) = S - 25567 := (IntWalk.i64_in _ (by omega)).trans (by omega)
  repeat' (first | exact True.intro | (exact Or.inr ⟨rfl, by decide⟩) | (refine PW.seqK ?_; intro K hK) | refine stp ?_ | refine seqK_n ‹_› ?_ | refine seqK_r ‹_› ?_ | refine seqK_e ‹_› ?_ | exact schedW_stop_i | refine schK_n ‹_› ?_ | (refine PW.cond rfl ?_ ?_ <;> intro hcond <;> (try contradiction) <;> try simp only [DD] at hcond) | (refine gd_i ?_; intro hg; try simp only [hg]) | refine goCallG_W e38 (h38) ?_ ?_ ?_ ?_ ?_ | refine goCall_W e53 (h53) ?_ ?_ ?_ ?_ | (refine ari ?_; first | omega | (simp only [DD, LL] <;> omega) | (go_unwrap; omega)) | ((first | refine stq ?_ | show (_ : Post) _ _ _ | (refine schedW_alt_k ?_ ?_; intro K hK)); focus (simp only [PV.bin, PV.binOk, binI, s0, s1, s2, d1, d2, w1, w2, SA, Nat.reduceAdd, reduceIte, Nat.reduceEqDiff, Nat.reduceBEq, reduceCtorEq]; (try go_unwrap; try simp only [PV.bin, PV.binOk, binI, s0, s1, s2, d1, d2, w1, w2, RR, reduceCtorEq]))) | refine And.intro ?_ ?_ | exact Or.inr ⟨rfl, Nat.le_refl _⟩ | exact (fun h => Bool.noConfusion h))
  refine PW.loopG (σ := Unit) 1 (fun _ _ => rfl) [1, 4, 5] (fun _ => [.ref 0 0, .int .i64 S, .int .i64 1]) (fun _ => [some (.var (some 3) (.agg [.int .i64 y, .int .i64 1, .int .i64 1]))]) (fun _ => True) (fun _ => 0) () ?_ rfl trivial ?_
  · simp only [SA, Nat.reduceAdd, reduceIte, Nat.reduceEqDiff, Nat.reduceBEq, reduceCtorEq]; rfl
  rintro - -
  simp only [List.zip_cons_cons, List.zip_nil_left]
  repeat' (first | exact True.intro | (exact Or.inr ⟨rfl, by decide⟩) | (refine PW.seqK ?_; intro K hK) | refine stp ?_ | refine seqK_n ‹_› ?_ | refine seqK_r ‹_› ?_ | refine seqK_e ‹_› ?_ | exact schedW_stop_i | refine schK_n ‹_› ?_ | (refine PW.cond rfl ?_ ?_ <;> intro hcond <;> (try contradiction) <;> try simp only [DD] at hcond) | (refine gd_i ?_; intro hg; try simp only [hg]) | refine goCall_W e37 (h37) ?_ ?_ ?_ ?_ | (refine ari ?_; first | omega | (simp only [DD, LL] <;> omega) | (go_unwrap; omega)) | ((first | refine stq ?_ | show (_ : Post) _ _ _ | (refine schedW_alt_k ?_ ?_; intro K hK)); focus (simp only [PV.bin, PV.binOk, binI, s1, d1, w3, SA, Nat.reduceAdd, reduceIte, Nat.reduceEqDiff, Nat.reduceBEq, reduceCtorEq]; (try go_unwrap; try simp only [PV.bin, PV.binOk, binI, s1, d1, w3, RR, reduceCtorEq]))) | refine And.intro ?_ ?_ | exact Or.inr ⟨rfl, Nat.le_refl _⟩ | exact (fun h => Bool.noConfusion h))
end Go.Proofs.YtedjaohonijemaaDoor

namespace Go.Proofs.YtedjaohonijemaaDoor
open Go PG Go.Proofs
set_option linter.unusedSimpArgs false
set_option linter.unusedVariables false
set_option maxHeartbeats 4000000
set_option maxRecDepth 100000
variable {G : Globs}
/-! Calendars -/
def firstM (y : Int) : Int := startM y - 25567
theorem v20 (hG : G 1 = some (some 12, monTabP)) {y : Int} (hy : 1900 ≤ y ∧ y ≤ 2199) (h : toM (firstM y) = some (y, 1, 1)) : VCalls Tryd.prog G 20 [.int .i64 y] (.int .i64 (firstM y)) := by
  refine VCalls.of_PW Tryd.func20 k20 mix (by simp [c20]) ?_
  simp only [c20, L20, CC, argE]
  have h36 := v36 hG hy h
  unfold firstM
  have d1 : decide (2199 < y) = false := by simp only [decide_eq_false_iff_not]; omega
  have hb : [PV.int IntKind.i64 y, .int .i64 1, .int .i64 1] = [PV.int IntKind.i64 y, .int .i64 1, .int .i64 1] := rfl
  repeat' (first | exact True.intro | (refine PW.seqK ?_; intro K hK) | refine stp ?_ | refine seqK_n ‹_› ?_ | refine seqK_r ‹_› ?_ | refine seqK_e ‹_› ?_ | exact schedW_stop_i | refine schK_n ‹_› ?_ | (refine PW.cond rfl ?_ ?_ <;> intro hcond <;> (try contradiction) <;> try simp only [DD] at hcond) | (refine gd_i ?_; intro hg; try simp only [hg]) | refine goCall_W e36 (h36) ?_ ?_ ?_ ?_ | (refine ari ?_; first | omega | (simp only [DD, LL] <;> omega) | (go_unwrap; omega)) | ((first | refine stq ?_ | show (_ : Post) _ _ _ | (refine schedW_alt_k ?_ ?_; intro K hK)); focus (simp only [d1, SA, Nat.reduceAdd, reduceIte, Nat.reduceEqDiff, Nat.reduceBEq, reduceCtorEq]; (try go_unwrap; try simp only [d1, RR, reduceCtorEq]))) | refine And.intro ?_ ?_ | exact Or.inr ⟨rfl, Nat.le_refl _⟩ | exact (fun h => Bool.noConfusion h))
structure Cal where
  k : Int
  f : Int
  g : Int
def calP (c : Cal) : PV := .agg [.int .i64 c.k, .int .i64 c.f, .int .i64 c.g]
structure CalOk (c : Cal) : Prop where
  k : 0 ≤ c.k ∧ c.k ≤ 2
  f : 0 ≤ c.f ∧ c.f ≤ 65535
  g : 0 ≤ c.g ∧ c.g ≤ 60
def stepM (k : Int) : Int := perTab.getD k.toNat 0
def spanM (c : Cal) (d : Int) : Option Sp :=
  if c.k = 0 then match toM d with
    | some (y, m, t) => if (1900 ≤ y ∧ y ≤ 2199) ∧ (1 ≤ m ∧ m ≤ 12) ∧ (1 ≤ t ∧ t ≤ 31) then some (d - (t - 1), d - (t - 1) + mdM y m) else none
    | none => none
  else some (d - (d - c.f) % stepM c.k, d - (d - c.f) % stepM c.k + stepM c.k)
theorem tm_pos {x n : Int} (h : 0 < n) (h' : n ≤ 100) : (if x.tmod n < 0 then x.tmod n + n else x.tmod n) = x % n ∧ -100 ≤ x.tmod n ∧ x.tmod n ≤ 100 := by
  have e1 := Int.emod_nonneg x (by omega : n ≠ 0)
  have e2 := Int.emod_lt_of_pos x h
  have e3 := Int.tmod_def x n
  have e4 := Int.emod_def x n
  rcases Int.lt_or_le x 0 with hx | hx
  · have a1 : x.tmod n = -((-x) % n) := by
      have : x = -(-x) := by omega
      conv => lhs; rw [this]
      rw [Int.neg_tmod, Int.tmod_eq_emod_of_nonneg (by omega)]
    have a2 := Int.emod_nonneg (-x) (by omega : n ≠ 0)
    have a3 := Int.emod_lt_of_pos (-x) h
    have a4 : x % n = if (-x) % n = 0 then 0 else n - (-x) % n := by
      split
      · rename_i h0
        have : n ∣ x := by
          have := Int.dvd_of_emod_eq_zero h0
          exact Int.dvd_neg.1 this
        exact Int.emod_eq_zero_of_dvd this
      · rename_i h0
        have e5 := Int.emod_def (-x) n
        have : x = n - (-x) % n + n * (-((-x) / n) - 1) := by
          rw [Int.mul_sub, Int.mul_neg]; omega
        conv => lhs; rw [this]
        rw [Int.add_mul_emod_self_left, Int.emod_eq_of_lt (by omega) (by omega)]
    rw [a1, a4]
    split <;> split <;> omega
  · rw [Int.tmod_eq_emod_of_nonneg hx, if_neg (by omega)]; omega
theorem step_get {k : Int} (h1 : 0 ≤ k) (h2 : k ≤ 2) : (perTab.map (PV.int .i64)).getD (0 + k.toNat * 1) .junk = .int .i64 (stepM k) := by
  have : k = 0 ∨ k = 1 ∨ k = 2 := by omega
  rcases this with rfl | rfl | rfl <;> rfl
theorem step_in {k : Int} (h1 : 1 ≤ k) (h2 : k ≤ 2) : stepM k = 14 ∨ stepM k = 28 := by
  have : k = 1 ∨ k = 2 := by omega
  rcases this with rfl | rfl
  · exact .inl rfl
  · exact .inr rfl
theorem v21 (hG : G 1 = some (some 12, monTabP)) (hP : G 0 = some (some 3, perTabP)) {c : Cal} (hc : CalOk c) {d : Int} {s : Sp} (hd : -100000 ≤ d ∧ d ≤ 200000) (h : spanM c d = some s) : VCalls Tryd.prog G 21 [calP c, .int .i64 d] (spP s) := by
  refine VCalls.of_PW Tryd.func21 k21 mix (by simp [c21]) ?_
  simp only [c21, L21, CC, argE, calP, spP]
  obtain ⟨⟨k1, k2⟩, ⟨f1, f2⟩, g1, g2⟩ := hc
  have s0 : ∀ a b c : PV, sub none [a, b, c] 0 = a := fun _ _ _ => rfl
  have s1 : ∀ a b c : PV, sub none [a, b, c] 1 = b := fun _ _ _ => rfl
  have s2 : ∀ a b c : PV, sub none [a, b, c] 2 = c := fun _ _ _ => rfl
  unfold spanM at h
  by_cases hk : c.k = 0
  · rw [if_pos hk] at h
    have d1 : decide (c.k = 0) = true := decide_eq_true hk
    cases ht : toM d with
    | none => rw [ht] at h; cases h
    | some q =>
    obtain ⟨y, m, t⟩ := q
    rw [ht] at h
    simp only at h
    split at h
    case isFalse => cases h
    rename_i hh
    cases h
    obtain ⟨hy, hm, ht1, ht2⟩ := hh
    have h37 := v37 hG ht
    have h38 := v38 hG y m hy hm
    have hb := md_in (y := y) hm.1 hm.2
    generalize mdM y m = D at *
    repeat' (first | exact True.intro | (exact Or.inr ⟨rfl, by decide⟩) | (refine PW.seqK ?_; intro K hK) | refine stp ?_ | refine seqK_n ‹_› ?_ | refine seqK_r ‹_› ?_ | refine seqK_e ‹_› ?_ | exact schedW_stop_i | refine schK_n ‹_› ?_ | (refine PW.cond rfl ?_ ?_ <;> intro hcond <;> (try contradiction) <;> try simp only [DD] at hcond) | (refine gd_i ?_; intro hg; try simp only [hg]) | refine goCall_W e37 (h37) ?_ ?_ ?_ ?_ | refine goCall_W e38 (h38) ?_ ?_ ?_ ?_ | (refine ari ?_; first | omega | (simp only [DD, LL] <;> omega) | (go_unwrap; omega)) | ((first | refine stq ?_ | show (_ : Post) _ _ _ | (refine schedW_alt_k ?_ ?_; intro K hK)); focus (simp only [s0, s1, s2, d1, SA, Nat.reduceAdd, reduceIte, Nat.reduceEqDiff, Nat.reduceBEq, reduceCtorEq]; (try go_unwrap; try simp only [s0, s1, s2, d1, RR, reduceCtorEq]))) | refine And.intro ?_ ?_ | exact Or.inr ⟨rfl, Nat.le_refl _⟩ | exact (fun h => Bool.noConfusion h))
  · rw [if_neg hk] at h
    cases h
    have d1 : decide (c.k = 0) = false := decide_eq_false hk
    have hg := step_get k1 k2
    have hs := step_in (k := c.k) (by omega) k2
    have hi1 : 0 ≤ c.k ∧ c.k < ((3 : Nat) : Int) := by omega
    have hi2 : 0 + c.k.toNat * 1 ≤ 3 := by omega
    have hi3 : 0 + c.k.toNat * 1 + 1 ≤ (perTab.map (PV.int .i64)).length := by
      have : (perTab.map (PV.int .i64)).length = 3 := rfl
      omega
    obtain ⟨t1, t2, t3⟩ := tm_pos (x := d - c.f) (n := stepM c.k) (by omega) (by omega)
    have z1 : ¬ stepM c.k = 0 := by omega
    have w1 : IntKind.i64.wrap (d - c.f) = d - c.f := IntWalk.i64_in _ (by omega)
    have w2 : IntKind.i64.wrap ((d - c.f).tmod (stepM c.k)) = (d - c.f).tmod (stepM c.k) := IntWalk.i64_in _ (by omega)
    generalize (d - c.f) % stepM c.k = I at *
    generalize hT : (d - c.f).tmod (stepM c.k) = T at *
    generalize stepM c.k = n at *
    by_cases hT0 : T < 0
    · have d2 : decide (T < 0) = true := decide_eq_true hT0
      rw [if_pos hT0] at t1
      subst t1
      repeat' (first | exact True.intro | exact Or.inr True.intro | (exact Or.inr ⟨rfl, by decide⟩) | (refine PW.seqK ?_; intro K hK) | refine stp ?_ | refine seqK_n ‹_› ?_ | refine seqK_r ‹_› ?_ | refine seqK_e ‹_› ?_ | exact schedW_stop_i | refine schK_n ‹_› ?_ | (refine PW.cond rfl ?_ ?_ <;> intro hcond <;> (try contradiction) <;> try simp only [DD] at hcond) | (refine gd_i ?_; intro hg; try simp only [hg]) | (refine ari ?_; first | omega | (simp only [DD, LL] <;> omega) | (go_unwrap; omega)) | ((first | refine stq ?_ | show (_ : Post) _ _ _ | (refine schedW_alt_k ?_ ?_; intro K hK)); focus (simp only [PV.bin, PV.binOk, binI, s0, s1, s2, d1, d2, hP, evalO, perTabP, hg, hi1.1, hi1.2, hi2, hi3, z1, w1, w2, hT, SA, Nat.reduceAdd, reduceIte, Nat.reduceEqDiff, Nat.reduceBEq, reduceCtorEq]; (try go_unwrap; try simp only [PV.bin, PV.binOk, binI, s0, s1, s2, d1, d2, hP, evalO, perTabP, hg, hi1.1, hi1.2, hi2, hi3, z1, w1, w2, hT, RR, reduceCtorEq]))) | refine And.intro ?_ ?_ | exact Or.inr ⟨rfl, Nat.le_refl _⟩ | exact (fun h => Bool.noConfusion h))
    · have d2 : decide (T < 0) = false := decide_eq_false hT0
      rw [if_neg hT0] at t1
      subst t1
      repeat' (first | exact True.intro | exact Or.inr True.intro | (exact Or.inr ⟨rfl, by decide⟩) | (refine PW.seqK ?_; intro K hK) | refine stp ?_ | refine seqK_n ‹_› ?_ | refine seqK_r ‹_› ?_ | refine seqK_e ‹_› ?_ | exact schedW_stop_i | refine schK_n ‹_› ?_ | (refine PW.cond rfl ?_ ?_ <;> intro hcond <;> (try contradiction) <;> try simp only [DD] at hcond) | (refine gd_i ?_; intro hg; try simp only [hg]) | (refine ari ?_; first | omega | (simp only [DD, LL] <;> omega) | (go_unwrap; omega)) | ((first | refine stq ?_ | show (_ : Post) _ _ _ | (refine schedW_alt_k ?_ ?_; intro K hK)); focus (simp only [PV.bin, PV.binOk, binI, s0, s1, s2, d1, d2, hP, evalO, perTabP, hg, hi1.1, hi1.2, hi2, hi3, z1, w1, w2, hT, SA, Nat.reduceAdd, reduceIte, Nat.reduceEqDiff, Nat.reduceBEq, reduceCtorEq]; (try go_unwrap; try simp only [PV.bin, PV.binOk, binI, s0, s1, s2, d1, d2, hP, evalO, perTabP, hg, hi1.1, hi1.2, hi2, hi3, z1, w1, w2, hT, RR, reduceCtorEq]))) | refine And.intro ?_ ?_ | exact Or.inr ⟨rfl, Nat.le_refl _⟩ | exact (fun h => Bool.noConfusion h))
theorem v7 {c : Cal} (hc : CalOk c) : VCalls Tryd.prog G 7 [calP c] (.int .i64 0) := by
  refine VCalls.of_PW Tryd.func7 k7 mix (by simp [c7]) ?_
  simp only [c7, L7, CC, argE, calP]
  obtain ⟨⟨k1, k2⟩, ⟨f1, f2⟩, g1, g2⟩ := hc
  have s0 : ∀ a b c : PV, sub none [a, b, c] 0 = a := fun _ _ _ => rfl
  have s1 : ∀ a b c : PV, sub none [a, b, c] 1 = b := fun _ _ _ => rfl
  have s2 : ∀ a b c : PV, sub none [a, b, c] 2 = c := fun _ _ _ => rfl
  have h19 := v19 (G := G) c.f
  rw [decide_eq_true (by omega : -25567 ≤ c.f), decide_eq_true (by omega : c.f < 84006)] at h19
  have d1 : decide (c.k < 0) = false := by simp only [decide_eq_false_iff_not]; omega
  have d2 : decide (3 ≤ c.k) = false := by simp only [decide_eq_false_iff_not]; omega
  have d3 : decide (c.g < 0) = false := by simp only [decide_eq_false_iff_not]; omega
  have d4 : decide (60 < c.g) = false := by simp only [decide_eq_false_iff_not]; omega
  repeat' (first | exact True.intro | (exact Or.inr ⟨rfl, by decide⟩) | (refine PW.seqK ?_; intro K hK) | refine stp ?_ | refine seqK_n ‹_› ?_ | refine seqK_r ‹_› ?_ | refine seqK_e ‹_› ?_ | exact schedW_stop_i | refine schK_n ‹_› ?_ | (refine PW.cond rfl ?_ ?_ <;> intro hcond <;> (try contradiction) <;> try simp only [DD] at hcond) | (refine gd_i ?_; intro hg; try simp only [hg]) | refine goCall_W e19 (h19) ?_ ?_ ?_ ?_ | (refine ari ?_; first | omega | (simp only [DD, LL] <;> omega) | (go_unwrap; omega)) | ((first | refine stq ?_ | show (_ : Post) _ _ _ | (refine schedW_alt_k ?_ ?_; intro K hK)); focus (simp only [s0, s1, s2, d1, d2, d3, d4, Bool.and_true, SA, Nat.reduceAdd, reduceIte, Nat.reduceEqDiff, Nat.reduceBEq, reduceCtorEq]; (try go_unwrap; try simp only [s0, s1, s2, d1, d2, d3, d4, Bool.and_true, RR, reduceCtorEq]))) | refine And.intro ?_ ?_ | exact Or.inr ⟨rfl, Nat.le_refl _⟩ | exact (fun h => Bool.noConfusion h))
end Go.Proofs.YtedjaohonijemaaDoor

