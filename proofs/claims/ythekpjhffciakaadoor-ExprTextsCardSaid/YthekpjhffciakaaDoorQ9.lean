import Derived.Test.YthekpjhffciakaaDoorProg
import Derived.KernelRfl
import Derived.Handy
import Derived.Shelf.Strings.Search1
import Derived.Shelf.Strings.Count
import Derived.Test.YthekpjhffciakaaDoorQ7
import Derived.Test.YthekpjhffciakaaDoorQ8
import Derived.Test.YthekpjhffciakaaDoorP4
import Derived.Test.YthekpjhffciakaaDoorQ5
import Derived.Test.YthekpjhffciakaaDoorQ6
namespace Go.Proofs.YthekpjhffciakaaDoor
open Go PG Go.Proofs
set_option linter.unusedSimpArgs false
set_option linter.unusedVariables false
set_option maxHeartbeats 4000000
set_option maxRecDepth 100000
variable {G : Globs}
/-! The program's text of a number -/
theorem e56 : Ent Tryd.prog 56 := ⟨Tryd.f56, Tryd.func56, by kernel_rfl, by kernel_rfl⟩
theorem e57 : Ent Tryd.prog 57 := ⟨Tryd.f57, Tryd.func57, by kernel_rfl, by kernel_rfl⟩
theorem e86 : Ent Tryd.prog 86 := ⟨Tryd.f86, Tryd.func86, by kernel_rfl, by kernel_rfl⟩
def digT (n : Nat) : List UInt8 := if n ≤ 9 then [UInt8.ofNat (48 + n)] else digT (n / 10) ++ [UInt8.ofNat (48 + n % 10)]
termination_by n
decreasing_by omega
theorem chr_dig {d : Nat} (h : d ≤ 9) : (Utf8.encode (48 + (d : Int))).data.toList = [UInt8.ofNat (48 + d)] := by
  have : d = 0 ∨ d = 1 ∨ d = 2 ∨ d = 3 ∨ d = 4 ∨ d = 5 ∨ d = 6 ∨ d = 7 ∨ d = 8 ∨ d = 9 := by omega
  rcases this with rfl | rfl | rfl | rfl | rfl | rfl | rfl | rfl | rfl | rfl <;> decide
def strongM (op : Int) : Int := if op = 2 ∨ op = 3 then 1 else if op = 4 then 2 else 3
theorem v56 (op : Int) : VCalls Tryd.prog G 56 [.int .i64 op] (.int .i64 (strongM op)) := by
  refine VCalls.of_PW Tryd.func56 k56 mix (by simp [c56]) ?_
  simp only [c56, L56, CC, argE]
  unfold strongM
  by_cases h2 : op = 2
  · subst h2; repeat' (first | exact True.intro | (refine PW.seqK ?_; intro K hK) | refine stp ?_ | refine seqK_n ‹_› ?_ | refine seqK_r ‹_› ?_ | refine seqK_e ‹_› ?_ | exact schedW_stop_i | refine schK_n ‹_› ?_ | (refine PW.cond rfl ?_ ?_ <;> intro hcond <;> (try contradiction) <;> try simp only [DD] at hcond) | (refine gd_i ?_; intro hg; try simp only [hg]) | (refine ari ?_; first | omega | (simp only [DD, LL] <;> omega) | (go_unwrap; omega)) | ((first | refine stq ?_ | show (_ : Post) _ _ _ | (refine schedW_alt_k ?_ ?_; intro K hK)); focus (simp only [SA, Nat.reduceAdd, reduceIte, Nat.reduceEqDiff, Nat.reduceBEq, reduceCtorEq]; (try go_unwrap; try simp only [RR, reduceCtorEq]))) | refine And.intro ?_ ?_ | exact Or.inr ⟨rfl, Nat.le_refl _⟩ | exact (fun h => Bool.noConfusion h))
    all_goals simp
  by_cases h3 : op = 3
  · subst h3; repeat' (first | exact True.intro | (refine PW.seqK ?_; intro K hK) | refine stp ?_ | refine seqK_n ‹_› ?_ | refine seqK_r ‹_› ?_ | refine seqK_e ‹_› ?_ | exact schedW_stop_i | refine schK_n ‹_› ?_ | (refine PW.cond rfl ?_ ?_ <;> intro hcond <;> (try contradiction) <;> try simp only [DD] at hcond) | (refine gd_i ?_; intro hg; try simp only [hg]) | (refine ari ?_; first | omega | (simp only [DD, LL] <;> omega) | (go_unwrap; omega)) | ((first | refine stq ?_ | show (_ : Post) _ _ _ | (refine schedW_alt_k ?_ ?_; intro K hK)); focus (simp only [SA, Nat.reduceAdd, reduceIte, Nat.reduceEqDiff, Nat.reduceBEq, reduceCtorEq]; (try go_unwrap; try simp only [RR, reduceCtorEq]))) | refine And.intro ?_ ?_ | exact Or.inr ⟨rfl, Nat.le_refl _⟩ | exact (fun h => Bool.noConfusion h))
    all_goals simp
  by_cases h4 : op = 4
  · subst h4; repeat' (first | exact True.intro | (refine PW.seqK ?_; intro K hK) | refine stp ?_ | refine seqK_n ‹_› ?_ | refine seqK_r ‹_› ?_ | refine seqK_e ‹_› ?_ | exact schedW_stop_i | refine schK_n ‹_› ?_ | (refine PW.cond rfl ?_ ?_ <;> intro hcond <;> (try contradiction) <;> try simp only [DD] at hcond) | (refine gd_i ?_; intro hg; try simp only [hg]) | (refine ari ?_; first | omega | (simp only [DD, LL] <;> omega) | (go_unwrap; omega)) | ((first | refine stq ?_ | show (_ : Post) _ _ _ | (refine schedW_alt_k ?_ ?_; intro K hK)); focus (simp only [SA, Nat.reduceAdd, reduceIte, Nat.reduceEqDiff, Nat.reduceBEq, reduceCtorEq]; (try go_unwrap; try simp only [RR, reduceCtorEq]))) | refine And.intro ?_ ?_ | exact Or.inr ⟨rfl, Nat.le_refl _⟩ | exact (fun h => Bool.noConfusion h))
    all_goals simp
  repeat' (first | exact True.intro | (refine PW.seqK ?_; intro K hK) | refine stp ?_ | refine seqK_n ‹_› ?_ | refine seqK_r ‹_› ?_ | refine seqK_e ‹_› ?_ | exact schedW_stop_i | refine schK_n ‹_› ?_ | (refine PW.cond rfl ?_ ?_ <;> intro hcond <;> (try contradiction) <;> try simp only [DD] at hcond) | (refine gd_i ?_; intro hg; try simp only [hg]) | (refine ari ?_; first | omega | (simp only [DD, LL] <;> omega) | (go_unwrap; omega)) | ((first | refine stq ?_ | show (_ : Post) _ _ _ | (refine schedW_alt_k ?_ ?_; intro K hK)); focus (simp only [decide_eq_false h2, decide_eq_false h3, decide_eq_false h4, SA, Nat.reduceAdd, reduceIte, Nat.reduceEqDiff, Nat.reduceBEq, reduceCtorEq]; (try go_unwrap; try simp only [decide_eq_false h2, decide_eq_false h3, decide_eq_false h4, RR, reduceCtorEq]))) | refine And.intro ?_ ?_ | exact Or.inr ⟨rfl, Nat.le_refl _⟩ | exact (fun h => Bool.noConfusion h))
  all_goals simp [h2, h3, h4]
theorem v86 (n : Nat) (hn : n ≤ 2000000000000000000) : VCalls Tryd.prog G 86 [.int .i64 n] (.str (digT n)) := by
  refine VCalls.of_PW Tryd.func86 k86 mix (by simp [c86]) ?_
  simp only [c86, L86, CC, argE]
  repeat' (first | exact True.intro | (refine PW.seqK ?_; intro K hK) | refine stp ?_ | refine seqK_n ‹_› ?_ | refine seqK_r ‹_› ?_ | refine seqK_e ‹_› ?_ | exact schedW_stop_i | refine schK_n ‹_› ?_ | (refine PW.cond rfl ?_ ?_ <;> intro hcond <;> (try contradiction) <;> try simp only [DD] at hcond) | (refine gd_i ?_; intro hg; try simp only [hg]) | (refine ari ?_; first | omega | (simp only [DD, LL] <;> omega) | (go_unwrap; omega)) | ((first | refine stq ?_ | show (_ : Post) _ _ _ | (refine schedW_alt_k ?_ ?_; intro K hK)); focus (simp only [SA, Nat.reduceAdd, reduceIte, Nat.reduceEqDiff, Nat.reduceBEq, reduceCtorEq]; (try go_unwrap; try simp only [RR, reduceCtorEq]))) | refine And.intro ?_ ?_ | exact Or.inr ⟨rfl, Nat.le_refl _⟩ | exact (fun h => Bool.noConfusion h))
  refine PW.loop (σ := Nat × List UInt8) [0, 3] (fun q => [.int .i64 q.1, .str q.2]) (fun _ => []) (fun q => q.1 + q.2.length ≤ n ∧ digT n = digT q.1 ++ q.2) (fun q => q.1) (n, []) ?_ rfl ⟨by simp, by simp⟩ ?_
  · simp only [SA, Nat.reduceAdd, reduceIte, Nat.reduceEqDiff, Nat.reduceBEq, reduceCtorEq]; rfl
  rintro ⟨m, s⟩ ⟨hm, hd⟩
  simp only at hm hd
  simp only [List.zip_cons_cons, List.zip_nil_left]
  rcases Nat.lt_or_ge 9 m with h | h
  · have d1 : decide ((9 : Int) < m) = true := by simp only [decide_eq_true_eq]; omega
    have q1 : (m : Int).tmod 10 = ((m % 10 : Nat) : Int) := by rw [Int.tmod_eq_emod_of_nonneg (by omega)]; simp
    have q2 : (m : Int).tdiv 10 = ((m / 10 : Nat) : Int) := by rw [Int.tdiv_eq_ediv_of_nonneg (by omega)]; simp
    have hln : ([UInt8.ofNat (48 + m % 10)].length + s.length ≤ 9223372036854775807) := by simp; omega
    have w1 : IntKind.i32.wrap (48 + ((m % 10 : Nat) : Int)) = 48 + ((m % 10 : Nat) : Int) := IntWalk.i32_in _ (by omega)
    have w2 : IntKind.i64.wrap (48 + ((m % 10 : Nat) : Int)) = 48 + ((m % 10 : Nat) : Int) := IntWalk.i64_in _ (by omega)
    have w3 : IntKind.i64.wrap ((m % 10 : Nat) : Int) = ((m % 10 : Nat) : Int) := IntWalk.i64_in _ (by omega)
    have w4 : IntKind.i64.wrap ((m / 10 : Nat) : Int) = ((m / 10 : Nat) : Int) := IntWalk.i64_in _ (by omega)
    have hu : digT m = digT (m / 10) ++ [UInt8.ofNat (48 + m % 10)] := by rw [digT]; rw [if_neg (by omega)]
    rw [hu, List.append_assoc] at hd
    repeat' (first | exact True.intro | exact hln | (refine PW.seqK ?_; intro K hK) | refine stp ?_ | refine seqK_n ‹_› ?_ | refine seqK_r ‹_› ?_ | refine seqK_e ‹_› ?_ | exact schedW_stop_i | refine schK_n ‹_› ?_ | (refine PW.cond rfl ?_ ?_ <;> intro hcond <;> (try contradiction) <;> try simp only [DD] at hcond) | (refine gd_i ?_; intro hg; try simp only [hg]) | (refine ari ?_; first | omega | (simp only [DD, LL] <;> omega) | (go_unwrap; omega)) | ((first | refine stq ?_ | show (_ : Post) _ _ _ | (refine schedW_alt_k ?_ ?_; intro K hK)); focus (simp only [PV.bin, PV.binOk, binI, d1, q1, q2, w1, w2, w3, w4, chr_dig (show m % 10 ≤ 9 by omega), SA, Nat.reduceAdd, reduceIte, Nat.reduceEqDiff, Nat.reduceBEq, reduceCtorEq]; (try go_unwrap; try simp only [PV.bin, PV.binOk, binI, d1, q1, q2, w1, w2, w3, w4, chr_dig (show m % 10 ≤ 9 by omega), RR, reduceCtorEq]))) | refine And.intro ?_ ?_ | exact Or.inr ⟨rfl, Nat.le_refl _⟩ | exact (fun h => Bool.noConfusion h))
    all_goals exact ⟨(m / 10, [UInt8.ofNat (48 + m % 10)] ++ s), rfl, ⟨by simp; omega, hd⟩, by simp only; omega⟩
  · have d1 : decide ((9 : Int) < m) = false := by simp only [decide_eq_false_iff_not]; omega
    have hln : ([UInt8.ofNat (48 + m)].length + s.length ≤ 9223372036854775807) := by simp; omega
    have w1 : IntKind.i32.wrap (48 + (m : Int)) = 48 + (m : Int) := IntWalk.i32_in _ (by omega)
    have w2 : IntKind.i64.wrap (48 + (m : Int)) = 48 + (m : Int) := IntWalk.i64_in _ (by omega)
    have hu : digT m = [UInt8.ofNat (48 + m)] := by rw [digT]; rw [if_pos h]
    rw [hu] at hd
    repeat' (first | exact True.intro | exact hln | (refine PW.seqK ?_; intro K hK) | refine stp ?_ | refine seqK_n ‹_› ?_ | refine seqK_r ‹_› ?_ | refine seqK_e ‹_› ?_ | exact schedW_stop_i | refine schK_n ‹_› ?_ | (refine PW.cond rfl ?_ ?_ <;> intro hcond <;> (try contradiction) <;> try simp only [DD] at hcond) | (refine gd_i ?_; intro hg; try simp only [hg]) | (refine ari ?_; first | omega | (simp only [DD, LL] <;> omega) | (go_unwrap; omega)) | ((first | refine stq ?_ | show (_ : Post) _ _ _ | (refine schedW_alt_k ?_ ?_; intro K hK)); focus (simp only [PV.bin, PV.binOk, binI, d1, w1, w2, chr_dig h, SA, Nat.reduceAdd, reduceIte, Nat.reduceEqDiff, Nat.reduceBEq, reduceCtorEq]; (try go_unwrap; try simp only [PV.bin, PV.binOk, binI, d1, w1, w2, chr_dig h, RR, reduceCtorEq]))) | refine And.intro ?_ ?_ | exact Or.inr ⟨rfl, Nat.le_refl _⟩ | exact (fun h => Bool.noConfusion h))
    all_goals rw [hd]
end Go.Proofs.YthekpjhffciakaaDoor

namespace Go.Proofs.YthekpjhffciakaaDoor
open Go PG Go.Proofs
set_option linter.unusedSimpArgs false
set_option linter.unusedVariables false
set_option maxHeartbeats 4000000
set_option maxRecDepth 100000
variable {G : Globs}
def stripZ (l : List UInt8) : List UInt8 := (l.reverse.dropWhile (fun b => b == 48)).reverse
theorem stripZ_snoc (l : List UInt8) (b : UInt8) : stripZ (l ++ [b]) = if b = 48 then stripZ l else l ++ [b] := by
  unfold stripZ
  rw [List.reverse_append]
  by_cases h : b = 48
  · subst h; simp
  · rw [if_neg h]; simp [h]
def numT (n : Nat) : List UInt8 := if n % 1000000 / 100 = 0 then digT (n / 1000000) else (digT (n / 1000000) ++ [46]) ++ stripZ ((digT (10000 + n % 1000000 / 100)).drop 1)
theorem digT_len : ∀ (k n : Nat), n < 10 ^ (k + 1) → (digT n).length ≤ k + 1
  | 0, n, h => by rw [digT, if_pos (by omega)]; simp
  | k + 1, n, h => by
    rw [digT]
    split
    · simp
    · have := digT_len k (n / 10) (by rw [Nat.pow_succ] at h; omega)
      simp; omega
theorem dig5 (r : Nat) (h : r ≤ 9999) : digT (10000 + r) = [UInt8.ofNat (48 + 1), UInt8.ofNat (48 + r / 1000), UInt8.ofNat (48 + r / 100 % 10), UInt8.ofNat (48 + r / 10 % 10), UInt8.ofNat (48 + r % 10)] := by
  rw [digT, if_neg (by omega), digT, if_neg (by omega), digT, if_neg (by omega), digT, if_neg (by omega), digT, if_pos (by omega)]
  have e1 : (10000 + r) / 10 / 10 / 10 / 10 = 1 := by omega
  have e2 : (10000 + r) / 10 / 10 / 10 % 10 = r / 1000 := by omega
  have e3 : (10000 + r) / 10 / 10 % 10 = r / 100 % 10 := by omega
  have e4 : (10000 + r) / 10 % 10 = r / 10 % 10 := by omega
  have e5 : (10000 + r) % 10 = r % 10 := by omega
  rw [e1, e2, e3, e4, e5]
  rfl
theorem ofNat48 {d : Nat} (h : d ≤ 9) : (UInt8.ofNat (48 + d)).toNat = 48 + d := by
  simp [UInt8.toNat_ofNat]; omega
theorem v57 (n : Nat) (hn : n ≤ 1000000000000000000) : VCalls Tryd.prog G 57 [.int .i64 n] (.str (numT n)) := by
  refine VCalls.of_PW Tryd.func57 k57 mix (by simp [c57]) ?_
  simp only [c57, L57, CC, argE]
  have q1 : (n : Int).tdiv 1000000 = ((n / 1000000 : Nat) : Int) := by rw [Int.tdiv_eq_ediv_of_nonneg (by omega)]; simp
  have q2 : (n : Int).tmod 1000000 = ((n % 1000000 : Nat) : Int) := by rw [Int.tmod_eq_emod_of_nonneg (by omega)]; simp
  have q3 : ((n % 1000000 : Nat) : Int).tdiv 100 = ((n % 1000000 / 100 : Nat) : Int) := by rw [Int.tdiv_eq_ediv_of_nonneg (by omega)]; simp
  have h1 := v86 (G := G) (n / 1000000) (by omega)
  have h2 := v86 (G := G) (10000 + n % 1000000 / 100) (by omega)
  have hl1 := digT_len 18 (n / 1000000) (by have : (10 : Nat) ^ 19 = 10000000000000000000 := rfl; omega)
  have hr : n % 1000000 / 100 ≤ 9999 := by omega
  have h5 := dig5 _ hr
  unfold numT
  generalize n % 1000000 / 100 = r at *
  have w1 : IntKind.i64.wrap ((n / 1000000 : Nat) : Int) = ((n / 1000000 : Nat) : Int) := IntWalk.i64_in _ (by omega)
  have w2 : IntKind.i64.wrap ((n % 1000000 : Nat) : Int) = ((n % 1000000 : Nat) : Int) := IntWalk.i64_in _ (by omega)
  have w3 : IntKind.i64.wrap (r : Int) = (r : Int) := IntWalk.i64_in _ (by omega)
  have w4 : IntKind.i64.wrap (10000 + (r : Int)) = ((10000 + r : Nat) : Int) := by rw [IntWalk.i64_in _ (by omega)]; simp
  generalize digT (n / 1000000) = S at *
  by_cases hz : r = 0
  · have d1 : decide ((r : Int) = 0) = true := by simp only [decide_eq_true_eq]; omega
    repeat' (first | exact True.intro | (refine PW.seqK ?_; intro K hK) | refine stp ?_ | refine seqK_n ‹_› ?_ | refine seqK_r ‹_› ?_ | refine seqK_e ‹_› ?_ | exact schedW_stop_i | refine schK_n ‹_› ?_ | (refine PW.cond rfl ?_ ?_ <;> intro hcond <;> (try contradiction) <;> try simp only [DD] at hcond) | (refine gd_i ?_; intro hg; try simp only [hg]) | refine goCall_W e86 (h1) ?_ ?_ ?_ ?_ | (refine ari ?_; first | omega | (simp only [DD, LL] <;> omega) | (go_unwrap; omega)) | ((first | refine stq ?_ | show (_ : Post) _ _ _ | (refine schedW_alt_k ?_ ?_; intro K hK)); focus (simp only [PV.bin, PV.binOk, binI, q1, q2, q3, w1, w2, w3, d1, SA, Nat.reduceAdd, reduceIte, Nat.reduceEqDiff, Nat.reduceBEq, reduceCtorEq]; (try go_unwrap; try simp only [PV.bin, PV.binOk, binI, q1, q2, q3, w1, w2, w3, d1, RR, reduceCtorEq]))) | refine And.intro ?_ ?_ | exact Or.inr ⟨rfl, Nat.le_refl _⟩ | exact (fun h => Bool.noConfusion h))
    all_goals rw [if_pos hz]
  · have d1 : decide ((r : Int) = 0) = false := by simp only [decide_eq_false_iff_not]; omega
    rw [if_neg hz]
    have hL : ((digT (10000 + r)).length : Nat) = 5 := by rw [h5]; rfl
    have hNZ : ∃ c ∈ (digT (10000 + r)).drop (Int.toNat 1), c ≠ 48 := by
      rw [h5]
      have key : ∀ d, d ≤ 9 → d ≠ 0 → UInt8.ofNat (48 + d) ≠ 48 := fun d hd hd0 e => by
        have := congrArg UInt8.toNat e
        rw [ofNat48 hd] at this
        have : (48 : UInt8).toNat = 48 := rfl
        omega
      by_cases c1 : r / 1000 = 0
      · by_cases c2 : r / 100 % 10 = 0
        · by_cases c3 : r / 10 % 10 = 0
          · exact ⟨_, by simp, key (r % 10) (by omega) (by omega)⟩
          · exact ⟨_, by simp, key (r / 10 % 10) (by omega) c3⟩
        · exact ⟨_, by simp, key (r / 100 % 10) (by omega) c2⟩
      · exact ⟨_, by simp, key (r / 1000) (by omega) c1⟩
    have hdr : (digT (10000 + r)).drop 1 = (digT (10000 + r)).drop (Int.toNat 1) := rfl
    rw [hdr]
    have hdl : ((digT (10000 + r)).drop (Int.toNat 1)).length ≤ 4 := by rw [List.length_drop, hL]; decide
    clear h5 hdr
    repeat' (first | exact True.intro | (refine PW.seqK ?_; intro K hK) | refine stp ?_ | refine seqK_n ‹_› ?_ | refine seqK_r ‹_› ?_ | refine seqK_e ‹_› ?_ | exact schedW_stop_i | refine schK_n ‹_› ?_ | (refine PW.cond rfl ?_ ?_ <;> intro hcond <;> (try contradiction) <;> try simp only [DD] at hcond) | (apply goCall_V e86; (case hV => (simp only [PV.bin, PV.binOk, binI, q1, q2, q3, w1, w2, w3, w4, d1, hL, SA, Nat.reduceAdd, reduceIte, Nat.reduceEqDiff, Nat.reduceBEq, reduceCtorEq]; (try go_unwrap; try simp only [PV.bin, PV.binOk, binI, q1, q2, q3, w1, w2, w3, w4, d1, hL, RR, reduceCtorEq]); exact h1)); (try (case hs => rfl)); (try (case hf => first | exact Or.inl rfl | exact Or.inr ⟨rfl, rfl⟩ | (refine Or.inl ?_; simp only [PV.bin, PV.binOk, binI, q1, q2, q3, w1, w2, w3, w4, d1, hL, SA, Nat.reduceAdd, reduceIte, Nat.reduceEqDiff, Nat.reduceBEq, reduceCtorEq]; done) | (refine Or.inr ⟨rfl, ?_⟩; simp only [PV.bin, PV.binOk, binI, q1, q2, q3, w1, w2, w3, w4, d1, hL, SA, Nat.reduceAdd, reduceIte, Nat.reduceEqDiff, Nat.reduceBEq, reduceCtorEq]; done))); all_goals (first | (simp only [PV.bin, PV.binOk, binI, q1, q2, q3, w1, w2, w3, w4, d1, hL, SA, Nat.reduceAdd, reduceIte, Nat.reduceEqDiff, Nat.reduceBEq, reduceCtorEq]; (try go_unwrap; try simp only [PV.bin, PV.binOk, binI, q1, q2, q3, w1, w2, w3, w4, d1, hL, RR, reduceCtorEq])) | (show Env; skip) | (show Mem; skip))) | (apply goCall_V e86; (case hV => (simp only [PV.bin, PV.binOk, binI, q1, q2, q3, w1, w2, w3, w4, d1, hL, SA, Nat.reduceAdd, reduceIte, Nat.reduceEqDiff, Nat.reduceBEq, reduceCtorEq]; (try go_unwrap; try simp only [PV.bin, PV.binOk, binI, q1, q2, q3, w1, w2, w3, w4, d1, hL, RR, reduceCtorEq]); exact h2)); (try (case hs => rfl)); (try (case hf => first | exact Or.inl rfl | exact Or.inr ⟨rfl, rfl⟩ | (refine Or.inl ?_; simp only [PV.bin, PV.binOk, binI, q1, q2, q3, w1, w2, w3, w4, d1, hL, SA, Nat.reduceAdd, reduceIte, Nat.reduceEqDiff, Nat.reduceBEq, reduceCtorEq]; done) | (refine Or.inr ⟨rfl, ?_⟩; simp only [PV.bin, PV.binOk, binI, q1, q2, q3, w1, w2, w3, w4, d1, hL, SA, Nat.reduceAdd, reduceIte, Nat.reduceEqDiff, Nat.reduceBEq, reduceCtorEq]; done))); all_goals (first | (simp only [PV.bin, PV.binOk, binI, q1, q2, q3, w1, w2, w3, w4, d1, hL, SA, Nat.reduceAdd, reduceIte, Nat.reduceEqDiff, Nat.reduceBEq, reduceCtorEq]; (try go_unwrap; try simp only [PV.bin, PV.binOk, binI, q1, q2, q3, w1, w2, w3, w4, d1, hL, RR, reduceCtorEq])) | (show Env; skip) | (show Mem; skip))) | (refine gd_i ?_; intro hg; try simp only [hg]) | (refine ari ?_; first | omega | (simp only [DD, LL] <;> omega) | (go_unwrap; omega)) | ((first | refine stq ?_ | show (_ : Post) _ _ _ | (refine schedW_alt_k ?_ ?_; intro K hK)); focus (simp only [PV.bin, PV.binOk, binI, q1, q2, q3, w1, w2, w3, w4, d1, hL, SA, Nat.reduceAdd, reduceIte, Nat.reduceEqDiff, Nat.reduceBEq, reduceCtorEq]; (try go_unwrap; try simp only [PV.bin, PV.binOk, binI, q1, q2, q3, w1, w2, w3, w4, d1, hL, RR, reduceCtorEq]))) | refine And.intro ?_ ?_ | exact Or.inr ⟨rfl, Nat.le_refl _⟩ | exact (fun h => Bool.noConfusion h))
    generalize (digT (10000 + r)).drop (Int.toNat 1) = b0 at *
    refine PW.loop (σ := List UInt8) [3, 5] (fun b => [.str S, .str b]) (fun _ => []) (fun b => stripZ b0 = stripZ b ∧ (∃ c ∈ b, c ≠ 48) ∧ b.length ≤ 4) (fun b => b.length) b0 ?_ rfl ⟨rfl, hNZ, hdl⟩ ?_
    · simp only [SA, Nat.reduceAdd, reduceIte, Nat.reduceEqDiff, Nat.reduceBEq, reduceCtorEq]; rfl
    rintro b ⟨hb1, hb2, hb3⟩
    simp only [List.zip_cons_cons, List.zip_nil_left]
    rcases List.eq_nil_or_concat b with rfl | ⟨b', c, rfl⟩
    · obtain ⟨c, hc, -⟩ := hb2; simp at hc
    rw [List.concat_eq_append] at *
    have hlen : ((b' ++ [c]).length : Nat) = b'.length + 1 := by simp
    have hg : (b' ++ [c]).getD b'.length 0 = c := by simp [List.getD]
    have hti : (((b'.length + 1 : Nat) : Int) - 1).toNat = b'.length := by omega
    have htk : (b' ++ [c]).take b'.length = b' := by simp
    rw [stripZ_snoc] at hb1
    by_cases h48 : c = 48
    · subst h48
      rw [if_pos rfl] at hb1
      have d2 : decide (((48 : UInt8).toNat : Int) = 48) = true := rfl
      repeat' (first | exact True.intro | (refine PW.seqK ?_; intro K hK) | refine stp ?_ | refine seqK_n ‹_› ?_ | refine seqK_r ‹_› ?_ | refine seqK_e ‹_› ?_ | exact schedW_stop_i | refine schK_n ‹_› ?_ | (refine PW.cond rfl ?_ ?_ <;> intro hcond <;> (try contradiction) <;> try simp only [DD] at hcond) | (refine gd_i ?_; intro hg; try simp only [hg]) | (refine ari ?_; first | omega | (simp only [DD, LL] <;> omega) | (go_unwrap; omega)) | ((first | refine stq ?_ | show (_ : Post) _ _ _ | (refine schedW_alt_k ?_ ?_; intro K hK)); focus (simp only [PV.bin, PV.binOk, binI, hlen, hti, hg, htk, d2, SA, Nat.reduceAdd, reduceIte, Nat.reduceEqDiff, Nat.reduceBEq, reduceCtorEq]; (try go_unwrap; try simp only [PV.bin, PV.binOk, binI, hlen, hti, hg, htk, d2, RR, reduceCtorEq]))) | refine And.intro ?_ ?_ | exact Or.inr ⟨rfl, Nat.le_refl _⟩ | exact (fun h => Bool.noConfusion h))
      all_goals first | exact ⟨b', rfl, ⟨hb1, by
        obtain ⟨x, hx, hx2⟩ := hb2
        rcases List.mem_append.1 hx with hx | hx
        · exact ⟨x, hx, hx2⟩
        · simp at hx; exact absurd hx hx2, by simp at hb3; omega⟩, by simp⟩ | omega
    · rw [if_neg h48] at hb1
      have d2 : decide ((c.toNat : Int) = 48) = false := by
        rw [decide_eq_false_iff_not]; exact fun h => h48 (UInt8.toNat_inj.1 (Int.ofNat.inj h))
      have hl2 : (b' ++ [c]).length ≤ 4 := hb3
      repeat' (first | exact True.intro | (refine PW.seqK ?_; intro K hK) | refine stp ?_ | refine seqK_n ‹_› ?_ | refine seqK_r ‹_› ?_ | refine seqK_e ‹_› ?_ | exact schedW_stop_i | refine schK_n ‹_› ?_ | (refine PW.cond rfl ?_ ?_ <;> intro hcond <;> (try contradiction) <;> try simp only [DD] at hcond) | (refine gd_i ?_; intro hg; try simp only [hg]) | (refine ari ?_; first | omega | (simp only [DD, LL] <;> omega) | (go_unwrap; omega)) | ((first | refine stq ?_ | show (_ : Post) _ _ _ | (refine schedW_alt_k ?_ ?_; intro K hK)); focus (simp only [PV.bin, PV.binOk, binI, hlen, hti, hg, htk, d2, SA, Nat.reduceAdd, reduceIte, Nat.reduceEqDiff, Nat.reduceBEq, reduceCtorEq]; (try go_unwrap; try simp only [PV.bin, PV.binOk, binI, hlen, hti, hg, htk, d2, RR, reduceCtorEq]))) | refine And.intro ?_ ?_ | exact Or.inr ⟨rfl, Nat.le_refl _⟩ | exact (fun h => Bool.noConfusion h))
      all_goals first | (rw [hb1]; done) | (simp at hb3 ⊢; omega)
end Go.Proofs.YthekpjhffciakaaDoor

namespace Go.Proofs.YthekpjhffciakaaDoor
open PG Go.Proofs
-- (wagebook/expr.Tree).Text$1
def L55d : List Nat := [0, 1, 2, 3, 6, 7, 8, 9, 10, 11, 24, 31, 37, 43, 44, 45, 46, 51, 82]
def c55d : CF := ⟨87,
  .seq (.region false [⟨some 6, none, .rd .mov [.pv (.str [])]⟩] L55d)
  (.seq (.region false [oF 0 12 2,
     oL 13 12,
     oM 14 0,
     ⟨some 15, none, .rd (.idxAddr (some 4)) [.tmp 13, .tmp 14]⟩,
     ⟨some 16, none, .rd (.load (some 4)) [.tmp 15]⟩,
     ⟨some 7, none, .eff (.alloc (some 4) (.agg [(.int .i64 0), (.int .i64 0), (.str []), .nilSl])) []⟩,
     ⟨none, none, .eff (.store (some 4)) [.tmp 7, .tmp 16]⟩] L55d)
  (.seq (.region false [oF 0 17 7,
     oL 18 17,
     ⟨some 19, none, .call (.pv (.fn 56 [] [])) [.tmp 18]⟩,
     oM 8 19] L55d)
  (.seq (.region false [oF 0 20 7,
     oL 21 20,
     ⟨some 22, none, .rd (.idxAddrA 10 none) [.glob 0, .tmp 21]⟩,
     oL 23 22,
     oM 9 23] L55d)
  (.seq (.block 0
    (.seq (.region false [oF 0 25 7,
        oL 26 25,
        ⟨some 27, none, .rd (.bin .eql) [.tmp 26, .pv (.int .i64 0)]⟩,
        oM 24 27] L55d)
     (.cond (.tmp 24)
      (.seq (.region false [oF 1 28 7,
          oL 29 28,
          ⟨some 30, none, .call (.pv (.fn 57 [] [])) [.tmp 29]⟩,
          oM 6 30] L55d)
       (.ret))
      (.seq (.region false [oF 0 32 7,
          oL 33 32,
          ⟨some 34, none, .rd (.bin .eql) [.tmp 33, .pv (.int .i64 1)]⟩,
          oM 31 34] L55d)
       (.cond (.tmp 31)
        (.seq (.region false [oF 2 35 7,
            oL 36 35,
            oM 6 36] L55d)
         (.ret))
        (.seq (.region false [oM 38 8,
            ⟨some 39, none, .rd (.bin .eql) [.tmp 38, .pv (.int .i64 3)]⟩,
            oM 37 39] L55d)
         (.cond (.tmp 37)
          (.seq (.region false [oM 40 9,
              ⟨some 41, none, .rd (.bin .add) [.tmp 40, .pv (.str [40])]⟩,
              oM 9 41] L55d)
           (.seq (.seq (.region false [oF 3 42 7,
               oL 43 42,
               ⟨some 44, none, .rd .lenL [.tmp 43]⟩,
               ⟨some 45, none, .rd .mov [.pv (.int .i64 0)]⟩] L55d)
            (.block 1
             (.loop
               (.seq (.region false [⟨some 46, none, .rd (.bin .lss) [.tmp 45, .tmp 44]⟩] L55d)
                (.seq (.cond (.tmp 46)
                  (.skip)
                  (.exit 1))
                (.seq (.block 2
                  (.seq (.region false [oM 47 45,
                      ⟨some 48, none, .rd (.idxAddr none) [.tmp 43, .tmp 45]⟩,
                      oL 49 48,
                      oM 10 47,
                      oM 11 49] L55d)
                   (.seq (.seq (.region false [oM 50 10,
                       ⟨some 51, none, .rd (.bin .gtr) [.tmp 50, .pv (.int .i64 0)]⟩] L55d)
                    (.cond (.tmp 51)
                     (.region false [oM 52 9,
                        ⟨some 53, none, .rd (.bin .add) [.tmp 52, .pv (.str [44])]⟩,
                        oM 9 53] L55d)
                     (.skip)))
                   (.region false [oM 54 9,
                     oL 55 3,
                     oM 56 11,
                     ⟨some 57, none, .call (.tmp 55) [.tmp 56, .pv (.int .i64 0)]⟩,
                     ⟨some 58, none, .rd (.bin .add) [.tmp 54, .tmp 57]⟩,
                     oM 9 58] L55d))))
                (.region false [⟨some 59, none, .rd (.bin .add) [.tmp 45, .pv (.int .i64 1)]⟩,
                  oM 45 59] L55d)))))))
           (.seq (.region false [oM 60 9,
              ⟨some 61, none, .rd (.bin .add) [.tmp 60, .pv (.str [41])]⟩,
              oM 6 61] L55d)
           (.ret))))
          (.skip))))))))
  (.seq (.regionA (.alt [oF 3 63 7,
      ⟨some 64, none, .rd .loadC [.tmp 63]⟩,
      ⟨some 65, none, .rd (.idxAddr none) [.tmp 64, .pv (.int .i64 0)]⟩,
      ⟨some 66, none, .rd .loadC [.tmp 65]⟩,
      oM 67 8,
      oM 69 9,
      oF 3 72 7,
      ⟨some 73, none, .rd .loadC [.tmp 72]⟩,
      ⟨some 74, none, .rd (.idxAddr none) [.tmp 73, .pv (.int .i64 1)]⟩,
      ⟨some 75, none, .rd .loadC [.tmp 74]⟩,
      oM 76 8,
      ⟨some 77, none, .rd (.bin .add) [.tmp 76, .pv (.int .i64 1)]⟩]
     (.alt [oL 62 3]
      (.alt [⟨some 68, none, .call (.tmp 62) [.tmp 66, .tmp 67]⟩,
        ⟨some 70, none, .rd (.bin .add) [.tmp 68, .tmp 69]⟩,
        oL 71 3,
        ⟨some 78, none, .call (.tmp 71) [.tmp 75, .tmp 77]⟩,
        ⟨some 79, none, .rd (.bin .add) [.tmp 70, .tmp 78]⟩,
        oM 9 79]
       .done
       (.alt [oL 71 3,
         ⟨some 68, none, .call (.tmp 62) [.tmp 66, .tmp 67]⟩,
         ⟨some 70, none, .rd (.bin .add) [.tmp 68, .tmp 69]⟩,
         ⟨some 78, none, .call (.tmp 71) [.tmp 75, .tmp 77]⟩,
         ⟨some 79, none, .rd (.bin .add) [.tmp 70, .tmp 78]⟩,
         oM 9 79]
        .done
        .stop))
      (.alt [oL 71 3,
        oL 62 3,
        ⟨some 68, none, .call (.tmp 62) [.tmp 66, .tmp 67]⟩,
        ⟨some 70, none, .rd (.bin .add) [.tmp 68, .tmp 69]⟩,
        ⟨some 78, none, .call (.tmp 71) [.tmp 75, .tmp 77]⟩,
        ⟨some 79, none, .rd (.bin .add) [.tmp 70, .tmp 78]⟩,
        oM 9 79]
       .done
       .stop))
     .stop) L55d)
  (.seq (.seq (.region false [oM 80 8,
      oM 81 1,
      ⟨some 82, none, .rd (.bin .lss) [.tmp 80, .tmp 81]⟩] L55d)
   (.cond (.tmp 82)
    (.seq (.region false [oM 83 9,
        ⟨some 84, none, .rd (.bin .add) [.pv (.str [40]), .tmp 83]⟩,
        ⟨some 85, none, .rd (.bin .add) [.tmp 84, .pv (.str [41])]⟩,
        oM 6 85] L55d)
     (.ret))
    (.skip)))
  (.seq (.region false [oM 86 9,
     oM 6 86] L55d)
  (.ret)))))))),
  [.tmp 6]⟩
theorem k55d : compileF Tryd.prog [999999, 888888, 100062, 100071] L55d Tryd.f55 = some c55d := by kernel_rfl
end Go.Proofs.YthekpjhffciakaaDoor

namespace Go.Proofs.YthekpjhffciakaaDoor
open Go PG Go.Proofs
set_option linter.unusedSimpArgs false
set_option linter.unusedVariables false
set_option maxHeartbeats 4000000
set_option maxRecDepth 100000
variable {G : Globs}
/-- A contract of the shelf's, as one by value. -/
theorem VCalls.shelf {P : Program} {G : Globs} {f : Nat} {as_ : List PV} {res : PV} {va : Array Value} {v : Value}
  (hva : ∀ w ex vs, RepCs w ex vs as_ → vs = va) (hv : ∀ w ex, RepC w ex v res) (h : ∀ w, Calls P f va w fun e w' => e = .returned v ∧ w' = w) : VCalls P G f as_ res := by
  intro w ex vs _ _ hr
  rw [hva w ex vs hr]
  refine (h w).mono ?_
  rintro e w' ⟨rfl, rfl⟩
  exact ⟨v, rfl, RowKit.Below.refl _ _, hv _ _⟩

theorem repCs_str_int {w ex vs} {s : List UInt8} {k : IntKind} {c : Int} (h : RepCs w ex vs [.str s, .int k c]) : vs = #[.string ⟨⟨s⟩⟩, .int k c] := by
  obtain ⟨hs, hr⟩ := h
  obtain ⟨l⟩ := vs
  match l, hs with
  | [x, y], _ =>
    have h0 := hr 0 x _ rfl rfl
    have h1 := hr 1 y _ rfl rfl
    cases h0; cases h1; rfl
theorem repCs_str_str {w ex vs} {s t : List UInt8} (h : RepCs w ex vs [.str s, .str t]) : vs = #[.string ⟨⟨s⟩⟩, .string ⟨⟨t⟩⟩] := by
  obtain ⟨hs, hr⟩ := h
  obtain ⟨l⟩ := vs
  match l, hs with
  | [x, y], _ =>
    have h0 := hr 0 x _ rfl rfl
    have h1 := hr 1 y _ rfl rfl
    cases h0; cases h1; rfl
theorem w101 (s : ByteArray) (c : Int) (w : World) :
    Calls Tryd.prog 101 #[.string s, .int .u8 c] w fun e w' => e = .returned (.int .i64 (Lib.indexByte s.data.toList c.toNat.toUInt8)) ∧ w' = w := by
  go_enter Tryd.func101, Tryd.ntmps101
  go_wp2
  rw [run_callFunc_extern Tryd.func127 (by kernel_rfl) (by kernel_rfl) (by kernel_rfl) (e := Extern.BytealgIndexByte.indexByte) (by kernel_rfl), Lib.run_indexByteString]
  simp only [Result.andThen]
  rw [Oper.upon_value]
  go_wp2
  go_ret
  exact ⟨rfl, rfl⟩
theorem w48 (s : ByteArray) (c : UInt8) (w : World) :
    Calls Tryd.prog 48 #[.string s, .string ⟨#[c]⟩] w fun e w' => e = .returned (.int .i64 (Lib.countByte s.data.toList c)) ∧ w' = w := by
  go_enter Tryd.func48, Tryd.ntmps48
  go_wp2
  rw [run_callFunc_extern Tryd.func78 (by kernel_rfl) (by kernel_rfl) (by kernel_rfl) (e := Extern.BytealgCount.count) (by kernel_rfl), Lib.run_countString]
  simp only [Result.andThen]
  rw [Oper.upon_value]
  go_wp2
  go_ret
  exact ⟨rfl, rfl⟩
theorem v101 (s : List UInt8) (b : UInt8) : VCalls Tryd.prog G 101 [.str s, .int .u8 b.toNat] (.int .i64 (Lib.indexByte s b)) := by
  refine VCalls.shelf (fun w ex vs h => repCs_str_int h) (fun w ex => .int _ _) (fun w => ?_)
  have h := w101 ⟨⟨s⟩⟩ (b.toNat : Int) w
  simpa using h
theorem v48 (s : List UInt8) (b : UInt8) : VCalls Tryd.prog G 48 [.str s, .str [b]] (.int .i64 (Lib.countByte s b)) := by
  exact VCalls.shelf (fun w ex vs h => repCs_str_str h) (fun w ex => .int _ _) (fun w => w48 ⟨⟨s⟩⟩ b w)
theorem e48 : Ent Tryd.prog 48 := ⟨Tryd.f48, Tryd.func48, by kernel_rfl, by kernel_rfl⟩
theorem e101 : Ent Tryd.prog 101 := ⟨Tryd.f101, Tryd.func101, by kernel_rfl, by kernel_rfl⟩
theorem e102 : Ent Tryd.prog 102 := ⟨Tryd.f102, Tryd.func102, by kernel_rfl, by kernel_rfl⟩
theorem e103 : Ent Tryd.prog 103 := ⟨Tryd.f103, Tryd.func103, by kernel_rfl, by kernel_rfl⟩
theorem e80 : Ent Tryd.prog 80 := ⟨Tryd.f80, Tryd.func80, by kernel_rfl, by kernel_rfl⟩
theorem e76 : Ent Tryd.prog 76 := ⟨Tryd.f76, Tryd.func76, by kernel_rfl, by kernel_rfl⟩

theorem len1 (b : UInt8) : (([b].length : Nat) : Int) = 1 := rfl
theorem d10 : decide ((1 : Int) = 0) = false := rfl
theorem d11 : decide ((1 : Int) = 1) = true := rfl
theorem zt : (0 : Int).toNat = 0 := rfl
theorem getD0 (b : UInt8) (l : List UInt8) : (b :: l).getD 0 0 = b := rfl
theorem v102 (s : List UInt8) (b : UInt8) : VCalls Tryd.prog G 102 [.str s, .str [b]] (.int .i64 (Lib.indexByte s b)) := by
  refine VCalls.of_PW Tryd.func102 k102 mix (by simp [c102]) ?_
  simp only [c102, L102, CC, argE]
  repeat' (first | refine PW.seq ?_ | refine PW.block ?_ | refine PW.regionA ?_ | exact schedW_stop_i | ((first | refine PW.region ?_ | refine PW.regionQ ?_ | refine PW.exit ?_ | refine PW.ret ?_ | refine PW.skip ?_ | refine schedW_alt_i ?_ ?_ | refine schedW_done_i ?_); focus (simp only [len1, d10, d11, zt, getD0, Bool.not_false, Bool.not_true, SA, Nat.reduceAdd, reduceIte, Nat.reduceEqDiff, Nat.reduceBEq, reduceCtorEq]; (try go_unwrap; try simp only [len1, d10, d11, zt, getD0, Bool.not_false, Bool.not_true, RR, reduceCtorEq]))) | (refine PW.cond rfl ?_ ?_ <;> intro hcond <;> (try contradiction) <;> try simp only [DD] at hcond) | (apply goCall_V e101; (case hV => (simp only [len1, d10, d11, zt, getD0, Bool.not_false, Bool.not_true, SA, Nat.reduceAdd, reduceIte, Nat.reduceEqDiff, Nat.reduceBEq, reduceCtorEq]; (try go_unwrap; try simp only [len1, d10, d11, zt, getD0, Bool.not_false, Bool.not_true, RR, reduceCtorEq]); exact v101 _ _)); (try (case hs => rfl)); (try (case hf => first | exact Or.inl rfl | exact Or.inr ⟨rfl, rfl⟩ | (refine Or.inl ?_; simp only [len1, d10, d11, zt, getD0, Bool.not_false, Bool.not_true, SA, Nat.reduceAdd, reduceIte, Nat.reduceEqDiff, Nat.reduceBEq, reduceCtorEq]; done) | (refine Or.inr ⟨rfl, ?_⟩; simp only [len1, d10, d11, zt, getD0, Bool.not_false, Bool.not_true, SA, Nat.reduceAdd, reduceIte, Nat.reduceEqDiff, Nat.reduceBEq, reduceCtorEq]; done))); all_goals (simp only [len1, d10, d11, zt, getD0, Bool.not_false, Bool.not_true, SA, Nat.reduceAdd, reduceIte, Nat.reduceEqDiff, Nat.reduceBEq, reduceCtorEq]; (try go_unwrap; try simp only [len1, d10, d11, zt, getD0, Bool.not_false, Bool.not_true, RR, reduceCtorEq]))) | refine And.intro ?_ ?_ | exact Or.inr ⟨rfl, Nat.le_refl _⟩ | exact (fun h => Bool.noConfusion h) | omega | (simp only [DD, LL] <;> omega) | (go_unwrap; omega))
  · try simp only [Bool.false_or, decide_eq_true_eq] at hcond
    simp [← hcond, Lib.indexByte]
def cutS (s : List UInt8) (b : UInt8) : List UInt8 × List UInt8 × Bool :=
  if 0 ≤ Lib.indexByte s b then (s.take (Lib.indexByte s b).toNat, s.drop ((Lib.indexByte s b).toNat + 1), true) else (s, [], false)
theorem indexByte_lt (s : List UInt8) (b : UInt8) : Lib.indexByte s b < s.length := by
  induction s with
  | nil => simp [Lib.indexByte]
  | cons x l ih =>
    unfold Lib.indexByte
    simp only [List.length_cons]
    split
    · omega
    · split <;> omega
theorem v103 (s : List UInt8) (b : UInt8) (hs : s.length ≤ 9223372036854775806) : VCalls Tryd.prog G 103 [.str s, .str [b]] (.tup [.str (cutS s b).1, .str (cutS s b).2.1, .bool (cutS s b).2.2]) := by
  refine VCalls.of_PW Tryd.func103 k103 mix (by simp [c103]) ?_
  have h1 := indexByte_lt s b
  simp only [c103, L103, CC, argE]
  repeat' (first | refine PW.seq ?_ | refine PW.block ?_ | refine PW.regionA ?_ | exact schedW_stop_i | ((first | refine PW.region ?_ | refine PW.regionQ ?_ | refine PW.exit ?_ | refine PW.ret ?_ | refine PW.skip ?_ | refine schedW_alt_i ?_ ?_ | refine schedW_done_i ?_); focus (simp only [len1, SA, Nat.reduceAdd, reduceIte, Nat.reduceEqDiff, Nat.reduceBEq, reduceCtorEq]; (try go_unwrap; try simp only [len1, RR, reduceCtorEq]))) | (refine PW.cond rfl ?_ ?_ <;> intro hcond <;> (try contradiction) <;> try simp only [DD] at hcond) | (apply goCall_V e102; (case hV => (simp only [len1, SA, Nat.reduceAdd, reduceIte, Nat.reduceEqDiff, Nat.reduceBEq, reduceCtorEq]; (try go_unwrap; try simp only [len1, RR, reduceCtorEq]); exact v102 _ _)); (try (case hs => rfl)); (try (case hf => first | exact Or.inl rfl | exact Or.inr ⟨rfl, rfl⟩ | (refine Or.inl ?_; simp only [len1, SA, Nat.reduceAdd, reduceIte, Nat.reduceEqDiff, Nat.reduceBEq, reduceCtorEq]; done) | (refine Or.inr ⟨rfl, ?_⟩; simp only [len1, SA, Nat.reduceAdd, reduceIte, Nat.reduceEqDiff, Nat.reduceBEq, reduceCtorEq]; done))); all_goals (simp only [len1, SA, Nat.reduceAdd, reduceIte, Nat.reduceEqDiff, Nat.reduceBEq, reduceCtorEq]; (try go_unwrap; try simp only [len1, RR, reduceCtorEq]))) | refine And.intro ?_ ?_ | exact Or.inr ⟨rfl, Nat.le_refl _⟩ | exact (fun h => Bool.noConfusion h) | omega | (simp only [DD, LL] <;> omega) | (go_unwrap; omega))
  all_goals (try simp only [decide_eq_true_eq, decide_eq_false_iff_not] at hcond)
  all_goals (try simp only [cutS, hcond, if_true, if_false])
  all_goals (try go_unwrap)
  all_goals try (go_unwrap; omega)
  rw [show (Lib.indexByte s b + 1).toNat = (Lib.indexByte s b).toNat + 1 by omega]

theorem v80 (s : List UInt8) (b : UInt8) (hs : s.length ≤ 9223372036854775806) : VCalls Tryd.prog G 80 [.str s, .str [b]] (.tup [.str (cutS s b).1, .str (cutS s b).2.1, .bool (cutS s b).2.2]) := by
  refine VCalls.of_PW Tryd.func80 k80 mix (by simp [c80]) ?_
  simp only [c80, L80, CC, argE]
  repeat' (first | refine PW.seq ?_ | refine PW.block ?_ | refine PW.regionA ?_ | exact schedW_stop_i | ((first | refine PW.region ?_ | refine PW.regionQ ?_ | refine PW.exit ?_ | refine PW.ret ?_ | refine PW.skip ?_ | refine schedW_alt_i ?_ ?_ | refine schedW_done_i ?_); focus (simp only [SA, Nat.reduceAdd, reduceIte, Nat.reduceEqDiff, Nat.reduceBEq, reduceCtorEq]; (try go_unwrap; try simp only [RR, reduceCtorEq]))) | (refine PW.cond rfl ?_ ?_ <;> intro hcond <;> (try contradiction) <;> try simp only [DD] at hcond) | (apply goCall_V e103; (case hV => (simp only [SA, Nat.reduceAdd, reduceIte, Nat.reduceEqDiff, Nat.reduceBEq, reduceCtorEq]; (try go_unwrap; try simp only [RR, reduceCtorEq]); exact v103 _ _ hs)); (try (case hs => rfl)); (try (case hf => first | exact Or.inl rfl | exact Or.inr ⟨rfl, rfl⟩ | (refine Or.inl ?_; simp only [SA, Nat.reduceAdd, reduceIte, Nat.reduceEqDiff, Nat.reduceBEq, reduceCtorEq]; done) | (refine Or.inr ⟨rfl, ?_⟩; simp only [SA, Nat.reduceAdd, reduceIte, Nat.reduceEqDiff, Nat.reduceBEq, reduceCtorEq]; done))); all_goals (simp only [SA, Nat.reduceAdd, reduceIte, Nat.reduceEqDiff, Nat.reduceBEq, reduceCtorEq]; (try go_unwrap; try simp only [RR, reduceCtorEq]))) | refine And.intro ?_ ?_ | exact Or.inr ⟨rfl, Nat.le_refl _⟩ | exact (fun h => Bool.noConfusion h) | omega | (simp only [DD, LL] <;> omega) | (go_unwrap; omega))
theorem v76 (s : List UInt8) (b : UInt8) : VCalls Tryd.prog G 76 [.str s, .int .u8 b.toNat] (.int .i64 (Lib.indexByte s b)) := by
  refine VCalls.of_PW Tryd.func76 k76 mix (by simp [c76]) ?_
  simp only [c76, L76, CC, argE]
  repeat' (first | refine PW.seq ?_ | refine PW.block ?_ | refine PW.regionA ?_ | exact schedW_stop_i | ((first | refine PW.region ?_ | refine PW.regionQ ?_ | refine PW.exit ?_ | refine PW.ret ?_ | refine PW.skip ?_ | refine schedW_alt_i ?_ ?_ | refine schedW_done_i ?_); focus (simp only [SA, Nat.reduceAdd, reduceIte, Nat.reduceEqDiff, Nat.reduceBEq, reduceCtorEq]; (try go_unwrap; try simp only [RR, reduceCtorEq]))) | (refine PW.cond rfl ?_ ?_ <;> intro hcond <;> (try contradiction) <;> try simp only [DD] at hcond) | (apply goCall_V e101; (case hV => (simp only [SA, Nat.reduceAdd, reduceIte, Nat.reduceEqDiff, Nat.reduceBEq, reduceCtorEq]; (try go_unwrap; try simp only [RR, reduceCtorEq]); exact v101 _ _)); (try (case hs => rfl)); (try (case hf => first | exact Or.inl rfl | exact Or.inr ⟨rfl, rfl⟩ | (refine Or.inl ?_; simp only [SA, Nat.reduceAdd, reduceIte, Nat.reduceEqDiff, Nat.reduceBEq, reduceCtorEq]; done) | (refine Or.inr ⟨rfl, ?_⟩; simp only [SA, Nat.reduceAdd, reduceIte, Nat.reduceEqDiff, Nat.reduceBEq, reduceCtorEq]; done))); all_goals (simp only [SA, Nat.reduceAdd, reduceIte, Nat.reduceEqDiff, Nat.reduceBEq, reduceCtorEq]; (try go_unwrap; try simp only [RR, reduceCtorEq]))) | refine And.intro ?_ ?_ | exact Or.inr ⟨rfl, Nat.le_refl _⟩ | exact (fun h => Bool.noConfusion h) | omega | (simp only [DD, LL] <;> omega) | (go_unwrap; omega))

def signs : List UInt8 := [43, 45, 42, 40, 41, 44, 60, 61]
def signB (b : UInt8) : Bool := signs.contains b
end Go.Proofs.YthekpjhffciakaaDoor

namespace Go.Proofs.YthekpjhffciakaaDoor
open Go PG Go.Proofs
set_option linter.unusedSimpArgs false
set_option linter.unusedVariables false
set_option maxHeartbeats 4000000
set_option maxRecDepth 100000
variable {G : Globs}
theorem e49 : Ent Tryd.prog 49 := ⟨Tryd.f49, Tryd.func49, by kernel_rfl, by kernel_rfl⟩
/-- The whole part, held at one more than the most. -/
def capV : Nat → List UInt8 → Nat
  | n, [] => n
  | n, b :: l => if 10 * n + (b - 48).toNat > 1000000000000 then capV 1000000000001 l else capV (10 * n + (b - 48).toNat) l
/-- The whole part, given up where it is more. -/
def lexV : Nat → List UInt8 → Option Nat
  | n, [] => some n
  | n, b :: l => if 10 * n + (b - 48).toNat > 1000000000000 then none else lexV (10 * n + (b - 48).toNat) l
/-- Behind the point. -/
def partV : Nat → List UInt8 → Nat
  | _, [] => 0
  | u, b :: l => u * (b - 48).toNat + partV (u / 10) l
theorem partV_le (u : Nat) (l : List UInt8) : partV u l ≤ 284 * u := by
  induction l generalizing u with
  | nil => simp [partV]
  | cons b l ih =>
    have h := ih (u / 10)
    have h1 : (b - 48).toNat ≤ 255 := by have := (b - 48).toNat_lt; omega
    have h2 : u * (b - 48).toNat ≤ u * 255 := Nat.mul_le_mul_left u h1
    simp only [partV]
    omega
theorem capV_over (l : List UInt8) : capV 1000000000001 l = 1000000000001 := by
  induction l with
  | nil => rfl
  | cons b l ih => simp only [capV]; rw [if_pos (by omega)]; exact ih
theorem lexV_capV {n : Nat} {l : List UInt8} (h : n ≤ 1000000000000) : (lexV n l = none ∧ capV n l = 1000000000001) ∨ (∃ m, lexV n l = some m ∧ capV n l = m ∧ m ≤ 1000000000000) := by
  induction l generalizing n with
  | nil => exact .inr ⟨n, rfl, rfl, h⟩
  | cons b l ih =>
    simp only [lexV, capV]
    split
    · exact .inl ⟨rfl, capV_over l⟩
    · exact ih (by omega)
def milV (w r : List UInt8) : Nat := capV 0 w * 1000000 + partV 100000 r
def valV (s : List UInt8) : PV :=
  match lexV 0 (cutS s 46).1 with
  | none => .tup [.int .i64 0, .bool false]
  | some n => if n = 1000000000000 ∧ 0 < partV 100000 (cutS s 46).2.1 then .tup [.int .i64 0, .bool false] else .tup [.int .i64 (n * 1000000 + partV 100000 (cutS s 46).2.1 : Nat), .bool true]
theorem drop_cons {s : List UInt8} {i : Nat} (h : i < s.length) : s.drop i = s.getD i 0 :: s.drop (i + 1) := by
  rw [List.drop_eq_getElem_cons h]
  simp [List.getD, h]

theorem v49 (s : List UInt8) (hs : s.length ≤ 9223372036854775806) : VCalls Tryd.prog G 49 [.str s] (valV s) := by
  refine VCalls.of_PW Tryd.func49 k49 mix (by simp [c49]) ?_
  have hcut : (cutS s 46).1.length ≤ s.length ∧ (cutS s 46).2.1.length ≤ s.length := by
    unfold cutS
    split
    · simp; omega
    · simp
  have hv : ∀ x y, (cutS s 46).1 = x → (cutS s 46).2.1 = y → valV s = (match lexV 0 x with
      | none => .tup [.int .i64 0, .bool false]
      | some n => if n = 1000000000000 ∧ 0 < partV 100000 y then .tup [.int .i64 0, .bool false] else .tup [.int .i64 (n * 1000000 + partV 100000 y : Nat), .bool true]) := by
    rintro x y rfl rfl; rfl
  have hcall := v80 (G := G) s 46 hs
  generalize (cutS s 46).1 = w at *
  generalize (cutS s 46).2.1 = r at *
  generalize (cutS s 46).2.2 = fd at *
  rw [hv w r rfl rfl]
  simp only [c49, L49, CC, argE]
  repeat' (first | refine PW.seq ?_ | refine PW.block ?_ | refine PW.regionA ?_ | exact schedW_stop_i | ((first | refine PW.region ?_ | refine PW.regionQ ?_ | refine PW.exit ?_ | refine PW.ret ?_ | refine PW.skip ?_ | refine schedW_alt_i ?_ ?_ | refine schedW_done_i ?_); focus (simp only [SA, Nat.reduceAdd, reduceIte, Nat.reduceEqDiff, Nat.reduceBEq, reduceCtorEq]; (try go_unwrap; try simp only [RR, reduceCtorEq]))) | (refine PW.cond rfl ?_ ?_ <;> intro hcond <;> (try contradiction) <;> try simp only [DD] at hcond) | (apply goCall_V e80; (case hV => (simp only [SA, Nat.reduceAdd, reduceIte, Nat.reduceEqDiff, Nat.reduceBEq, reduceCtorEq]; (try go_unwrap; try simp only [RR, reduceCtorEq]); exact hcall)); (try (case hs => rfl)); (try (case hf => first | exact Or.inl rfl | exact Or.inr ⟨rfl, rfl⟩ | (refine Or.inl ?_; simp only [SA, Nat.reduceAdd, reduceIte, Nat.reduceEqDiff, Nat.reduceBEq, reduceCtorEq]; done) | (refine Or.inr ⟨rfl, ?_⟩; simp only [SA, Nat.reduceAdd, reduceIte, Nat.reduceEqDiff, Nat.reduceBEq, reduceCtorEq]; done))); all_goals (simp only [SA, Nat.reduceAdd, reduceIte, Nat.reduceEqDiff, Nat.reduceBEq, reduceCtorEq]; (try go_unwrap; try simp only [RR, reduceCtorEq]))) | refine And.intro ?_ ?_ | exact Or.inr ⟨rfl, Nat.le_refl _⟩ | exact (fun h => Bool.noConfusion h) | omega | (simp only [DD, LL] <;> omega) | (go_unwrap; omega))
  refine PW.loop (σ := Nat × Nat) [5, 7, 20, 21, 22] (fun j => [.str r, .int .i64 j.2, .list none (u8s w), .int .i64 w.length, .int .i64 j.1]) (fun _ => []) (fun j => j.1 ≤ w.length ∧ j.2 ≤ 1000000000000 ∧ lexV 0 w = lexV j.2 (w.drop j.1)) (fun j => w.length - j.1) (0, 0) ?_ rfl ⟨by simp, by simp, by simp⟩ ?_
  · simp only [SA, Nat.reduceAdd, reduceIte, Nat.reduceEqDiff, Nat.reduceBEq, reduceCtorEq]; rfl
  rintro ⟨j, n⟩ ⟨hj, hn, hc⟩
  simp only at hj hn hc
  simp only [List.zip_cons_cons, List.zip_nil_left]
  rcases Nat.lt_or_ge j w.length with hlt | hlt
  · have hd : decide ((j : Int) < w.length) = true := by simp only [decide_eq_true_eq]; omega
    have hb : (w.getD j 0 - 48).toNat < 256 := UInt8.toNat_lt _
    have hx := u8s_getD w j hlt
    rw [drop_cons hlt, lexV] at hc
    repeat' (first | refine PW.seq ?_ | refine PW.block ?_ | refine PW.regionA ?_ | exact schedW_stop_i | ((first | refine PW.region ?_ | refine PW.regionQ ?_ | refine PW.exit ?_ | refine PW.ret ?_ | refine PW.skip ?_ | refine schedW_alt_i ?_ ?_ | refine schedW_done_i ?_); focus (simp only [hd, hx, SA, Nat.reduceAdd, reduceIte, Nat.reduceEqDiff, Nat.reduceBEq, reduceCtorEq]; (try go_unwrap; try simp only [hd, hx, RR, reduceCtorEq]))) | (refine PW.cond rfl ?_ ?_ <;> intro hcond <;> (try contradiction) <;> try simp only [DD] at hcond) | refine And.intro ?_ ?_ | exact Or.inr ⟨rfl, Nat.le_refl _⟩ | exact (fun h => Bool.noConfusion h) | omega | (simp only [DD, LL] <;> omega) | (go_unwrap; omega))
    · rw [if_pos (by omega)] at hc
      rw [hc]
    · rw [if_neg (by omega)] at hc
      exact ⟨(j + 1, 10 * n + (w.getD j 0 - 48).toNat), rfl, ⟨hlt, by simp only; omega, hc⟩, by simp only; omega⟩
  · have hd : decide ((j : Int) < w.length) = false := by simp only [decide_eq_false_iff_not]; omega
    rw [List.drop_eq_nil_of_le hlt, lexV] at hc
    rw [hc]
    repeat' (first | refine PW.seq ?_ | refine PW.block ?_ | refine PW.regionA ?_ | exact schedW_stop_i | ((first | refine PW.region ?_ | refine PW.regionQ ?_ | refine PW.exit ?_ | refine PW.ret ?_ | refine PW.skip ?_ | refine schedW_alt_i ?_ ?_ | refine schedW_done_i ?_); focus (simp only [hd, SA, Nat.reduceAdd, reduceIte, Nat.reduceEqDiff, Nat.reduceBEq, reduceCtorEq]; (try go_unwrap; try simp only [hd, RR, reduceCtorEq]))) | (refine PW.cond rfl ?_ ?_ <;> intro hcond <;> (try contradiction) <;> try simp only [DD] at hcond) | refine And.intro ?_ ?_ | exact Or.inr ⟨rfl, Nat.le_refl _⟩ | exact (fun h => Bool.noConfusion h) | omega | (simp only [DD, LL] <;> omega) | (go_unwrap; omega))
    have hp := partV_le 100000 r
    refine PW.loop (σ := Nat × Nat × Nat) [5, 7, 10, 11, 12] (fun j => [.str r, .int .i64 n, .int .i64 j.2.1, .int .i64 j.1, .int .i64 j.2.2]) (fun _ => []) (fun j => j.1 ≤ r.length ∧ j.2.2 ≤ 100000 ∧ j.2.1 + partV j.2.2 (r.drop j.1) = partV 100000 r) (fun j => r.length - j.1) (0, 0, 100000) ?_ rfl ⟨by simp, by simp, by simp⟩ ?_
    · simp only [SA, Nat.reduceAdd, reduceIte, Nat.reduceEqDiff, Nat.reduceBEq, reduceCtorEq]; rfl
    rintro ⟨i, m, u⟩ ⟨hi, hu, hm⟩
    simp only at hi hu hm
    simp only [List.zip_cons_cons, List.zip_nil_left]
    rcases Nat.lt_or_ge i r.length with hlt' | hlt'
    · have hd' : decide ((i : Int) < r.length) = true := by simp only [decide_eq_true_eq]; omega
      rw [drop_cons hlt', partV] at hm
      have h0 : ((u : Int) * ((r.getD i 0 - 48).toNat : Int)) = ((u * (r.getD i 0 - 48).toNat : Nat) : Int) := by rw [Int.natCast_mul]
      have h1 : u * (r.getD i 0 - 48).toNat ≤ 28400000 := by omega
      generalize hz : u * (r.getD i 0 - 48).toNat = z at *
      repeat' (first | refine PW.seq ?_ | refine PW.block ?_ | refine PW.regionA ?_ | exact schedW_stop_i | ((first | refine PW.region ?_ | refine PW.regionQ ?_ | refine PW.exit ?_ | refine PW.ret ?_ | refine PW.skip ?_ | refine schedW_alt_i ?_ ?_ | refine schedW_done_i ?_); focus (simp only [hd', h0, tdiv10, SA, Nat.reduceAdd, reduceIte, Nat.reduceEqDiff, Nat.reduceBEq, reduceCtorEq]; (try go_unwrap; try simp only [hd', h0, tdiv10, RR, reduceCtorEq]))) | (refine PW.cond rfl ?_ ?_ <;> intro hcond <;> (try contradiction) <;> try simp only [DD] at hcond) | refine And.intro ?_ ?_ | exact Or.inr ⟨rfl, Nat.le_refl _⟩ | exact (fun h => Bool.noConfusion h) | omega | (simp only [DD, LL] <;> omega) | (go_unwrap; omega))
      exact ⟨(i + 1, m + z, u / 10), rfl, ⟨hlt', by simp only; omega, by simp only; omega⟩, by simp only; omega⟩
    · have hd' : decide ((i : Int) < r.length) = false := by simp only [decide_eq_false_iff_not]; omega
      rw [List.drop_eq_nil_of_le hlt', partV] at hm
      repeat' (first | refine PW.seq ?_ | refine PW.block ?_ | refine PW.regionA ?_ | exact schedW_stop_i | ((first | refine PW.region ?_ | refine PW.regionQ ?_ | refine PW.exit ?_ | refine PW.ret ?_ | refine PW.skip ?_ | refine schedW_alt_i ?_ ?_ | refine schedW_done_i ?_); focus (simp only [hd', SA, Nat.reduceAdd, reduceIte, Nat.reduceEqDiff, Nat.reduceBEq, reduceCtorEq]; (try go_unwrap; try simp only [hd', RR, reduceCtorEq]))) | (refine PW.cond rfl ?_ ?_ <;> intro hcond <;> (try contradiction) <;> try simp only [DD] at hcond) | refine And.intro ?_ ?_ | exact Or.inr ⟨rfl, Nat.le_refl _⟩ | exact (fun h => Bool.noConfusion h) | omega | (simp only [DD, LL] <;> omega) | (go_unwrap; omega))
      · simp only [Bool.and_eq_true, decide_eq_true_eq] at hcond
        rw [if_pos ⟨by omega, by omega⟩]
      · simp only [Bool.and_eq_false_iff, decide_eq_false_iff_not] at hcond
        rw [if_neg (by omega)]
        rw [← hm]; rfl
end Go.Proofs.YthekpjhffciakaaDoor

