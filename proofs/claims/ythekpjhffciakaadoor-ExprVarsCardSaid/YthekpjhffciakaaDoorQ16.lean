import Derived.Test.YthekpjhffciakaaDoorProg
import Derived.KernelRfl
import Derived.Test.YthekpjhffciakaaDoorQ10
import Derived.Test.YthekpjhffciakaaDoorQ11
import Derived.Test.YthekpjhffciakaaDoorP4
import Derived.Test.YthekpjhffciakaaDoorQ15
namespace Go.Proofs.YthekpjhffciakaaDoor
open Go PG Go.Proofs
set_option linter.unusedSimpArgs false
set_option linter.unusedVariables false
set_option maxHeartbeats 4000000
set_option maxRecDepth 100000
variable {G : Globs}
/-! The program's text of a number -/
theorem e56 : Ent Tryd.prog 56 := ⟨Tryd.f56, Tryd.func56, by kernel_rfl, by kernel_rfl⟩
theorem e57 : Ent Tryd.prog 57 := ⟨Tryd.f57, Tryd.func57, by kernel_rfl, by kernel_rfl⟩
theorem e86 : Ent Tryd.prog 86 := ⟨Tryd.f86, Tryd.func86, by kernel_rfl, by kernel_rfl⟩
def digT (n : Nat) : List UInt8 := if n ≤ 9 then [UInt8.ofNat (48 + n)] else digT (n / 10) ++ [UInt8.ofNat (48 + n % 10)]
termination_by n
decreasing_by omega
theorem chr_dig {d : Nat} (h : d ≤ 9) : (Utf8.encode (48 + (d : Int))).data.toList = [UInt8.ofNat (48 + d)] := by
  have : d = 0 ∨ d = 1 ∨ d = 2 ∨ d = 3 ∨ d = 4 ∨ d = 5 ∨ d = 6 ∨ d = 7 ∨ d = 8 ∨ d = 9 := by omega
  rcases this with rfl | rfl | rfl | rfl | rfl | rfl | rfl | rfl | rfl | rfl <;> decide
def strongM (op : Int) : Int := if op = 2 ∨ op = 3 then 1 else if op = 4 then 2 else 3
theorem v56 (op : Int) : VCalls Tryd.prog G 56 [.int .i64 op] (.int .i64 (strongM op)) := by
  refine VCalls.of_PW Tryd.func56 k56 mix (by simp [c56]) ?_
  simp only [c56, L56, CC, argE]
  unfold strongM
  by_cases h2 : op = 2
  · subst h2; repeat' (first | exact True.intro | (refine PW.seqK ?_; intro K hK) | refine pwB ?_ | refine pwS ?_ | refine pwL ?_ | refine pwE ?_ | refine pwR ?_ | refine pwK ?_ | refine seqK_n ‹_› ?_ | refine seqK_r ‹_› ?_ | refine seqK_e ‹_› ?_ | refine PW.regionA ?_ | exact schedW_stop_i | refine schK_n ‹_› ?_ | (refine schedW_alt_k ?_ ?_; focus (intro K hK; simp only [SA, Nat.reduceAdd, reduceIte, Nat.reduceEqDiff, Nat.reduceBEq, reduceCtorEq]; (try go_unwrap; try simp only [RR, reduceCtorEq]))) | (refine PW.cond rfl ?_ ?_ <;> intro hcond <;> (try contradiction) <;> try simp only [DD] at hcond) | (refine gd_i ?_; intro hg; try simp only [hg]) | ((first | show (_ : Nat) ≤ _ | show (_ : Nat) < _ | show (_ : Int) ≤ _ | show (_ : Int) < _ | show (_ : Nat) = _ | show (_ : Int) = _ | show (_ : Bool) = _ | show _ ∨ _ | show ¬ _); first | omega | (simp only [DD, LL] <;> omega) | (go_unwrap; omega)) | ((first | refine PW.region ?_ | refine PW.regionQ ?_ | refine schedW_done_i ?_ | show (_ : Post) _ _ _ | show @Eq (List PV) _ _ | show @Eq Bool _ _ | show opsW _ _ _ _ _ _ _ _ | show okAll _ | show @Eq Bool _ _ ∨ _); focus (simp only [SA, Nat.reduceAdd, reduceIte, Nat.reduceEqDiff, Nat.reduceBEq, reduceCtorEq]; (try go_unwrap; try simp only [RR, reduceCtorEq]))) | refine And.intro ?_ ?_ | exact Or.inr ⟨rfl, Nat.le_refl _⟩ | exact (fun h => Bool.noConfusion h))
    all_goals simp
  by_cases h3 : op = 3
  · subst h3; repeat' (first | exact True.intro | (refine PW.seqK ?_; intro K hK) | refine pwB ?_ | refine pwS ?_ | refine pwL ?_ | refine pwE ?_ | refine pwR ?_ | refine pwK ?_ | refine seqK_n ‹_› ?_ | refine seqK_r ‹_› ?_ | refine seqK_e ‹_› ?_ | refine PW.regionA ?_ | exact schedW_stop_i | refine schK_n ‹_› ?_ | (refine schedW_alt_k ?_ ?_; focus (intro K hK; simp only [SA, Nat.reduceAdd, reduceIte, Nat.reduceEqDiff, Nat.reduceBEq, reduceCtorEq]; (try go_unwrap; try simp only [RR, reduceCtorEq]))) | (refine PW.cond rfl ?_ ?_ <;> intro hcond <;> (try contradiction) <;> try simp only [DD] at hcond) | (refine gd_i ?_; intro hg; try simp only [hg]) | ((first | show (_ : Nat) ≤ _ | show (_ : Nat) < _ | show (_ : Int) ≤ _ | show (_ : Int) < _ | show (_ : Nat) = _ | show (_ : Int) = _ | show (_ : Bool) = _ | show _ ∨ _ | show ¬ _); first | omega | (simp only [DD, LL] <;> omega) | (go_unwrap; omega)) | ((first | refine PW.region ?_ | refine PW.regionQ ?_ | refine schedW_done_i ?_ | show (_ : Post) _ _ _ | show @Eq (List PV) _ _ | show @Eq Bool _ _ | show opsW _ _ _ _ _ _ _ _ | show okAll _ | show @Eq Bool _ _ ∨ _); focus (simp only [SA, Nat.reduceAdd, reduceIte, Nat.reduceEqDiff, Nat.reduceBEq, reduceCtorEq]; (try go_unwrap; try simp only [RR, reduceCtorEq]))) | refine And.intro ?_ ?_ | exact Or.inr ⟨rfl, Nat.le_refl _⟩ | exact (fun h => Bool.noConfusion h))
    all_goals simp
  by_cases h4 : op = 4
  · subst h4; repeat' (first | exact True.intro | (refine PW.seqK ?_; intro K hK) | refine pwB ?_ | refine pwS ?_ | refine pwL ?_ | refine pwE ?_ | refine pwR ?_ | refine pwK ?_ | refine seqK_n ‹_› ?_ | refine seqK_r ‹_› ?_ | refine seqK_e ‹_› ?_ | refine PW.regionA ?_ | exact schedW_stop_i | refine schK_n ‹_› ?_ | (refine schedW_alt_k ?_ ?_; focus (intro K hK; simp only [SA, Nat.reduceAdd, reduceIte, Nat.reduceEqDiff, Nat.reduceBEq, reduceCtorEq]; (try go_unwrap; try simp only [RR, reduceCtorEq]))) | (refine PW.cond rfl ?_ ?_ <;> intro hcond <;> (try contradiction) <;> try simp only [DD] at hcond) | (refine gd_i ?_; intro hg; try simp only [hg]) | ((first | show (_ : Nat) ≤ _ | show (_ : Nat) < _ | show (_ : Int) ≤ _ | show (_ : Int) < _ | show (_ : Nat) = _ | show (_ : Int) = _ | show (_ : Bool) = _ | show _ ∨ _ | show ¬ _); first | omega | (simp only [DD, LL] <;> omega) | (go_unwrap; omega)) | ((first | refine PW.region ?_ | refine PW.regionQ ?_ | refine schedW_done_i ?_ | show (_ : Post) _ _ _ | show @Eq (List PV) _ _ | show @Eq Bool _ _ | show opsW _ _ _ _ _ _ _ _ | show okAll _ | show @Eq Bool _ _ ∨ _); focus (simp only [SA, Nat.reduceAdd, reduceIte, Nat.reduceEqDiff, Nat.reduceBEq, reduceCtorEq]; (try go_unwrap; try simp only [RR, reduceCtorEq]))) | refine And.intro ?_ ?_ | exact Or.inr ⟨rfl, Nat.le_refl _⟩ | exact (fun h => Bool.noConfusion h))
    all_goals simp
  repeat' (first | exact True.intro | (refine PW.seqK ?_; intro K hK) | refine pwB ?_ | refine pwS ?_ | refine pwL ?_ | refine pwE ?_ | refine pwR ?_ | refine pwK ?_ | refine seqK_n ‹_› ?_ | refine seqK_r ‹_› ?_ | refine seqK_e ‹_› ?_ | refine PW.regionA ?_ | exact schedW_stop_i | refine schK_n ‹_› ?_ | (refine schedW_alt_k ?_ ?_; focus (intro K hK; simp only [decide_eq_false h2, decide_eq_false h3, decide_eq_false h4, SA, Nat.reduceAdd, reduceIte, Nat.reduceEqDiff, Nat.reduceBEq, reduceCtorEq]; (try go_unwrap; try simp only [decide_eq_false h2, decide_eq_false h3, decide_eq_false h4, RR, reduceCtorEq]))) | (refine PW.cond rfl ?_ ?_ <;> intro hcond <;> (try contradiction) <;> try simp only [DD] at hcond) | (refine gd_i ?_; intro hg; try simp only [hg]) | ((first | show (_ : Nat) ≤ _ | show (_ : Nat) < _ | show (_ : Int) ≤ _ | show (_ : Int) < _ | show (_ : Nat) = _ | show (_ : Int) = _ | show (_ : Bool) = _ | show _ ∨ _ | show ¬ _); first | omega | (simp only [DD, LL] <;> omega) | (go_unwrap; omega)) | ((first | refine PW.region ?_ | refine PW.regionQ ?_ | refine schedW_done_i ?_ | show (_ : Post) _ _ _ | show @Eq (List PV) _ _ | show @Eq Bool _ _ | show opsW _ _ _ _ _ _ _ _ | show okAll _ | show @Eq Bool _ _ ∨ _); focus (simp only [decide_eq_false h2, decide_eq_false h3, decide_eq_false h4, SA, Nat.reduceAdd, reduceIte, Nat.reduceEqDiff, Nat.reduceBEq, reduceCtorEq]; (try go_unwrap; try simp only [decide_eq_false h2, decide_eq_false h3, decide_eq_false h4, RR, reduceCtorEq]))) | refine And.intro ?_ ?_ | exact Or.inr ⟨rfl, Nat.le_refl _⟩ | exact (fun h => Bool.noConfusion h))
  all_goals simp [h2, h3, h4]
theorem v86 (n : Nat) (hn : n ≤ 2000000000000000000) : VCalls Tryd.prog G 86 [.int .i64 n] (.str (digT n)) := by
  refine VCalls.of_PW Tryd.func86 k86 mix (by simp [c86]) ?_
  simp only [c86, L86, CC, argE]
  repeat' (first | exact True.intro | (refine PW.seqK ?_; intro K hK) | refine pwB ?_ | refine pwS ?_ | refine pwL ?_ | refine pwE ?_ | refine pwR ?_ | refine pwK ?_ | refine seqK_n ‹_› ?_ | refine seqK_r ‹_› ?_ | refine seqK_e ‹_› ?_ | refine PW.regionA ?_ | exact schedW_stop_i | refine schK_n ‹_› ?_ | (refine schedW_alt_k ?_ ?_; focus (intro K hK; simp only [SA, Nat.reduceAdd, reduceIte, Nat.reduceEqDiff, Nat.reduceBEq, reduceCtorEq]; (try go_unwrap; try simp only [RR, reduceCtorEq]))) | (refine PW.cond rfl ?_ ?_ <;> intro hcond <;> (try contradiction) <;> try simp only [DD] at hcond) | (refine gd_i ?_; intro hg; try simp only [hg]) | ((first | show (_ : Nat) ≤ _ | show (_ : Nat) < _ | show (_ : Int) ≤ _ | show (_ : Int) < _ | show (_ : Nat) = _ | show (_ : Int) = _ | show (_ : Bool) = _ | show _ ∨ _ | show ¬ _); first | omega | (simp only [DD, LL] <;> omega) | (go_unwrap; omega)) | ((first | refine PW.region ?_ | refine PW.regionQ ?_ | refine schedW_done_i ?_ | show (_ : Post) _ _ _ | show @Eq (List PV) _ _ | show @Eq Bool _ _ | show opsW _ _ _ _ _ _ _ _ | show okAll _ | show @Eq Bool _ _ ∨ _); focus (simp only [SA, Nat.reduceAdd, reduceIte, Nat.reduceEqDiff, Nat.reduceBEq, reduceCtorEq]; (try go_unwrap; try simp only [RR, reduceCtorEq]))) | refine And.intro ?_ ?_ | exact Or.inr ⟨rfl, Nat.le_refl _⟩ | exact (fun h => Bool.noConfusion h))
  refine PW.loop (σ := Nat × List UInt8) [0, 3] (fun q => [.int .i64 q.1, .str q.2]) (fun _ => []) (fun q => q.1 + q.2.length ≤ n ∧ digT n = digT q.1 ++ q.2) (fun q => q.1) (n, []) ?_ rfl ⟨by simp, by simp⟩ ?_
  · simp only [SA, Nat.reduceAdd, reduceIte, Nat.reduceEqDiff, Nat.reduceBEq, reduceCtorEq]; rfl
  rintro ⟨m, s⟩ ⟨hm, hd⟩
  simp only at hm hd
  simp only [List.zip_cons_cons, List.zip_nil_left]
  rcases Nat.lt_or_ge 9 m with h | h
  · have d1 : decide ((9 : Int) < m) = true := by simp only [decide_eq_true_eq]; omega
    have q1 : (m : Int).tmod 10 = ((m % 10 : Nat) : Int) := by rw [Int.tmod_eq_emod_of_nonneg (by omega)]; simp
    have q2 : (m : Int).tdiv 10 = ((m / 10 : Nat) : Int) := by rw [Int.tdiv_eq_ediv_of_nonneg (by omega)]; simp
    have hln : ([UInt8.ofNat (48 + m % 10)].length + s.length ≤ 9223372036854775807) := by simp; omega
    have w1 : IntKind.i32.wrap (48 + ((m % 10 : Nat) : Int)) = 48 + ((m % 10 : Nat) : Int) := IntWalk.i32_in _ (by omega)
    have w2 : IntKind.i64.wrap (48 + ((m % 10 : Nat) : Int)) = 48 + ((m % 10 : Nat) : Int) := IntWalk.i64_in _ (by omega)
    have w3 : IntKind.i64.wrap ((m % 10 : Nat) : Int) = ((m % 10 : Nat) : Int) := IntWalk.i64_in _ (by omega)
    have w4 : IntKind.i64.wrap ((m / 10 : Nat) : Int) = ((m / 10 : Nat) : Int) := IntWalk.i64_in _ (by omega)
    have hu : digT m = digT (m / 10) ++ [UInt8.ofNat (48 + m % 10)] := by rw [digT]; rw [if_neg (by omega)]
    rw [hu, List.append_assoc] at hd
    repeat' (first | exact True.intro | exact hln | (refine PW.seqK ?_; intro K hK) | refine pwB ?_ | refine pwS ?_ | refine pwL ?_ | refine pwE ?_ | refine pwR ?_ | refine pwK ?_ | refine seqK_n ‹_› ?_ | refine seqK_r ‹_› ?_ | refine seqK_e ‹_› ?_ | refine PW.regionA ?_ | exact schedW_stop_i | refine schK_n ‹_› ?_ | (refine schedW_alt_k ?_ ?_; focus (intro K hK; simp only [PV.bin, PV.binOk, binI, d1, q1, q2, w1, w2, w3, w4, chr_dig (show m % 10 ≤ 9 by omega), SA, Nat.reduceAdd, reduceIte, Nat.reduceEqDiff, Nat.reduceBEq, reduceCtorEq]; (try go_unwrap; try simp only [PV.bin, PV.binOk, binI, d1, q1, q2, w1, w2, w3, w4, chr_dig (show m % 10 ≤ 9 by omega), RR, reduceCtorEq]))) | (refine PW.cond rfl ?_ ?_ <;> intro hcond <;> (try contradiction) <;> try simp only [DD] at hcond) | (refine gd_i ?_; intro hg; try simp only [hg]) | ((first | show (_ : Nat) ≤ _ | show (_ : Nat) < _ | show (_ : Int) ≤ _ | show (_ : Int) < _ | show (_ : Nat) = _ | show (_ : Int) = _ | show (_ : Bool) = _ | show _ ∨ _ | show ¬ _); first | omega | (simp only [DD, LL] <;> omega) | (go_unwrap; omega)) | ((first | refine PW.region ?_ | refine PW.regionQ ?_ | refine schedW_done_i ?_ | show (_ : Post) _ _ _ | show @Eq (List PV) _ _ | show @Eq Bool _ _ | show opsW _ _ _ _ _ _ _ _ | show okAll _ | show @Eq Bool _ _ ∨ _); focus (simp only [PV.bin, PV.binOk, binI, d1, q1, q2, w1, w2, w3, w4, chr_dig (show m % 10 ≤ 9 by omega), SA, Nat.reduceAdd, reduceIte, Nat.reduceEqDiff, Nat.reduceBEq, reduceCtorEq]; (try go_unwrap; try simp only [PV.bin, PV.binOk, binI, d1, q1, q2, w1, w2, w3, w4, chr_dig (show m % 10 ≤ 9 by omega), RR, reduceCtorEq]))) | refine And.intro ?_ ?_ | exact Or.inr ⟨rfl, Nat.le_refl _⟩ | exact (fun h => Bool.noConfusion h))
    all_goals exact ⟨(m / 10, [UInt8.ofNat (48 + m % 10)] ++ s), rfl, ⟨by simp; omega, hd⟩, by simp only; omega⟩
  · have d1 : decide ((9 : Int) < m) = false := by simp only [decide_eq_false_iff_not]; omega
    have hln : ([UInt8.ofNat (48 + m)].length + s.length ≤ 9223372036854775807) := by simp; omega
    have w1 : IntKind.i32.wrap (48 + (m : Int)) = 48 + (m : Int) := IntWalk.i32_in _ (by omega)
    have w2 : IntKind.i64.wrap (48 + (m : Int)) = 48 + (m : Int) := IntWalk.i64_in _ (by omega)
    have hu : digT m = [UInt8.ofNat (48 + m)] := by rw [digT]; rw [if_pos h]
    rw [hu] at hd
    repeat' (first | exact True.intro | exact hln | (refine PW.seqK ?_; intro K hK) | refine pwB ?_ | refine pwS ?_ | refine pwL ?_ | refine pwE ?_ | refine pwR ?_ | refine pwK ?_ | refine seqK_n ‹_› ?_ | refine seqK_r ‹_› ?_ | refine seqK_e ‹_› ?_ | refine PW.regionA ?_ | exact schedW_stop_i | refine schK_n ‹_› ?_ | (refine schedW_alt_k ?_ ?_; focus (intro K hK; simp only [PV.bin, PV.binOk, binI, d1, w1, w2, chr_dig h, SA, Nat.reduceAdd, reduceIte, Nat.reduceEqDiff, Nat.reduceBEq, reduceCtorEq]; (try go_unwrap; try simp only [PV.bin, PV.binOk, binI, d1, w1, w2, chr_dig h, RR, reduceCtorEq]))) | (refine PW.cond rfl ?_ ?_ <;> intro hcond <;> (try contradiction) <;> try simp only [DD] at hcond) | (refine gd_i ?_; intro hg; try simp only [hg]) | ((first | show (_ : Nat) ≤ _ | show (_ : Nat) < _ | show (_ : Int) ≤ _ | show (_ : Int) < _ | show (_ : Nat) = _ | show (_ : Int) = _ | show (_ : Bool) = _ | show _ ∨ _ | show ¬ _); first | omega | (simp only [DD, LL] <;> omega) | (go_unwrap; omega)) | ((first | refine PW.region ?_ | refine PW.regionQ ?_ | refine schedW_done_i ?_ | show (_ : Post) _ _ _ | show @Eq (List PV) _ _ | show @Eq Bool _ _ | show opsW _ _ _ _ _ _ _ _ | show okAll _ | show @Eq Bool _ _ ∨ _); focus (simp only [PV.bin, PV.binOk, binI, d1, w1, w2, chr_dig h, SA, Nat.reduceAdd, reduceIte, Nat.reduceEqDiff, Nat.reduceBEq, reduceCtorEq]; (try go_unwrap; try simp only [PV.bin, PV.binOk, binI, d1, w1, w2, chr_dig h, RR, reduceCtorEq]))) | refine And.intro ?_ ?_ | exact Or.inr ⟨rfl, Nat.le_refl _⟩ | exact (fun h => Bool.noConfusion h))
    all_goals rw [hd]
end Go.Proofs.YthekpjhffciakaaDoor

namespace Go.Proofs.YthekpjhffciakaaDoor
open Go PG Go.Proofs
set_option linter.unusedSimpArgs false
set_option linter.unusedVariables false
set_option maxHeartbeats 4000000
set_option maxRecDepth 100000
variable {G : Globs}
def stripZ (l : List UInt8) : List UInt8 := (l.reverse.dropWhile (fun b => b == 48)).reverse
theorem stripZ_snoc (l : List UInt8) (b : UInt8) : stripZ (l ++ [b]) = if b = 48 then stripZ l else l ++ [b] := by
  unfold stripZ
  rw [List.reverse_append]
  by_cases h : b = 48
  · subst h; simp
  · rw [if_neg h]; simp [h]
def numT (n : Nat) : List UInt8 := if n % 1000000 / 100 = 0 then digT (n / 1000000) else (digT (n / 1000000) ++ [46]) ++ stripZ ((digT (10000 + n % 1000000 / 100)).drop 1)
theorem digT_len : ∀ (k n : Nat), n < 10 ^ (k + 1) → (digT n).length ≤ k + 1
  | 0, n, h => by rw [digT, if_pos (by omega)]; simp
  | k + 1, n, h => by
    rw [digT]
    split
    · simp
    · have := digT_len k (n / 10) (by rw [Nat.pow_succ] at h; omega)
      simp; omega
theorem dig5 (r : Nat) (h : r ≤ 9999) : digT (10000 + r) = [UInt8.ofNat (48 + 1), UInt8.ofNat (48 + r / 1000), UInt8.ofNat (48 + r / 100 % 10), UInt8.ofNat (48 + r / 10 % 10), UInt8.ofNat (48 + r % 10)] := by
  rw [digT, if_neg (by omega), digT, if_neg (by omega), digT, if_neg (by omega), digT, if_neg (by omega), digT, if_pos (by omega)]
  have e1 : (10000 + r) / 10 / 10 / 10 / 10 = 1 := by omega
  have e2 : (10000 + r) / 10 / 10 / 10 % 10 = r / 1000 := by omega
  have e3 : (10000 + r) / 10 / 10 % 10 = r / 100 % 10 := by omega
  have e4 : (10000 + r) / 10 % 10 = r / 10 % 10 := by omega
  have e5 : (10000 + r) % 10 = r % 10 := by omega
  rw [e1, e2, e3, e4, e5]
  rfl
theorem ofNat48 {d : Nat} (h : d ≤ 9) : (UInt8.ofNat (48 + d)).toNat = 48 + d := by
  simp [UInt8.toNat_ofNat]; omega
theorem v57 (n : Nat) (hn : n ≤ 1000000000000000000) : VCalls Tryd.prog G 57 [.int .i64 n] (.str (numT n)) := by
  refine VCalls.of_PW Tryd.func57 k57 mix (by simp [c57]) ?_
  simp only [c57, L57, CC, argE]
  have q1 : (n : Int).tdiv 1000000 = ((n / 1000000 : Nat) : Int) := by rw [Int.tdiv_eq_ediv_of_nonneg (by omega)]; simp
  have q2 : (n : Int).tmod 1000000 = ((n % 1000000 : Nat) : Int) := by rw [Int.tmod_eq_emod_of_nonneg (by omega)]; simp
  have q3 : ((n % 1000000 : Nat) : Int).tdiv 100 = ((n % 1000000 / 100 : Nat) : Int) := by rw [Int.tdiv_eq_ediv_of_nonneg (by omega)]; simp
  have h1 := v86 (G := G) (n / 1000000) (by omega)
  have h2 := v86 (G := G) (10000 + n % 1000000 / 100) (by omega)
  have hl1 := digT_len 18 (n / 1000000) (by have : (10 : Nat) ^ 19 = 10000000000000000000 := rfl; omega)
  have hr : n % 1000000 / 100 ≤ 9999 := by omega
  have h5 := dig5 _ hr
  unfold numT
  generalize n % 1000000 / 100 = r at *
  have w1 : IntKind.i64.wrap ((n / 1000000 : Nat) : Int) = ((n / 1000000 : Nat) : Int) := IntWalk.i64_in _ (by omega)
  have w2 : IntKind.i64.wrap ((n % 1000000 : Nat) : Int) = ((n % 1000000 : Nat) : Int) := IntWalk.i64_in _ (by omega)
  have w3 : IntKind.i64.wrap (r : Int) = (r : Int) := IntWalk.i64_in _ (by omega)
  have w4 : IntKind.i64.wrap (10000 + (r : Int)) = ((10000 + r : Nat) : Int) := by rw [IntWalk.i64_in _ (by omega)]; simp
  generalize digT (n / 1000000) = S at *
  by_cases hz : r = 0
  · have d1 : decide ((r : Int) = 0) = true := by simp only [decide_eq_true_eq]; omega
    repeat' (first | exact True.intro | (refine PW.seqK ?_; intro K hK) | refine pwB ?_ | refine pwS ?_ | refine pwL ?_ | refine pwE ?_ | refine pwR ?_ | refine pwK ?_ | refine seqK_n ‹_› ?_ | refine seqK_r ‹_› ?_ | refine seqK_e ‹_› ?_ | refine PW.regionA ?_ | exact schedW_stop_i | refine schK_n ‹_› ?_ | (refine schedW_alt_k ?_ ?_; focus (intro K hK; simp only [PV.bin, PV.binOk, binI, q1, q2, q3, w1, w2, w3, d1, SA, Nat.reduceAdd, reduceIte, Nat.reduceEqDiff, Nat.reduceBEq, reduceCtorEq]; (try go_unwrap; try simp only [PV.bin, PV.binOk, binI, q1, q2, q3, w1, w2, w3, d1, RR, reduceCtorEq]))) | (refine PW.cond rfl ?_ ?_ <;> intro hcond <;> (try contradiction) <;> try simp only [DD] at hcond) | (refine gd_i ?_; intro hg; try simp only [hg]) | refine goCall_W e86 (h1) ?_ ?_ ?_ ?_ | ((first | show (_ : Nat) ≤ _ | show (_ : Nat) < _ | show (_ : Int) ≤ _ | show (_ : Int) < _ | show (_ : Nat) = _ | show (_ : Int) = _ | show (_ : Bool) = _ | show _ ∨ _ | show ¬ _); first | omega | (simp only [DD, LL] <;> omega) | (go_unwrap; omega)) | ((first | refine PW.region ?_ | refine PW.regionQ ?_ | refine schedW_done_i ?_ | show (_ : Post) _ _ _ | show @Eq (List PV) _ _ | show @Eq Bool _ _ | show opsW _ _ _ _ _ _ _ _ | show okAll _ | show @Eq Bool _ _ ∨ _); focus (simp only [PV.bin, PV.binOk, binI, q1, q2, q3, w1, w2, w3, d1, SA, Nat.reduceAdd, reduceIte, Nat.reduceEqDiff, Nat.reduceBEq, reduceCtorEq]; (try go_unwrap; try simp only [PV.bin, PV.binOk, binI, q1, q2, q3, w1, w2, w3, d1, RR, reduceCtorEq]))) | refine And.intro ?_ ?_ | exact Or.inr ⟨rfl, Nat.le_refl _⟩ | exact (fun h => Bool.noConfusion h))
    all_goals rw [if_pos hz]
  · have d1 : decide ((r : Int) = 0) = false := by simp only [decide_eq_false_iff_not]; omega
    rw [if_neg hz]
    have hL : ((digT (10000 + r)).length : Nat) = 5 := by rw [h5]; rfl
    have hNZ : ∃ c ∈ (digT (10000 + r)).drop (Int.toNat 1), c ≠ 48 := by
      rw [h5]
      have key : ∀ d, d ≤ 9 → d ≠ 0 → UInt8.ofNat (48 + d) ≠ 48 := fun d hd hd0 e => by
        have := congrArg UInt8.toNat e
        rw [ofNat48 hd] at this
        have : (48 : UInt8).toNat = 48 := rfl
        omega
      by_cases c1 : r / 1000 = 0
      · by_cases c2 : r / 100 % 10 = 0
        · by_cases c3 : r / 10 % 10 = 0
          · exact ⟨_, by simp, key (r % 10) (by omega) (by omega)⟩
          · exact ⟨_, by simp, key (r / 10 % 10) (by omega) c3⟩
        · exact ⟨_, by simp, key (r / 100 % 10) (by omega) c2⟩
      · exact ⟨_, by simp, key (r / 1000) (by omega) c1⟩
    have hdr : (digT (10000 + r)).drop 1 = (digT (10000 + r)).drop (Int.toNat 1) := rfl
    rw [hdr]
    have hdl : ((digT (10000 + r)).drop (Int.toNat 1)).length ≤ 4 := by rw [List.length_drop, hL]; decide
    clear h5 hdr
    repeat' (first | exact True.intro | (refine PW.seqK ?_; intro K hK) | refine pwB ?_ | refine pwS ?_ | refine pwL ?_ | refine pwE ?_ | refine pwR ?_ | refine pwK ?_ | refine seqK_n ‹_› ?_ | refine seqK_r ‹_› ?_ | refine seqK_e ‹_› ?_ | refine PW.regionA ?_ | exact schedW_stop_i | refine schK_n ‹_› ?_ | (refine schedW_alt_k ?_ ?_; focus (intro K hK; simp only [PV.bin, PV.binOk, binI, q1, q2, q3, w1, w2, w3, w4, d1, hL, SA, Nat.reduceAdd, reduceIte, Nat.reduceEqDiff, Nat.reduceBEq, reduceCtorEq]; (try go_unwrap; try simp only [PV.bin, PV.binOk, binI, q1, q2, q3, w1, w2, w3, w4, d1, hL, RR, reduceCtorEq]))) | (refine PW.cond rfl ?_ ?_ <;> intro hcond <;> (try contradiction) <;> try simp only [DD] at hcond) | (apply goCall_V e86; (case hV => (simp only [PV.bin, PV.binOk, binI, q1, q2, q3, w1, w2, w3, w4, d1, hL, SA, Nat.reduceAdd, reduceIte, Nat.reduceEqDiff, Nat.reduceBEq, reduceCtorEq]; (try go_unwrap; try simp only [PV.bin, PV.binOk, binI, q1, q2, q3, w1, w2, w3, w4, d1, hL, RR, reduceCtorEq]); exact h1)); (try (case hs => rfl)); (try (case hf => first | exact Or.inl rfl | exact Or.inr ⟨rfl, rfl⟩ | (refine Or.inl ?_; simp only [PV.bin, PV.binOk, binI, q1, q2, q3, w1, w2, w3, w4, d1, hL, SA, Nat.reduceAdd, reduceIte, Nat.reduceEqDiff, Nat.reduceBEq, reduceCtorEq]; done) | (refine Or.inr ⟨rfl, ?_⟩; simp only [PV.bin, PV.binOk, binI, q1, q2, q3, w1, w2, w3, w4, d1, hL, SA, Nat.reduceAdd, reduceIte, Nat.reduceEqDiff, Nat.reduceBEq, reduceCtorEq]; done))); all_goals (first | (simp only [PV.bin, PV.binOk, binI, q1, q2, q3, w1, w2, w3, w4, d1, hL, SA, Nat.reduceAdd, reduceIte, Nat.reduceEqDiff, Nat.reduceBEq, reduceCtorEq]; (try go_unwrap; try simp only [PV.bin, PV.binOk, binI, q1, q2, q3, w1, w2, w3, w4, d1, hL, RR, reduceCtorEq])) | (show Env; skip) | (show Mem; skip))) | (apply goCall_V e86; (case hV => (simp only [PV.bin, PV.binOk, binI, q1, q2, q3, w1, w2, w3, w4, d1, hL, SA, Nat.reduceAdd, reduceIte, Nat.reduceEqDiff, Nat.reduceBEq, reduceCtorEq]; (try go_unwrap; try simp only [PV.bin, PV.binOk, binI, q1, q2, q3, w1, w2, w3, w4, d1, hL, RR, reduceCtorEq]); exact h2)); (try (case hs => rfl)); (try (case hf => first | exact Or.inl rfl | exact Or.inr ⟨rfl, rfl⟩ | (refine Or.inl ?_; simp only [PV.bin, PV.binOk, binI, q1, q2, q3, w1, w2, w3, w4, d1, hL, SA, Nat.reduceAdd, reduceIte, Nat.reduceEqDiff, Nat.reduceBEq, reduceCtorEq]; done) | (refine Or.inr ⟨rfl, ?_⟩; simp only [PV.bin, PV.binOk, binI, q1, q2, q3, w1, w2, w3, w4, d1, hL, SA, Nat.reduceAdd, reduceIte, Nat.reduceEqDiff, Nat.reduceBEq, reduceCtorEq]; done))); all_goals (first | (simp only [PV.bin, PV.binOk, binI, q1, q2, q3, w1, w2, w3, w4, d1, hL, SA, Nat.reduceAdd, reduceIte, Nat.reduceEqDiff, Nat.reduceBEq, reduceCtorEq]; (try go_unwrap; try simp only [PV.bin, PV.binOk, binI, q1, q2, q3, w1, w2, w3, w4, d1, hL, RR, reduceCtorEq])) | (show Env; skip) | (show Mem; skip))) | (refine gd_i ?_; intro hg; try simp only [hg]) | ((first | show (_ : Nat) ≤ _ | show (_ : Nat) < _ | show (_ : Int) ≤ _ | show (_ : Int) < _ | show (_ : Nat) = _ | show (_ : Int) = _ | show (_ : Bool) = _ | show _ ∨ _ | show ¬ _); first | omega | (simp only [DD, LL] <;> omega) | (go_unwrap; omega)) | ((first | refine PW.region ?_ | refine PW.regionQ ?_ | refine schedW_done_i ?_ | show (_ : Post) _ _ _ | show @Eq (List PV) _ _ | show @Eq Bool _ _ | show opsW _ _ _ _ _ _ _ _ | show okAll _ | show @Eq Bool _ _ ∨ _); focus (simp only [PV.bin, PV.binOk, binI, q1, q2, q3, w1, w2, w3, w4, d1, hL, SA, Nat.reduceAdd, reduceIte, Nat.reduceEqDiff, Nat.reduceBEq, reduceCtorEq]; (try go_unwrap; try simp only [PV.bin, PV.binOk, binI, q1, q2, q3, w1, w2, w3, w4, d1, hL, RR, reduceCtorEq]))) | refine And.intro ?_ ?_ | exact Or.inr ⟨rfl, Nat.le_refl _⟩ | exact (fun h => Bool.noConfusion h))
    generalize (digT (10000 + r)).drop (Int.toNat 1) = b0 at *
    refine PW.loop (σ := List UInt8) [3, 5] (fun b => [.str S, .str b]) (fun _ => []) (fun b => stripZ b0 = stripZ b ∧ (∃ c ∈ b, c ≠ 48) ∧ b.length ≤ 4) (fun b => b.length) b0 ?_ rfl ⟨rfl, hNZ, hdl⟩ ?_
    · simp only [SA, Nat.reduceAdd, reduceIte, Nat.reduceEqDiff, Nat.reduceBEq, reduceCtorEq]; rfl
    rintro b ⟨hb1, hb2, hb3⟩
    simp only [List.zip_cons_cons, List.zip_nil_left]
    rcases List.eq_nil_or_concat b with rfl | ⟨b', c, rfl⟩
    · obtain ⟨c, hc, -⟩ := hb2; simp at hc
    rw [List.concat_eq_append] at *
    have hlen : ((b' ++ [c]).length : Nat) = b'.length + 1 := by simp
    have hg : (b' ++ [c]).getD b'.length 0 = c := by simp [List.getD]
    have hti : (((b'.length + 1 : Nat) : Int) - 1).toNat = b'.length := by omega
    have htk : (b' ++ [c]).take b'.length = b' := by simp
    rw [stripZ_snoc] at hb1
    by_cases h48 : c = 48
    · subst h48
      rw [if_pos rfl] at hb1
      have d2 : decide (((48 : UInt8).toNat : Int) = 48) = true := rfl
      repeat' (first | exact True.intro | (refine PW.seqK ?_; intro K hK) | refine pwB ?_ | refine pwS ?_ | refine pwL ?_ | refine pwE ?_ | refine pwR ?_ | refine pwK ?_ | refine seqK_n ‹_› ?_ | refine seqK_r ‹_› ?_ | refine seqK_e ‹_› ?_ | refine PW.regionA ?_ | exact schedW_stop_i | refine schK_n ‹_› ?_ | (refine schedW_alt_k ?_ ?_; focus (intro K hK; simp only [PV.bin, PV.binOk, binI, hlen, hti, hg, htk, d2, SA, Nat.reduceAdd, reduceIte, Nat.reduceEqDiff, Nat.reduceBEq, reduceCtorEq]; (try go_unwrap; try simp only [PV.bin, PV.binOk, binI, hlen, hti, hg, htk, d2, RR, reduceCtorEq]))) | (refine PW.cond rfl ?_ ?_ <;> intro hcond <;> (try contradiction) <;> try simp only [DD] at hcond) | (refine gd_i ?_; intro hg; try simp only [hg]) | ((first | show (_ : Nat) ≤ _ | show (_ : Nat) < _ | show (_ : Int) ≤ _ | show (_ : Int) < _ | show (_ : Nat) = _ | show (_ : Int) = _ | show (_ : Bool) = _ | show _ ∨ _ | show ¬ _); first | omega | (simp only [DD, LL] <;> omega) | (go_unwrap; omega)) | ((first | refine PW.region ?_ | refine PW.regionQ ?_ | refine schedW_done_i ?_ | show (_ : Post) _ _ _ | show @Eq (List PV) _ _ | show @Eq Bool _ _ | show opsW _ _ _ _ _ _ _ _ | show okAll _ | show @Eq Bool _ _ ∨ _); focus (simp only [PV.bin, PV.binOk, binI, hlen, hti, hg, htk, d2, SA, Nat.reduceAdd, reduceIte, Nat.reduceEqDiff, Nat.reduceBEq, reduceCtorEq]; (try go_unwrap; try simp only [PV.bin, PV.binOk, binI, hlen, hti, hg, htk, d2, RR, reduceCtorEq]))) | refine And.intro ?_ ?_ | exact Or.inr ⟨rfl, Nat.le_refl _⟩ | exact (fun h => Bool.noConfusion h))
      all_goals first | exact ⟨b', rfl, ⟨hb1, by
        obtain ⟨x, hx, hx2⟩ := hb2
        rcases List.mem_append.1 hx with hx | hx
        · exact ⟨x, hx, hx2⟩
        · simp at hx; exact absurd hx hx2, by simp at hb3; omega⟩, by simp⟩ | omega
    · rw [if_neg h48] at hb1
      have d2 : decide ((c.toNat : Int) = 48) = false := by
        rw [decide_eq_false_iff_not]; exact fun h => h48 (UInt8.toNat_inj.1 (Int.ofNat.inj h))
      have hl2 : (b' ++ [c]).length ≤ 4 := hb3
      repeat' (first | exact True.intro | (refine PW.seqK ?_; intro K hK) | refine pwB ?_ | refine pwS ?_ | refine pwL ?_ | refine pwE ?_ | refine pwR ?_ | refine pwK ?_ | refine seqK_n ‹_› ?_ | refine seqK_r ‹_› ?_ | refine seqK_e ‹_› ?_ | refine PW.regionA ?_ | exact schedW_stop_i | refine schK_n ‹_› ?_ | (refine schedW_alt_k ?_ ?_; focus (intro K hK; simp only [PV.bin, PV.binOk, binI, hlen, hti, hg, htk, d2, SA, Nat.reduceAdd, reduceIte, Nat.reduceEqDiff, Nat.reduceBEq, reduceCtorEq]; (try go_unwrap; try simp only [PV.bin, PV.binOk, binI, hlen, hti, hg, htk, d2, RR, reduceCtorEq]))) | (refine PW.cond rfl ?_ ?_ <;> intro hcond <;> (try contradiction) <;> try simp only [DD] at hcond) | (refine gd_i ?_; intro hg; try simp only [hg]) | ((first | show (_ : Nat) ≤ _ | show (_ : Nat) < _ | show (_ : Int) ≤ _ | show (_ : Int) < _ | show (_ : Nat) = _ | show (_ : Int) = _ | show (_ : Bool) = _ | show _ ∨ _ | show ¬ _); first | omega | (simp only [DD, LL] <;> omega) | (go_unwrap; omega)) | ((first | refine PW.region ?_ | refine PW.regionQ ?_ | refine schedW_done_i ?_ | show (_ : Post) _ _ _ | show @Eq (List PV) _ _ | show @Eq Bool _ _ | show opsW _ _ _ _ _ _ _ _ | show okAll _ | show @Eq Bool _ _ ∨ _); focus (simp only [PV.bin, PV.binOk, binI, hlen, hti, hg, htk, d2, SA, Nat.reduceAdd, reduceIte, Nat.reduceEqDiff, Nat.reduceBEq, reduceCtorEq]; (try go_unwrap; try simp only [PV.bin, PV.binOk, binI, hlen, hti, hg, htk, d2, RR, reduceCtorEq]))) | refine And.intro ?_ ?_ | exact Or.inr ⟨rfl, Nat.le_refl _⟩ | exact (fun h => Bool.noConfusion h))
      all_goals first | (rw [hb1]; done) | (simp at hb3 ⊢; omega)
end Go.Proofs.YthekpjhffciakaaDoor

namespace Go.Proofs.YthekpjhffciakaaDoor
open PG Go.Proofs
-- (wagebook/expr.Tree).Text$1
def L55d : List Nat := [0, 1, 2, 3, 6, 7, 8, 9, 10, 11, 24, 31, 37, 43, 44, 45, 46, 51, 82]
def c55d : CF := ⟨87,
  .seq (.region false [⟨some 6, none, .rd .mov [.pv (.str [])]⟩] L55d)
  (.seq (.region false [oF 0 12 2,
     oL 13 12,
     oM 14 0,
     ⟨some 15, none, .rd (.idxAddr (some 4)) [.tmp 13, .tmp 14]⟩,
     ⟨some 16, none, .rd (.load (some 4)) [.tmp 15]⟩,
     ⟨some 7, none, .eff (.alloc (some 4) (.agg [(.int .i64 0), (.int .i64 0), (.str []), .nilSl])) []⟩,
     ⟨none, none, .eff (.store (some 4)) [.tmp 7, .tmp 16]⟩] L55d)
  (.seq (.region false [oF 0 17 7,
     oL 18 17,
     ⟨some 19, none, .call (.pv (.fn 56 [] [])) [.tmp 18]⟩,
     oM 8 19] L55d)
  (.seq (.region false [oF 0 20 7,
     oL 21 20,
     ⟨some 22, none, .rd (.idxAddrA 10 none) [.glob 0, .tmp 21]⟩,
     oL 23 22,
     oM 9 23] L55d)
  (.seq (.block 0
    (.seq (.region false [oF 0 25 7,
        oL 26 25,
        ⟨some 27, none, .rd (.bin .eql) [.tmp 26, .pv (.int .i64 0)]⟩,
        oM 24 27] L55d)
     (.cond (.tmp 24)
      (.seq (.region false [oF 1 28 7,
          oL 29 28,
          ⟨some 30, none, .call (.pv (.fn 57 [] [])) [.tmp 29]⟩,
          oM 6 30] L55d)
       (.ret))
      (.seq (.region false [oF 0 32 7,
          oL 33 32,
          ⟨some 34, none, .rd (.bin .eql) [.tmp 33, .pv (.int .i64 1)]⟩,
          oM 31 34] L55d)
       (.cond (.tmp 31)
        (.seq (.region false [oF 2 35 7,
            oL 36 35,
            oM 6 36] L55d)
         (.ret))
        (.seq (.region false [oM 38 8,
            ⟨some 39, none, .rd (.bin .eql) [.tmp 38, .pv (.int .i64 3)]⟩,
            oM 37 39] L55d)
         (.cond (.tmp 37)
          (.seq (.region false [oM 40 9,
              ⟨some 41, none, .rd (.bin .add) [.tmp 40, .pv (.str [40])]⟩,
              oM 9 41] L55d)
           (.seq (.seq (.region false [oF 3 42 7,
               oL 43 42,
               ⟨some 44, none, .rd .lenL [.tmp 43]⟩,
               ⟨some 45, none, .rd .mov [.pv (.int .i64 0)]⟩] L55d)
            (.block 1
             (.loop
               (.seq (.region false [⟨some 46, none, .rd (.bin .lss) [.tmp 45, .tmp 44]⟩] L55d)
                (.seq (.cond (.tmp 46)
                  (.skip)
                  (.exit 1))
                (.seq (.block 2
                  (.seq (.region false [oM 47 45,
                      ⟨some 48, none, .rd (.idxAddr none) [.tmp 43, .tmp 45]⟩,
                      oL 49 48,
                      oM 10 47,
                      oM 11 49] L55d)
                   (.seq (.seq (.region false [oM 50 10,
                       ⟨some 51, none, .rd (.bin .gtr) [.tmp 50, .pv (.int .i64 0)]⟩] L55d)
                    (.cond (.tmp 51)
                     (.region false [oM 52 9,
                        ⟨some 53, none, .rd (.bin .add) [.tmp 52, .pv (.str [44])]⟩,
                        oM 9 53] L55d)
                     (.skip)))
                   (.region false [oM 54 9,
                     oL 55 3,
                     oM 56 11,
                     ⟨some 57, none, .call (.tmp 55) [.tmp 56, .pv (.int .i64 0)]⟩,
                     ⟨some 58, none, .rd (.bin .add) [.tmp 54, .tmp 57]⟩,
                     oM 9 58] L55d))))
                (.region false [⟨some 59, none, .rd (.bin .add) [.tmp 45, .pv (.int .i64 1)]⟩,
                  oM 45 59] L55d)))))))
           (.seq (.region false [oM 60 9,
              ⟨some 61, none, .rd (.bin .add) [.tmp 60, .pv (.str [41])]⟩,
              oM 6 61] L55d)
           (.ret))))
          (.skip))))))))
  (.seq (.regionA (.alt [oF 3 63 7,
      ⟨some 64, none, .rd .loadC [.tmp 63]⟩,
      ⟨some 65, none, .rd (.idxAddr none) [.tmp 64, .pv (.int .i64 0)]⟩,
      ⟨some 66, none, .rd .loadC [.tmp 65]⟩,
      oM 67 8,
      oM 69 9,
      oF 3 72 7,
      ⟨some 73, none, .rd .loadC [.tmp 72]⟩,
      ⟨some 74, none, .rd (.idxAddr none) [.tmp 73, .pv (.int .i64 1)]⟩,
      ⟨some 75, none, .rd .loadC [.tmp 74]⟩,
      oM 76 8,
      ⟨some 77, none, .rd (.bin .add) [.tmp 76, .pv (.int .i64 1)]⟩]
     (.alt [oL 62 3]
      (.alt [⟨some 68, none, .call (.tmp 62) [.tmp 66, .tmp 67]⟩,
        ⟨some 70, none, .rd (.bin .add) [.tmp 68, .tmp 69]⟩,
        oL 71 3,
        ⟨some 78, none, .call (.tmp 71) [.tmp 75, .tmp 77]⟩,
        ⟨some 79, none, .rd (.bin .add) [.tmp 70, .tmp 78]⟩,
        oM 9 79]
       .done
       (.alt [oL 71 3,
         ⟨some 68, none, .call (.tmp 62) [.tmp 66, .tmp 67]⟩,
         ⟨some 70, none, .rd (.bin .add) [.tmp 68, .tmp 69]⟩,
         ⟨some 78, none, .call (.tmp 71) [.tmp 75, .tmp 77]⟩,
         ⟨some 79, none, .rd (.bin .add) [.tmp 70, .tmp 78]⟩,
         oM 9 79]
        .done
        .stop))
      (.alt [oL 71 3,
        oL 62 3,
        ⟨some 68, none, .call (.tmp 62) [.tmp 66, .tmp 67]⟩,
        ⟨some 70, none, .rd (.bin .add) [.tmp 68, .tmp 69]⟩,
        ⟨some 78, none, .call (.tmp 71) [.tmp 75, .tmp 77]⟩,
        ⟨some 79, none, .rd (.bin .add) [.tmp 70, .tmp 78]⟩,
        oM 9 79]
       .done
       .stop))
     .stop) L55d)
  (.seq (.seq (.region false [oM 80 8,
      oM 81 1,
      ⟨some 82, none, .rd (.bin .lss) [.tmp 80, .tmp 81]⟩] L55d)
   (.cond (.tmp 82)
    (.seq (.region false [oM 83 9,
        ⟨some 84, none, .rd (.bin .add) [.pv (.str [40]), .tmp 83]⟩,
        ⟨some 85, none, .rd (.bin .add) [.tmp 84, .pv (.str [41])]⟩,
        oM 6 85] L55d)
     (.ret))
    (.skip)))
  (.seq (.region false [oM 86 9,
     oM 6 86] L55d)
  (.ret)))))))),
  [.tmp 6]⟩
theorem k55d : compileF Tryd.prog [999999, 888888, 100062, 100071] L55d Tryd.f55 = some c55d := by kernel_rfl
end Go.Proofs.YthekpjhffciakaaDoor

namespace Go.Proofs.YthekpjhffciakaaDoor
open Go PG Go.Proofs
set_option linter.unusedSimpArgs false
set_option linter.unusedVariables false
set_option maxHeartbeats 4000000
set_option maxRecDepth 100000
/-! The program's text of a tree -/
theorem e55 : Ent Tryd.prog 55 := ⟨Tryd.f55, Tryd.func55, by kernel_rfl, by kernel_rfl⟩
def wordsL : List (List UInt8) := [[], [], [43], [45], [42], [108, 101, 97, 115, 116], [109, 111, 115, 116], [105, 102], [108, 101, 115, 115], [101, 113, 117, 97, 108]]
def wordM (op : Int) : List UInt8 := wordsL.getD op.toNat []
def joinL (f : Int → List UInt8) : List Int → Nat → List UInt8 → List UInt8
  | [], _, s => s
  | k :: ks, i, s => joinL f ks (i + 1) ((if 0 < i then s ++ [44] else s) ++ f k)
def textM (l : List Nd) : Nat → Int → Int → List UInt8
  | 0, _, _ => []
  | k + 1, i, least =>
    if (l.getD i.toNat default).op = 0 then numT (l.getD i.toNat default).num.toNat
    else if (l.getD i.toNat default).op = 1 then (l.getD i.toNat default).name
    else if strongM (l.getD i.toNat default).op = 3 then joinL (fun c => textM l k c 0) (l.getD i.toNat default).kids 0 (wordM (l.getD i.toNat default).op ++ [40]) ++ [41]
    else if strongM (l.getD i.toNat default).op < least then ([40] ++ ((textM l k ((l.getD i.toNat default).kids.getD 0 0) (strongM (l.getD i.toNat default).op) ++ wordM (l.getD i.toNat default).op) ++ textM l k ((l.getD i.toNat default).kids.getD 1 0) (strongM (l.getD i.toNat default).op + 1))) ++ [41]
    else (textM l k ((l.getD i.toNat default).kids.getD 0 0) (strongM (l.getD i.toNat default).op) ++ wordM (l.getD i.toNat default).op) ++ textM l k ((l.getD i.toNat default).kids.getD 1 0) (strongM (l.getD i.toNat default).op + 1)
/-- A node that is right by itself. -/
structure NdOk (n : Nd) : Prop where
  op0 : 0 ≤ n.op
  op9 : n.op ≤ 9
  num : n.op = 0 → 0 ≤ n.num ∧ n.num ≤ 1000000000000000000
  name : n.name.length ≤ 100
  kids : n.kids.length ≤ 3
  two : 2 ≤ n.op → n.op ≤ 4 → n.kids.length = 2
/-- A node whose tree is no deeper than told. -/
def fitsD (l : List Nd) : Nat → Int → Prop
  | 0, _ => False
  | k + 1, i => 0 ≤ i ∧ i.toNat < l.length ∧ NdOk (l.getD i.toNat default) ∧ ∀ c ∈ (l.getD i.toNat default).kids, fitsD l k c
theorem word_le (op : Int) : (wordM op).length ≤ 5 := by
  unfold wordM
  rw [List.getD_eq_getElem?_getD]
  cases h : wordsL[op.toNat]? with
  | none => simp
  | some w =>
    have : ∀ w ∈ wordsL, w.length ≤ 5 := by decide
    exact this w (List.mem_of_getElem? h)
theorem strip_le (l : List UInt8) : (stripZ l).length ≤ l.length := by
  unfold stripZ
  rw [List.length_reverse]
  exact Nat.le_trans (List.dropWhile_suffix _).length_le (by simp)
theorem numT_le {n : Nat} (h : n ≤ 1000000000000000000) : (numT n).length ≤ 30 := by
  have hl1 := digT_len 18 (n / 1000000) (by have : (10 : Nat) ^ 19 = 10000000000000000000 := rfl; omega)
  unfold numT
  split
  · omega
  · have h5 := dig5 (n % 1000000 / 100) (by omega)
    have := strip_le ((digT (10000 + n % 1000000 / 100)).drop 1)
    have hd : ((digT (10000 + n % 1000000 / 100)).drop 1).length = 4 := by rw [h5]; rfl
    simp only [List.length_append, List.length_cons, List.length_nil]
    omega
theorem join_le {f : Int → List UInt8} {B : Nat} : ∀ (ks : List Int) (i : Nat) (s : List UInt8), (∀ c ∈ ks, (f c).length ≤ B) → (joinL f ks i s).length ≤ s.length + ks.length * (B + 1)
  | [], _, s, _ => by simp [joinL]
  | k :: ks, i, s, h => by
    have h1 := h k (by simp)
    have h2 := join_le ks (i + 1) ((if 0 < i then s ++ [44] else s) ++ f k) (fun c hc => h c (by simp [hc]))
    have h3 : ((if 0 < i then s ++ [44] else s) ++ f k).length ≤ s.length + 1 + B := by
      split <;> simp <;> omega
    simp only [joinL, List.length_cons, Nat.add_mul, Nat.one_mul] at h2 ⊢
    omega
theorem text_le (l : List Nd) : ∀ (k : Nat) (i least : Int), fitsD l k i → (textM l k i least).length ≤ 100 * 4 ^ k
  | 0, i, least, h => h.elim
  | k + 1, i, least, h => by
    obtain ⟨h1, h2, h3, h4⟩ := h
    have hp : 0 < 4 ^ k := Nat.pow_pos (by omega)
    have hpp : 4 ^ (k + 1) = 4 * 4 ^ k := by rw [Nat.pow_succ]; omega
    rw [hpp]
    unfold textM
    generalize l.getD i.toNat default = n at *
    have hw := word_le n.op
    split
    · rename_i h0
      have := numT_le (n := n.num.toNat) (by have := h3.num h0; omega)
      omega
    · split
      · have := h3.name; omega
      · have hkl := h3.kids
        split
        · have := join_le (f := fun c => textM l k c 0) (B := 100 * 4 ^ k) n.kids 0 (wordM n.op ++ [40]) (fun c hc => text_le l k c 0 (h4 c hc))
          simp only [List.length_append, List.length_cons, List.length_nil] at this ⊢
          have h5 : n.kids.length * (100 * 4 ^ k + 1) ≤ 3 * (100 * 4 ^ k + 1) := Nat.mul_le_mul_right _ hkl
          omega
        · rename_i hs
          have h24 : 2 ≤ n.op ∧ n.op ≤ 4 := by
            have := h3.op0; have := h3.op9
            unfold strongM at hs
            by_cases a : n.op = 2 ∨ n.op = 3
            · omega
            · rw [if_neg a] at hs
              by_cases b : n.op = 4
              · omega
              · rw [if_neg b] at hs; exact absurd rfl hs
          have hk2 := h3.two h24.1 h24.2
          obtain ⟨a, b, hab⟩ : ∃ a b, n.kids = [a, b] := by
            match n.kids, hk2 with
            | [a, b], _ => exact ⟨a, b, rfl⟩
          rw [hab] at h4 ⊢
          have ha := fun z => text_le l k a z (h4 a (by simp))
          have hb := fun z => text_le l k b z (h4 b (by simp))
          have ha := ha (strongM n.op)
          have hb := hb (strongM n.op + 1)
          simp only [List.getD_cons_zero, List.getD_cons_succ]
          split <;> simp only [List.length_append, List.length_cons, List.length_nil] <;> omega
end Go.Proofs.YthekpjhffciakaaDoor

namespace Go.Proofs.YthekpjhffciakaaDoor
open Go PG Go.Proofs
set_option linter.unusedSimpArgs false
set_option linter.unusedVariables false
set_option maxRecDepth 100000
/-! Formulas that are right, and their nodes' check -/
def Ex.ok : Ex → Prop
  | .num v => 0 ≤ v ∧ v ≤ 1000000000000000000 ∧ v.tmod 100 = 0
  | .var x => isName x = true
  | .two o a b => 2 ≤ o ∧ o ≤ 9 ∧ o ≠ 7 ∧ a.ok ∧ b.ok
  | .thr a b d => a.ok ∧ b.ok ∧ d.ok
theorem part4 (r : List UInt8) (h : r.length ≤ 4) : partV 100000 r % 100 = 0 := by
  match r, h with
  | [], _ => simp [partV]
  | [a], _ => simp [partV]; omega
  | [a, b], _ => simp [partV]; omega
  | [a, b, c], _ => simp [partV]; omega
  | [a, b, c, d], _ => simp [partV]; omega
theorem numL_100 {l : List UInt8} {n v : Nat} (h : numL l = .ok (n, v)) : v % 100 = 0 := by
  unfold numL at h
  split at h
  · split at h
    · cases h
    · split at h
      · cases h
      · rename_i h4
        split at h
        · simp only [Except.ok.injEq, Prod.mk.injEq] at h
          obtain ⟨-, rfl⟩ := h
          have := part4 ((l.drop (runL digitB l + 1)).take (runL digitB (l.drop (runL digitB l + 1)))) (by rw [List.length_take]; omega)
          unfold milV
          omega
        · cases h
  · split at h
    · simp only [Except.ok.injEq, Prod.mk.injEq] at h
      obtain ⟨-, rfl⟩ := h
      unfold milV partV
      omega
    · cases h
theorem num_tok {x : List UInt8} (hx : x ≠ []) (h : tokE 0 x = .ok (2, x.length)) : 0 ≤ nmP x ∧ nmP x ≤ 1000000000000000000 ∧ (nmP x).tmod 100 = 0 := by
  unfold tokE at h
  split at h
  · split at h
    · cases h
    · cases h
  · split at h
    · rename_i hd
      cases hn : numL x with
      | error p => rw [hn] at h; cases h
      | ok p =>
        obtain ⟨m, v⟩ := p
        rw [hn] at h
        simp only [Except.ok.injEq, Prod.mk.injEq, true_and] at h
        subst h
        obtain ⟨w, r, b, -, -, -, hv⟩ := cut_full hn
        have h100 := numL_100 hn
        have : nmP x = (v : Int) := by
          unfold nmP numOf
          rw [if_neg hx, hd, hn]
          simp
        rw [this]
        refine ⟨by omega, by omega, ?_⟩
        rw [Int.tmod_eq_emod_of_nonneg (by omega)]
        omega
    · split at h
      · cases h
      · cases h
theorem kid2_ne {i : Nat} (h : kidN (i + 5) = 2) : i ≠ 2 := by
  intro e; subst e; cases h
theorem D_ok {lv : Nat} {w : List KT} {e : Ex} (h : D nmP lv w e) : (∀ t ∈ w, t.2 ≠ [] ∧ tokE 0 t.2 = .ok (t.1, t.2.length)) → e.ok := by
  induction h with
  | @num x =>
    intro ht
    obtain ⟨h1, h2⟩ := ht (2, x) (by simp)
    exact num_tok h1 h2
  | @var x =>
    intro ht
    obtain ⟨h1, h2⟩ := ht (1, x) (by simp)
    have := (self_name h1 h2).1
    simpa [Ex.ok] using this
  | par hd ih => exact fun ht => ih (fun t h => ht t (by simp [h]))
  | call2 hx hk h1 h2 ih1 ih2 =>
    intro ht
    have := callNo_if hx
    have := kid2_ne hk
    exact ⟨by omega, by omega, by omega, ih1 (fun t h => ht t (by simp [h])), ih2 (fun t h => ht t (by simp [h]))⟩
  | call3 hx h1 h2 h3 ih1 ih2 ih3 =>
    intro ht
    exact ⟨ih1 (fun t h => ht t (by simp [h])), ih2 (fun t h => ht t (by simp [h])), ih3 (fun t h => ht t (by simp [h]))⟩
  | fac hd ih => exact ih
  | mul h1 h2 ih1 ih2 => exact fun ht => ⟨by omega, by omega, by omega, ih1 (fun t h => ht t (by simp [h])), ih2 (fun t h => ht t (by simp [h]))⟩
  | pro hd ih => exact ih
  | add h1 h2 ih1 ih2 => exact fun ht => ⟨by omega, by omega, by omega, ih1 (fun t h => ht t (by simp [h])), ih2 (fun t h => ht t (by simp [h]))⟩
  | sub h1 h2 ih1 ih2 => exact fun ht => ⟨by omega, by omega, by omega, ih1 (fun t h => ht t (by simp [h])), ih2 (fun t h => ht t (by simp [h]))⟩
/-- A right text's formula is right. -/
theorem of_parse {s : List UInt8} {nd : List Nd} (h : parseS s = .ok nd) : ∃ w e, s.length ≤ 4096 ∧ lx s = some w ∧ D nmP 2 w e ∧ resX e = .ok nd ∧ e.ok := by
  obtain ⟨w, e, l, h1, h2, h3, h4, h5, h6⟩ := of_parseS h
  refine ⟨w, e, h1, h2, h3, h4, D_ok h3 (fun t ht => ?_)⟩
  rw [← h5] at ht
  obtain ⟨u, hu, rfl⟩ := List.mem_map.1 ht
  exact ⟨(h6 u hu).2.1, (h6 u hu).2.2⟩
/-! ### The check of nodes -/
theorem form_num {v : Int} : formE ⟨0, v, [], []⟩ = 0 := by simp [formE, kidsTab]
theorem form_var {x : List UInt8} : formE ⟨1, 0, x, []⟩ = 0 := by simp [formE, kidsTab]
theorem rest_num {v : Int} (h : 0 ≤ v ∧ v ≤ 1000000000000000000 ∧ v.tmod 100 = 0) : restE ⟨0, v, [], []⟩ = 0 := by
  obtain ⟨h1, h2, h3⟩ := h
  simp [restE, h3]; omega
theorem rest_var {x : List UInt8} (h : isName x = true) : restE ⟨1, 0, x, []⟩ = 0 := by simp [restE, h]
theorem form_two {o : Nat} {a b : Int} (h1 : 2 ≤ o) (h2 : o ≤ 9) (h3 : o ≠ 7) : formE ⟨o, 0, [], [a, b]⟩ = 0 := by
  have : o = 2 ∨ o = 3 ∨ o = 4 ∨ o = 5 ∨ o = 6 ∨ o = 8 ∨ o = 9 := by omega
  rcases this with rfl | rfl | rfl | rfl | rfl | rfl | rfl <;> rfl
theorem rest_two {o : Nat} {k : List Int} (h1 : 2 ≤ o) : restE ⟨o, 0, [], k⟩ = 0 := by
  simp [restE]; omega
theorem form_thr {a b d : Int} : formE ⟨7, 0, [], [a, b, d]⟩ = 0 := rfl
/-- What is taken behind a formula's nodes: all of them but the root. -/
def TkP (t t' : List Bool) (c n : Nat) : Prop := t'.length = t.length ∧ ∀ j, t'.getD j false = (t.getD j false || (decide (c ≤ j) && decide (j + 1 < c + n)))
theorem getD_set' {t : List Bool} {i j : Nat} (hi : i < t.length) : (t.set i true).getD j false = (t.getD j false || decide (j = i)) := by
  simp only [List.getD_eq_getElem?_getD, List.getElem?_set]
  by_cases h : i = j
  · subst h; simp [hi]
  · simp [h, Ne.symm h]
theorem kids_take {i : Nat} : ∀ (ks : List Nat) (t : List Bool), (∀ k ∈ ks, k < i ∧ k < t.length ∧ t.getD k false = false) → ks.Nodup → ∃ t', kidsStep i (ks.map (fun k : Nat => (k : Int))) t = some t' ∧ t'.length = t.length ∧ ∀ j, t'.getD j false = (t.getD j false || decide (j ∈ ks))
  | [], t, _, _ => ⟨t, rfl, rfl, by simp⟩
  | k :: ks, t, h, hn => by
    obtain ⟨h1, h2, h3⟩ := h k (by simp)
    rw [List.nodup_cons] at hn
    obtain ⟨t', g1, g2, g3⟩ := kids_take ks (t.set k true) (fun x hx => by
      obtain ⟨a1, a2, a3⟩ := h x (by simp [hx])
      refine ⟨a1, by simpa using a2, ?_⟩
      rw [getD_set' h2, a3]
      simp
      intro e; subst e; exact hn.1 hx) hn.2
    refine ⟨t', ?_, by simpa using g2, fun j => ?_⟩
    · simp only [List.map_cons, kidsStep, Int.toNat_natCast, h3]
      rw [if_neg (by simp; omega)]
      exact g1
    · rw [g3, getD_set' h2]
      simp only [List.mem_cons]
      by_cases e1 : j = k <;> by_cases e2 : j ∈ ks <;> simp [e1, e2]
theorem root_nat {e : Ex} {c : Nat} : e.root c = ((c + e.size - 1 : Nat) : Int) := rfl
theorem tk_leaf (t : List Bool) (c j : Nat) : t.getD j false = (t.getD j false || (decide (c ≤ j) && decide (j + 1 < c + 1))) := by
  have : (decide (c ≤ j) && decide (j + 1 < c + 1)) = false := by
    simp only [Bool.and_eq_false_iff, decide_eq_false_iff_not]; omega
  rw [this, Bool.or_false]
theorem check_nds : ∀ (e : Ex) (c : Nat) (r : List Nd) (t : List Bool), e.ok → c + e.size ≤ t.length → (∀ j, c ≤ j → t.getD j false = false) → ∃ t', checkNodes (e.nds c ++ r) c t = checkNodes r (c + e.size) t' ∧ TkP t t' c e.size
  | .num v, c, r, t, h, hl, hf => ⟨t, by simp only [Ex.nds, List.cons_append, List.nil_append, checkNodes, form_num, rest_num h, kidsStep, ne_eq, not_true, if_false, Ex.size], rfl, tk_leaf t c⟩
  | .var x, c, r, t, h, hl, hf => ⟨t, by simp only [Ex.nds, List.cons_append, List.nil_append, checkNodes, form_var, rest_var h, kidsStep, ne_eq, not_true, if_false, Ex.size], rfl, tk_leaf t c⟩
  | .two o a b, c, r, t, h, hl, hf => by
    obtain ⟨h1, h2, h3, ha, hb⟩ := h
    simp only [Ex.size] at hl ⊢
    have pa := a.size_pos
    have pb := b.size_pos
    obtain ⟨t1, a1, a2, a3⟩ := check_nds a c (b.nds (c + a.size) ++ ([⟨o, 0, [], [a.root c, b.root (c + a.size)]⟩] ++ r)) t ha (by omega) hf
    obtain ⟨t2, b1, b2, b3⟩ := check_nds b (c + a.size) ([⟨o, 0, [], [a.root c, b.root (c + a.size)]⟩] ++ r) t1 hb (by omega) (fun j hj => by
      rw [a3, hf j (by omega)]; simp; omega)
    obtain ⟨t3, c1, c2, c3⟩ := kids_take (i := c + a.size + b.size) [c + a.size - 1, c + a.size + b.size - 1] t2 (fun k hk => by
      simp only [List.mem_cons, List.not_mem_nil, or_false] at hk
      rcases hk with rfl | rfl
      · refine ⟨by omega, by omega, ?_⟩
        rw [b3, a3, hf _ (by omega)]; simp; omega
      · refine ⟨by omega, by omega, ?_⟩
        rw [b3, a3, hf _ (by omega)]; simp; omega) (by simp; omega)
    refine ⟨t3, ?_, by omega, fun j => ?_⟩
    · simp only [Ex.nds, List.append_assoc]
      rw [a1, b1]
      simp only [List.cons_append, List.nil_append, checkNodes, form_two h1 h2 h3, rest_two h1, ne_eq, not_true, if_false]
      simp only [List.map_cons, List.map_nil] at c1
      simp only [root_nat]
      rw [c1]
      simp only
      rw [show c + a.size + b.size + 1 = c + (a.size + b.size + 1) by omega]
    · rw [c3, b3, a3]
      rw [Bool.eq_iff_iff]
      simp only [Bool.or_eq_true, Bool.and_eq_true, decide_eq_true_eq, List.mem_cons, List.not_mem_nil, or_false]
      cases t.getD j false <;> simp <;> omega
  | .thr a b d, c, r, t, h, hl, hf => by
    obtain ⟨ha, hb, hd⟩ := h
    simp only [Ex.size] at hl ⊢
    have pa := a.size_pos
    have pb := b.size_pos
    have pd := d.size_pos
    obtain ⟨t1, a1, a2, a3⟩ := check_nds a c (b.nds (c + a.size) ++ (d.nds (c + a.size + b.size) ++ ([⟨7, 0, [], [a.root c, b.root (c + a.size), d.root (c + a.size + b.size)]⟩] ++ r))) t ha (by omega) hf
    obtain ⟨t2, b1, b2, b3⟩ := check_nds b (c + a.size) (d.nds (c + a.size + b.size) ++ ([⟨7, 0, [], [a.root c, b.root (c + a.size), d.root (c + a.size + b.size)]⟩] ++ r)) t1 hb (by omega) (fun j hj => by
      rw [a3, hf j (by omega)]; simp; omega)
    obtain ⟨t4, d1, d2, d3⟩ := check_nds d (c + a.size + b.size) ([⟨7, 0, [], [a.root c, b.root (c + a.size), d.root (c + a.size + b.size)]⟩] ++ r) t2 hd (by omega) (fun j hj => by
      rw [b3, a3, hf j (by omega)]; simp; omega)
    obtain ⟨t3, c1, c2, c3⟩ := kids_take (i := c + a.size + b.size + d.size) [c + a.size - 1, c + a.size + b.size - 1, c + a.size + b.size + d.size - 1] t4 (fun k hk => by
      simp only [List.mem_cons, List.not_mem_nil, or_false] at hk
      rcases hk with rfl | rfl | rfl
      · refine ⟨by omega, by omega, ?_⟩
        rw [d3, b3, a3, hf _ (by omega)]; simp; omega
      · refine ⟨by omega, by omega, ?_⟩
        rw [d3, b3, a3, hf _ (by omega)]; simp; omega
      · refine ⟨by omega, by omega, ?_⟩
        rw [d3, b3, a3, hf _ (by omega)]; simp; omega) (by simp; omega)
    refine ⟨t3, ?_, by omega, fun j => ?_⟩
    · simp only [Ex.nds, List.append_assoc]
      rw [a1, b1, d1]
      simp only [List.cons_append, List.nil_append, checkNodes, form_thr, rest_two (o := 7) (by omega), ne_eq, not_true, if_false]
      simp only [List.map_cons, List.map_nil] at c1
      simp only [root_nat]
      rw [c1]
      have : restE ⟨7, 0, [], [((c + a.size - 1 : Nat) : Int), ((c + a.size + b.size - 1 : Nat) : Int), ((c + a.size + b.size + d.size - 1 : Nat) : Int)]⟩ = 0 := rest_two (o := 7) (by omega)
      simp only [this, ne_eq, not_true, if_false]
      rw [show c + a.size + b.size + d.size + 1 = c + (a.size + b.size + d.size + 1) by omega]
    · rw [c3, d3, b3, a3]
      rw [Bool.eq_iff_iff]
      simp only [Bool.or_eq_true, Bool.and_eq_true, decide_eq_true_eq, List.mem_cons, List.not_mem_nil, or_false]
      cases t.getD j false <;> simp <;> omega
/-- The nodes of a right formula that isn't too much are right. -/
theorem check_ok {e : Ex} (h : e.ok) (hs : e.size ≤ 256) (hd : e.deep ≤ 16) : checkM (e.nds 0) = 0 := by
  have hp := e.size_pos
  obtain ⟨t, h1, h2, h3⟩ := check_nds e 0 [] (List.replicate e.size false) h (by simp) (fun j _ => by simp [List.getD, List.getElem?_replicate]; split <;> rfl)
  unfold checkM
  rw [Ex.nds_len, if_neg (by omega), if_neg (by omega)]
  rw [List.append_nil] at h1
  rw [h1]
  simp only [checkNodes]
  have hc : (t.take (e.size - 1)).contains false = false := by
    rw [List.contains_eq_any_beq, List.any_eq_false]
    intro x hx
    obtain ⟨i, hi, rfl⟩ := List.getElem_of_mem hx
    rw [List.length_take] at hi
    have := h3 i
    have e1 : t.getD i false = (t.take (e.size - 1))[i] := by simp [List.getD, show i < t.length by omega]
    rw [← e1, this]
    simp
    omega
  rw [hc, depth_nds]
  simp only [Bool.false_eq_true, if_false]
  rw [if_neg (by omega)]
end Go.Proofs.YthekpjhffciakaaDoor

